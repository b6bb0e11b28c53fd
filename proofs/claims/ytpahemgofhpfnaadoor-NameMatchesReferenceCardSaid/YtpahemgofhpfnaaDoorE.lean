/- What the printed functions come to: the plain functions. -/
import Derived.Test.YtpahemgofhpfnaaDoorM
import Derived.Test.YtpahemgofhpfnaaDoorSb
namespace Go.Proofs.YtpahemgofhpfnaaDoor.E
open Go.RowKit Go.Proofs.YtpahemgofhpfnaaDoorW.PrintWords Go.Proofs.YtpahemgofhpfnaaDoorW.PrintLast Go.Proofs.YtpahemgofhpfnaaDoorW.PrintMore
open Go.Proofs.YtpahemgofhpfnaaDoor.M Go.Proofs.YtpahemgofhpfnaaDoor.Sp
set_option linter.unusedVariables false
set_option linter.unusedSimpArgs false

/-- with enough rounds -/
def Ult {α : Type} (g : Nat → Option α) (r : α) : Prop := ∃ k0, ∀ k, k0 ≤ k → g k = some r
theorem Ult.const {α : Type} (r : α) : Ult (fun _ => some r) r := ⟨0, fun _ _ => rfl⟩
theorem Ult.bind {α β : Type} {g : Nat → Option α} {a : α} {h : Nat → α → Option β} {r : β} (hg : Ult g a) (hh : Ult (fun k => h k a) r) : Ult (fun k => (g k).bind (h k)) r := by
  obtain ⟨a0, ha⟩ := hg
  obtain ⟨b0, hb⟩ := hh
  exact ⟨max a0 b0, fun k hk => by show (g k).bind (h k) = some r; rw [ha k (by omega)]; exact hb k (by omega)⟩
theorem Ult.get {α : Type} {g : Nat → Option α} {r : α} (h : Ult g r) : ∃ k, g k = some r := by
  obtain ⟨k, hk⟩ := h
  exact ⟨k, hk k (Nat.le_refl _)⟩
theorem Ult.of {α : Type} {g g' : Nat → Option α} {r : α} (h : Ult g r) (e : ∀ k, g' k = g k) : Ult g' r := by
  obtain ⟨k, hk⟩ := h
  exact ⟨k, fun j hj => by rw [e]; exact hk j hj⟩

theorem tl (s : ByteArray) : s.toList = ub s := ByteArray.toList_eq s
theorem bt_nat (s : ByteArray) (i : Nat) (h : i < s.size) : bt s (i : Int) = (((ub s)[i]'(by rw [ub_size]; exact h)).toNat : Int) := by
  unfold bt
  rw [dif_pos (by simpa using h)]
  rfl
theorem w64 {x : Int} (h : -1000000000 ≤ x) (h' : x ≤ 1000000000) : wrap64 x = x := by unfold wrap64; omega
theorem ub_app (a b : ByteArray) : ub (a ++ b) = ub a ++ ub b := by simp [ub, ByteArray.data_append]
theorem ub_inj {a b : ByteArray} (h : ub a = ub b) : a = b := by rw [← bx_ub a, ← bx_ub b, h]
theorem ub_emp : ub (⟨#[]⟩ : ByteArray) = [] := rfl
theorem ub_slash : ub (⟨#[47]⟩ : ByteArray) = [47] := rfl
theorem size_app (a b : ByteArray) : (a ++ b).size = a.size + b.size := ByteArray.size_append
theorem size_ext (a : ByteArray) (i j : Nat) : (a.extract i j).size = min j a.size - i := ByteArray.size_extract

/-! names -/
theorem right_eq (c : UInt8) : name_right.f (c.toNat : Int) = some (okB c) := by
  have h : ∀ n : Fin 256, name_right.f ((UInt8.ofNat n.val).toNat : Int) = some (okB (UInt8.ofNat n.val)) := by decide +kernel
  have := h ⟨c.toNat, c.toNat_lt⟩
  simpa using this
theorem letter_eq (c : UInt8) : burgageref01_letter.f (c.toNat : Int) = some (letB c) := by
  have h : ∀ n : Fin 256, burgageref01_letter.f ((UInt8.ofNat n.val).toNat : Int) = some (letB (UInt8.ofNat n.val)) := by decide +kernel
  have := h ⟨c.toNat, c.toNat_lt⟩
  simpa using this
theorem drop_all (l : Bs) (p : UInt8 → Bool) (i : Nat) (h : i < l.length) : (l.drop i).all p = (p l[i] && (l.drop (i + 1)).all p) := by
  rw [List.drop_eq_getElem_cons h]; rfl
theorem valid_l0 (s : ByteArray) (hs : s.size ≤ 1000) (d : Nat) : ∀ (k i : Nat), i + d = s.size → d < k → name_Valid.l0 k s (s.size : Int) (i : Int) = some (((ub s).drop i).all okB) := by
  induction d with
  | zero =>
    intro k i hi hk
    obtain ⟨k, rfl⟩ : ∃ m, k = m + 1 := ⟨k - 1, by omega⟩
    simp only [name_Valid.l0]
    rw [if_neg (by omega), List.drop_of_length_le (by rw [ub_size]; omega)]
    rfl
  | succ d ih =>
    intro k i hi hk
    obtain ⟨k, rfl⟩ : ∃ m, k = m + 1 := ⟨k - 1, by omega⟩
    have hlt : i < s.size := by omega
    simp only [name_Valid.l0]
    rw [if_pos (by omega), if_pos (by omega), if_pos (by omega), bt_nat s i hlt, right_eq]
    simp only [Option.bind_some]
    rw [drop_all _ _ i (by rw [ub_size]; exact hlt)]
    cases h : okB (ub s)[i]
    · rfl
    · rw [if_pos rfl, w64 (by omega) (by omega)]
      have := ih k (i + 1) (by omega) (by omega)
      rw [show ((i : Int) + 1) = ((i + 1 : Nat) : Int) by omega, this]
      rfl
theorem valid_j0 (s : ByteArray) (b : Bool) (hs : b = false → s.size ≤ 1000) (k : Nat) (hk : 1002 ≤ k) : name_Valid.j0 k s b = some (!b && (ub s).all okB) := by
  obtain ⟨k, rfl⟩ : ∃ m, k = m + 1 := ⟨k - 1, by omega⟩
  simp only [name_Valid.j0]
  cases b
  · have := valid_l0 s (hs rfl) s.size k 0 (by omega) (by have := hs rfl; omega)
    simpa using this
  · rfl
theorem valid_at (s : ByteArray) (k : Nat) (hk : 1002 ≤ k) : name_Valid.f k s = some (valid (ub s)) := by
  simp only [name_Valid.f, tl]
  unfold valid
  by_cases h1 : ub s = []
  · rw [if_pos h1, valid_j0 s _ (fun h => by cases h) k hk]; simp [h1]
  · have hl : 1 ≤ (ub s).length := by
      cases h : ub s with
      | nil => exact absurd h h1
      | cons a b => simp
    rw [if_neg h1]
    by_cases h2 : (s.size : Int) > 16
    · rw [if_pos h2, valid_j0 s _ (fun h => by cases h) k hk]
      have : ¬ (ub s).length ≤ 16 := by rw [ub_size]; omega
      simp [this]
    · rw [if_neg h2]
      have h2' : (ub s).length ≤ 16 := by rw [ub_size]; omega
      by_cases h3 : ub s = [46]
      · rw [if_pos h3, valid_j0 s _ (fun h => by cases h) k hk]; simp [h3]
      · rw [if_neg h3, valid_j0 s _ (fun _ => by omega) k hk]
        have h3' : (ub s == [46]) = false := by simpa using h3
        simp [hl, h2', h3']

theorem ok_letter (c : UInt8) : okB c = (letB c || (decide (48 ≤ c.toNat) && decide (c.toNat ≤ 57)) || decide (c.toNat = 46) || decide (c.toNat = 95) || decide (c.toNat = 45) || decide (c.toNat = 126)) := by
  have h : ∀ n : Fin 256, okB (UInt8.ofNat n.val) = (letB (UInt8.ofNat n.val) || (decide (48 ≤ (UInt8.ofNat n.val).toNat) && decide ((UInt8.ofNat n.val).toNat ≤ 57)) || decide ((UInt8.ofNat n.val).toNat = 46) || decide ((UInt8.ofNat n.val).toNat = 95) || decide ((UInt8.ofNat n.val).toNat = 45) || decide ((UInt8.ofNat n.val).toNat = 126)) := by decide +kernel
  have := h ⟨c.toNat, c.toNat_lt⟩
  simpa using this
theorem rvalid_l0 (s : ByteArray) (hs : s.size ≤ 1000) (d : Nat) : ∀ (k i : Nat), i + d = s.size → d < k → burgageref01_Valid.l0 k s (i : Int) = some (((ub s).drop i).all okB) := by
  induction d with
  | zero =>
    intro k i hi hk
    obtain ⟨k, rfl⟩ : ∃ m, k = m + 1 := ⟨k - 1, by omega⟩
    simp only [burgageref01_Valid.l0]
    rw [if_neg (by omega), List.drop_of_length_le (by rw [ub_size]; omega)]
    rfl
  | succ d ih =>
    intro k i hi hk
    obtain ⟨k, rfl⟩ : ∃ m, k = m + 1 := ⟨k - 1, by omega⟩
    have hlt : i < s.size := by omega
    have h2 := ih k (i + 1) (by omega) (by omega)
    rw [drop_all _ _ i (by rw [ub_size]; exact hlt)]
    simp only [burgageref01_Valid.l0]
    rw [if_pos (by omega), if_pos (by omega), bt_nat s i hlt, letter_eq, w64 (by omega) (by omega), show ((i : Int) + 1) = ((i + 1 : Nat) : Int) by omega, h2]
    simp only [Option.bind_some]
    generalize (ub s)[i]'(by rw [ub_size]; exact hlt) = c
    rw [ok_letter]
    generalize (List.drop (i + 1) (ub s)).all okB = r
    cases hl : letB c
    · simp only [Bool.false_eq_true, if_false, Bool.false_or]
      by_cases a1 : ((c.toNat : Int)) < 48
      · rw [if_pos a1]
        by_cases a2 : (c.toNat : Int) = 46
        · have : c.toNat = 46 := by omega
          simp [this]
        · rw [if_neg a2]
          by_cases a3 : (c.toNat : Int) = 95
          · omega
          · rw [if_neg a3]
            by_cases a4 : (c.toNat : Int) = 45
            · have : c.toNat = 45 := by omega
              simp [this]
            · rw [if_neg a4]
              by_cases a5 : (c.toNat : Int) = 126
              · omega
              · rw [if_neg a5]
                have e1 : ¬ 48 ≤ c.toNat := by omega
                have e2 : ¬ c.toNat = 46 := by omega
                have e3 : ¬ c.toNat = 95 := by omega
                have e4 : ¬ c.toNat = 45 := by omega
                have e5 : ¬ c.toNat = 126 := by omega
                simp [e1, e2, e3, e4, e5]
      · rw [if_neg a1]
        by_cases a6 : ((c.toNat : Int)) > 57
        · rw [if_pos a6]
          have e1 : ¬ c.toNat ≤ 57 := by omega
          by_cases a2 : (c.toNat : Int) = 46
          · omega
          · rw [if_neg a2]
            by_cases a3 : (c.toNat : Int) = 95
            · have : c.toNat = 95 := by omega
              simp [this]
            · rw [if_neg a3]
              by_cases a4 : (c.toNat : Int) = 45
              · omega
              · rw [if_neg a4]
                by_cases a5 : (c.toNat : Int) = 126
                · have : c.toNat = 126 := by omega
                  simp [this]
                · rw [if_neg a5]
                  have e2 : ¬ c.toNat = 46 := by omega
                  have e3 : ¬ c.toNat = 95 := by omega
                  have e4 : ¬ c.toNat = 45 := by omega
                  have e5 : ¬ c.toNat = 126 := by omega
                  simp [e1, e2, e3, e4, e5]
        · rw [if_neg a6]
          have e0 : 48 ≤ c.toNat := by omega
          have e1 : c.toNat ≤ 57 := by omega
          simp [e0, e1]
    · simp
theorem rvalid_j0 (s : ByteArray) (hs : s.size ≤ 1000) (b : Bool) (k : Nat) (hk : 1002 ≤ k) : burgageref01_Valid.j0 k s b = some (!b && (ub s).all okB) := by
  obtain ⟨k, rfl⟩ : ∃ m, k = m + 1 := ⟨k - 1, by omega⟩
  simp only [burgageref01_Valid.j0]
  cases b
  · have := rvalid_l0 s hs s.size k 0 (by omega) (by omega)
    simpa using this
  · rfl
theorem rvalid_at (s : ByteArray) (hs : s.size ≤ 1000) (k : Nat) (hk : 1002 ≤ k) : burgageref01_Valid.f k s = some (valid (ub s)) := by
  simp only [burgageref01_Valid.f, tl]
  unfold valid
  by_cases h1 : (s.size : Int) < 1
  · rw [if_pos h1, rvalid_j0 s hs _ k hk]
    have : ¬ 1 ≤ (ub s).length := by rw [ub_size]; omega
    simp [this]
  · have hl : 1 ≤ (ub s).length := by rw [ub_size]; omega
    rw [if_neg h1]
    by_cases h2 : (s.size : Int) > 16
    · rw [if_pos h2, rvalid_j0 s hs _ k hk]
      have : ¬ (ub s).length ≤ 16 := by rw [ub_size]; omega
      simp [this]
    · rw [if_neg h2]
      have h2' : (ub s).length ≤ 16 := by rw [ub_size]; omega
      by_cases h3 : ub s = [46]
      · rw [if_pos h3, rvalid_j0 s hs _ k hk]; simp [h3]
      · rw [if_neg h3, rvalid_j0 s hs _ k hk]
        have h3' : (ub s == [46]) = false := by simpa using h3
        simp [hl, h2', h3']

/-! parts -/
theorem ub_one (s : ByteArray) (i : Nat) (h : i < s.size) : ub (s.extract i (i + 1)) = [(ub s)[i]'(by rw [ub_size]; exact h)] := by
  rw [ub_extract, List.drop_take, show i + 1 - i = 1 by omega]
  rw [List.drop_eq_getElem_cons (by rw [ub_size]; exact h)]
  rfl
theorem toNat47 (c : UInt8) : ((c.toNat : Int) = 47) ↔ c = 47 := by
  constructor
  · intro h
    have : c.toNat = 47 := by omega
    exact UInt8.toNat_inj.1 (by rw [this]; rfl)
  · intro h; subst h; rfl
theorem cut_l0 (s : ByteArray) (hs : s.size ≤ 1000) (d : Nat) : ∀ (k i : Nat) (acc : List ByteArray) (last : ByteArray), i + d = s.size → d < k → acc.length ≤ i → last.size ≤ i →
    burgageref01_Cut.l0 k s acc last (i : Int) = some (acc ++ (cutGo (ub last) ((ub s).drop i)).map bx) := by
  induction d with
  | zero =>
    intro k i acc last hi hk ha hl
    obtain ⟨k, rfl⟩ : ∃ m, k = m + 1 := ⟨k - 1, by omega⟩
    simp only [burgageref01_Cut.l0]
    rw [if_neg (by omega), List.drop_of_length_le (by rw [ub_size]; omega), if_pos (by omega)]
    simp [cutGo, bx_ub]
  | succ d ih =>
    intro k i acc last hi hk ha hl
    obtain ⟨k, rfl⟩ : ∃ m, k = m + 1 := ⟨k - 1, by omega⟩
    have hlt : i < s.size := by omega
    have hi1 : i < (ub s).length := by rw [ub_size]; exact hlt
    simp only [burgageref01_Cut.l0]
    rw [if_pos (by omega), if_pos (by omega), bt_nat s i hlt, w64 (by omega) (by omega), show ((i : Int) + 1) = ((i + 1 : Nat) : Int) by omega, List.drop_eq_getElem_cons hi1]
    by_cases hc : (ub s)[i] = 47
    · rw [if_pos ((toNat47 _).2 hc), if_pos (by omega)]
      have := ih k (i + 1) (acc ++ [last]) ⟨#[]⟩ (by omega) (by omega) (by simp; omega) (by show 0 ≤ _; omega)
      rw [this]
      simp only [cutGo, hc, if_true, List.map_cons, bx_ub, ub_emp, List.append_assoc, List.singleton_append]
    · rw [if_neg (fun h => hc ((toNat47 _).1 h)), if_pos (by omega), if_pos (by omega), Int.toNat_natCast, Int.toNat_natCast]
      have e : (s.extract i (i + 1)).size = 1 := by rw [size_ext]; omega
      rw [if_pos (by rw [e]; omega)]
      have := ih k (i + 1) acc (last ++ s.extract i (i + 1)) (by omega) (by omega) (by omega) (by rw [size_app, e]; omega)
      rw [this]
      simp only [cutGo, hc, if_false, ub_app, ub_one s i hlt]
theorem cut_at (s : ByteArray) (hs : s.size ≤ 1000) (k : Nat) (hk : 1002 ≤ k) : burgageref01_Cut.f k s = some (cutB s) := by
  simp only [burgageref01_Cut.f, tl, Option.bind_some]
  by_cases h : ub s = []
  · rw [if_pos h, cutB_nil s h]
  · rw [if_neg h]
    have := cut_l0 s hs s.size k 0 [] ⟨#[]⟩ (by omega) (by omega) (by simp) (by show 0 ≤ 0; omega)
    simp only [Int.natCast_zero, List.nil_append, List.drop_zero, ub_emp] at this
    rw [this]
    unfold cutB cut
    rw [if_neg h]

theorem cutGo_size (l : Bs) : ∀ last x, x ∈ cutGo last l → x.length ≤ last.length + l.length := by
  induction l with
  | nil => intro last x h; simp [cutGo] at h; subst h; simp
  | cons c r ih =>
    intro last x h
    unfold cutGo at h
    split at h
    · rcases List.mem_cons.1 h with rfl | h
      · omega
      · have := ih _ _ h; simp at this ⊢; omega
    · have := ih _ _ h; simp at this ⊢; omega
theorem cutGo_len (l : Bs) : ∀ last, 1 ≤ (cutGo last l).length ∧ (cutGo last l).length ≤ l.length + 1 := by
  induction l with
  | nil => intro last; simp [cutGo]
  | cons c r ih =>
    intro last
    unfold cutGo
    split
    · have := ih []; simp; omega
    · have := ih (last ++ [c]); simp; omega
theorem cut_len (l : Bs) : (cut l).length ≤ l.length + 1 := by
  unfold cut; split
  · simp
  · exact (cutGo_len l []).2
theorem cut_size (l : Bs) : ∀ x ∈ cut l, x.length ≤ l.length := by
  intro x hx
  unfold cut at hx
  split at hx
  · cases hx
  · simpa using cutGo_size l [] x hx
theorem cutB_len (s : ByteArray) : (cutB s).length ≤ s.size + 1 := by
  have := cut_len (ub s); rw [ub_size] at this; simpa [cutB] using this
theorem cutB_size (s : ByteArray) : ∀ x ∈ cutB s, x.size ≤ s.size := by
  intro x hx
  simp only [cutB, List.mem_map] at hx
  obtain ⟨y, hy, rfl⟩ := hx
  have := cut_size _ y hy
  rw [ub_size] at this
  rw [← ub_size, ub_bx]; exact this
theorem cutB_map (s : ByteArray) : (cutB s).map ub = cut (ub s) := by
  unfold cutB; rw [List.map_map]; simp [Function.comp_def, ub_bx]
theorem cutB_length (s : ByteArray) : (cutB s).length = (cut (ub s)).length := by simp [cutB]
theorem cutB_all (s : ByteArray) (p : Bs → Bool) : (cutB s).all (fun x => p (ub x)) = (cut (ub s)).all p := by
  rw [← cutB_map, List.all_map]; rfl

theorem isPath_l0 (xs : List ByteArray) (hx : ∀ x ∈ xs, x.size ≤ 1000) (hl : xs.length ≤ 1001) (d : Nat) : ∀ (k i : Nat), i + d = xs.length → 1002 + d < k →
    burgageref01_IsPath.l0 k xs (i : Int) = some ((xs.drop i).all (fun x => valid (ub x)) && decide (xs.length ≤ 8)) := by
  induction d with
  | zero =>
    intro k i hi hk
    obtain ⟨k, rfl⟩ : ∃ m, k = m + 1 := ⟨k - 1, by omega⟩
    simp only [burgageref01_IsPath.l0]
    rw [if_neg (by omega), List.drop_of_length_le (by omega)]
    simp only [List.all_nil, Bool.true_and]
    congr 1
    exact decide_eq_decide.2 (by omega)
  | succ d ih =>
    intro k i hi hk
    obtain ⟨k, rfl⟩ : ∃ m, k = m + 1 := ⟨k - 1, by omega⟩
    have hlt : i < xs.length := by omega
    have e : rdOf ByteArray.empty xs (i : Int) = xs[i] := by simp [rdOf, hlt]
    simp only [burgageref01_IsPath.l0]
    have hv := rvalid_at _ (hx _ (List.getElem_mem hlt)) k (by omega)
    rw [if_pos (by omega), if_pos (by omega), e, hv]
    simp only [Option.bind_some]
    rw [List.drop_eq_getElem_cons hlt]
    simp only [List.all_cons]
    cases valid (ub xs[i])
    · rfl
    · rw [if_pos rfl, w64 (by omega) (by omega), show ((i : Int) + 1) = ((i + 1 : Nat) : Int) by omega, ih k (i + 1) (by omega) (by omega)]
      rfl

theorem isPath_at (s : ByteArray) (hs : s.size ≤ 1000) (k : Nat) (hk : 3000 ≤ k) : burgageref01_IsPath.f k s = some (isPath (ub s)) := by
  simp only [burgageref01_IsPath.f]
  rw [cut_at s hs k (by omega)]
  simp only [Option.bind_some]
  have hl := cutB_len s
  have := isPath_l0 (cutB s) (fun x hx => by have := cutB_size s x hx; omega) (by omega) (cutB s).length k 0 (by omega) (by omega)
  simp only [Int.natCast_zero, List.drop_zero] at this
  rw [this, cutB_all, cutB_length]
  rfl
/-- Parts, PartsOf -/
def partsB (s : ByteArray) : List ByteArray × Int := if isPath (ub s) then (cutB s, 0) else ([], 10)
theorem partsOf_at (s : ByteArray) (hs : s.size ≤ 1000) (k : Nat) (hk : 3000 ≤ k) : burgageref01_PartsOf.f k s = some (partsB s) := by
  simp only [burgageref01_PartsOf.f]
  rw [isPath_at s hs k hk]
  simp only [Option.bind_some, partsB]
  cases isPath (ub s)
  · rfl
  · rw [if_pos rfl, cut_at s hs k (by omega)]; rfl
def joinB (dir n : ByteArray) : ByteArray × Int :=
  if isPath (ub dir) then (if valid (ub n) then (if (cut (ub dir)).length ≥ 8 then (⟨#[]⟩, 2) else if ub dir = [] then (n, 0) else (dir ++ ⟨#[47]⟩ ++ n, 0)) else (⟨#[]⟩, 11)) else (⟨#[]⟩, 10)
theorem joinOf_at (s n : ByteArray) (hs : s.size ≤ 1000) (hn : n.size ≤ 1000) (k : Nat) (hk : 3000 ≤ k) : burgageref01_JoinOf.f k s n = some (joinB s n) := by
  simp only [burgageref01_JoinOf.f]
  rw [isPath_at s hs k hk]
  simp only [Option.bind_some, joinB]
  cases isPath (ub s)
  · rfl
  · rw [if_pos rfl, if_pos rfl, rvalid_at n hn k (by omega)]
    simp only [Option.bind_some]
    cases valid (ub n)
    · rfl
    · rw [if_pos rfl, if_pos rfl, cut_at s hs k (by omega)]
      simp only [Option.bind_some, cutB_length, tl]
      by_cases h : (cut (ub s)).length ≥ 8
      · rw [if_pos (by omega), if_pos h]
      · rw [if_neg (by omega), if_neg h]
        by_cases h2 : ub s = []
        · rw [if_pos h2, if_pos h2]
        · rw [if_neg h2, if_neg h2, if_pos (by omega), if_pos (by rw [size_app]; show s.size + 1 + n.size ≤ _; omega)]
/-- the last sign / among the first i bytes: where it stands, or none -/
def lastAt (l : Bs) : Nat → Option Nat
  | 0 => none
  | i + 1 => if l[i]? = some 47 then some i else lastAt l i
theorem lastAt_lt (l : Bs) : ∀ i j, lastAt l i = some j → j < i ∧ l[j]? = some 47 := by
  intro i
  induction i with
  | zero => intro j h; cases h
  | succ i ih =>
    intro j h
    unfold lastAt at h
    split at h
    · cases h; exact ⟨by omega, by assumption⟩
    · have := ih j h; exact ⟨by omega, this.2⟩
def splitB (p : ByteArray) : ByteArray × ByteArray × Int :=
  if isPath (ub p) then (if ub p = [] then (⟨#[]⟩, ⟨#[]⟩, 1) else match lastAt (ub p) p.size with
    | some i => (p.extract 0 i, p.extract (i + 1) p.size, 0)
    | none => (⟨#[]⟩, p, 0)) else (⟨#[]⟩, ⟨#[]⟩, 10)
theorem split_l0 (s : ByteArray) (hs : s.size ≤ 1000) : ∀ (i k : Nat), i ≤ s.size → i < k →
    burgageref01_SplitOf.l0 k s ((i : Int) - 1) = some (match lastAt (ub s) i with
      | some i => (s.extract 0 i, s.extract (i + 1) s.size, 0)
      | none => (⟨#[]⟩, s, 0)) := by
  intro i
  induction i with
  | zero =>
    intro k hi hk
    obtain ⟨k, rfl⟩ : ∃ m, k = m + 1 := ⟨k - 1, by omega⟩
    simp only [burgageref01_SplitOf.l0]
    rw [if_neg (by omega)]
    rfl
  | succ i ih =>
    intro k hi hk
    obtain ⟨k, rfl⟩ : ∃ m, k = m + 1 := ⟨k - 1, by omega⟩
    have hlt : i < s.size := by omega
    rw [show (((i + 1 : Nat) : Int) - 1) = (i : Int) by omega]
    simp only [burgageref01_SplitOf.l0]
    have e : (ub s)[i]? = some ((ub s)[i]'(by rw [ub_size]; exact hlt)) := List.getElem?_eq_getElem (by rw [ub_size]; exact hlt)
    rw [if_pos (by omega), if_pos (by omega), if_pos (by omega), bt_nat s i hlt]
    unfold lastAt
    rw [e]
    by_cases hc : (ub s)[i]'(by rw [ub_size]; exact hlt) = 47
    · rw [if_pos ((toNat47 _).2 hc), if_pos (by omega), w64 (by omega) (by omega), if_pos (by omega), if_pos (by omega), hc, if_pos rfl]
      rw [show ((i : Int) + 1).toNat = i + 1 by omega, Int.toNat_natCast]
    · rw [if_neg (fun h => hc ((toNat47 _).1 h)), if_neg (fun h => hc (by injection h)), w64 (by omega) (by omega)]
      exact ih k (by omega) (by omega)
theorem splitOf_at (s : ByteArray) (hs : s.size ≤ 1000) (k : Nat) (hk : 3000 ≤ k) : burgageref01_SplitOf.f k s = some (splitB s) := by
  simp only [burgageref01_SplitOf.f]
  rw [isPath_at s hs k hk]
  simp only [Option.bind_some, splitB, tl]
  cases isPath (ub s)
  · rfl
  · rw [if_pos rfl, if_pos rfl]
    by_cases h : ub s = []
    · rw [if_pos h, if_pos h]
    · rw [if_neg h, if_neg h, w64 (by omega) (by omega), split_l0 s hs s.size k (Nat.le_refl _) (by omega)]
theorem lastIdx_l0 (s : ByteArray) (hs : s.size ≤ 1000) : ∀ (i k : Nat), i ≤ s.size → i < k →
    bytealg_LastIndexByteString.l0 k s 47 ((i : Int) - 1) = some (match lastAt (ub s) i with
      | some i => (i : Int)
      | none => -1) := by
  intro i
  induction i with
  | zero =>
    intro k hi hk
    obtain ⟨k, rfl⟩ : ∃ m, k = m + 1 := ⟨k - 1, by omega⟩
    simp only [bytealg_LastIndexByteString.l0]
    rw [if_neg (by omega)]
    rfl
  | succ i ih =>
    intro k hi hk
    obtain ⟨k, rfl⟩ : ∃ m, k = m + 1 := ⟨k - 1, by omega⟩
    have hlt : i < s.size := by omega
    rw [show (((i + 1 : Nat) : Int) - 1) = (i : Int) by omega]
    simp only [bytealg_LastIndexByteString.l0]
    have e : (ub s)[i]? = some ((ub s)[i]'(by rw [ub_size]; exact hlt)) := List.getElem?_eq_getElem (by rw [ub_size]; exact hlt)
    rw [if_pos (by omega), if_pos (by omega), if_pos (by omega), bt_nat s i hlt]
    unfold lastAt
    rw [e]
    by_cases hc : (ub s)[i]'(by rw [ub_size]; exact hlt) = 47
    · rw [if_pos ((toNat47 _).2 hc), hc, if_pos rfl]
    · rw [if_neg (fun h => hc ((toNat47 _).1 h)), if_neg (fun h => hc (by injection h)), w64 (by omega) (by omega)]
      exact ih k (by omega) (by omega)
theorem lastIdx_at (s : ByteArray) (hs : s.size ≤ 1000) (k : Nat) (hk : 3000 ≤ k) : strings_LastIndexByte.f k s 47 = some (match lastAt (ub s) s.size with
      | some i => (i : Int)
      | none => -1) := by
  simp only [strings_LastIndexByte.f, bytealg_LastIndexByteString.f]
  rw [w64 (by omega) (by omega), lastIdx_l0 s hs s.size k (Nat.le_refl _) (by omega)]
  rfl
def parseB (s : ByteArray) : ByteArray × Int := match ub s with
  | [] => (⟨#[]⟩, 3)
  | c :: r => if c = 47 then (if isPath r then (s.extract 1 s.size, 0) else (⟨#[]⟩, 3)) else (⟨#[]⟩, 3)
theorem ub_tail (s : ByteArray) (c : UInt8) (r : Bs) (h : ub s = c :: r) : ub (s.extract 1 s.size) = r := by
  rw [ub_extract, List.take_of_length_le (by rw [ub_size]; omega), h]; rfl
theorem parseOf_at (s : ByteArray) (hs : s.size ≤ 1000) (k : Nat) (hk : 3000 ≤ k) : burgageref01_Parse.f k s = some (parseB s) := by
  simp only [burgageref01_Parse.f, parseB]
  have hsz := ub_size s
  cases h : ub s with
  | nil =>
    rw [h] at hsz
    rw [if_pos (by simp at hsz; omega)]
  | cons c r =>
    rw [h] at hsz
    have h0 : 0 < s.size := by simp at hsz; omega
    have hb := bt_nat s 0 h0
    have e : (ub s)[0]'(by rw [ub_size]; exact h0) = c := by simp [h]
    rw [e] at hb
    simp only [Int.natCast_zero] at hb
    rw [if_neg (by omega), if_pos (by omega), hb]
    show _ = some (if c = 47 then (if isPath r then (s.extract 1 s.size, 0) else (⟨#[]⟩, 3)) else (⟨#[]⟩, 3))
    by_cases hc : c = 47
    · rw [if_pos ((toNat47 _).2 hc), if_pos (by omega), isPath_at _ (by rw [size_ext]; omega) k hk, ub_tail s c r h, if_pos hc]
      simp only [Option.bind_some]
      cases isPath r <;> rfl
    · rw [if_neg (fun h => hc ((toNat47 _).1 h)), if_neg hc]
theorem prefix_take (a b : Bs) : (b.isPrefixOf a) = (decide (b.length ≤ a.length) && (a.take b.length == b)) := by
  rw [Bool.eq_iff_iff]
  simp only [List.isPrefixOf_iff_prefix, Bool.and_eq_true, decide_eq_true_eq, beq_iff_eq]
  constructor
  · intro h
    exact ⟨h.length_le, (List.prefix_iff_eq_take.1 h).symm⟩
  · intro ⟨_, h⟩
    exact List.prefix_iff_eq_take.2 h.symm
theorem begins_at (a b : ByteArray) : burgageref01_Begins.f a b = some ((ub b).isPrefixOf (ub a)) := by
  simp only [burgageref01_Begins.f, prefix_take, ub_size, tl]
  by_cases h : b.size ≤ a.size
  · rw [if_pos (by omega), if_pos (by omega), if_pos (by omega), ub_extract, Int.toNat_natCast]
    simp [h]
  · rw [if_neg (by omega)]
    simp [h]
theorem belowR_at (a b : ByteArray) (hb : b.size ≤ 1000) : burgageref01_Below.f a b = some (below (ub a) (ub b)) := by
  simp only [burgageref01_Below.f, tl, below]
  by_cases h1 : ub a = ub b
  · rw [if_pos h1]; simp [h1]
  · rw [if_neg h1]
    by_cases h2 : ub b = []
    · rw [if_pos h2]; simp [h2]
    · rw [if_neg h2, if_pos (by omega), begins_at, ub_app, ub_slash]
      simp [h1, h2]
def swapB (q f t : ByteArray) : ByteArray × Bool :=
  if ub q = ub f then (t, true) else if below (ub q) (ub f) then (if ub f = [] then (if ub t = [] then (q, true) else (t ++ ⟨#[47]⟩ ++ q, true)) else (if ub t = [] then (q.extract (f.size + 1) q.size, true) else (t ++ ⟨#[47]⟩ ++ q.extract (f.size + 1) q.size, true))) else (q, false)
theorem below_size (a b : Bs) (h : below a b = true) (h1 : ¬ a = b) (h2 : ¬ b = []) : b.length + 1 ≤ a.length ∧ a.take (b.length + 1) = b ++ [47] := by
  simp only [below, h1, h2, decide_false, Bool.false_or, prefix_take, Bool.and_eq_true, decide_eq_true_eq, beq_iff_eq, List.length_append, List.length_singleton] at h
  exact h
theorem swapR_at (q f t : ByteArray) (hq : q.size ≤ 1000) (hf : f.size ≤ 1000) (ht : t.size ≤ 1000) : burgageref01_Swap.f q f t = some (swapB q f t) := by
  simp only [burgageref01_Swap.f, swapB, tl]
  by_cases h1 : ub q = ub f
  · rw [if_pos h1, if_pos h1]
  · rw [if_neg h1, if_neg h1, belowR_at q f hf]
    simp only [Option.bind_some]
    cases hb : below (ub q) (ub f)
    · rfl
    · rw [if_pos rfl, if_pos rfl]
      by_cases h2 : ub f = []
      · rw [if_pos h2, if_pos h2]
        by_cases h3 : ub t = []
        · rw [if_pos h3, if_pos h3]
        · rw [if_neg h3, if_neg h3, if_pos (by omega), if_pos (by rw [size_app]; show t.size + 1 + q.size ≤ _; omega)]
      · have hz := (below_size _ _ hb h1 h2).1
        rw [ub_size, ub_size] at hz
        rw [if_neg h2, if_neg h2, w64 (by omega) (by omega), if_pos (by omega), if_pos (by omega), show ((f.size : Int) + 1).toNat = f.size + 1 by omega]
        by_cases h3 : ub t = []
        · rw [if_pos h3, if_pos h3]
        · rw [if_neg h3, if_neg h3, if_pos (by omega), if_pos (by rw [size_app, size_ext]; show t.size + 1 + _ ≤ _; omega)]

/-! the program's -/
theorem rest_at (a b : ByteArray) (hb : b.size ≤ 1000) : name_rest.f a b = some (if ub b = [] then (a, true) else if (ub b ++ [47]).isPrefixOf (ub a) then (a.extract (b.size + 1) a.size, true) else (a, false)) := by
  simp only [name_rest.f, tl]
  by_cases h1 : ub b = []
  · rw [if_pos h1, if_pos h1]
  · rw [if_neg h1, if_neg h1, if_pos (by omega)]
    have hz : (b ++ (⟨#[47]⟩ : ByteArray)).size = b.size + 1 := size_app _ _
    simp only [strings_CutPrefix.f, stringslite_CutPrefix.f, stringslite_HasPrefix.f, tl, hz, prefix_take, ub_size, List.length_append, List.length_singleton, ub_extract]
    by_cases h : b.size + 1 ≤ a.size
    · rw [if_pos (by omega), if_pos (by omega), if_pos (by omega)]
      simp only [Option.bind_some, ub_app, ub_slash, List.drop_zero, h, decide_true, Bool.true_and, Int.toNat_natCast]
      cases hp : ((ub a).take (b.size + 1) == ub b ++ [47])
      · rfl
      · rw [if_pos rfl, if_pos (by omega), if_pos (by omega)]
        rfl
    · rw [if_neg (by omega)]
      simp [h]
theorem belowP_at (a b : ByteArray) (hb : b.size ≤ 1000) : name_Below.f a b = some (below (ub a) (ub b)) := by
  simp only [name_Below.f, rest_at a b hb, Option.bind_some, below, tl]
  by_cases h1 : ub b = []
  · simp [h1]
  · rw [if_neg h1]
    cases h : (ub b ++ [47]).isPrefixOf (ub a)
    · rw [Bool.eq_iff_iff.2 (show (ub a == ub b) = true ↔ decide (ub a = ub b) = true by simp)]
      simp [h1]
    · simp [h1]
theorem swapP_at (q f t : ByteArray) (hq : q.size ≤ 1000) (hf : f.size ≤ 1000) (ht : t.size ≤ 1000) : name_Swap.f q f t = some (swapB q f t) := by
  simp only [name_Swap.f, swapB, tl, rest_at q f hf, Option.bind_some, below]
  by_cases h1 : ub q = ub f
  · rw [if_pos h1, if_pos h1]
  · rw [if_neg h1, if_neg h1]
    by_cases h2 : ub f = []
    · simp only [h2, if_true, decide_true, Bool.or_true, Bool.true_or]
      by_cases h3 : ub t = []
      · rw [if_pos h3, if_pos h3]
      · rw [if_neg h3, if_neg h3, if_pos (by omega), if_pos (by rw [size_app]; show t.size + 1 + q.size ≤ _; omega)]
    · simp only [h1, h2, if_false, decide_false, Bool.false_or]
      by_cases h : (ub f ++ [47]).isPrefixOf (ub q) = true
      · simp only [h, if_true]
        by_cases h3 : ub t = []
        · rw [if_pos h3, if_pos h3]
        · rw [if_neg h3, if_neg h3, if_pos (by omega), if_pos (by rw [size_app, size_ext]; show t.size + 1 + _ ≤ _; omega)]
      · simp [h]
theorem swapL_at (q f t : ByteArray) (hq : q.size ≤ 1000) (hf : f.size ≤ 1000) (ht : t.size ≤ 1000) : burgagelaw01_swap.f q f t = some (swapB q f t) := by
  simp only [burgagelaw01_swap.f, swapP_at q f t hq hf ht, Option.bind_some]
theorem print_at (p : ByteArray) (hp : p.size ≤ 1000) : name_Print.f p = some (⟨#[47]⟩ ++ p) := by
  simp only [name_Print.f]
  rw [if_pos (by omega)]

/-! long paths -/
theorem glue_snoc (xs : List Bs) (y : Bs) : glue (xs ++ [y]) = glue xs ++ (if xs = [] then [] else [47]) ++ y := by
  induction xs with
  | nil => simp [glue]
  | cons x r ih =>
    cases r with
    | nil => simp [glue]
    | cons z r =>
      have e : x :: z :: r ++ [y] = x :: z :: (r ++ [y]) := rfl
      rw [e]
      simp only [glue]
      rw [show z :: (r ++ [y]) = z :: r ++ [y] from rfl, ih]
      simp
def longB (l : List Int) : ByteArray := bx (long l)
def words : List ByteArray := [⟨#[97]⟩, ⟨#[98]⟩, ⟨#[120, 46, 121]⟩, ⟨#[97, 98, 99, 100, 101, 102, 103, 104, 105, 106, 107, 108, 109, 110, 111, 112]⟩, ⟨#[65, 45, 49, 95, 126]⟩, ⟨#[46, 46, 46]⟩, ⟨#[99, 126, 116, 114, 105, 112, 126, 48]⟩, ⟨#[57]⟩]
theorem words_at (c : Int) (h0 : 0 ≤ c) : rdOf ByteArray.empty words (Int.tmod c 8) = bx (word c.toNat) := by
  obtain ⟨n, rfl⟩ := Int.eq_ofNat_of_zero_le h0
  have h : ∀ m : Fin 8, rdOf ByteArray.empty words ((m.val : Nat) : Int) = bx (word m.val) := by decide +kernel
  have := h ⟨n % 8, by omega⟩
  rw [show Int.tmod (n : Int) 8 = ((n % 8 : Nat) : Int) by rw [Int.tmod_eq_emod_of_nonneg (by omega)]; omega, this, Int.toNat_natCast]
  show bx (word (n % 8)) = _
  unfold word
  rw [Nat.mod_mod]
theorem word_size (n : Nat) : (word n).length ≤ 16 := by
  have h : ∀ m : Fin 8, (word m.val).length ≤ 16 := by decide +kernel
  have := h ⟨n % 8, by omega⟩
  unfold word at this ⊢
  rwa [Nat.mod_mod] at this
theorem glue_size (xs : List Bs) (n : Nat) (h : ∀ x ∈ xs, x.length ≤ n) : (glue xs).length ≤ (n + 1) * xs.length := by
  induction xs with
  | nil => simp [glue]
  | cons x r ih =>
    have hx := h x (by simp)
    have hr := ih (fun y hy => h y (by simp [hy]))
    cases r with
    | nil => simp [glue]; omega
    | cons z r =>
      simp only [glue, List.length_append, List.length_cons, List.length_nil, Nat.mul_add, Nat.mul_one] at hr ⊢
      omega
theorem long_size (l : List Int) : (long l).length ≤ 170 := by
  have := glue_size ((l.take 10).map fun c => word c.toNat) 16 (fun x hx => by
    simp only [List.mem_map] at hx
    obtain ⟨c, _, rfl⟩ := hx
    exact word_size _)
  unfold long
  simp only [List.length_map, List.length_take] at this ⊢
  have : min 10 l.length ≤ 10 := Nat.min_le_left _ _
  omega
theorem bx_size (l : Bs) : (bx l).size = l.length := by rw [← ub_size, ub_bx]
theorem bx_app (a b : Bs) : bx a ++ bx b = bx (a ++ b) := by apply ub_inj; rw [ub_app, ub_bx, ub_bx, ub_bx]
theorem long_l0 (l : List Int) (h0 : ∀ c ∈ l, 0 ≤ c) (d : Nat) : ∀ (k i : Nat), i + d = 10 → i ≤ l.length → 2 * d + 1 < k →
    burgageref01_Long.l0 k l (bx (glue ((l.take i).map fun c => word c.toNat))) (i : Int) = some (longB l) := by
  induction d with
  | zero =>
    intro k i hi hl hk
    obtain ⟨k, rfl⟩ : ∃ m, k = m + 1 := ⟨k - 1, by omega⟩
    obtain ⟨k, rfl⟩ : ∃ m, k = m + 1 := ⟨k - 1, by omega⟩
    obtain rfl : i = 10 := by omega
    simp only [burgageref01_Long.l0]
    split
    · simp only [burgageref01_Long.j1]
      rw [if_neg (by simp)]
      rfl
    · simp only [burgageref01_Long.j1]
      rw [if_neg (by simp)]
      rfl
  | succ d ih =>
    intro k i hi hl hk
    obtain ⟨k, rfl⟩ : ∃ m, k = m + 1 := ⟨k - 1, by omega⟩
    obtain ⟨k, rfl⟩ : ∃ m, k = m + 1 := ⟨k - 1, by omega⟩
    simp only [burgageref01_Long.l0]
    by_cases hlt : i < l.length
    · rw [if_pos (by omega), decide_eq_true (by omega)]
      simp only [burgageref01_Long.j1]
      have hc := h0 l[i] (List.getElem_mem hlt)
      have e1 : rd l (i : Int) = l[i] := by simp [rd, hlt]
      have hw := words_at l[i] hc
      have hws := word_size (l[i]).toNat
      have hwz : (rdOf ByteArray.empty words (Int.tmod l[i] 8)).size ≤ 16 := by rw [hw, bx_size]; exact hws
      have ht : l.take (i + 1) = l.take i ++ [l[i]] := by rw [List.take_succ_eq_append_getElem hlt]
      have hg := glue_size ((l.take i).map fun c => word c.toNat) 16 (fun x hx => by
        simp only [List.mem_map] at hx
        obtain ⟨c, _, rfl⟩ := hx
        exact word_size _)
      simp only [List.length_map, List.length_take] at hg
      have hmin : min i l.length ≤ 10 := by omega
      have h2 := ih k (i + 1) (by omega) (by omega) (by omega)
      rw [ht, List.map_append, List.map_singleton, glue_snoc] at h2
      rw [if_pos trivial]
      have tm := Int.tmod_eq_emod_of_nonneg (b := 8) hc
      have t0 : 0 ≤ Int.tmod l[i] 8 := by omega
      have t1 : Int.tmod l[i] 8 < 8 := by omega
      clear tm
      by_cases hi0 : (i : Int) > 0
      · have hne : ¬ (l.take i).map (fun c => word c.toNat) = [] := fun h => by
          have h9 := congrArg List.length h
          simp only [List.length_map, List.length_take, List.length_nil] at h9
          omega
        rw [if_pos hi0, if_pos (by rw [bx_size]; omega)]
        simp only [Option.bind_some]
        rw [if_pos (by omega), if_pos (by omega), e1, if_pos t0, if_pos (by simpa using t1)]
        change (if (bx _ ++ (⟨#[47]⟩ : ByteArray)).size + (rdOf ByteArray.empty words (Int.tmod l[i] 8)).size ≤ _ then burgageref01_Long.l0 k l (bx _ ++ (⟨#[47]⟩ : ByteArray) ++ rdOf ByteArray.empty words (Int.tmod l[i] 8)) _ else none) = _
        rw [if_pos (by rw [size_app, bx_size]; show _ + 1 + _ ≤ _; omega), w64 (by omega) (by omega), hw, show (⟨#[47]⟩ : ByteArray) = bx [47] from rfl, bx_app, bx_app, show ((i : Int) + 1) = ((i + 1 : Nat) : Int) by omega]
        rw [if_neg hne] at h2
        exact h2
      · have : i = 0 := by omega
        subst this
        rw [if_neg hi0]
        simp only [Option.bind_some]
        rw [if_pos (by omega), if_pos (by omega), e1, if_pos t0, if_pos (by simpa using t1)]
        change (if (bx _).size + (rdOf ByteArray.empty words (Int.tmod l[0] 8)).size ≤ _ then burgageref01_Long.l0 k l (bx _ ++ rdOf ByteArray.empty words (Int.tmod l[0] 8)) _ else none) = _
        rw [if_pos (by rw [bx_size]; omega), w64 (by omega) (by omega), hw, bx_app]
        simpa [glue] using h2
    · rw [if_neg (by omega)]
      simp only [burgageref01_Long.j1]
      rw [if_neg (by simp)]
      unfold longB long
      rw [List.take_of_length_le (i := i) (by omega), List.take_of_length_le (i := 10) (by omega)]
theorem long_at (l : List Int) (h0 : ∀ c ∈ l, 0 ≤ c) (k : Nat) (hk : 3000 ≤ k) : burgageref01_Long.f k l = some (longB l) := by
  have := long_l0 l h0 10 k 0 (by omega) (by omega) (by omega)
  simp only [List.take_zero, List.map_nil, glue, Int.natCast_zero] at this
  exact this

/-! Same -/
theorem same_l0 (a b : List ByteArray) (x y : Int) (hl : a.length = b.length) (hb : a.length ≤ 1001) (d : Nat) : ∀ (k i : Nat), i + d = a.length → d < k →
    burgageref01_Same.l0 k (i : Int) a x b y = some (decide (a.drop i = b.drop i)) := by
  induction d with
  | zero =>
    intro k i hi hk
    obtain ⟨k, rfl⟩ : ∃ m, k = m + 1 := ⟨k - 1, by omega⟩
    simp only [burgageref01_Same.l0]
    rw [if_neg (by omega), List.drop_of_length_le (by omega), List.drop_of_length_le (by omega)]
    simp
  | succ d ih =>
    intro k i hi hk
    obtain ⟨k, rfl⟩ : ∃ m, k = m + 1 := ⟨k - 1, by omega⟩
    have h1 : i < a.length := by omega
    have h2 : i < b.length := by omega
    have e1 : rdOf ByteArray.empty a (i : Int) = a[i] := by simp [rdOf, h1]
    have e2 : rdOf ByteArray.empty b (i : Int) = b[i] := by simp [rdOf, h2]
    simp only [burgageref01_Same.l0]
    rw [if_pos (by omega), if_pos (by omega), if_pos (by omega), e1, e2, tl, tl, List.drop_eq_getElem_cons h1, List.drop_eq_getElem_cons h2]
    by_cases h : a[i] = b[i]
    · rw [if_pos (by rw [h]), w64 (by omega) (by omega), show ((i : Int) + 1) = ((i + 1 : Nat) : Int) by omega, ih k (i + 1) (by omega) (by omega)]
      congr 1
      exact decide_eq_decide.2 ⟨fun e => by rw [h, e], fun e => by injection e⟩
    · rw [if_neg (fun e => h (ub_inj e))]
      congr 1
      exact (decide_eq_false (fun e => h (by injection e))).symm
theorem same_at (a b : List ByteArray) (x y : Int) (hb : a.length ≤ 1001) (k : Nat) (hk : 3000 ≤ k) : burgageref01_Same.f k a x b y = some (decide (a = b) && decide (x = y)) := by
  obtain ⟨k, rfl⟩ : ∃ m, k = m + 1 := ⟨k - 1, by omega⟩
  simp only [burgageref01_Same.f, burgageref01_Same.j0]
  by_cases h : a.length = b.length
  · rw [if_pos (by omega)]
    by_cases h2 : x = y
    · subst h2
      rw [if_neg (by simp)]
      have := same_l0 a b x x h hb a.length k 0 (by omega) (by omega)
      simp only [Int.natCast_zero, List.drop_zero] at this
      rw [this]; simp
    · rw [if_pos (by simp [h2])]; simp [h2]
  · rw [if_neg (by omega)]
    have : ¬ a = b := fun e => h (by rw [e])
    simp [this]
end Go.Proofs.YtpahemgofhpfnaaDoor.E

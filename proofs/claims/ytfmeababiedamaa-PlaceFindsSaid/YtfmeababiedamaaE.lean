/- What the printed functions come to: the plain functions. -/
import Derived.Test.YtfmeababiedamaaM
import Derived.Test.YtfmeababiedamaaSb
namespace Go.Proofs.Ytfmeababiedamaa.E
open Go.RowKit Go.Proofs.YtfmeababiedamaaW.PrintWords Go.Proofs.YtfmeababiedamaaW.PrintLast Go.Proofs.YtfmeababiedamaaW.PrintMore
open Go.Proofs.Ytfmeababiedamaa.M Go.Proofs.Ytfmeababiedamaa.Sp
set_option linter.unusedVariables false
set_option linter.unusedSimpArgs false

/-- with enough rounds -/
def Ult {α : Type} (g : Nat → Option α) (r : α) : Prop := ∃ k0, ∀ k, k0 ≤ k → g k = some r
theorem Ult.const {α : Type} (r : α) : Ult (fun _ => some r) r := ⟨0, fun _ _ => rfl⟩
theorem Ult.bind {α β : Type} {g : Nat → Option α} {a : α} {h : Nat → α → Option β} {r : β} (hg : Ult g a) (hh : Ult (fun k => h k a) r) : Ult (fun k => (g k).bind (h k)) r := by
  obtain ⟨a0, ha⟩ := hg
  obtain ⟨b0, hb⟩ := hh
  exact ⟨max a0 b0, fun k hk => by show (g k).bind (h k) = some r; rw [ha k (by omega)]; exact hb k (by omega)⟩
theorem Ult.get {α : Type} {g : Nat → Option α} {r : α} (h : Ult g r) : ∃ k, g k = some r := by
  obtain ⟨k, hk⟩ := h
  exact ⟨k, hk k (Nat.le_refl _)⟩
theorem Ult.of {α : Type} {g g' : Nat → Option α} {r : α} (h : Ult g r) (e : ∀ k, g' k = g k) : Ult g' r := by
  obtain ⟨k, hk⟩ := h
  exact ⟨k, fun j hj => by rw [e]; exact hk j hj⟩

theorem tl (s : ByteArray) : s.toList = ub s := ByteArray.toList_eq s
theorem bt_nat (s : ByteArray) (i : Nat) (h : i < s.size) : bt s (i : Int) = (((ub s)[i]'(by rw [ub_size]; exact h)).toNat : Int) := by
  unfold bt
  rw [dif_pos (by simpa using h)]
  rfl
theorem w64 {x : Int} (h : -1000000000 ≤ x) (h' : x ≤ 1000000000) : wrap64 x = x := by unfold wrap64; omega
theorem ub_app (a b : ByteArray) : ub (a ++ b) = ub a ++ ub b := by simp [ub, ByteArray.data_append]
theorem ub_inj {a b : ByteArray} (h : ub a = ub b) : a = b := by rw [← bx_ub a, ← bx_ub b, h]
theorem ub_emp : ub (⟨#[]⟩ : ByteArray) = [] := rfl
theorem ub_slash : ub (⟨#[47]⟩ : ByteArray) = [47] := rfl
theorem size_app (a b : ByteArray) : (a ++ b).size = a.size + b.size := ByteArray.size_append
theorem size_ext (a : ByteArray) (i j : Nat) : (a.extract i j).size = min j a.size - i := ByteArray.size_extract

/-! names -/
theorem right_eq (c : UInt8) : name_right.f (c.toNat : Int) = some (okB c) := by
  have h : ∀ n : Fin 256, name_right.f ((UInt8.ofNat n.val).toNat : Int) = some (okB (UInt8.ofNat n.val)) := by decide +kernel
  have := h ⟨c.toNat, c.toNat_lt⟩
  simpa using this
theorem letter_eq (c : UInt8) : burgageref01_letter.f (c.toNat : Int) = some (letB c) := by
  have h : ∀ n : Fin 256, burgageref01_letter.f ((UInt8.ofNat n.val).toNat : Int) = some (letB (UInt8.ofNat n.val)) := by decide +kernel
  have := h ⟨c.toNat, c.toNat_lt⟩
  simpa using this
theorem drop_all (l : Bs) (p : UInt8 → Bool) (i : Nat) (h : i < l.length) : (l.drop i).all p = (p l[i] && (l.drop (i + 1)).all p) := by
  rw [List.drop_eq_getElem_cons h]; rfl
theorem valid_l0 (s : ByteArray) (hs : s.size ≤ 1000) (d : Nat) : ∀ (k i : Nat), i + d = s.size → d < k → name_Valid.l0 k s (s.size : Int) (i : Int) = some (((ub s).drop i).all okB) := by
  induction d with
  | zero =>
    intro k i hi hk
    obtain ⟨k, rfl⟩ : ∃ m, k = m + 1 := ⟨k - 1, by omega⟩
    simp only [name_Valid.l0]
    rw [if_neg (by omega), List.drop_of_length_le (by rw [ub_size]; omega)]
    rfl
  | succ d ih =>
    intro k i hi hk
    obtain ⟨k, rfl⟩ : ∃ m, k = m + 1 := ⟨k - 1, by omega⟩
    have hlt : i < s.size := by omega
    simp only [name_Valid.l0]
    rw [if_pos (by omega), if_pos (by omega), if_pos (by omega), bt_nat s i hlt, right_eq]
    simp only [Option.bind_some]
    rw [drop_all _ _ i (by rw [ub_size]; exact hlt)]
    cases h : okB (ub s)[i]
    · rfl
    · rw [if_pos rfl, w64 (by omega) (by omega)]
      have := ih k (i + 1) (by omega) (by omega)
      rw [show ((i : Int) + 1) = ((i + 1 : Nat) : Int) by omega, this]
      rfl
theorem valid_j0 (s : ByteArray) (b : Bool) (hs : b = false → s.size ≤ 1000) (k : Nat) (hk : 1002 ≤ k) : name_Valid.j0 k s b = some (!b && (ub s).all okB) := by
  obtain ⟨k, rfl⟩ : ∃ m, k = m + 1 := ⟨k - 1, by omega⟩
  simp only [name_Valid.j0]
  cases b
  · have := valid_l0 s (hs rfl) s.size k 0 (by omega) (by have := hs rfl; omega)
    simpa using this
  · rfl
theorem valid_at (s : ByteArray) (k : Nat) (hk : 1002 ≤ k) : name_Valid.f k s = some (valid (ub s)) := by
  simp only [name_Valid.f, tl]
  unfold valid
  by_cases h1 : ub s = []
  · rw [if_pos h1, valid_j0 s _ (fun h => by cases h) k hk]; simp [h1]
  · have hl : 1 ≤ (ub s).length := by
      cases h : ub s with
      | nil => exact absurd h h1
      | cons a b => simp
    rw [if_neg h1]
    by_cases h2 : (s.size : Int) > 16
    · rw [if_pos h2, valid_j0 s _ (fun h => by cases h) k hk]
      have : ¬ (ub s).length ≤ 16 := by rw [ub_size]; omega
      simp [this]
    · rw [if_neg h2]
      have h2' : (ub s).length ≤ 16 := by rw [ub_size]; omega
      by_cases h3 : ub s = [46]
      · rw [if_pos h3, valid_j0 s _ (fun h => by cases h) k hk]; simp [h3]
      · rw [if_neg h3, valid_j0 s _ (fun _ => by omega) k hk]
        have h3' : (ub s == [46]) = false := by simpa using h3
        simp [hl, h2', h3']

theorem ok_letter (c : UInt8) : okB c = (letB c || (decide (48 ≤ c.toNat) && decide (c.toNat ≤ 57)) || decide (c.toNat = 46) || decide (c.toNat = 95) || decide (c.toNat = 45) || decide (c.toNat = 126)) := by
  have h : ∀ n : Fin 256, okB (UInt8.ofNat n.val) = (letB (UInt8.ofNat n.val) || (decide (48 ≤ (UInt8.ofNat n.val).toNat) && decide ((UInt8.ofNat n.val).toNat ≤ 57)) || decide ((UInt8.ofNat n.val).toNat = 46) || decide ((UInt8.ofNat n.val).toNat = 95) || decide ((UInt8.ofNat n.val).toNat = 45) || decide ((UInt8.ofNat n.val).toNat = 126)) := by decide +kernel
  have := h ⟨c.toNat, c.toNat_lt⟩
  simpa using this
theorem rvalid_l0 (s : ByteArray) (hs : s.size ≤ 1000) (d : Nat) : ∀ (k i : Nat), i + d = s.size → d < k → burgageref01_Valid.l0 k s (i : Int) = some (((ub s).drop i).all okB) := by
  induction d with
  | zero =>
    intro k i hi hk
    obtain ⟨k, rfl⟩ : ∃ m, k = m + 1 := ⟨k - 1, by omega⟩
    simp only [burgageref01_Valid.l0]
    rw [if_neg (by omega), List.drop_of_length_le (by rw [ub_size]; omega)]
    rfl
  | succ d ih =>
    intro k i hi hk
    obtain ⟨k, rfl⟩ : ∃ m, k = m + 1 := ⟨k - 1, by omega⟩
    have hlt : i < s.size := by omega
    have h2 := ih k (i + 1) (by omega) (by omega)
    rw [drop_all _ _ i (by rw [ub_size]; exact hlt)]
    simp only [burgageref01_Valid.l0]
    rw [if_pos (by omega), if_pos (by omega), bt_nat s i hlt, letter_eq, w64 (by omega) (by omega), show ((i : Int) + 1) = ((i + 1 : Nat) : Int) by omega, h2]
    simp only [Option.bind_some]
    generalize (ub s)[i]'(by rw [ub_size]; exact hlt) = c
    rw [ok_letter]
    generalize (List.drop (i + 1) (ub s)).all okB = r
    cases hl : letB c
    · simp only [Bool.false_eq_true, if_false, Bool.false_or]
      by_cases a1 : ((c.toNat : Int)) < 48
      · rw [if_pos a1]
        by_cases a2 : (c.toNat : Int) = 46
        · have : c.toNat = 46 := by omega
          simp [this]
        · rw [if_neg a2]
          by_cases a3 : (c.toNat : Int) = 95
          · omega
          · rw [if_neg a3]
            by_cases a4 : (c.toNat : Int) = 45
            · have : c.toNat = 45 := by omega
              simp [this]
            · rw [if_neg a4]
              by_cases a5 : (c.toNat : Int) = 126
              · omega
              · rw [if_neg a5]
                have e1 : ¬ 48 ≤ c.toNat := by omega
                have e2 : ¬ c.toNat = 46 := by omega
                have e3 : ¬ c.toNat = 95 := by omega
                have e4 : ¬ c.toNat = 45 := by omega
                have e5 : ¬ c.toNat = 126 := by omega
                simp [e1, e2, e3, e4, e5]
      · rw [if_neg a1]
        by_cases a6 : ((c.toNat : Int)) > 57
        · rw [if_pos a6]
          have e1 : ¬ c.toNat ≤ 57 := by omega
          by_cases a2 : (c.toNat : Int) = 46
          · omega
          · rw [if_neg a2]
            by_cases a3 : (c.toNat : Int) = 95
            · have : c.toNat = 95 := by omega
              simp [this]
            · rw [if_neg a3]
              by_cases a4 : (c.toNat : Int) = 45
              · omega
              · rw [if_neg a4]
                by_cases a5 : (c.toNat : Int) = 126
                · have : c.toNat = 126 := by omega
                  simp [this]
                · rw [if_neg a5]
                  have e2 : ¬ c.toNat = 46 := by omega
                  have e3 : ¬ c.toNat = 95 := by omega
                  have e4 : ¬ c.toNat = 45 := by omega
                  have e5 : ¬ c.toNat = 126 := by omega
                  simp [e1, e2, e3, e4, e5]
        · rw [if_neg a6]
          have e0 : 48 ≤ c.toNat := by omega
          have e1 : c.toNat ≤ 57 := by omega
          simp [e0, e1]
    · simp
theorem rvalid_j0 (s : ByteArray) (hs : s.size ≤ 1000) (b : Bool) (k : Nat) (hk : 1002 ≤ k) : burgageref01_Valid.j0 k s b = some (!b && (ub s).all okB) := by
  obtain ⟨k, rfl⟩ : ∃ m, k = m + 1 := ⟨k - 1, by omega⟩
  simp only [burgageref01_Valid.j0]
  cases b
  · have := rvalid_l0 s hs s.size k 0 (by omega) (by omega)
    simpa using this
  · rfl
theorem rvalid_at (s : ByteArray) (hs : s.size ≤ 1000) (k : Nat) (hk : 1002 ≤ k) : burgageref01_Valid.f k s = some (valid (ub s)) := by
  simp only [burgageref01_Valid.f, tl]
  unfold valid
  by_cases h1 : (s.size : Int) < 1
  · rw [if_pos h1, rvalid_j0 s hs _ k hk]
    have : ¬ 1 ≤ (ub s).length := by rw [ub_size]; omega
    simp [this]
  · have hl : 1 ≤ (ub s).length := by rw [ub_size]; omega
    rw [if_neg h1]
    by_cases h2 : (s.size : Int) > 16
    · rw [if_pos h2, rvalid_j0 s hs _ k hk]
      have : ¬ (ub s).length ≤ 16 := by rw [ub_size]; omega
      simp [this]
    · rw [if_neg h2]
      have h2' : (ub s).length ≤ 16 := by rw [ub_size]; omega
      by_cases h3 : ub s = [46]
      · rw [if_pos h3, rvalid_j0 s hs _ k hk]; simp [h3]
      · rw [if_neg h3, rvalid_j0 s hs _ k hk]
        have h3' : (ub s == [46]) = false := by simpa using h3
        simp [hl, h2', h3']

/-! parts -/
theorem ub_one (s : ByteArray) (i : Nat) (h : i < s.size) : ub (s.extract i (i + 1)) = [(ub s)[i]'(by rw [ub_size]; exact h)] := by
  rw [ub_extract, List.drop_take, show i + 1 - i = 1 by omega]
  rw [List.drop_eq_getElem_cons (by rw [ub_size]; exact h)]
  rfl
theorem toNat47 (c : UInt8) : ((c.toNat : Int) = 47) ↔ c = 47 := by
  constructor
  · intro h
    have : c.toNat = 47 := by omega
    exact UInt8.toNat_inj.1 (by rw [this]; rfl)
  · intro h; subst h; rfl
theorem cut_l0 (s : ByteArray) (hs : s.size ≤ 1000) (d : Nat) : ∀ (k i : Nat) (acc : List ByteArray) (last : ByteArray), i + d = s.size → d < k → acc.length ≤ i → last.size ≤ i →
    burgageref01_Cut.l0 k s acc last (i : Int) = some (acc ++ (cutGo (ub last) ((ub s).drop i)).map bx) := by
  induction d with
  | zero =>
    intro k i acc last hi hk ha hl
    obtain ⟨k, rfl⟩ : ∃ m, k = m + 1 := ⟨k - 1, by omega⟩
    simp only [burgageref01_Cut.l0]
    rw [if_neg (by omega), List.drop_of_length_le (by rw [ub_size]; omega), if_pos (by omega)]
    simp [cutGo, bx_ub]
  | succ d ih =>
    intro k i acc last hi hk ha hl
    obtain ⟨k, rfl⟩ : ∃ m, k = m + 1 := ⟨k - 1, by omega⟩
    have hlt : i < s.size := by omega
    have hi1 : i < (ub s).length := by rw [ub_size]; exact hlt
    simp only [burgageref01_Cut.l0]
    rw [if_pos (by omega), if_pos (by omega), bt_nat s i hlt, w64 (by omega) (by omega), show ((i : Int) + 1) = ((i + 1 : Nat) : Int) by omega, List.drop_eq_getElem_cons hi1]
    by_cases hc : (ub s)[i] = 47
    · rw [if_pos ((toNat47 _).2 hc), if_pos (by omega)]
      have := ih k (i + 1) (acc ++ [last]) ⟨#[]⟩ (by omega) (by omega) (by simp; omega) (by show 0 ≤ _; omega)
      rw [this]
      simp only [cutGo, hc, if_true, List.map_cons, bx_ub, ub_emp, List.append_assoc, List.singleton_append]
    · rw [if_neg (fun h => hc ((toNat47 _).1 h)), if_pos (by omega), if_pos (by omega), Int.toNat_natCast, Int.toNat_natCast]
      have e : (s.extract i (i + 1)).size = 1 := by rw [size_ext]; omega
      rw [if_pos (by rw [e]; omega)]
      have := ih k (i + 1) acc (last ++ s.extract i (i + 1)) (by omega) (by omega) (by omega) (by rw [size_app, e]; omega)
      rw [this]
      simp only [cutGo, hc, if_false, ub_app, ub_one s i hlt]
theorem cut_at (s : ByteArray) (hs : s.size ≤ 1000) (k : Nat) (hk : 1002 ≤ k) : burgageref01_Cut.f k s = some (cutB s) := by
  simp only [burgageref01_Cut.f, tl, Option.bind_some]
  by_cases h : ub s = []
  · rw [if_pos h, cutB_nil s h]
  · rw [if_neg h]
    have := cut_l0 s hs s.size k 0 [] ⟨#[]⟩ (by omega) (by omega) (by simp) (by show 0 ≤ 0; omega)
    simp only [Int.natCast_zero, List.nil_append, List.drop_zero, ub_emp] at this
    rw [this]
    unfold cutB cut
    rw [if_neg h]

theorem cutGo_size (l : Bs) : ∀ last x, x ∈ cutGo last l → x.length ≤ last.length + l.length := by
  induction l with
  | nil => intro last x h; simp [cutGo] at h; subst h; simp
  | cons c r ih =>
    intro last x h
    unfold cutGo at h
    split at h
    · rcases List.mem_cons.1 h with rfl | h
      · omega
      · have := ih _ _ h; simp at this ⊢; omega
    · have := ih _ _ h; simp at this ⊢; omega
theorem cutGo_len (l : Bs) : ∀ last, 1 ≤ (cutGo last l).length ∧ (cutGo last l).length ≤ l.length + 1 := by
  induction l with
  | nil => intro last; simp [cutGo]
  | cons c r ih =>
    intro last
    unfold cutGo
    split
    · have := ih []; simp; omega
    · have := ih (last ++ [c]); simp; omega
theorem cut_len (l : Bs) : (cut l).length ≤ l.length + 1 := by
  unfold cut; split
  · simp
  · exact (cutGo_len l []).2
theorem cut_size (l : Bs) : ∀ x ∈ cut l, x.length ≤ l.length := by
  intro x hx
  unfold cut at hx
  split at hx
  · cases hx
  · simpa using cutGo_size l [] x hx
theorem cutB_len (s : ByteArray) : (cutB s).length ≤ s.size + 1 := by
  have := cut_len (ub s); rw [ub_size] at this; simpa [cutB] using this
theorem cutB_size (s : ByteArray) : ∀ x ∈ cutB s, x.size ≤ s.size := by
  intro x hx
  simp only [cutB, List.mem_map] at hx
  obtain ⟨y, hy, rfl⟩ := hx
  have := cut_size _ y hy
  rw [ub_size] at this
  rw [← ub_size, ub_bx]; exact this
theorem cutB_map (s : ByteArray) : (cutB s).map ub = cut (ub s) := by
  unfold cutB; rw [List.map_map]; simp [Function.comp_def, ub_bx]
theorem cutB_length (s : ByteArray) : (cutB s).length = (cut (ub s)).length := by simp [cutB]
theorem cutB_all (s : ByteArray) (p : Bs → Bool) : (cutB s).all (fun x => p (ub x)) = (cut (ub s)).all p := by
  rw [← cutB_map, List.all_map]; rfl

theorem isPath_l0 (xs : List ByteArray) (hx : ∀ x ∈ xs, x.size ≤ 1000) (hl : xs.length ≤ 1001) (d : Nat) : ∀ (k i : Nat), i + d = xs.length → 1002 + d < k →
    burgageref01_IsPath.l0 k xs (i : Int) = some ((xs.drop i).all (fun x => valid (ub x)) && decide (xs.length ≤ 8)) := by
  induction d with
  | zero =>
    intro k i hi hk
    obtain ⟨k, rfl⟩ : ∃ m, k = m + 1 := ⟨k - 1, by omega⟩
    simp only [burgageref01_IsPath.l0]
    rw [if_neg (by omega), List.drop_of_length_le (by omega)]
    simp only [List.all_nil, Bool.true_and]
    congr 1
    exact decide_eq_decide.2 (by omega)
  | succ d ih =>
    intro k i hi hk
    obtain ⟨k, rfl⟩ : ∃ m, k = m + 1 := ⟨k - 1, by omega⟩
    have hlt : i < xs.length := by omega
    have e : rdOf ByteArray.empty xs (i : Int) = xs[i] := by simp [rdOf, hlt]
    simp only [burgageref01_IsPath.l0]
    have hv := rvalid_at _ (hx _ (List.getElem_mem hlt)) k (by omega)
    rw [if_pos (by omega), if_pos (by omega), e, hv]
    simp only [Option.bind_some]
    rw [List.drop_eq_getElem_cons hlt]
    simp only [List.all_cons]
    cases valid (ub xs[i])
    · rfl
    · rw [if_pos rfl, w64 (by omega) (by omega), show ((i : Int) + 1) = ((i + 1 : Nat) : Int) by omega, ih k (i + 1) (by omega) (by omega)]
      rfl

theorem isPath_at (s : ByteArray) (hs : s.size ≤ 1000) (k : Nat) (hk : 3000 ≤ k) : burgageref01_IsPath.f k s = some (isPath (ub s)) := by
  simp only [burgageref01_IsPath.f]
  rw [cut_at s hs k (by omega)]
  simp only [Option.bind_some]
  have hl := cutB_len s
  have := isPath_l0 (cutB s) (fun x hx => by have := cutB_size s x hx; omega) (by omega) (cutB s).length k 0 (by omega) (by omega)
  simp only [Int.natCast_zero, List.drop_zero] at this
  rw [this, cutB_all, cutB_length]
  rfl
/-- Parts, PartsOf -/
def partsB (s : ByteArray) : List ByteArray × Int := if isPath (ub s) then (cutB s, 0) else ([], 10)
theorem partsOf_at (s : ByteArray) (hs : s.size ≤ 1000) (k : Nat) (hk : 3000 ≤ k) : burgageref01_PartsOf.f k s = some (partsB s) := by
  simp only [burgageref01_PartsOf.f]
  rw [isPath_at s hs k hk]
  simp only [Option.bind_some, partsB]
  cases isPath (ub s)
  · rfl
  · rw [if_pos rfl, cut_at s hs k (by omega)]; rfl
theorem ub_tail (s : ByteArray) (c : UInt8) (r : Bs) (h : ub s = c :: r) : ub (s.extract 1 s.size) = r := by
  rw [ub_extract, List.take_of_length_le (by rw [ub_size]; omega), h]; rfl
theorem prefix_take (a b : Bs) : (b.isPrefixOf a) = (decide (b.length ≤ a.length) && (a.take b.length == b)) := by
  rw [Bool.eq_iff_iff]
  simp only [List.isPrefixOf_iff_prefix, Bool.and_eq_true, decide_eq_true_eq, beq_iff_eq]
  constructor
  · intro h
    exact ⟨h.length_le, (List.prefix_iff_eq_take.1 h).symm⟩
  · intro ⟨_, h⟩
    exact List.prefix_iff_eq_take.2 h.symm
theorem begins_at (a b : ByteArray) : burgageref01_Begins.f a b = some ((ub b).isPrefixOf (ub a)) := by
  simp only [burgageref01_Begins.f, prefix_take, ub_size, tl]
  by_cases h : b.size ≤ a.size
  · rw [if_pos (by omega), if_pos (by omega), if_pos (by omega), ub_extract, Int.toNat_natCast]
    simp [h]
  · rw [if_neg (by omega)]
    simp [h]
theorem belowR_at (a b : ByteArray) (hb : b.size ≤ 1000) : burgageref01_Below.f a b = some (below (ub a) (ub b)) := by
  simp only [burgageref01_Below.f, tl, below]
  by_cases h1 : ub a = ub b
  · rw [if_pos h1]; simp [h1]
  · rw [if_neg h1]
    by_cases h2 : ub b = []
    · rw [if_pos h2]; simp [h2]
    · rw [if_neg h2, if_pos (by omega), begins_at, ub_app, ub_slash]
      simp [h1, h2]
theorem below_size (a b : Bs) (h : below a b = true) (h1 : ¬ a = b) (h2 : ¬ b = []) : b.length + 1 ≤ a.length ∧ a.take (b.length + 1) = b ++ [47] := by
  simp only [below, h1, h2, decide_false, Bool.false_or, prefix_take, Bool.and_eq_true, decide_eq_true_eq, beq_iff_eq, List.length_append, List.length_singleton] at h
  exact h
theorem rest_at (a b : ByteArray) (hb : b.size ≤ 1000) : name_rest.f a b = some (if ub b = [] then (a, true) else if (ub b ++ [47]).isPrefixOf (ub a) then (a.extract (b.size + 1) a.size, true) else (a, false)) := by
  simp only [name_rest.f, tl]
  by_cases h1 : ub b = []
  · rw [if_pos h1, if_pos h1]
  · rw [if_neg h1, if_neg h1, if_pos (by omega)]
    have hz : (b ++ (⟨#[47]⟩ : ByteArray)).size = b.size + 1 := size_app _ _
    simp only [strings_CutPrefix.f, stringslite_CutPrefix.f, stringslite_HasPrefix.f, tl, hz, prefix_take, ub_size, List.length_append, List.length_singleton, ub_extract]
    by_cases h : b.size + 1 ≤ a.size
    · rw [if_pos (by omega), if_pos (by omega), if_pos (by omega)]
      simp only [Option.bind_some, ub_app, ub_slash, List.drop_zero, h, decide_true, Bool.true_and, Int.toNat_natCast]
      cases hp : ((ub a).take (b.size + 1) == ub b ++ [47])
      · rfl
      · rw [if_pos rfl, if_pos (by omega), if_pos (by omega)]
        rfl
    · rw [if_neg (by omega)]
      simp [h]
theorem belowP_at (a b : ByteArray) (hb : b.size ≤ 1000) : name_Below.f a b = some (below (ub a) (ub b)) := by
  simp only [name_Below.f, rest_at a b hb, Option.bind_some, below, tl]
  by_cases h1 : ub b = []
  · simp [h1]
  · rw [if_neg h1]
    cases h : (ub b ++ [47]).isPrefixOf (ub a)
    · rw [Bool.eq_iff_iff.2 (show (ub a == ub b) = true ↔ decide (ub a = ub b) = true by simp)]
      simp [h1]
    · simp [h1]
theorem bx_size (l : Bs) : (bx l).size = l.length := by rw [← ub_size, ub_bx]
theorem bx_app (a b : Bs) : bx a ++ bx b = bx (a ++ b) := by apply ub_inj; rw [ub_app, ub_bx, ub_bx, ub_bx]
end Go.Proofs.Ytfmeababiedamaa.E

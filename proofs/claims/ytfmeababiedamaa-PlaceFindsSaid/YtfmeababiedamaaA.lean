/- The simple functions of the place seat in plain Lean, and what the printed functions come to. -/
import Derived.Test.YtfmeababiedamaaE
import Derived.Test.YtfmeababiedamaaG
namespace Go.Proofs.Ytfmeababiedamaa.A
open Go.RowKit Go.Proofs.YtfmeababiedamaaW.PrintWords Go.Proofs.YtfmeababiedamaaW.PrintLast Go.Proofs.YtfmeababiedamaaW.PrintMore
open Go.Proofs.Ytfmeababiedamaa.M Go.Proofs.Ytfmeababiedamaa.Sp Go.Proofs.Ytfmeababiedamaa.E Go.Proofs.Ytfmeababiedamaa.G
set_option linter.unusedVariables false
set_option linter.unusedSimpArgs false

abbrev Pt := S32
instance : DecidableEq S32 := fun a b => by
  rcases a with ⟨a0, a1, a2, a3⟩; rcases b with ⟨b0, b1, b2, b3⟩
  exact decidable_of_iff (a0 = b0 ∧ a1 = b1 ∧ a2 = b2 ∧ a3 = b3) (by simp)
/-- lists that are not too long, of texts that are not too long -/
def Small (l : List S32) : Prop := l.length ≤ 1000 ∧ ∀ x ∈ l, x.f0.size ≤ 1000
instance (l : List S32) : Decidable (Small l) := by unfold Small; infer_instance

theorem rd_at (l : List S32) (i : Nat) (h : i < l.length) : rd_T32 l (i : Int) = l[i] := by simp [rd_T32, List.getD_eq_getElem?_getD, List.getElem?_eq_getElem h]

/-- the last part that a path is in -/
def lastB (s : Bs) : List S32 → Nat → Nat → Nat
  | [], _, b => b
  | x :: r, i, b => lastB s r (i + 1) (if below s (ub x.f0) then i else b)
def idxL (l : List S32) (s : ByteArray) : Nat := lastB (ub s) l 0 0
theorem lastB_lt (s : Bs) : ∀ (l : List S32) (i b n : Nat), i + l.length = n → b < n → lastB s l i b < n
  | [], i, b, n, _, h => h
  | x :: r, i, b, n, hn, h => by
    simp only [List.length_cons] at hn
    unfold lastB
    exact lastB_lt s r (i + 1) _ n (by omega) (by split <;> omega)
theorem idxL_lt (l : List S32) (s : ByteArray) (h : 0 < l.length) : idxL l s < l.length := lastB_lt _ l 0 0 _ (by omega) h
theorem index_l0 (l : List S32) (s : ByteArray) (hl : Small l) (d : Nat) : ∀ (k i b : Nat), i + d = l.length → d < k →
    place_index.l0 k s (b : Int) l (l.length : Int) (i : Int) = some ((lastB (ub s) (l.drop i) i b : Nat) : Int) := by
  have h1 := hl.1
  induction d with
  | zero =>
    intro k i b hi hk
    obtain ⟨k, rfl⟩ : ∃ m, k = m + 1 := ⟨k - 1, by omega⟩
    simp only [place_index.l0]
    rw [if_neg (by omega), List.drop_of_length_le (by omega)]
    rfl
  | succ d ih =>
    intro k i b hi hk
    obtain ⟨k, rfl⟩ : ∃ m, k = m + 1 := ⟨k - 1, by omega⟩
    have hlt : i < l.length := by omega
    simp only [place_index.l0]
    rw [if_pos (by omega), if_pos (by omega), if_pos (by omega), rd_at l i hlt, belowP_at s _ (hl.2 _ (List.getElem_mem hlt)), List.drop_eq_getElem_cons hlt]
    simp only [Option.bind_some, lastB]
    rw [w64 (by omega) (by omega), show ((i : Int) + 1) = ((i + 1 : Nat) : Int) by omega]
    cases below (ub s) (ub l[i].f0)
    · rw [if_neg (by decide)]; exact ih k (i + 1) b (by omega) (by omega)
    · rw [if_pos rfl]; exact ih k (i + 1) i (by omega) (by omega)
theorem index_at (l : List S32) (s : ByteArray) (hl : Small l) (k : Nat) (hk : 1001 ≤ k) : place_index.f k l s = some (idxL l s : Int) := by
  have h1 := hl.1
  have := index_l0 l s hl l.length k 0 0 (by omega) (by omega)
  simp only [Int.natCast_zero, List.drop_zero] at this
  exact this

/-- the longest part that a path is in -/
def lastR (s : Bs) (l : List S32) : List S32 → Nat → Nat → Nat
  | [], _, b => b
  | x :: r, i, b => lastR s l r (i + 1) (if below s (ub x.f0) && decide ((rd_T32 l (b : Int)).f0.size ≤ x.f0.size) then i else b)
def idxR (l : List S32) (s : ByteArray) : Nat := lastR (ub s) l l 0 0
theorem lastR_lt (s : Bs) (l0 : List S32) : ∀ (l : List S32) (i b n : Nat), i + l.length = n → b < n → lastR s l0 l i b < n
  | [], i, b, n, _, h => h
  | x :: r, i, b, n, hn, h => by
    simp only [List.length_cons] at hn
    unfold lastR
    exact lastR_lt s l0 r (i + 1) _ n (by omega) (by split <;> omega)
theorem idxR_lt (l : List S32) (s : ByteArray) (h : 0 < l.length) : idxR l s < l.length := lastR_lt _ l l 0 0 _ (by omega) h
theorem rindex_l0 (l : List S32) (s : ByteArray) (hl : Small l) (d : Nat) : ∀ (k i b : Nat), i + d = l.length → d < k → b < l.length →
    burgageref24_Index.l0 k s (b : Int) (i : Int) l = some ((lastR (ub s) l (l.drop i) i b : Nat) : Int) := by
  have h1 := hl.1
  induction d with
  | zero =>
    intro k i b hi hk hb
    obtain ⟨k, rfl⟩ : ∃ m, k = m + 1 := ⟨k - 1, by omega⟩
    simp only [burgageref24_Index.l0]
    rw [if_neg (by omega), List.drop_of_length_le (by omega)]
    rfl
  | succ d ih =>
    intro k i b hi hk hb
    obtain ⟨k, rfl⟩ : ∃ m, k = m + 1 := ⟨k - 1, by omega⟩
    have hlt : i < l.length := by omega
    simp only [burgageref24_Index.l0]
    rw [if_pos (by omega), if_pos (by omega), rd_at l i hlt, belowR_at s _ (hl.2 _ (List.getElem_mem hlt)), List.drop_eq_getElem_cons hlt]
    simp only [Option.bind_some, lastR]
    rw [w64 (by omega) (by omega), show ((i : Int) + 1) = ((i + 1 : Nat) : Int) by omega]
    cases below (ub s) (ub l[i].f0)
    · rw [if_neg (by decide)]
      simp only [Bool.false_and]
      exact ih k (i + 1) b (by omega) (by omega) hb
    · rw [if_pos rfl, if_pos (by omega), if_pos (by omega)]
      simp only [Bool.true_and]
      by_cases h : (rd_T32 l (b : Int)).f0.size ≤ l[i].f0.size
      · rw [if_pos (by omega), decide_eq_true h]; exact ih k (i + 1) i (by omega) (by omega) hlt
      · rw [if_neg (by omega), decide_eq_false h]; exact ih k (i + 1) b (by omega) (by omega) hb
theorem rindex_at (l : List S32) (s : ByteArray) (hl : Small l) (h0 : 0 < l.length) (k : Nat) (hk : 1001 ≤ k) : burgageref24_Index.f k l s = some (idxR l s : Int) := by
  have h1 := hl.1
  have := rindex_l0 l s hl l.length k 0 0 (by omega) (by omega) h0
  simp only [Int.natCast_zero, List.drop_zero] at this
  exact this

theorem exact_l0 (l : List S32) (s : ByteArray) (hl : l.length ≤ 1000) (d : Nat) : ∀ (k i : Nat), i + d = l.length → d < k →
    burgageref24_exact.l0 k s (i : Int) l = some (idxP (fun x => x.f0.toList == s.toList) (l.drop i) i) := by
  induction d with
  | zero =>
    intro k i hi hk
    obtain ⟨k, rfl⟩ : ∃ m, k = m + 1 := ⟨k - 1, by omega⟩
    simp only [burgageref24_exact.l0]
    rw [if_neg (by omega), List.drop_of_length_le (by omega)]
    rfl
  | succ d ih =>
    intro k i hi hk
    obtain ⟨k, rfl⟩ : ∃ m, k = m + 1 := ⟨k - 1, by omega⟩
    have hlt : i < l.length := by omega
    simp only [burgageref24_exact.l0]
    rw [if_pos (by omega), if_pos (by omega), rd_at l i hlt, List.drop_eq_getElem_cons hlt]
    simp only [idxP]
    by_cases h : l[i].f0.toList = s.toList
    · rw [if_pos h, if_pos (by simpa using h)]
    · rw [if_neg h, if_neg (by simpa using h), w64 (by omega) (by omega), show ((i : Int) + 1) = ((i + 1 : Nat) : Int) by omega]
      exact ih k (i + 1) (by omega) (by omega)
/-- where a part with a Path stands, or -1 -/
def exL (l : List S32) (s : ByteArray) : Int := idxP (fun x => x.f0.toList == s.toList) l 0
theorem exact_at (l : List S32) (s : ByteArray) (hl : l.length ≤ 1000) (k : Nat) (hk : 1001 ≤ k) : burgageref24_exact.f k l s = some (exL l s) := by
  have := exact_l0 l s hl l.length k 0 (by omega) (by omega)
  simp only [Int.natCast_zero, List.drop_zero] at this
  exact this

theorem toList_inj {a b : ByteArray} (h : a.toList = b.toList) : a = b := ub_inj (by rw [← tl a, ← tl b, h])
theorem same_l0 (a b : List S32) (hl : a.length = b.length) (hb : a.length ≤ 1000) (d : Nat) : ∀ (k i : Nat), i + d = a.length → d < k →
    burgageref24_Same.l0 k (i : Int) a b = some (decide (a.drop i = b.drop i)) := by
  induction d with
  | zero =>
    intro k i hi hk
    obtain ⟨k, rfl⟩ : ∃ m, k = m + 1 := ⟨k - 1, by omega⟩
    simp only [burgageref24_Same.l0]
    rw [if_neg (by omega), List.drop_of_length_le (by omega), List.drop_of_length_le (by omega)]
    rfl
  | succ d ih =>
    intro k i hi hk
    obtain ⟨k, rfl⟩ : ∃ m, k = m + 1 := ⟨k - 1, by omega⟩
    have hlt : i < a.length := by omega
    have hlt2 : i < b.length := by omega
    simp only [burgageref24_Same.l0]
    rw [if_pos (by omega), if_pos (by omega), if_pos (by omega), rd_at a i hlt, rd_at b i hlt2, List.drop_eq_getElem_cons hlt, List.drop_eq_getElem_cons hlt2]
    by_cases h : a[i] = b[i]
    · rw [if_neg (by rw [h]; simp), w64 (by omega) (by omega), show ((i : Int) + 1) = ((i + 1 : Nat) : Int) by omega, ih k (i + 1) (by omega) (by omega)]
      congr 1
      exact decide_eq_decide.2 (by rw [h]; simp only [List.cons.injEq, true_and])
    · rw [if_pos ?_]
      · congr 1
        exact (decide_eq_false (by intro e; exact h (List.cons.inj e).1)).symm
      · simp only [Bool.or_eq_true, Bool.not_eq_true', beq_eq_false_iff_ne, ne_eq]
        by_cases h0 : a[i].f0.toList = b[i].f0.toList
        · by_cases h1 : a[i].f1 = b[i].f1
          · by_cases h2 : a[i].f2 = b[i].f2
            · by_cases h3 : a[i].f3 = b[i].f3
              · exfalso; apply h
                cases ha : a[i]; cases hb' : b[i]
                rw [ha, hb'] at h0 h1 h2 h3
                simp only at h0 h1 h2 h3
                rw [toList_inj h0, h1, h2, h3]
              · exact .inr (.inr (.inr h3))
            · exact .inr (.inr (.inl h2))
          · exact .inr (.inl h1)
        · exact .inl h0
theorem same_at (a b : List S32) (hb : a.length ≤ 1000) (k : Nat) (hk : 1001 ≤ k) : burgageref24_Same.f k a b = some (decide (a = b)) := by
  simp only [burgageref24_Same.f]
  by_cases h : a.length = b.length
  · rw [if_pos (by omega)]
    have := same_l0 a b h hb a.length k 0 (by omega) (by omega)
    simpa using this
  · rw [if_neg (by omega)]
    congr 1
    exact (decide_eq_false (by intro e; exact h (by rw [e]))).symm
theorem rpath_at (s : ByteArray) (hs : s.size ≤ 1000) (k : Nat) (hk : 3000 ≤ k) : burgageref24_path.f k s = some (isPath (ub s)) := by
  simp only [burgageref24_path.f, burgageref01_Parts.f, partsOf_at s hs k hk, Option.bind_some, partsB]
  cases isPath (ub s) <;> rfl
theorem region_at (n : Int) : place_region.f n = some (decide (0 ≤ n) && decide (n < 8)) := by
  unfold place_region.f
  by_cases h : 0 ≤ n
  · rw [if_pos h, decide_eq_true h]; rfl
  · rw [if_neg h, decide_eq_false h]; rfl
theorem copied_at (l : List S32) (hl : l.length ≤ 1000) : burgageref24_copied.f l = some l := by
  simp only [burgageref24_copied.f, Option.bind_some, List.length_nil, List.nil_append]
  rw [if_pos (by omega)]
theorem law_same_at (a b : List S32) (x y : Int) (hb : a.length ≤ 1000) (k : Nat) (hk : 1001 ≤ k) : burgagelaw24_same.f k a x b y = some (decide (x = y) && decide (a = b)) := by
  simp only [burgagelaw24_same.f, same_at a b hb k hk, Option.bind_some]
  by_cases h : x = y
  · rw [if_pos h, decide_eq_true h]; rfl
  · rw [if_neg h, decide_eq_false h]; rfl
end Go.Proofs.Ytfmeababiedamaa.A

/- Laws of the plain functions: cutting at the first sign /. -/
import Derived.Test.YtfmeababiedamaaS
import Derived.Lib.IndexLaws
namespace Go.Proofs.Ytfmeababiedamaa.Sp
set_option linter.unusedVariables false
set_option linter.unusedSimpArgs false

theorem cutGo_pre (last l r : Bs) (h : ∀ c ∈ l, c ≠ 47) : cutGo last (l ++ r) = cutGo (last ++ l) r := by
  induction l generalizing last with
  | nil => simp
  | cons c l ih =>
    have hc : c ≠ 47 := h c (by simp)
    simp only [List.cons_append, cutGo, if_neg hc]
    rw [ih _ (fun d hd => h d (by simp [hd]))]
    simp
theorem cutGo_no (last l : Bs) (h : ∀ c ∈ l, c ≠ 47) : cutGo last l = [last ++ l] := by
  have := cutGo_pre last l [] h
  simpa [cutGo] using this
theorem cutGo_nil (l : Bs) : cutGo [] l = if l = [] then [[]] else cut l := by
  unfold cut
  by_cases h : l = []
  · subst h; simp [cutGo]
  · simp [h]
/-- no sign: one part -/
theorem cut_no (l : Bs) (hl : l ≠ []) (h : Lib.indexByte l 47 < 0) : cut l = [l] := by
  have h1 : Lib.indexByte l 47 = -1 := by have := Lib.indexByte_ge l 47; omega
  have h2 := Lib.indexByte_none h1
  unfold cut
  rw [if_neg hl, cutGo_no]
  · simp
  · intro c hc e
    subst e
    obtain ⟨k, hk⟩ := List.mem_iff_getElem?.1 hc
    exact h2 k hk
/-- the first part, and what is behind the sign -/
theorem cut_yes (l : Bs) (i : Nat) (h : Lib.indexByte l 47 = i) : i < l.length ∧ cut l = l.take i :: (if l.drop (i + 1) = [] then [[]] else cut (l.drop (i + 1))) := by
  obtain ⟨h1, h2⟩ := Lib.indexByte_some h
  have hi : i < l.length := (List.getElem?_eq_some_iff.1 h1).1
  refine ⟨hi, ?_⟩
  have hl : l ≠ [] := by intro e; subst e; simp at hi
  have hsp : l = l.take i ++ 47 :: l.drop (i + 1) := by
    have h3 : l[i] = 47 := by rw [List.getElem?_eq_getElem hi] at h1; simpa using h1
    rw [← h3, List.getElem_cons_drop, List.take_append_drop]
  have hno : ∀ c ∈ l.take i, c ≠ 47 := by
    intro c hc e
    subst e
    obtain ⟨k, hk⟩ := List.mem_iff_getElem?.1 hc
    rw [List.getElem?_take] at hk
    split at hk
    · exact h2 k (by assumption) hk
    · simp at hk
  conv => lhs; unfold cut; rw [if_neg hl, hsp, cutGo_pre _ _ _ hno]
  simp only [cutGo, if_true, List.nil_append]
  rw [cutGo_nil]

def cutB (s : ByteArray) : List ByteArray := (cut (ub s)).map bx
theorem ub_extract (s : ByteArray) (a b : Nat) : ub (s.extract a b) = ((ub s).take b).drop a := by
  simp [ub, ByteArray.data_extract, Array.toList_extract, List.extract_eq_take_drop, List.drop_take]
theorem cutB_nil (s : ByteArray) (h : ub s = []) : cutB s = [] := by simp [cutB, cut, h]
theorem cutB_no (s : ByteArray) (hl : ub s ≠ []) (h : Lib.indexByte s.data.toList 47 < 0) : cutB s = [s] := by
  unfold cutB; rw [cut_no _ hl h]; simp [bx, ub]
theorem cutB_yes (s : ByteArray) (i : Nat) (h : Lib.indexByte s.data.toList 47 = i) : i < s.size ∧ cutB s = s.extract 0 i :: (if ub (s.extract (i + 1) s.size) = [] then [⟨#[]⟩] else cutB (s.extract (i + 1) s.size)) := by
  obtain ⟨h1, h2⟩ := cut_yes (ub s) i h
  rw [ub_size] at h1
  refine ⟨h1, ?_⟩
  have e1 : ub (s.extract (i + 1) s.size) = (ub s).drop (i + 1) := by
    rw [ub_extract, List.take_of_length_le (by rw [ub_size]; omega)]
  have e2 : bx ((ub s).take i) = s.extract 0 i := by
    rw [← bx_ub (s.extract 0 i), ub_extract]; simp
  unfold cutB
  rw [h2, e1]
  split
  · simp [e2]; rfl
  · simp [e2]
end Go.Proofs.Ytfmeababiedamaa.Sp

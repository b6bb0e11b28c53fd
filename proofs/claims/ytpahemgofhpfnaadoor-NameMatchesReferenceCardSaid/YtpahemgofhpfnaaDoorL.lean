/- The plain laws of the statements: no Go and no memory. -/
import Derived.Test.YtpahemgofhpfnaaDoorK
namespace Go.Proofs.YtpahemgofhpfnaaDoor.L
open Go.Proofs.YtpahemgofhpfnaaDoor Go.Proofs.YtpahemgofhpfnaaDoor.E Go.Proofs.YtpahemgofhpfnaaDoor.F Go.Proofs.YtpahemgofhpfnaaDoor.Sp Go.Proofs.YtpahemgofhpfnaaDoor.K
set_option linter.unusedVariables false
set_option linter.unusedSimpArgs false

/-- each word is a name -/
theorem word_valid (n : Nat) : valid (word n) = true := by
  have h : ∀ m : Fin 8, valid (word m.val) = true := by decide +kernel
  have := h ⟨n % 8, by omega⟩
  unfold word at this ⊢
  rwa [Nat.mod_mod] at this
theorem valid_pos (l : Bs) (h : valid l = true) : 1 ≤ l.length ∧ l.length ≤ 16 ∧ l.all okB = true := by
  unfold valid at h
  simp only [Bool.and_eq_true, decide_eq_true_eq] at h
  exact ⟨h.1.1.1.1, h.1.1.1.2, h.2⟩
theorem okB_slash (c : UInt8) (h : okB c = true) : c ≠ 47 := by
  intro e; subst e; exact absurd h (by decide)
theorem valid_noslash (l : Bs) (h : valid l = true) : ∀ c ∈ l, c ≠ 47 := by
  intro c hc
  exact okB_slash c (List.all_eq_true.1 (valid_pos l h).2.2 c hc)
/-- what is glued of names -/
theorem cutGo_glue (x : Bs) (r : List Bs) (h : ∀ y ∈ x :: r, valid y = true) : cutGo [] (glue (x :: r)) = x :: r := by
  induction r generalizing x with
  | nil =>
    simp only [glue]
    rw [cutGo_no _ _ (valid_noslash x (h x (by simp)))]; rfl
  | cons y r ih =>
    simp only [glue, List.append_assoc, List.singleton_append]
    rw [cutGo_pre _ _ _ (valid_noslash x (h x (by simp)))]
    simp only [cutGo, if_true, List.nil_append]
    rw [ih y (fun z hz => h z (by simp [hz]))]
theorem glue_ne (x : Bs) (r : List Bs) (h : ∀ y ∈ x :: r, valid y = true) : glue (x :: r) ≠ [] := by
  have hx := (valid_pos x (h x (by simp))).1
  cases r with
  | nil => simp only [glue]; intro e; rw [e] at hx; simp at hx
  | cons y r => simp [glue]
theorem cut_glue (xs : List Bs) (h : ∀ y ∈ xs, valid y = true) : cut (glue xs) = xs := by
  cases xs with
  | nil => rfl
  | cons x r =>
    unfold cut
    rw [if_neg (glue_ne x r h)]
    exact cutGo_glue x r h
theorem long_words (l : List Int) : ∀ y ∈ (l.take 10).map (fun c => word c.toNat), valid y = true := by
  intro y hy
  simp only [List.mem_map] at hy
  obtain ⟨c, _, rfl⟩ := hy
  exact word_valid _
theorem cut_long (l : List Int) : cut (long l) = (l.take 10).map fun c => word c.toNat := cut_glue _ (long_words l)
theorem isPath_long (l : List Int) : isPath (long l) = decide (min 10 l.length ≤ 8) := by
  unfold isPath
  rw [cut_long, List.all_eq_true.2 (long_words l)]
  simp
/-- no path ends with the sign -/
theorem glue_last (xs : List Bs) (h : ∀ y ∈ xs, valid y = true) (r : Bs) : glue xs ≠ r ++ [47] := by
  intro e
  induction xs generalizing r with
  | nil => simp [glue] at e
  | cons x t ih =>
    cases t with
    | nil =>
      simp only [glue] at e
      exact valid_noslash x (h x (by simp)) 47 (by rw [e]; simp) rfl
    | cons y t =>
      simp only [glue] at e
      have hn := glue_ne y t (fun z hz => h z (by simp [hz]))
      rcases List.eq_nil_or_concat (glue (y :: t)) with h0 | ⟨u, c, h0⟩
      · exact hn h0
      · rw [List.concat_eq_append] at h0
        have hc : c = 47 := by
          rw [h0, ← List.append_assoc] at e
          have := List.append_inj_right' e rfl
          simpa using this
        exact ih (fun z hz => h z (by simp [hz])) u (by rw [h0, hc])
theorem long_last (l : List Int) (r : Bs) : long l ≠ r ++ [47] := glue_last _ (long_words l) r

/-! swapping -/
theorem pref_app (a b : Bs) : a.isPrefixOf (a ++ b) = true := by rw [List.isPrefixOf_iff_prefix]; exact List.prefix_append _ _
theorem below_app (t r : Bs) : below (t ++ [47] ++ r) t = true := by
  unfold below; rw [pref_app]; simp
theorem ub_drop (s : ByteArray) (n : Nat) : ub (s.extract n s.size) = (ub s).drop n := by
  rw [ub_extract, List.take_of_length_le (by rw [ub_size]; omega)]
theorem swaps_law (q f t : ByteArray) (hq : ∀ r, ub q ≠ r ++ [47]) :
    (swapB q f t).2 = below (ub q) (ub f) ∧ ((swapB q f t).2 = false → (swapB q f t).1 = q) ∧
    ((swapB q f t).2 = true → below (ub (swapB q f t).1) (ub t) = true ∧ swapB (swapB q f t).1 t f = (q, true)) := by
  by_cases h1 : ub q = ub f
  · have e : swapB q f t = (t, true) := by unfold swapB; rw [if_pos h1]
    rw [e]
    refine ⟨by simp [below, h1], (fun h => by cases h), fun _ => ⟨by simp [below], ?_⟩⟩
    unfold swapB
    rw [if_pos rfl, ub_inj h1]
  · cases hb : below (ub q) (ub f)
    · have e : swapB q f t = (q, false) := by unfold swapB; rw [if_neg h1, hb]; rfl
      rw [e]
      exact ⟨rfl, fun _ => rfl, (fun h => by cases h)⟩
    · -- what is left of q
      obtain ⟨rest, hr, hne, hx⟩ : ∃ rest, (if ub f = [] then ub rest = ub q else ub q = ub f ++ [47] ++ ub rest) ∧ ub rest ≠ [] ∧ swapB q f t = (if ub t = [] then rest else t ++ ⟨#[47]⟩ ++ rest, true) := by
        by_cases h2 : ub f = []
        · refine ⟨q, by rw [if_pos h2], fun h => h1 (by rw [h, h2]), ?_⟩
          unfold swapB
          rw [if_neg h1, if_pos hb, if_pos h2]
          split <;> rfl
        · obtain ⟨hz, hp⟩ := below_size _ _ hb h1 h2
          have hsp : ub q = ub f ++ [47] ++ ub (q.extract (f.size + 1) q.size) := by
            rw [ub_drop, ← ub_size f, ← hp, List.take_append_drop]
          refine ⟨q.extract (f.size + 1) q.size, by rw [if_neg h2]; exact hsp, fun h => hq (ub f) (by rw [hsp, h, List.append_nil]), ?_⟩
          unfold swapB
          rw [if_neg h1, if_pos hb, if_neg h2]
          split <;> rfl
      rw [hx]
      refine ⟨rfl, (fun h => by cases h), fun _ => ?_⟩
      by_cases h3 : ub t = []
      · rw [if_pos h3]
        refine ⟨by simp [below, h3], ?_⟩
        unfold swapB
        rw [if_neg (by rw [h3]; exact hne), if_pos (by simp [below, h3]), if_pos h3]
        by_cases h2 : ub f = []
        · rw [if_pos h2] at hr ⊢
          rw [ub_inj hr]
        · rw [if_neg h2] at hr ⊢
          congr 1
          apply ub_inj
          rw [ub_app, ub_app, hr]; rfl
      · rw [if_neg h3]
        have hu : ub (t ++ ⟨#[47]⟩ ++ rest) = ub t ++ [47] ++ ub rest := by rw [ub_app, ub_app]; rfl
        have hbl : below (ub (t ++ ⟨#[47]⟩ ++ rest)) (ub t) = true := by rw [hu]; exact below_app _ _
        refine ⟨hbl, ?_⟩
        have hdr : ub ((t ++ ⟨#[47]⟩ ++ rest).extract (t.size + 1) (t ++ ⟨#[47]⟩ ++ rest).size) = ub rest := by
          rw [ub_drop, hu, ← ub_size t]
          have : (ub t).length + 1 = (ub t ++ [47]).length := by simp
          rw [this, List.drop_left]
        have hne2 : ub (t ++ ⟨#[47]⟩ ++ rest) ≠ ub t := by
          rw [hu]; intro h
          have := congrArg List.length h
          simp at this
        unfold swapB
        rw [if_neg hne2, if_pos hbl, if_neg h3]
        by_cases h2 : ub f = []
        · rw [if_pos h2] at hr ⊢
          congr 1
          apply ub_inj
          rw [hdr, hr]
        · rw [if_neg h2] at hr ⊢
          congr 1
          apply ub_inj
          rw [ub_app, ub_app, hdr, hr]; rfl
end Go.Proofs.YtpahemgofhpfnaaDoor.L

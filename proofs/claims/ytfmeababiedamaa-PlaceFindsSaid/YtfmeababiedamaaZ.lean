/- Plain laws of paths and parts. -/
import Derived.Test.YtfmeababiedamaaV11
import Derived.Test.YtfmeababiedamaaV13
namespace Go.Proofs.Ytfmeababiedamaa.Z
open Go.RowKit Go.Shelf Go.Proofs.YtfmeababiedamaaW.PrintWords Go.Proofs.YtfmeababiedamaaW.PrintLast Go.Proofs.YtfmeababiedamaaW.PrintMore
open Go.Proofs.Ytfmeababiedamaa Go.Proofs.Ytfmeababiedamaa.M Go.Proofs.Ytfmeababiedamaa.Sp Go.Proofs.Ytfmeababiedamaa.E Go.Proofs.Ytfmeababiedamaa.G Go.Proofs.Ytfmeababiedamaa.A Go.Proofs.Ytfmeababiedamaa.T Go.Proofs.Ytfmeababiedamaa.K Go.Proofs.Ytfmeababiedamaa.X Go.Proofs.Ytfmeababiedamaa.V13 Go.Proofs.Ytfmeababiedamaa.V38 Go.Proofs.Ytfmeababiedamaa.B Go.Proofs.Ytfmeababiedamaa.V11 Go.Proofs.Ytfmeababiedamaa.V36
set_option linter.unusedVariables false
set_option linter.unusedSimpArgs false
theorem valid_pos (l : Bs) (h : valid l = true) : 1 ≤ l.length ∧ l.length ≤ 16 ∧ l.all okB = true := by
  unfold valid at h
  simp only [Bool.and_eq_true, decide_eq_true_eq] at h
  exact ⟨h.1.1.1.1, h.1.1.1.2, h.2⟩
theorem okB_slash (c : UInt8) (h : okB c = true) : c ≠ 47 := by
  intro e; subst e; exact absurd h (by decide)
theorem valid_noslash (l : Bs) (h : valid l = true) : ∀ c ∈ l, c ≠ 47 := by
  intro c hc
  exact okB_slash c (List.all_eq_true.1 (valid_pos l h).2.2 c hc)
/-- what is glued of names -/
theorem cutGo_glue (x : Bs) (r : List Bs) (h : ∀ y ∈ x :: r, valid y = true) : cutGo [] (glue (x :: r)) = x :: r := by
  induction r generalizing x with
  | nil =>
    simp only [glue]
    rw [cutGo_no _ _ (valid_noslash x (h x (by simp)))]; rfl
  | cons y r ih =>
    simp only [glue, List.append_assoc, List.singleton_append]
    rw [cutGo_pre _ _ _ (valid_noslash x (h x (by simp)))]
    simp only [cutGo, if_true, List.nil_append]
    rw [ih y (fun z hz => h z (by simp [hz]))]
theorem glue_ne (x : Bs) (r : List Bs) (h : ∀ y ∈ x :: r, valid y = true) : glue (x :: r) ≠ [] := by
  have hx := (valid_pos x (h x (by simp))).1
  cases r with
  | nil => simp only [glue]; intro e; rw [e] at hx; simp at hx
  | cons y r => simp [glue]
theorem cut_glue (xs : List Bs) (h : ∀ y ∈ xs, valid y = true) : cut (glue xs) = xs := by
  cases xs with
  | nil => rfl
  | cons x r =>
    unfold cut
    rw [if_neg (glue_ne x r h)]
    exact cutGo_glue x r h
/-- no path ends with the sign -/
theorem glue_last (xs : List Bs) (h : ∀ y ∈ xs, valid y = true) (r : Bs) : glue xs ≠ r ++ [47] := by
  intro e
  induction xs generalizing r with
  | nil => simp [glue] at e
  | cons x t ih =>
    cases t with
    | nil =>
      simp only [glue] at e
      exact valid_noslash x (h x (by simp)) 47 (by rw [e]; simp) rfl
    | cons y t =>
      simp only [glue] at e
      have hn := glue_ne y t (fun z hz => h z (by simp [hz]))
      rcases List.eq_nil_or_concat (glue (y :: t)) with h0 | ⟨u, c, h0⟩
      · exact hn h0
      · rw [List.concat_eq_append] at h0
        have hc : c = 47 := by
          rw [h0, ← List.append_assoc] at e
          have := List.append_inj_right' e rfl
          simpa using this
        exact ih (fun z hz => h z (by simp [hz])) u (by rw [h0, hc])
theorem pref_app (a b : Bs) : a.isPrefixOf (a ++ b) = true := by rw [List.isPrefixOf_iff_prefix]; exact List.prefix_append _ _
theorem below_app (t r : Bs) : below (t ++ [47] ++ r) t = true := by
  unfold below; rw [pref_app]; simp
theorem ub_drop (s : ByteArray) (n : Nat) : ub (s.extract n s.size) = (ub s).drop n := by
  rw [ub_extract, List.take_of_length_le (by rw [ub_size]; omega)]
theorem cutGo_ne (l : Bs) : ∀ last, cutGo last l ≠ [] := by
  intro last h
  have := (cutGo_len l last).1
  rw [h] at this; simp at this
theorem glue_cons (x : Bs) (r : List Bs) (h : r ≠ []) : glue (x :: r) = x ++ [47] ++ glue r := by
  cases r with
  | nil => exact absurd rfl h
  | cons y r => rfl
theorem glue_cutGo (l : Bs) : ∀ last, glue (cutGo last l) = last ++ l := by
  induction l with
  | nil => intro last; simp [cutGo, glue]
  | cons c r ih =>
    intro last
    simp only [cutGo]
    split
    · rename_i h
      rw [glue_cons _ _ (cutGo_ne r []), ih, h]; simp
    · rw [ih]; simp
/-- what was cut is glued again -/
theorem glue_cut (l : Bs) : glue (cut l) = l := by
  unfold cut
  split
  · rename_i h; rw [h]; rfl
  · rw [glue_cutGo]; rfl
theorem isPath_iff (l : Bs) : isPath l = true ↔ (∀ y ∈ cut l, valid y = true) ∧ (cut l).length ≤ 8 := by
  unfold isPath
  rw [Bool.and_eq_true, List.all_eq_true, decide_eq_true_eq]
theorem isPath_glue (xs : List Bs) (h : ∀ y ∈ xs, valid y = true) : isPath (glue xs) = decide (xs.length ≤ 8) := by
  unfold isPath
  rw [cut_glue xs h, List.all_eq_true.2 h]; simp
theorem glue_nil (xs : List Bs) (h : ∀ y ∈ xs, valid y = true) : glue xs = [] ↔ xs = [] := by
  constructor
  · intro e
    cases xs with
    | nil => rfl
    | cons x r => exact absurd e (glue_ne x r h)
  · intro e; rw [e]; rfl
theorem glue_app (B C : List Bs) (hB : B ≠ []) (hC : C ≠ []) : glue (B ++ C) = glue B ++ [47] ++ glue C := by
  induction B with
  | nil => exact absurd rfl hB
  | cons x r ih =>
    cases r with
    | nil => rw [List.singleton_append, glue_cons x C hC]; rfl
    | cons y r =>
      rw [List.cons_append, glue_cons _ _ (by simp), glue_cons _ _ (by simp), ih (by simp)]
      simp
theorem cutGo_glue_app (B : List Bs) (hv : ∀ y ∈ B, valid y = true) (hB : B ≠ []) (r : Bs) : cutGo [] (glue B ++ 47 :: r) = B ++ cutGo [] r := by
  induction B with
  | nil => exact absurd rfl hB
  | cons x t ih =>
    cases t with
    | nil =>
      simp only [glue]
      rw [cutGo_pre _ _ _ (valid_noslash x (hv x (by simp)))]
      simp [cutGo]
    | cons y t =>
      rw [glue_cons _ _ (by simp), List.append_assoc, List.append_assoc, cutGo_pre _ _ _ (valid_noslash x (hv x (by simp)))]
      simp only [List.nil_append, List.singleton_append, cutGo, if_true]
      rw [ih (fun z hz => hv z (by simp [hz])) (by simp)]
      simp
/-- a path is below another one if its names begin with the other one's -/
theorem below_glue (A B : List Bs) (hA : ∀ y ∈ A, valid y = true) (hB : ∀ y ∈ B, valid y = true) : below (glue A) (glue B) = true ↔ B <+: A := by
  unfold below
  rw [Bool.or_eq_true, Bool.or_eq_true, decide_eq_true_eq, decide_eq_true_eq, List.isPrefixOf_iff_prefix]
  constructor
  · rintro ((h | h) | ⟨r, h⟩)
    · have := congrArg cut h
      rw [cut_glue A hA, cut_glue B hB] at this
      rw [this]; exact List.prefix_refl _
    · rw [glue_nil B hB] at h
      rw [h]; exact List.nil_prefix
    · by_cases e : B = []
      · rw [e]; exact List.nil_prefix
      · have h2 : cut (glue A) = A := cut_glue A hA
        rw [← h, List.append_assoc, List.singleton_append] at h2
        unfold cut at h2
        rw [if_neg (by simp), cutGo_glue_app B hB e] at h2
        exact ⟨_, h2⟩
  · rintro ⟨C, h⟩
    subst h
    by_cases e : B = []
    · left; right; rw [e]; rfl
    · by_cases e2 : C = []
      · left; left; rw [e2, List.append_nil]
      · right
        rw [glue_app B C e e2]
        exact ⟨glue C, rfl⟩
theorem below_self (p : Bs) : below p p = true := by simp [below]
theorem below_root (p : Bs) : below p [] = true := by simp [below]
/-! paths of numbers -/
theorem pathN_mod (n : Nat) : pathN n = pathN (n % 256) := by
  unfold pathN
  rw [show n % 256 % 4 = n % 4 by omega, show n % 256 / 4 % 4 = n / 4 % 4 by omega, show n % 256 / 16 % 4 = n / 16 % 4 by omega, show n % 256 / 64 % 4 = n / 64 % 4 by omega]
theorem isPath_pathN (n : Nat) : isPath (ub (pathN n)) = true := by
  have h : ∀ m : Fin 256, isPath (ub (pathN m.val)) = true := by decide +kernel
  rw [pathN_mod]
  exact h ⟨n % 256, by omega⟩
/-- what a path is, of its part's Path and what Local returns -/
def whole (r x : ByteArray) : ByteArray := (if r.toList ≠ [] ∧ x.toList ≠ [] then x ++ ⟨#[47]⟩ else x) ++ r
theorem below_iff (p q : Bs) : below p q = true ↔ p = q ∨ q = [] ∨ ∃ r, p = q ++ [47] ++ r := by
  unfold below
  rw [Bool.or_eq_true, Bool.or_eq_true, decide_eq_true_eq, decide_eq_true_eq, List.isPrefixOf_iff_prefix]
  constructor
  · rintro ((h | h) | ⟨r, h⟩)
    · exact .inl h
    · exact .inr (.inl h)
    · exact .inr (.inr ⟨r, h.symm⟩)
  · rintro (h | h | ⟨r, h⟩)
    · exact .inl (.inl h)
    · exact .inl (.inr h)
    · exact .inr ⟨r, h.symm⟩
theorem local_no (p : S32) (s : ByteArray) (hs : isPath (ub s) = true) (hb : below (ub s) (ub p.f0) = false) : localL p s = (⟨#[]⟩, 240) := by
  unfold localL; rw [hs, hb]; rfl
theorem local_yes (p : S32) (s : ByteArray) (hs : isPath (ub s) = true) (hb : below (ub s) (ub p.f0) = true) : (localL p s).2 = 0 ∧ whole (localL p s).1 p.f0 = s := by
  by_cases h1 : p.f0.toList = [] ∨ s.toList = p.f0.toList
  · have e : localL p s = (s.extract p.f0.size s.size, 0) := by unfold localL; rw [hs, hb, if_pos rfl, if_pos rfl, if_pos h1]
    rw [e]
    refine ⟨rfl, ?_⟩
    apply ub_inj
    have er : ub (s.extract p.f0.size s.size) = (ub s).drop (ub p.f0).length := by rw [ub_drop, ub_size]
    rcases h1 with h | h
    · have hx : ub p.f0 = [] := by rw [← tl]; exact h
      unfold whole
      rw [if_neg (fun hc => hc.2 h), ub_app, er, hx]
      rfl
    · have hx : ub s = ub p.f0 := by rw [← tl, ← tl]; exact h
      have hz : ub (s.extract p.f0.size s.size) = [] := by rw [er, hx, List.drop_length]
      unfold whole
      rw [if_neg (fun hc => hc.1 (by rw [tl]; exact hz)), ub_app, hz, hx, List.append_nil]
  · have e : localL p s = (s.extract (p.f0.size + 1) s.size, 0) := by unfold localL; rw [hs, hb, if_pos rfl, if_pos rfl, if_neg h1]
    rw [e]
    refine ⟨rfl, ?_⟩
    rcases (below_iff _ _).1 hb with h | h | ⟨r, h⟩
    · exact absurd (.inr (by rw [tl, tl]; exact h)) h1
    · exact absurd (.inl (by rw [tl]; exact h)) h1
    · have er : ub (s.extract (p.f0.size + 1) s.size) = r := by
        rw [ub_drop, h, ← ub_size]
        simp
      have hr : r ≠ [] := by
        intro e0
        rw [e0, List.append_nil] at h
        have := glue_last (cut (ub s)) ((isPath_iff _).1 hs).1 (ub p.f0)
        rw [glue_cut] at this
        exact this h
      apply ub_inj
      unfold whole
      rw [if_pos ⟨by rw [tl, er]; exact hr, fun hc => h1 (.inl hc)⟩, ub_app, ub_app, er]
      exact h.symm
theorem lastB_below (s : Bs) (l : List S32) : ∀ (r : List S32) (i b : Nat), l.drop i = r → b < l.length → below s (ub (rd_T32 l (b : Int)).f0) = true → below s (ub (rd_T32 l ((lastB s r i b : Nat) : Int)).f0) = true
  | [], i, b, _, _, h => h
  | x :: r, i, b, hd, hb, h => by
    have hi : i < l.length := by
      rcases Nat.lt_or_ge i l.length with h | h
      · exact h
      · rw [List.drop_of_length_le h] at hd; cases hd
    rw [List.drop_eq_getElem_cons hi] at hd
    have hx : l[i] = x := (List.cons.inj hd).1
    unfold lastB
    split
    · rename_i h'
      exact lastB_below s l r (i + 1) i (List.cons.inj hd).2 hi (by rw [rd_at l i hi, hx]; exact h')
    · exact lastB_below s l r (i + 1) b (List.cons.inj hd).2 hb h
theorem idxL_below (l : List S32) (s : ByteArray) (h0 : 0 < l.length) (hr : (rd_T32 l ((0 : Nat) : Int)).f0.toList = []) : below (ub s) (ub (rd_T32 l (idxL l s : Int)).f0) = true :=
  lastB_below (ub s) l l 0 0 rfl h0 (by
    have e : ub (rd_T32 l ((0 : Nat) : Int)).f0 = [] := by rw [← tl]; exact hr
    rw [e]; exact below_root _)
theorem local_size (p : S32) (s : ByteArray) : (localL p s).1.size ≤ s.size := by
  have e : (⟨#[]⟩ : ByteArray).size = 0 := rfl
  unfold localL
  split
  · split
    · split <;> (simp only [ByteArray.size_extract]; omega)
    · show (⟨#[]⟩ : ByteArray).size ≤ _; omega
  · show (⟨#[]⟩ : ByteArray).size ≤ _; omega
end Go.Proofs.Ytfmeababiedamaa.Z

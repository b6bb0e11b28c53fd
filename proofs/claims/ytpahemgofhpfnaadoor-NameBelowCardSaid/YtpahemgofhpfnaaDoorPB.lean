/- The plain law of NameBelow. -/
import Derived.Test.YtpahemgofhpfnaaDoorP
namespace Go.Proofs.YtpahemgofhpfnaaDoor.PB
open Go.Proofs.YtpahemgofhpfnaaDoor Go.Proofs.YtpahemgofhpfnaaDoor.E Go.Proofs.YtpahemgofhpfnaaDoor.F Go.Proofs.YtpahemgofhpfnaaDoor.Sp Go.Proofs.YtpahemgofhpfnaaDoor.K Go.Proofs.YtpahemgofhpfnaaDoor.L Go.Proofs.YtpahemgofhpfnaaDoor.P
set_option linter.unusedVariables false
set_option linter.unusedSimpArgs false

theorem glue_app (B C : List Bs) (hB : B ≠ []) (hC : C ≠ []) : glue (B ++ C) = glue B ++ [47] ++ glue C := by
  induction B with
  | nil => exact absurd rfl hB
  | cons x r ih =>
    cases r with
    | nil => rw [List.singleton_append, glue_cons x C hC]; rfl
    | cons y r =>
      rw [List.cons_append, glue_cons _ _ (by simp), glue_cons _ _ (by simp), ih (by simp)]
      simp
theorem cutGo_glue_app (B : List Bs) (hv : ∀ y ∈ B, valid y = true) (hB : B ≠ []) (r : Bs) : cutGo [] (glue B ++ 47 :: r) = B ++ cutGo [] r := by
  induction B with
  | nil => exact absurd rfl hB
  | cons x t ih =>
    cases t with
    | nil =>
      simp only [glue]
      rw [cutGo_pre _ _ _ (valid_noslash x (hv x (by simp)))]
      simp [cutGo]
    | cons y t =>
      rw [glue_cons _ _ (by simp), List.append_assoc, List.append_assoc, cutGo_pre _ _ _ (valid_noslash x (hv x (by simp)))]
      simp only [List.nil_append, List.singleton_append, cutGo, if_true]
      rw [ih (fun z hz => hv z (by simp [hz])) (by simp)]
      simp
/-- a path is below another one if its names begin with the other one's -/
theorem below_glue (A B : List Bs) (hA : ∀ y ∈ A, valid y = true) (hB : ∀ y ∈ B, valid y = true) : below (glue A) (glue B) = true ↔ B <+: A := by
  unfold below
  rw [Bool.or_eq_true, Bool.or_eq_true, decide_eq_true_eq, decide_eq_true_eq, List.isPrefixOf_iff_prefix]
  constructor
  · rintro ((h | h) | ⟨r, h⟩)
    · have := congrArg cut h
      rw [cut_glue A hA, cut_glue B hB] at this
      rw [this]; exact List.prefix_refl _
    · rw [glue_nil B hB] at h
      rw [h]; exact List.nil_prefix
    · by_cases e : B = []
      · rw [e]; exact List.nil_prefix
      · have h2 : cut (glue A) = A := cut_glue A hA
        rw [← h, List.append_assoc, List.singleton_append] at h2
        unfold cut at h2
        rw [if_neg (by simp), cutGo_glue_app B hB e] at h2
        exact ⟨_, h2⟩
  · rintro ⟨C, h⟩
    subst h
    by_cases e : B = []
    · left; right; rw [e]; rfl
    · by_cases e2 : C = []
      · left; left; rw [e2, List.append_nil]
      · right
        rw [glue_app B C e e2]
        exact ⟨glue C, rfl⟩
theorem below_self (p : Bs) : below p p = true := by simp [below]
theorem below_root (p : Bs) : below p [] = true := by simp [below]
def ws (l : List Int) : List Bs := (l.take 10).map fun c => word c.toNat
theorem ws_valid (l : List Int) : ∀ y ∈ ws l, valid y = true := long_words l
theorem longB_ws (l : List Int) : ub (longB l) = glue (ws l) := by unfold longB; rw [ub_bx]; rfl
theorem ws_take (l : List Int) (k : Nat) : ws (l.take k) = (ws l).take k := by
  unfold ws
  rw [List.take_take, ← List.map_take, List.take_take, Nat.min_comm]
theorem cutB_ws (l : List Int) : cutB (longB l) = (ws l).map bx := by
  unfold cutB
  rw [longB_ws, cut_glue _ (ws_valid l)]
theorem below_ws (l m : List Int) : below (ub (longB l)) (ub (longB m)) = true ↔ ws m <+: ws l := by
  rw [longB_ws, longB_ws]; exact below_glue _ _ (ws_valid l) (ws_valid m)
theorem law3 (l : List Int) (k : Nat) : below (ub (longB l)) (ub (longB (l.take k))) = true := by
  rw [below_ws, ws_take]; exact List.take_prefix _ _
theorem law4 (l m : List Int) (k : Nat) (h : below (ub (longB m)) (ub (longB l)) = true) : below (ub (longB m)) (ub (longB (l.take k))) = true := by
  rw [below_ws] at h ⊢
  rw [ws_take]; exact (List.take_prefix _ _).trans h
theorem law5 (l : List Int) (j k : Nat) : below (ub (longB (l.take j))) (ub (longB (l.take k))) = true ∨ below (ub (longB (l.take k))) (ub (longB (l.take j))) = true := by
  rw [below_ws, below_ws, ws_take, ws_take]
  rcases Nat.le_total j k with h | h
  · right; exact List.take_prefix_take_left h
  · left; exact List.take_prefix_take_left h
/-- the first i names are the same -/
def headB (A B : List Bs) (i : Nat) : Bool := decide (B.length ≤ A.length) && decide (A.take i = B.take i)
theorem head_step (A B : List Bs) (i : Nat) (ha : i < A.length) (hb : i < B.length) : headB A B (i + 1) = (headB A B i && decide (A[i] = B[i])) := by
  unfold headB
  rw [List.take_succ_eq_append_getElem ha, List.take_succ_eq_append_getElem hb, Bool.and_assoc]
  congr 1
  rw [Bool.eq_iff_iff, Bool.and_eq_true, decide_eq_true_eq, decide_eq_true_eq, decide_eq_true_eq]
  constructor
  · intro h
    have := List.append_inj' h rfl
    exact ⟨this.1, by simpa using this.2⟩
  · rintro ⟨h1, h2⟩; rw [h1, h2]
theorem head_end (l m : List Int) (i : Nat) (ha : i ≤ (ws l).length) (hb : i ≤ (ws m).length) (h : (ws l).length ≤ i ∨ (ws m).length ≤ i) : below (ub (longB l)) (ub (longB m)) = headB (ws l) (ws m) i := by
  rw [Bool.eq_iff_iff, below_ws]
  unfold headB
  rw [Bool.and_eq_true, decide_eq_true_eq, decide_eq_true_eq]
  generalize ws l = A at ha h ⊢
  generalize ws m = B at hb h ⊢
  constructor
  · rintro ⟨C, rfl⟩
    exact ⟨by simp, List.take_append_of_le_length hb⟩
  · rintro ⟨h1, h2⟩
    have e : i = B.length := by omega
    subst e
    rw [List.take_length] at h2
    rw [← h2]; exact List.take_prefix _ _
end Go.Proofs.YtpahemgofhpfnaaDoor.PB

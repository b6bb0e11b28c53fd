/- The plain laws of NameJoins, NameTyped: no Go and no memory. -/
import Derived.Test.YtpahemgofhpfnaaDoorL
import Derived.Test.YtpahemgofhpfnaaDoorU4
import Derived.Test.YtpahemgofhpfnaaDoorU5
namespace Go.Proofs.YtpahemgofhpfnaaDoor.P
open Go.RowKit Go.Proofs.YtpahemgofhpfnaaDoor Go.Proofs.YtpahemgofhpfnaaDoor.E Go.Proofs.YtpahemgofhpfnaaDoor.F Go.Proofs.YtpahemgofhpfnaaDoor.Sp Go.Proofs.YtpahemgofhpfnaaDoor.K Go.Proofs.YtpahemgofhpfnaaDoor.L
set_option linter.unusedVariables false
set_option linter.unusedSimpArgs false

theorem cutGo_ne (l : Bs) : ∀ last, cutGo last l ≠ [] := by
  intro last h
  have := (cutGo_len l last).1
  rw [h] at this; simp at this
theorem glue_cons (x : Bs) (r : List Bs) (h : r ≠ []) : glue (x :: r) = x ++ [47] ++ glue r := by
  cases r with
  | nil => exact absurd rfl h
  | cons y r => rfl
theorem glue_cutGo (l : Bs) : ∀ last, glue (cutGo last l) = last ++ l := by
  induction l with
  | nil => intro last; simp [cutGo, glue]
  | cons c r ih =>
    intro last
    simp only [cutGo]
    split
    · rename_i h
      rw [glue_cons _ _ (cutGo_ne r []), ih, h]; simp
    · rw [ih]; simp
/-- what was cut is glued again -/
theorem glue_cut (l : Bs) : glue (cut l) = l := by
  unfold cut
  split
  · rename_i h; rw [h]; rfl
  · rw [glue_cutGo]; rfl
theorem isPath_iff (l : Bs) : isPath l = true ↔ (∀ y ∈ cut l, valid y = true) ∧ (cut l).length ≤ 8 := by
  unfold isPath
  rw [Bool.and_eq_true, List.all_eq_true, decide_eq_true_eq]
theorem isPath_glue (xs : List Bs) (h : ∀ y ∈ xs, valid y = true) : isPath (glue xs) = decide (xs.length ≤ 8) := by
  unfold isPath
  rw [cut_glue xs h, List.all_eq_true.2 h]; simp
theorem glue_nil (xs : List Bs) (h : ∀ y ∈ xs, valid y = true) : glue xs = [] ↔ xs = [] := by
  constructor
  · intro e
    cases xs with
    | nil => rfl
    | cons x r => exact absurd e (glue_ne x r h)
  · intro e; rw [e]; rfl
theorem glue_snoc' (xs : List Bs) (y : Bs) (h : xs ≠ []) : glue (xs ++ [y]) = glue xs ++ [47] ++ y := by
  rw [glue_snoc, if_neg h]
/-- where the last sign stands -/
theorem lastAt_no (l : Bs) (n : Nat) (h : ∀ j, j < n → l[j]? ≠ some 47) : lastAt l n = none := by
  induction n with
  | zero => rfl
  | succ n ih =>
    unfold lastAt
    rw [if_neg (h n (by omega))]
    exact ih (fun j hj => h j (by omega))
theorem lastAt_yes (l : Bs) (i : Nat) (n : Nat) (hi : i < n) (h : l[i]? = some 47) (hn : ∀ j, i < j → j < n → l[j]? ≠ some 47) : lastAt l n = some i := by
  induction n with
  | zero => omega
  | succ n ih =>
    unfold lastAt
    by_cases e : i = n
    · subst e; rw [if_pos h]
    · rw [if_neg (hn n (by omega) (by omega))]
      exact ih (by omega) (fun j hj hk => hn j hj (by omega))
theorem split_one (n : Bs) (h : valid n = true) : splitB (bx n) = (⟨#[]⟩, bx n, 0) := by
  have hp : isPath n = true := by
    have := isPath_glue [n] (by simpa using h)
    simpa [glue] using this
  have hne : n ≠ [] := by intro e; have := (valid_pos n h).1; rw [e] at this; simp at this
  unfold splitB
  rw [ub_bx, if_pos hp, if_neg hne, lastAt_no]
  intro j hj e
  rw [bx_size] at hj
  rw [List.getElem?_eq_getElem hj] at e
  exact valid_noslash n h n[j] (List.getElem_mem hj) (Option.some.inj e)
theorem ext_bx (l : Bs) (a b : Nat) : (bx l).extract a b = bx ((l.take b).drop a) := by
  apply ub_inj; rw [ub_extract, ub_bx, ub_bx]
theorem split_snoc (ys : List Bs) (n : Bs) (h : ∀ y ∈ ys ++ [n], valid y = true) (h8 : ys.length < 8) : splitB (bx (glue (ys ++ [n]))) = (bx (glue ys), bx n, 0) := by
  have hn : valid n = true := h n (by simp)
  by_cases e : ys = []
  · subst e
    exact split_one n hn
  · have hp : isPath (glue (ys ++ [n])) = true := by
      rw [isPath_glue _ h]; simp; omega
    have hne : glue (ys ++ [n]) ≠ [] := by
      intro e; rw [glue_nil _ h] at e; simp at e
    unfold splitB
    rw [ub_bx, if_pos hp, if_neg hne, bx_size, glue_snoc' ys n e]
    rw [lastAt_yes _ (glue ys).length _ (by simp) (by simp) ?_]
    · simp only [ext_bx]
      congr 2
      · rw [List.drop_zero, List.append_assoc, List.take_left]
      · congr 2
        rw [List.take_of_length_le (Nat.le_refl _)]
        have : (glue ys).length + 1 = (glue ys ++ [47]).length := by simp
        rw [this, List.drop_left]
    · intro j hj hk e2
      have hlen : (glue ys ++ [47]).length ≤ j := by simp; omega
      rw [List.getElem?_append_right hlen] at e2
      have := List.mem_of_getElem? e2
      exact valid_noslash n hn 47 this rfl
theorem join_snoc (ys : List Bs) (n : Bs) (h : ∀ y ∈ ys, valid y = true) (hn : valid n = true) (h8 : ys.length < 8) : joinB (bx (glue ys)) (bx n) = (bx (glue (ys ++ [n])), 0) := by
  unfold joinB
  simp only [ub_bx]
  rw [isPath_glue ys h, if_pos (by simp; omega), if_pos hn, cut_glue ys h, if_neg (by omega)]
  by_cases e : ys = []
  · subst e; rfl
  · rw [if_neg (by rw [glue_nil ys h]; exact e), glue_snoc' ys n e]
    show (bx (glue ys) ++ bx [47] ++ bx n, _) = _
    rw [bx_app, bx_app]
theorem long_glue (l : List Int) : ∃ ds : List Bs, (∀ y ∈ ds, valid y = true) ∧ ds.length = min 10 l.length ∧ ds.length ≤ 10 ∧ longB l = bx (glue ds) :=
  ⟨(l.take 10).map fun c => word c.toNat, long_words l, by simp, by simp; omega, rfl⟩
theorem longB_size (l : List Int) : (longB l).size ≤ 170 := by unfold longB; rw [bx_size]; exact long_size l
theorem nonneg (l : List Int) (h : ∀ x ∈ l, (Lit.int .u8 x).wf = true) : ∀ x ∈ l, 0 ≤ x := by
  intro x hx
  have := h x hx
  simp [Lit.wf, IntKind.min, IntKind.max, IntKind.signed, IntKind.bits] at this
  exact this.1
theorem join_le (s n : ByteArray) : (joinB s n).1.size ≤ s.size + n.size + 1 := by
  unfold joinB
  split
  · split
    · split
      · show 0 ≤ _; omega
      · split
        · show n.size ≤ _; omega
        · simp only [size_app]; show _ + 1 + _ ≤ _; omega
    · show 0 ≤ _; omega
  · show 0 ≤ _; omega
theorem join_err (s n : ByteArray) : (joinB s n).2 = 0 ↔ isPath (ub s) = true ∧ valid (ub n) = true ∧ (cut (ub s)).length < 8 := by
  unfold joinB
  split
  · rename_i h1
    split
    · rename_i h2
      split
      · rename_i h3; simp; intro _ _; omega
      · rename_i h3
        split
        · simp [h1, h2]; omega
        · simp [h1, h2]; omega
    · rename_i h2; simp [h2]
  · rename_i h1; simp [h1]

open U in
theorem NameJoins : burgagelaw01_NameJoins.Pure := by
  intro l a h1 h2 h3 h4
  refine ⟨5, ?_⟩
  have hs := longB_size l
  obtain ⟨ds, dv, d1, d10, hd⟩ := long_glue l
  simp only [burgagelaw01_NameJoins.f, burgagelaw01_sanity.f, Option.bind_some, burgageref01_Long.f]
  rw [if_pos (nonneg l h3)]
  by_cases hz : (a.size : Int) > 100
  · rw [if_pos hz]
  rw [if_neg hz]
  simp only [Option.bind_some, burgagelaw01_join.f]
  rw [if_pos ⟨by omega, by omega⟩]
  simp only [Option.bind_some]
  -- what follows
  have tail : ∀ k, burgagelaw01_NameJoins.j1 (k + 1) true (longB l) false = some true := by
    intro k
    simp only [burgagelaw01_NameJoins.j1, burgagelaw01_split.f]
    rw [if_neg (by simp), if_pos (by omega)]
    simp only [Option.bind_some, tl]
    by_cases hp : ds.length ≤ 8
    · rcases List.eq_nil_or_concat ds with e | ⟨ys, n, e⟩
      · subst e
        have : longB l = ⟨#[]⟩ := hd
        rw [this]
        have : splitB ⟨#[]⟩ = (⟨#[]⟩, ⟨#[]⟩, 1) := by decide +kernel
        rw [this]
        rfl
      · rw [List.concat_eq_append] at e
        subst e
        simp at hp
        have sp := split_snoc ys n dv (by omega)
        rw [hd, sp]
        have jn := join_snoc ys n (fun y hy => dv y (by simp [hy])) (dv n (by simp)) (by omega)
        simp only [if_true, burgagelaw01_join.f]
        have z1 : (bx (glue ys)).size ≤ 1000 := by
          rw [bx_size]
          have := glue_size ys 16 (fun x hx => (valid_pos x (dv x (by simp [hx]))).2.1)
          omega
        have z2 : (bx n).size ≤ 1000 := by
          rw [bx_size]
          have := (valid_pos n (dv n (by simp))).2.1
          omega
        rw [if_pos ⟨z1, z2⟩, jn]
        simp
    · have : splitB (longB l) = (⟨#[]⟩, ⟨#[]⟩, 10) := by
        unfold splitB
        rw [hd, ub_bx, isPath_glue ds dv, if_neg (by simpa using hp)]
      rw [this]
      rfl
  have head : ∀ k p e, ((e == 0) = (decide ((joinB (longB l) a).2 = 0))) → burgagelaw01_NameJoins.j0 (k + 2) a true (longB l) false p e = some true := by
    intro k p e he
    simp only [burgagelaw01_NameJoins.j0, burgagelaw01_parts.f, name_Valid.f]
    rw [if_neg (by simp), if_pos (by omega), he]
    simp only [Option.bind_some]
    by_cases hp : isPath (ub (longB l)) = true
    · have e1 : partsB (longB l) = (cutB (longB l), 0) := by unfold partsB; rw [if_pos hp]
      rw [e1]
      simp only [if_true, Option.bind_some]
      by_cases hv : valid (ub a) = true
      · rw [if_pos hv, cutB_length]
        have : (decide ((joinB (longB l) a).2 = 0) != decide (((cut (ub (longB l))).length : Int) < 8)) = false := by
          simp only [bne_eq_false_iff_eq, decide_eq_decide, join_err, hp, hv, true_and]
          omega
        rw [this]
        exact tail k
      · rw [if_neg hv]
        have : (decide ((joinB (longB l) a).2 = 0) != false) = false := by
          simp only [bne_eq_false_iff_eq, decide_eq_false_iff_not, join_err, hv]; simp
        rw [this]
        exact tail k
    · have e1 : partsB (longB l) = ([], 10) := by unfold partsB; rw [if_neg hp]
      rw [e1, if_neg (by simp)]
      have : (decide ((joinB (longB l) a).2 = 0) != false) = false := by
        simp only [bne_eq_false_iff_eq, decide_eq_false_iff_not, join_err, hp]; simp
      rw [this]
      exact tail k
  by_cases he : (joinB (longB l) a).2 = 0
  · rw [if_pos he]
    obtain ⟨hp, hv, h8⟩ := (join_err _ _).1 he
    simp only [burgagelaw01_split.f]
    rw [if_pos (by have := join_le (longB l) a; omega)]
    simp only [Option.bind_some, tl]
    have h8' : ds.length < 8 := by rw [hd, ub_bx, cut_glue ds dv] at h8; exact h8
    have jn : joinB (longB l) a = (bx (glue (ds ++ [ub a])), 0) := by
      have := join_snoc ds (ub a) dv hv h8'
      rw [bx_ub] at this
      rw [hd]; exact this
    have sp : splitB (joinB (longB l) a).1 = (longB l, a, 0) := by
      rw [jn, hd]
      have := split_snoc ds (ub a) (by intro y hy; simp at hy; rcases hy with hy | hy; exact dv y hy; rw [hy]; exact hv) h8'
      rw [bx_ub] at this
      exact this
    rw [sp]
    have := head 3 (joinB (longB l) a).1 (joinB (longB l) a).2 (by rw [he]; rfl)
    simpa using this
  · rw [if_neg he]
    exact head 3 _ _ (by rw [Bool.eq_iff_iff]; simp)

theorem parse_slash (p : ByteArray) : parseB ((⟨#[47]⟩ : ByteArray) ++ p) = if isPath (ub p) then (p, 0) else (⟨#[]⟩, 3) := by
  have e : ub ((⟨#[47]⟩ : ByteArray) ++ p) = 47 :: ub p := by rw [ub_app]; rfl
  have e2 : ((⟨#[47]⟩ : ByteArray) ++ p).extract 1 ((⟨#[47]⟩ : ByteArray) ++ p).size = p := by
    apply ub_inj; rw [ub_tail _ _ _ e]
  unfold parseB
  rw [e]
  simp only [if_true, e2]
open U in
theorem NameTyped : burgagelaw01_NameTyped.Pure := by
  intro s l h1 h2 h3 h4
  refine ⟨5, ?_⟩
  have hs := longB_size l
  have tail : s.size ≤ 200 → ∀ k, burgagelaw01_NameTyped.j0 (k + 1) s true false = some true := by
    intro hz k
    simp only [burgagelaw01_NameTyped.j0, burgagelaw01_parse.f]
    rw [if_neg (by simp), if_pos (by omega)]
    simp only [Option.bind_some, tl]
    by_cases hq : ∃ r, ub s = 47 :: r ∧ isPath r = true
    · obtain ⟨r, h, hp⟩ := hq
      have ht := ub_tail s 47 r h
      have hz2 : (s.extract 1 s.size).size ≤ 1000 := by rw [size_ext]; omega
      have e : parseB s = (s.extract 1 s.size, 0) := by unfold parseB; rw [h]; simp only [if_true]; rw [if_pos hp]
      rw [e]
      simp only [if_true, name_Print.f, hz2, Option.bind_some, tl]
      have : ub ((⟨#[47]⟩ : ByteArray) ++ s.extract 1 s.size) = 47 :: r := by rw [ub_app, ht]; rfl
      rw [if_pos (this.trans h.symm)]
      simp only [burgagelaw01_parts.f]
      rw [if_pos hz2]
      simp only [Option.bind_some, partsB, ht]
      rw [if_pos hp]
      rfl
    · have e : parseB s = (⟨#[]⟩, 3) := by
        unfold parseB
        split
        · rfl
        · rename_i c r h
          split
          · rename_i hc
            subst hc
            rw [if_neg (fun hp => hq ⟨r, h, hp⟩)]
          · rfl
      rw [e]; rfl
  simp only [burgagelaw01_NameTyped.f, burgagelaw01_sanity.f, Option.bind_some, burgageref01_Long.f]
  by_cases hz : (s.size : Int) > 200
  · rw [if_pos hz]
  rw [if_neg hz, if_pos (nonneg l h4)]
  simp only [Option.bind_some, name_Print.f, burgagelaw01_parse.f, burgageref01_IsPath.f]
  rw [if_pos (by omega)]
  simp only [Option.bind_some]
  rw [if_pos (by rw [size_app]; show 1 + _ ≤ _; omega)]
  simp only [Option.bind_some, parse_slash]
  rw [if_pos (by omega)]
  simp only [Option.bind_some]
  by_cases hp : isPath (ub (longB l)) = true
  · rw [hp]
    have := tail (by omega) 4
    simpa using this
  · rw [Bool.not_eq_true] at hp
    rw [hp]
    have := tail (by omega) 4
    simpa using this
end Go.Proofs.YtpahemgofhpfnaaDoor.P

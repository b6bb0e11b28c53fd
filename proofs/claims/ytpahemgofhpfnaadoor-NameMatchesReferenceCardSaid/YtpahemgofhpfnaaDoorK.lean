/- One contract for each function that the statements call, in the plain functions' words. -/
import Derived.Test.YtpahemgofhpfnaaDoorQ4
namespace Go.Proofs.YtpahemgofhpfnaaDoor.K
open Go.RowKit Go.Shelf Go.Proofs.YtpahemgofhpfnaaDoorW.PrintWords Go.Proofs.YtpahemgofhpfnaaDoorW.PrintLast Go.Proofs.YtpahemgofhpfnaaDoorW.PrintMore
open Go.Proofs.YtpahemgofhpfnaaDoor Go.Proofs.YtpahemgofhpfnaaDoor.D Go.Proofs.YtpahemgofhpfnaaDoor.E Go.Proofs.YtpahemgofhpfnaaDoor.F Go.Proofs.YtpahemgofhpfnaaDoor.Sp
set_option linter.unusedVariables false
set_option linter.unusedSimpArgs false

theorem qparts (s : ByteArray) (hs : s.size ≤ 1000) : Q.name_Parts.f s = some (partsB s) := if_pos hs
theorem isPath_le (s : ByteArray) (h : isPath (ub s) = true) : (cut (ub s)).length ≤ 8 := by
  unfold isPath at h; rw [Bool.and_eq_true, decide_eq_true_eq] at h; exact h.2
theorem qjoin (s n : ByteArray) (hs : s.size ≤ 1000) (hn : n.size ≤ 1000) (k : Nat) (hk : 1002 ≤ k) : Q.burgagelaw01_join.f k s n = some (joinB s n) := by
  simp only [Q.burgagelaw01_join.f, Q.name_Join.f, qparts s hs, Option.bind_some, partsB, joinB, tl]
  by_cases h : isPath (ub s) = true
  · have h8 := isPath_le s h
    rw [if_pos h, if_pos h, if_pos rfl, valid_at n k hk]
    simp only [Option.bind_some, cutB_length]
    cases valid (ub n)
    · rfl
    · rw [if_pos rfl, if_pos rfl]
      by_cases h7 : (cut (ub s)).length ≥ 8
      · rw [if_pos (by omega), if_pos h7]; rfl
      · rw [if_neg (by omega), if_neg h7]
        by_cases h2 : ub s = []
        · rw [if_pos h2, if_pos h2]; rfl
        · rw [if_neg h2, if_neg h2, if_pos (by omega), if_pos (by rw [size_app]; show s.size + 1 + n.size ≤ _; omega)]; rfl
  · rw [if_neg h, if_neg h]; rfl
theorem qsplit (s : ByteArray) (hs : s.size ≤ 1000) (k : Nat) (hk : 3000 ≤ k) : Q.burgagelaw01_split.f k s = some (splitB s) := by
  simp only [Q.burgagelaw01_split.f, Q.name_Split.f, qparts s hs, Option.bind_some, partsB, splitB, tl]
  by_cases h : isPath (ub s) = true
  · rw [if_pos h, if_pos h, if_pos rfl]
    by_cases h2 : ub s = []
    · rw [if_pos h2, if_pos h2]; rfl
    · rw [if_neg h2, if_neg h2, lastIdx_at s hs k hk]
      simp only [Option.bind_some]
      cases hl : lastAt (ub s) s.size with
      | none =>
        have hm : mx (-1) 0 = 0 := by decide
        have hw : wrap64 (-1 + 1) = 0 := w64 (by omega) (by omega)
        simp only [hm, hw]
        rw [if_pos (by omega), if_pos (by omega), if_pos (by omega), if_pos (by omega)]
        simp only [Option.bind_some]
        congr 2
        · apply ub_inj; rw [ub_extract]; rfl
        · congr 1
          apply ub_inj; rw [ub_extract]; exact List.take_of_length_le (by rw [ub_size]; omega)
      | some i =>
        obtain ⟨hlt, _⟩ := lastAt_lt _ _ _ hl
        have hm : mx (i : Int) 0 = i := by unfold mx; omega
        simp only [hm]
        rw [w64 (by omega) (by omega), if_pos (by omega), if_pos (by omega), if_pos (by omega), if_pos (by omega), show ((i : Int) + 1).toNat = i + 1 by omega]
        rfl
  · rw [if_neg h, if_neg h]; rfl
theorem prefix_at (s : ByteArray) : M.strings_CutPrefix.f s ⟨#[47]⟩ = some (match ub s with
    | [] => (s, false)
    | c :: r => if c = 47 then (s.extract 1 s.size, true) else (s, false)) := by
  have hz : (⟨#[47]⟩ : ByteArray).size = 1 := rfl
  have hsz := ub_size s
  simp only [M.strings_CutPrefix.f, M.stringslite_CutPrefix.f, M.stringslite_HasPrefix.f, tl, hz, ub_extract, ub_slash]
  cases h : ub s with
  | nil =>
    rw [h] at hsz; simp at hsz
    rw [if_neg (by omega)]; rfl
  | cons c r =>
    rw [h] at hsz; simp at hsz
    rw [if_pos (by omega), if_pos (by omega), if_pos (by omega)]
    by_cases hc : c = 47
    · subst hc
      simp only [Int.toNat_natCast, List.drop_zero, Option.bind_some]
      rw [show (List.take 1 (47 :: r) == [47]) = true by simp, if_pos rfl, if_pos (by omega), if_pos (by omega)]
      rfl
    · simp only [Int.toNat_natCast, List.drop_zero, Option.bind_some]
      rw [show (List.take 1 (c :: r) == [47]) = false by simpa using hc]
      simp [hc]
theorem qparse (s : ByteArray) (hs : s.size ≤ 1000) : Q.burgagelaw01_parse.f s = some (parseB s) := by
  simp only [Q.burgagelaw01_parse.f, Q.name_Parse.f, prefix_at s, Option.bind_some, parseB]
  cases h : ub s with
  | nil =>
    simp only [qparts s hs, Option.bind_some]; rfl
  | cons c r =>
    by_cases hc : c = 47
    · subst hc
      simp only [if_true, qparts (s.extract 1 s.size) (by rw [size_ext]; omega), Option.bind_some, partsB, ub_tail s 47 r h]
      cases isPath r <;> rfl
    · simp only [hc, if_false, qparts s hs, Option.bind_some]; rfl

/-! the contracts -/
theorem parts16 (s : ByteArray) (hs : s.size ≤ 1000) (w : World) : Calls Tryd.prog 16 #[.string s] w fun e w' =>
    ∃ A c, e = .returned (.agg #[.slice A (partsB s).1.length c, .int .i64 (partsB s).2]) ∧ (partsB s).1.length ≤ c ∧ Kd.C Kd.string w' A (partsB s).1.length (partsB s).1 ∧ Below w.heap.size w w' := by
  refine (Q.burgagelaw01_parts.calls s (partsB s).1 (partsB s).2 w (by simp only [Q.burgagelaw01_parts.f, qparts s hs, Option.bind_some])).mono ?_
  rintro e w' ⟨v, rfl, hr, hb⟩
  obtain ⟨A, c, rfl, hc, hC⟩ := Kd.R_reads hr
  exact ⟨A, c, rfl, hc, hC, hb⟩
theorem partsOf17 (s : ByteArray) (hs : s.size ≤ 1000) (w : World) : Calls Tryd.prog 17 #[.string s] w fun e w' =>
    ∃ A c, e = .returned (.agg #[.slice A (partsB s).1.length c, .int .i64 (partsB s).2]) ∧ (partsB s).1.length ≤ c ∧ Kd.C Kd.string w' A (partsB s).1.length (partsB s).1 ∧ Below w.heap.size w w' := by
  refine (M.burgageref01_PartsOf.calls 3000 s (partsB s).1 (partsB s).2 w (partsOf_at s hs 3000 (Nat.le_refl _))).mono ?_
  rintro e w' ⟨v, rfl, hr, hb⟩
  obtain ⟨A, c, rfl, hc, hC⟩ := Kd.R_reads hr
  exact ⟨A, c, rfl, hc, hC, hb⟩
theorem cut32 (s : ByteArray) (hs : s.size ≤ 1000) (w : World) : Calls Tryd.prog 32 #[.string s] w fun e w' =>
    ∃ A c, e = .returned (.slice A (cutB s).length c) ∧ (cutB s).length ≤ c ∧ Kd.C Kd.string w' A (cutB s).length (cutB s) ∧ Below w.heap.size w w' := by
  refine (M.burgageref01_Cut.calls 3000 s (cutB s) w (cut_at s hs 3000 (by omega))).mono ?_
  rintro e w' ⟨v, rfl, hr, hb⟩
  obtain ⟨A, c, rfl, hc, hC⟩ := Kd.R_reads hr
  exact ⟨A, c, rfl, hc, hC, hb⟩
theorem same15 (A B : Option Addr) (c d : Nat) (a b : List ByteArray) (x y : Int) (w : World) (ha : Kd.C Kd.string w A a.length a) (hc : a.length ≤ c) (hb : Kd.C Kd.string w B b.length b) (hd : b.length ≤ d) (hl : a.length ≤ 1001) :
    Calls Tryd.prog 15 #[.agg #[.slice A a.length c, .int .i64 x], .agg #[.slice B b.length d, .int .i64 y]] w fun e w' => e = .returned (.bool (decide (a = b) && decide (x = y))) ∧ Below w.heap.size w w' :=
  M.burgageref01_Same.calls 3000 A c a x B d b y _ w ha hc hb hd (same_at a b x y hl 3000 (Nat.le_refl _))
theorem join18 (s n : ByteArray) (hs : s.size ≤ 1000) (hn : n.size ≤ 1000) (w : World) : Calls Tryd.prog 18 #[.string s, .string n] w fun e w' => e = .returned (.agg #[.string (joinB s n).1, .int .i64 (joinB s n).2]) ∧ Below w.heap.size w w' :=
  Q.burgagelaw01_join.calls 3000 s n _ _ w (qjoin s n hs hn 3000 (by omega))
theorem joinOf19 (s n : ByteArray) (hs : s.size ≤ 1000) (hn : n.size ≤ 1000) (w : World) : Calls Tryd.prog 19 #[.string s, .string n] w fun e w' => e = .returned (.agg #[.string (joinB s n).1, .int .i64 (joinB s n).2]) ∧ Below w.heap.size w w' :=
  M.burgageref01_JoinOf.calls 3000 s n _ _ w (joinOf_at s n hs hn 3000 (by omega))
theorem split20 (s : ByteArray) (hs : s.size ≤ 1000) (w : World) : Calls Tryd.prog 20 #[.string s] w fun e w' => e = .returned (.agg #[.string (splitB s).1, .string (splitB s).2.1, .int .i64 (splitB s).2.2]) ∧ Below w.heap.size w w' :=
  Q.burgagelaw01_split.calls 3000 s _ _ _ w (qsplit s hs 3000 (by omega))
theorem splitOf21 (s : ByteArray) (hs : s.size ≤ 1000) (w : World) : Calls Tryd.prog 21 #[.string s] w fun e w' => e = .returned (.agg #[.string (splitB s).1, .string (splitB s).2.1, .int .i64 (splitB s).2.2]) ∧ Below w.heap.size w w' :=
  M.burgageref01_SplitOf.calls 3000 s _ _ _ w (splitOf_at s hs 3000 (by omega))
theorem parse22 (s : ByteArray) (hs : s.size ≤ 1000) (w : World) : Calls Tryd.prog 22 #[.string s] w fun e w' => e = .returned (.agg #[.string (parseB s).1, .int .i64 (parseB s).2]) ∧ Below w.heap.size w w' :=
  Q.burgagelaw01_parse.calls s _ _ w (qparse s hs)
theorem parseOf23 (s : ByteArray) (hs : s.size ≤ 1000) (w : World) : Calls Tryd.prog 23 #[.string s] w fun e w' => e = .returned (.agg #[.string (parseB s).1, .int .i64 (parseB s).2]) ∧ Below w.heap.size w w' :=
  M.burgageref01_Parse.calls 3000 s _ _ w (parseOf_at s hs 3000 (by omega))
theorem below24 (p q : ByteArray) (hq : q.size ≤ 1000) (w : World) : Calls Tryd.prog 24 #[.string p, .string q] w fun e w' => e = .returned (.bool (below (ub p) (ub q))) ∧ Drawn0 w w' :=
  M.name_Below.calls p q _ w (belowP_at p q hq)
theorem belowR25 (p q : ByteArray) (hq : q.size ≤ 1000) (w : World) : Calls Tryd.prog 25 #[.string p, .string q] w fun e w' => e = .returned (.bool (below (ub p) (ub q))) ∧ Drawn0 w w' :=
  M.burgageref01_Below.calls p q _ w (belowR_at p q hq)
theorem swap26 (q f t : ByteArray) (hq : q.size ≤ 1000) (hf : f.size ≤ 1000) (ht : t.size ≤ 1000) (w : World) : Calls Tryd.prog 26 #[.string q, .string f, .string t] w fun e w' => e = .returned (.agg #[.string (swapB q f t).1, .bool (swapB q f t).2]) ∧ Below w.heap.size w w' :=
  M.burgagelaw01_swap.calls q f t _ _ w (swapL_at q f t hq hf ht)
theorem swapR27 (q f t : ByteArray) (hq : q.size ≤ 1000) (hf : f.size ≤ 1000) (ht : t.size ≤ 1000) (w : World) : Calls Tryd.prog 27 #[.string q, .string f, .string t] w fun e w' => e = .returned (.agg #[.string (swapB q f t).1, .bool (swapB q f t).2]) ∧ Below w.heap.size w w' :=
  M.burgageref01_Swap.calls q f t _ _ w (swapR_at q f t hq hf ht)
theorem print30 (p : ByteArray) (hp : p.size ≤ 1000) (w : World) : Calls Tryd.prog 30 #[.string p] w fun e w' => e = .returned (.string (⟨#[47]⟩ ++ p)) ∧ Drawn0 w w' :=
  M.name_Print.calls p _ w (print_at p hp)
theorem isPath31 (s : ByteArray) (hs : s.size ≤ 1000) (w : World) : Calls Tryd.prog 31 #[.string s] w fun e w' => e = .returned (.bool (isPath (ub s))) ∧ Below w.heap.size w w' :=
  M.burgageref01_IsPath.calls 3000 s _ w (isPath_at s hs 3000 (Nat.le_refl _))
theorem long12 (A : Option Addr) (c : Nat) (l : List Int) (h0 : ∀ x ∈ l, 0 ≤ x) (w : World) (hl : Kd.C (Kd.int .u8) w A l.length l) (hc : l.length ≤ c) :
    Calls Tryd.prog 12 #[.slice A l.length c] w fun e w' => e = .returned (.string (longB l)) ∧ Below w.heap.size w w' :=
  M.burgageref01_Long.calls 3000 A c l _ w hl hc (long_at l h0 3000 (Nat.le_refl _))
end Go.Proofs.YtpahemgofhpfnaaDoor.K

/- The plain law of NameCopies. -/
import Derived.Test.YtpahemgofhpfnaaDoorP
namespace Go.Proofs.YtpahemgofhpfnaaDoor.PC
open Go.Proofs.YtpahemgofhpfnaaDoor Go.Proofs.YtpahemgofhpfnaaDoor.E Go.Proofs.YtpahemgofhpfnaaDoor.F Go.Proofs.YtpahemgofhpfnaaDoor.Sp Go.Proofs.YtpahemgofhpfnaaDoor.K Go.Proofs.YtpahemgofhpfnaaDoor.L Go.Proofs.YtpahemgofhpfnaaDoor.P
set_option linter.unusedVariables false
set_option linter.unusedSimpArgs false

def Fit (n tag : Bs) (k : Int) : Prop := valid n = true ∧ 1 ≤ tag.length ∧ tag.length ≤ 4 ∧ 0 ≤ k ∧ k ≤ 99 ∧ tag.all letB = true
def tail (tag : Bs) (k : Int) : Bs := [126] ++ tag ++ [126] ++ digits k.toNat
theorem copyL_fit (n tag : Bs) (k : Int) (h : Fit n tag k) : copyL n tag k = n.take (16 - (tail tag k).length) ++ tail tag k := by
  obtain ⟨h1, h2, h3, h4, h5, h6⟩ := h
  unfold copyL
  rw [if_pos (by simp [h1, h2, h3, h4, h5, h6])]
  rfl
theorem copyL_not (n tag : Bs) (k : Int) (h : ¬ Fit n tag k) : copyL n tag k = [] := by
  unfold copyL
  rw [if_neg]
  intro h2
  simp only [Bool.and_eq_true, decide_eq_true_eq] at h2
  exact h ⟨h2.1.1.1.1.1, h2.1.1.1.1.2, h2.1.1.1.2, h2.1.1.2, h2.1.2, h2.2⟩
theorem fit_of (n tag : Bs) (k : Int) (h : copyL n tag k ≠ []) : Fit n tag k := by
  by_cases h2 : Fit n tag k
  · exact h2
  · exact absurd (copyL_not n tag k h2) h
theorem digits_len (k : Nat) : 1 ≤ (digits k).length ∧ (digits k).length ≤ 2 := by
  unfold digits
  split <;> simp
theorem digits_ok (k : Nat) (h : k ≤ 99) : (digits k).all okB = true ∧ (126 : UInt8) ∉ digits k := by
  have h2 : ∀ m : Fin 100, (digits m.val).all okB = true ∧ (126 : UInt8) ∉ digits m.val := by decide +kernel
  exact h2 ⟨k, by omega⟩
theorem digits_inj (i j : Nat) (hi : i ≤ 99) (hj : j ≤ 99) (h : digits i = digits j) : i = j := by
  have h2 : ∀ m : Fin 100, ∀ n : Fin 100, digits m.val = digits n.val → m.val = n.val := by decide +kernel
  exact h2 ⟨i, by omega⟩ ⟨j, by omega⟩ h
theorem let_ok (c : UInt8) (h : letB c = true) : okB c = true ∧ c ≠ 126 := by
  have h2 : ∀ m : Fin 256, letB (UInt8.ofNat m.val) = true → okB (UInt8.ofNat m.val) = true ∧ UInt8.ofNat m.val ≠ 126 := by decide +kernel
  have := h2 ⟨c.toNat, c.toNat_lt⟩
  simp only [UInt8.ofNat_toNat] at this
  exact this h
theorem tail_len (tag : Bs) (k : Int) : (tail tag k).length = tag.length + 2 + (digits k.toNat).length := by
  unfold tail; simp; omega
theorem copy_valid (n tag : Bs) (k : Int) (h : Fit n tag k) : valid (copyL n tag k) = true := by
  rw [copyL_fit n tag k h]
  obtain ⟨h1, h2, h3, h4, h5, h6⟩ := h
  obtain ⟨v1, v2, v3⟩ := valid_pos n h1
  obtain ⟨d1, d2⟩ := digits_len k.toNat
  have tl := tail_len tag k
  have hm : (126 : UInt8) ∈ n.take (16 - (tail tag k).length) ++ tail tag k := by unfold tail; simp
  unfold valid
  have e1 : (n.take (16 - (tail tag k).length) ++ tail tag k == [46]) = false := by
    rw [beq_eq_false_iff_ne]; intro e; rw [e] at hm; simp at hm
  have e2 : (n.take (16 - (tail tag k).length) ++ tail tag k == [46, 46]) = false := by
    rw [beq_eq_false_iff_ne]; intro e; rw [e] at hm; simp at hm
  have e3 : (n.take (16 - (tail tag k).length) ++ tail tag k).all okB = true := by
    rw [List.all_append, Bool.and_eq_true]
    refine ⟨?_, ?_⟩
    · rw [List.all_eq_true] at v3 ⊢
      exact fun x hx => v3 x (List.mem_of_mem_take hx)
    · unfold tail
      simp only [List.all_append, List.all_cons, List.all_nil, Bool.and_true, Bool.and_eq_true]
      refine ⟨⟨⟨by decide +kernel, ?_⟩, by decide +kernel⟩, (digits_ok k.toNat (by omega)).1⟩
      rw [List.all_eq_true] at h6 ⊢
      exact fun x hx => (let_ok x (h6 x hx)).1
  rw [e1, e2, e3]
  simp only [Bool.not_false, Bool.and_true, Bool.and_eq_true, decide_eq_true_eq, List.length_append, List.length_take]
  omega
/-- what stands ahead of the last sign ~, and behind it -/
theorem last_sign (p q s r : Bs) (hs : (126 : UInt8) ∉ s) (hr : (126 : UInt8) ∉ r) (h : p ++ 126 :: s = q ++ 126 :: r) : p = q ∧ s = r := by
  rcases List.append_eq_append_iff.1 h with ⟨a, h1, h2⟩ | ⟨a, h1, h2⟩
  · cases a with
    | nil => simp at h1 h2; exact ⟨h1.symm, h2⟩
    | cons x a =>
      simp at h2
      exact absurd (by rw [h2.2]; simp) hs
  · cases a with
    | nil => simp at h1 h2; exact ⟨h1, h2.symm⟩
    | cons x a =>
      simp at h2
      exact absurd (by rw [h2.2]; simp) hr
theorem copy_inj (n t0 t1 : Bs) (k0 k1 : Int) (f0 : Fit n t0 k0) (f1 : Fit n t1 k1) (h : copyL n t0 k0 = copyL n t1 k1) : t0 = t1 ∧ k0 = k1 := by
  rw [copyL_fit n t0 k0 f0, copyL_fit n t1 k1 f1] at h
  obtain ⟨_, _, _, a4, a5, a6⟩ := f0
  obtain ⟨_, _, _, b4, b5, b6⟩ := f1
  have nt : ∀ t : Bs, t.all letB = true → (126 : UInt8) ∉ t := fun t ht hm => (let_ok 126 (List.all_eq_true.1 ht 126 hm)).2 rfl
  generalize n.take (16 - (tail t0 k0).length) = x at h
  generalize n.take (16 - (tail t1 k1).length) = y at h
  unfold tail at h
  have h2 : (x ++ [126] ++ t0) ++ 126 :: digits k0.toNat = (y ++ [126] ++ t1) ++ 126 :: digits k1.toNat := by simpa using h
  obtain ⟨h3, h4⟩ := last_sign _ _ _ _ (digits_ok k0.toNat (by omega)).2 (digits_ok k1.toNat (by omega)).2 h2
  have h5 : x ++ 126 :: t0 = y ++ 126 :: t1 := by simpa using h3
  obtain ⟨_, h6⟩ := last_sign _ _ _ _ (nt t0 a6) (nt t1 b6) h5
  exact ⟨h6, by have := digits_inj _ _ (by omega) (by omega) h4; omega⟩
theorem copy_long (n tag : Bs) (k : Int) (h : Fit n tag k) (e : copyL n tag k = n) : tag.length + 3 ≤ n.length := by
  rw [copyL_fit n tag k h] at e
  have h1 := congrArg List.length e
  have h2 := tail_len tag k
  have h3 := (digits_len k.toNat).1
  simp only [List.length_append] at h1
  omega
/-- the law, at byte arrays -/
theorem copies (n t0 t1 : ByteArray) (k0 k1 : Int) (ha : ub (copyB n t0 k0) ≠ []) (hb : ub (copyB n t1 k1) ≠ []) :
    valid (ub (copyB n t0 k0)) = true ∧ valid (ub (copyB n t1 k1)) = true ∧ (copyB n t0 k0 = copyB n t1 k1 ↔ t0 = t1 ∧ k0 = k1) ∧
    valid (ub (copyB (copyB n t0 k0) t0 k0)) = true ∧ (copyB n t0 k0 = n → t0.size + 3 ≤ n.size) := by
  unfold copyB at ha hb ⊢
  rw [ub_bx] at ha hb
  rw [ub_bx, ub_bx, ub_bx]
  have f0 := fit_of _ _ _ ha
  have f1 := fit_of _ _ _ hb
  have v0 := copy_valid _ _ _ f0
  refine ⟨v0, copy_valid _ _ _ f1, ⟨fun h => ?_, fun ⟨h1, h2⟩ => by rw [h1, h2]⟩, ?_, fun h => ?_⟩
  · have := congrArg ub h
    rw [ub_bx, ub_bx] at this
    obtain ⟨h1, h2⟩ := copy_inj _ _ _ _ _ f0 f1 this
    exact ⟨ub_inj h1, h2⟩
  · exact copy_valid _ _ _ ⟨v0, f0.2⟩
  · have := congrArg ub h
    rw [ub_bx] at this
    have := copy_long _ _ _ f0 this
    rw [ub_size, ub_size] at this
    exact this
end Go.Proofs.YtpahemgofhpfnaaDoor.PC

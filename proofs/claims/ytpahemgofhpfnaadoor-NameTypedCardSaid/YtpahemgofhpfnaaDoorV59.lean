/- NameJoins, NameTyped: the walks, at the plain laws. -/
import Derived.Test.YtpahemgofhpfnaaDoorP
namespace Go.Proofs.YtpahemgofhpfnaaDoor.V59
open Go.RowKit Go.Proofs.YtpahemgofhpfnaaDoorW.PrintWords Go.Proofs.YtpahemgofhpfnaaDoorW.PrintLast Go.Proofs.YtpahemgofhpfnaaDoorW.PrintMore
open Go.Proofs.YtpahemgofhpfnaaDoor
set_option linter.unusedVariables false

theorem wf8 {l : List Int} (h : ∀ x ∈ l, 0 ≤ x ∧ x ≤ 255) : ∀ x ∈ l, (Lit.int .u8 x).wf = true := by
  intro x hx
  have := h x hx
  simp [Lit.wf, IntKind.min, IntKind.max, IntKind.signed, IntKind.bits]
  exact this
theorem le_max {l : List Int} (h : l.length ≤ 140737488351232) : l.length ≤ maxLen := by unfold maxLen; omega
theorem walk5 (A0 : Option Addr) (c0 : Nat) (l0 : List Int) (a1 : ByteArray) (w : World)
    (r0 : Kd.C (Kd.int .u8) w A0 l0.length l0) (h0 : l0.length ≤ c0) (n0 : ∀ x ∈ l0, 0 ≤ x ∧ x ≤ 255) (z0 : l0.length ≤ 140737488351232) (z1 : a1.size ≤ 140737488351232) :
    Calls Tryd.prog 5 #[.slice A0 l0.length c0, .string a1] w fun e w' => e = .returned (.bool true) ∧ Below w.heap.size w w' := by
  obtain ⟨k, h⟩ := P.NameJoins l0 a1 (le_max z0) (by omega) (wf8 n0) z1
  exact U.burgagelaw01_NameJoins.calls k A0 c0 l0 a1 true w r0 h0 h
theorem walk9 (a0 : ByteArray) (A1 : Option Addr) (c1 : Nat) (l1 : List Int) (w : World) (z0 : a0.size ≤ 140737488351232)
    (r1 : Kd.C (Kd.int .u8) w A1 l1.length l1) (h1 : l1.length ≤ c1) (n1 : ∀ x ∈ l1, 0 ≤ x ∧ x ≤ 255) (z1 : l1.length ≤ 140737488351232) :
    Calls Tryd.prog 9 #[.string a0, .slice A1 l1.length c1] w fun e w' => e = .returned (.bool true) ∧ Below w.heap.size w w' := by
  obtain ⟨k, h⟩ := P.NameTyped a0 l1 z0 (le_max z1) (by omega) (wf8 n1)
  exact U.burgagelaw01_NameTyped.calls k a0 A1 c1 l1 true w r1 h1 h
end Go.Proofs.YtpahemgofhpfnaaDoor.V59

-- MADE BY A PROGRAM: the kit's printer, driven and mended by this session's wip/myprint.py. Lean checks it.
import Derived.Test.YtpahemgofhpfnaaDoorU0
namespace Go.Proofs.YtpahemgofhpfnaaDoor.U
open Go.Proofs.YtpahemgofhpfnaaDoor
open Go.RowKit Go.Proofs.YtpahemgofhpfnaaDoorW.PrintWords Go.Proofs.YtpahemgofhpfnaaDoorW.PrintLast Go.Proofs.YtpahemgofhpfnaaDoorW.PrintMore
attribute [local go_sem] max2_int min2_int max_two min_two max_three min_three max_four min_four   -- for this text's walks alone
set_option linter.unusedVariables false
set_option linter.unusedSimpArgs false

/-! ### name_Valid: function 13 (proved by hand) -/
def name_Valid.f (a0 : ByteArray) : Option (Bool) := some (Sp.valid (Sp.ub a0))
theorem name_Valid.calls (a0 : ByteArray) (r : Bool) (w : World) (h : name_Valid.f a0 = some r) :
    Calls Tryd.prog 13 #[.string a0] w fun e w' => e = .returned (.bool r) ∧ Drawn0 w w' := by
  unfold name_Valid.f at h
  have h1 := D.valid13 a0 w
  rw [Option.some.inj h] at h1
  exact h1


/-! ### burgageref01_Same: function 15 (proved by hand) -/
def burgageref01_Same.f (l0 : List ByteArray) (a0 : Int) (l1 : List ByteArray) (a1 : Int) : Option Bool := if l0.length ≤ 1001 then some (decide (l0 = l1) && decide (a0 = a1)) else none
theorem burgageref01_Same.calls (A0_0 : Option Addr) (c0_0 : Nat) (l0_0 : List ByteArray) (a0_1 : Int) (A1_0 : Option Addr) (c1_0 : Nat) (l1_0 : List ByteArray) (a1_1 : Int) (r : Bool) (w : World) (hr0_0 : Kd.C Kd.string w A0_0 l0_0.length l0_0) (hc0_0 : l0_0.length ≤ c0_0) (hr1_0 : Kd.C Kd.string w A1_0 l1_0.length l1_0) (hc1_0 : l1_0.length ≤ c1_0) (h : burgageref01_Same.f l0_0 a0_1 l1_0 a1_1 = some r) :
    Calls Tryd.prog 15 #[.agg #[.slice A0_0 l0_0.length c0_0, .int .i64 a0_1], .agg #[.slice A1_0 l1_0.length c1_0, .int .i64 a1_1]] w fun e w' => e = .returned (.bool r) ∧ Below w.heap.size w w' := by
  unfold burgageref01_Same.f at h
  split at h
  · rename_i hc
    have h1 := K.same15 A0_0 A1_0 c0_0 c1_0 l0_0 l1_0 a0_1 a1_1 w hr0_0 hc0_0 hr1_0 hc1_0 hc
    rw [Option.some.inj h] at h1
    exact h1
  · cases h


/-! ### burgagelaw01_parts: function 16 (proved by hand) -/
def burgagelaw01_parts.f (a0 : ByteArray) : Option (List ByteArray × Int) := if a0.size ≤ 1000 then some (E.partsB a0) else none
theorem burgagelaw01_parts.calls (a0 : ByteArray) (r1 : List ByteArray) (r2 : Int) (w : World) (h : burgagelaw01_parts.f a0 = some (r1, r2)) :
    Calls Tryd.prog 16 #[.string a0] w fun e w' => ∃ v0_ : Value, e = .returned (.agg #[v0_, .int .i64 r2]) ∧ Kd.R Kd.string 9 w' w.heap.size (fun _ => True) v0_ r1 ∧ Below w.heap.size w w' := by
  unfold burgagelaw01_parts.f at h
  split at h
  · rename_i hc
    exact Q.burgagelaw01_parts.calls a0 r1 r2 w (by simp only [Q.burgagelaw01_parts.f, K.qparts a0 hc, Option.bind_some]; exact h)
  · cases h


/-! ### burgagelaw01_join: function 18 (proved by hand) -/
def burgagelaw01_join.f (a0 : ByteArray) (a1 : ByteArray) : Option (ByteArray × Int) := if a0.size ≤ 1000 ∧ a1.size ≤ 1000 then some (E.joinB a0 a1) else none
theorem burgagelaw01_join.calls (a0 : ByteArray) (a1 : ByteArray) (r1 : ByteArray) (r2 : Int) (w : World) (h : burgagelaw01_join.f a0 a1 = some (r1, r2)) :
    Calls Tryd.prog 18 #[.string a0, .string a1] w fun e w' => e = .returned (.agg #[.string r1, .int .i64 r2]) ∧ Below w.heap.size w w' := by
  unfold burgagelaw01_join.f at h
  split at h
  · rename_i hc
    have h1 := K.join18 a0 a1 hc.1 hc.2 w
    rw [Option.some.inj h] at h1
    exact h1
  · cases h


/-! ### burgagelaw01_split: function 20 (proved by hand) -/
def burgagelaw01_split.f (a0 : ByteArray) : Option (ByteArray × ByteArray × Int) := if a0.size ≤ 1000 then some (E.splitB a0) else none
theorem burgagelaw01_split.calls (a0 : ByteArray) (r1 : ByteArray) (r2 : ByteArray) (r3 : Int) (w : World) (h : burgagelaw01_split.f a0 = some (r1, r2, r3)) :
    Calls Tryd.prog 20 #[.string a0] w fun e w' => e = .returned (.agg #[.string r1, .string r2, .int .i64 r3]) ∧ Below w.heap.size w w' := by
  unfold burgagelaw01_split.f at h
  split at h
  · rename_i hc
    have h1 := K.split20 a0 hc w
    rw [Option.some.inj h] at h1
    exact h1
  · cases h


/-! ### burgagelaw01_parse: function 22 (proved by hand) -/
def burgagelaw01_parse.f (a0 : ByteArray) : Option (ByteArray × Int) := if a0.size ≤ 1000 then some (E.parseB a0) else none
theorem burgagelaw01_parse.calls (a0 : ByteArray) (r1 : ByteArray) (r2 : Int) (w : World) (h : burgagelaw01_parse.f a0 = some (r1, r2)) :
    Calls Tryd.prog 22 #[.string a0] w fun e w' => e = .returned (.agg #[.string r1, .int .i64 r2]) ∧ Below w.heap.size w w' := by
  unfold burgagelaw01_parse.f at h
  split at h
  · rename_i hc
    have h1 := K.parse22 a0 hc w
    rw [Option.some.inj h] at h1
    exact h1
  · cases h


/-! ### name_Below: function 24 (proved by hand) -/
def name_Below.f (a0 : ByteArray) (a1 : ByteArray) : Option (Bool) := if a1.size ≤ 1000 then some (Sp.below (Sp.ub a0) (Sp.ub a1)) else none
theorem name_Below.calls (a0 : ByteArray) (a1 : ByteArray) (r : Bool) (w : World) (h : name_Below.f a0 a1 = some r) :
    Calls Tryd.prog 24 #[.string a0, .string a1] w fun e w' => e = .returned (.bool r) ∧ Drawn0 w w' := by
  unfold name_Below.f at h
  split at h
  · rename_i hc
    have h1 := K.below24 a0 a1 hc w
    rw [Option.some.inj h] at h1
    exact h1
  · cases h


/-! ### burgagelaw01_swap: function 26 (proved by hand) -/
def burgagelaw01_swap.f (a0 : ByteArray) (a1 : ByteArray) (a2 : ByteArray) : Option (ByteArray × Bool) := if a0.size ≤ 1000 ∧ a1.size ≤ 1000 ∧ a2.size ≤ 1000 then some (E.swapB a0 a1 a2) else none
theorem burgagelaw01_swap.calls (a0 : ByteArray) (a1 : ByteArray) (a2 : ByteArray) (r1 : ByteArray) (r2 : Bool) (w : World) (h : burgagelaw01_swap.f a0 a1 a2 = some (r1, r2)) :
    Calls Tryd.prog 26 #[.string a0, .string a1, .string a2] w fun e w' => e = .returned (.agg #[.string r1, .bool r2]) ∧ Below w.heap.size w w' := by
  unfold burgagelaw01_swap.f at h
  split at h
  · rename_i hc
    have h1 := K.swap26 a0 a1 a2 hc.1 hc.2.1 hc.2.2 w
    rw [Option.some.inj h] at h1
    exact h1
  · cases h


/-! ### name_Copy: function 28 (proved by hand) -/
def name_Copy.f (a0 : ByteArray) (a1 : ByteArray) (a2 : Int) : Option (ByteArray) := some (F.copyB a0 a1 a2)
theorem name_Copy.calls (a0 : ByteArray) (a1 : ByteArray) (a2 : Int) (r : ByteArray) (w : World) (h : name_Copy.f a0 a1 a2 = some r) :
    Calls Tryd.prog 28 #[.string a0, .string a1, .int .i64 a2] w fun e w' => e = .returned (.string r) ∧ Below w.heap.size w w' := by
  unfold name_Copy.f at h
  have h1 := F.copy28 a0 a1 a2 w
  rw [Option.some.inj h] at h1
  exact h1


/-! ### name_Print: function 30 (proved by hand) -/
def name_Print.f (a0 : ByteArray) : Option (ByteArray) := if a0.size ≤ 1000 then some ((⟨#[47]⟩ : ByteArray) ++ a0) else none
theorem name_Print.calls (a0 : ByteArray) (r : ByteArray) (w : World) (h : name_Print.f a0 = some r) :
    Calls Tryd.prog 30 #[.string a0] w fun e w' => e = .returned (.string r) ∧ Drawn0 w w' := by
  unfold name_Print.f at h
  split at h
  · rename_i hc
    have h1 := K.print30 a0 hc w
    rw [Option.some.inj h] at h1
    exact h1
  · cases h


/-! ### burgagelaw01_sanity: function 11 (proved by hand) -/
def burgagelaw01_sanity.f  : Option (Bool) := some (true)
theorem burgagelaw01_sanity.calls  (r : Bool) (w : World) (h : burgagelaw01_sanity.f  = some r) :
    Calls Tryd.prog 11 #[] w fun e w' => e = .returned (.bool r) ∧ Below w.heap.size w w' := by
  unfold burgagelaw01_sanity.f at h
  have h1 := H.sanity11 w
  rw [Option.some.inj h] at h1
  exact h1


/-! ### burgageref01_Long: function 12 (proved by hand) -/
def burgageref01_Long.f (l0 : List Int) : Option ByteArray := if ∀ x ∈ l0, 0 ≤ x then some (E.longB l0) else none
theorem burgageref01_Long.calls (A0 : Option Addr) (c0 : Nat) (l0 : List Int) (r : ByteArray) (w : World) (hr0 : Kd.C (Kd.int .u8) w A0 l0.length l0) (hc0 : l0.length ≤ c0) (h : burgageref01_Long.f l0 = some r) :
    Calls Tryd.prog 12 #[.slice A0 l0.length c0] w fun e w' => e = .returned (.string r) ∧ Below w.heap.size w w' := by
  unfold burgageref01_Long.f at h
  split at h
  · rename_i hc
    have h1 := K.long12 A0 c0 l0 hc w hr0 hc0
    rw [Option.some.inj h] at h1
    exact h1
  · cases h


/-! ### burgageref01_Valid: function 14 (proved by hand) -/
def burgageref01_Valid.f (a0 : ByteArray) : Option (Bool) := some (Sp.valid (Sp.ub a0))
theorem burgageref01_Valid.calls (a0 : ByteArray) (r : Bool) (w : World) (h : burgageref01_Valid.f a0 = some r) :
    Calls Tryd.prog 14 #[.string a0] w fun e w' => e = .returned (.bool r) ∧ Drawn0 w w' := by
  unfold burgageref01_Valid.f at h
  have h1 := F.valid14 a0 w
  rw [Option.some.inj h] at h1
  exact h1


/-! ### burgageref01_Cut: function 32 (proved by hand) -/
def burgageref01_Cut.f (a0 : ByteArray) : Option (List ByteArray) := if a0.size ≤ 1000 then some (Sp.cutB a0) else none
theorem burgageref01_Cut.calls (a0 : ByteArray) (r : List ByteArray) (w : World) (h : burgageref01_Cut.f a0 = some r) :
    Calls Tryd.prog 32 #[.string a0] w fun e w' => ∃ v0_ : Value, e = .returned (v0_) ∧ Kd.R Kd.string 9 w' w.heap.size (fun _ => True) v0_ r ∧ Below w.heap.size w w' := by
  unfold burgageref01_Cut.f at h
  split at h
  · rename_i hc
    exact M.burgageref01_Cut.calls 3000 a0 r w ((E.cut_at a0 hc 3000 (by omega)).trans h)
  · cases h


/-! ### burgageref01_IsPath: function 31 (proved by hand) -/
def burgageref01_IsPath.f (a0 : ByteArray) : Option (Bool) := if a0.size ≤ 1000 then some (Sp.isPath (Sp.ub a0)) else none
theorem burgageref01_IsPath.calls (a0 : ByteArray) (r : Bool) (w : World) (h : burgageref01_IsPath.f a0 = some r) :
    Calls Tryd.prog 31 #[.string a0] w fun e w' => e = .returned (.bool r) ∧ Below w.heap.size w w' := by
  unfold burgageref01_IsPath.f at h
  split at h
  · rename_i hc
    have h1 := K.isPath31 a0 hc w
    rw [Option.some.inj h] at h1
    exact h1
  · cases h


/-! ### burgageref01_PartsOf: function 17 (proved by hand) -/
def burgageref01_PartsOf.f (a0 : ByteArray) : Option (List ByteArray × Int) := if a0.size ≤ 1000 then some (E.partsB a0) else none
theorem burgageref01_PartsOf.calls (a0 : ByteArray) (r1 : List ByteArray) (r2 : Int) (w : World) (h : burgageref01_PartsOf.f a0 = some (r1, r2)) :
    Calls Tryd.prog 17 #[.string a0] w fun e w' => ∃ v0_ : Value, e = .returned (.agg #[v0_, .int .i64 r2]) ∧ Kd.R Kd.string 9 w' w.heap.size (fun _ => True) v0_ r1 ∧ Below w.heap.size w w' := by
  unfold burgageref01_PartsOf.f at h
  split at h
  · rename_i hc
    exact M.burgageref01_PartsOf.calls 3000 a0 r1 r2 w ((E.partsOf_at a0 hc 3000 (Nat.le_refl _)).trans h)
  · cases h


/-! ### burgageref01_JoinOf: function 19 (proved by hand) -/
def burgageref01_JoinOf.f (a0 : ByteArray) (a1 : ByteArray) : Option (ByteArray × Int) := if a0.size ≤ 1000 ∧ a1.size ≤ 1000 then some (E.joinB a0 a1) else none
theorem burgageref01_JoinOf.calls (a0 : ByteArray) (a1 : ByteArray) (r1 : ByteArray) (r2 : Int) (w : World) (h : burgageref01_JoinOf.f a0 a1 = some (r1, r2)) :
    Calls Tryd.prog 19 #[.string a0, .string a1] w fun e w' => e = .returned (.agg #[.string r1, .int .i64 r2]) ∧ Below w.heap.size w w' := by
  unfold burgageref01_JoinOf.f at h
  split at h
  · rename_i hc
    have h1 := K.joinOf19 a0 a1 hc.1 hc.2 w
    rw [Option.some.inj h] at h1
    exact h1
  · cases h


/-! ### burgageref01_SplitOf: function 21 (proved by hand) -/
def burgageref01_SplitOf.f (a0 : ByteArray) : Option (ByteArray × ByteArray × Int) := if a0.size ≤ 1000 then some (E.splitB a0) else none
theorem burgageref01_SplitOf.calls (a0 : ByteArray) (r1 : ByteArray) (r2 : ByteArray) (r3 : Int) (w : World) (h : burgageref01_SplitOf.f a0 = some (r1, r2, r3)) :
    Calls Tryd.prog 21 #[.string a0] w fun e w' => e = .returned (.agg #[.string r1, .string r2, .int .i64 r3]) ∧ Below w.heap.size w w' := by
  unfold burgageref01_SplitOf.f at h
  split at h
  · rename_i hc
    have h1 := K.splitOf21 a0 hc w
    rw [Option.some.inj h] at h1
    exact h1
  · cases h


/-! ### burgageref01_Parse: function 23 (proved by hand) -/
def burgageref01_Parse.f (a0 : ByteArray) : Option (ByteArray × Int) := if a0.size ≤ 1000 then some (E.parseB a0) else none
theorem burgageref01_Parse.calls (a0 : ByteArray) (r1 : ByteArray) (r2 : Int) (w : World) (h : burgageref01_Parse.f a0 = some (r1, r2)) :
    Calls Tryd.prog 23 #[.string a0] w fun e w' => e = .returned (.agg #[.string r1, .int .i64 r2]) ∧ Below w.heap.size w w' := by
  unfold burgageref01_Parse.f at h
  split at h
  · rename_i hc
    have h1 := K.parseOf23 a0 hc w
    rw [Option.some.inj h] at h1
    exact h1
  · cases h


/-! ### burgageref01_Below: function 25 (proved by hand) -/
def burgageref01_Below.f (a0 : ByteArray) (a1 : ByteArray) : Option (Bool) := if a1.size ≤ 1000 then some (Sp.below (Sp.ub a0) (Sp.ub a1)) else none
theorem burgageref01_Below.calls (a0 : ByteArray) (a1 : ByteArray) (r : Bool) (w : World) (h : burgageref01_Below.f a0 a1 = some r) :
    Calls Tryd.prog 25 #[.string a0, .string a1] w fun e w' => e = .returned (.bool r) ∧ Drawn0 w w' := by
  unfold burgageref01_Below.f at h
  split at h
  · rename_i hc
    have h1 := K.belowR25 a0 a1 hc w
    rw [Option.some.inj h] at h1
    exact h1
  · cases h


/-! ### burgageref01_Swap: function 27 (proved by hand) -/
def burgageref01_Swap.f (a0 : ByteArray) (a1 : ByteArray) (a2 : ByteArray) : Option (ByteArray × Bool) := if a0.size ≤ 1000 ∧ a1.size ≤ 1000 ∧ a2.size ≤ 1000 then some (E.swapB a0 a1 a2) else none
theorem burgageref01_Swap.calls (a0 : ByteArray) (a1 : ByteArray) (a2 : ByteArray) (r1 : ByteArray) (r2 : Bool) (w : World) (h : burgageref01_Swap.f a0 a1 a2 = some (r1, r2)) :
    Calls Tryd.prog 27 #[.string a0, .string a1, .string a2] w fun e w' => e = .returned (.agg #[.string r1, .bool r2]) ∧ Below w.heap.size w w' := by
  unfold burgageref01_Swap.f at h
  split at h
  · rename_i hc
    have h1 := K.swapR27 a0 a1 a2 hc.1 hc.2.1 hc.2.2 w
    rw [Option.some.inj h] at h1
    exact h1
  · cases h


/-! ### burgageref01_Copy: function 29 (proved by hand) -/
def burgageref01_Copy.f (a0 : ByteArray) (a1 : ByteArray) (a2 : Int) : Option (ByteArray) := some (F.copyB a0 a1 a2)
theorem burgageref01_Copy.calls (a0 : ByteArray) (a1 : ByteArray) (a2 : Int) (r : ByteArray) (w : World) (h : burgageref01_Copy.f a0 a1 a2 = some r) :
    Calls Tryd.prog 29 #[.string a0, .string a1, .int .i64 a2] w fun e w' => e = .returned (.string r) ∧ Below w.heap.size w w' := by
  unfold burgageref01_Copy.f at h
  have h1 := F.copy29 a0 a1 a2 w
  rw [Option.some.inj h] at h1
  exact h1


-- NOT PRINTED: function 3 (burgagelaw01_NameMatchesReference)

-- NOT PRINTED: function 4 (burgagelaw01_NameParts)

end Go.Proofs.YtpahemgofhpfnaaDoor.U

/- One contract for each simple function of the place seat. -/
import Derived.Test.YtfmeababiedamaaD
import Derived.Test.YtfmeababiedamaaA
import Derived.Test.YtfmeababiedamaaT
namespace Go.Proofs.Ytfmeababiedamaa.K
open Go.RowKit Go.Shelf Go.Proofs.YtfmeababiedamaaW.PrintWords Go.Proofs.YtfmeababiedamaaW.PrintLast Go.Proofs.YtfmeababiedamaaW.PrintMore
open Go.Proofs.Ytfmeababiedamaa Go.Proofs.Ytfmeababiedamaa.M Go.Proofs.Ytfmeababiedamaa.Sp Go.Proofs.Ytfmeababiedamaa.E Go.Proofs.Ytfmeababiedamaa.G Go.Proofs.Ytfmeababiedamaa.A
set_option linter.unusedVariables false
set_option linter.unusedSimpArgs false

theorem partsB_ok (s : ByteArray) : ((partsB s).2 == 0) = isPath (ub s) := by
  unfold partsB
  cases isPath (ub s) <;> rfl
theorem path43 (s : ByteArray) (hs : s.size ≤ 1000) (w : World) : Calls Try.prog 43 #[.string s] w fun e w' => e = .returned (.bool (isPath (ub s))) ∧ Below w.heap.size w w' := by
  have hP := D.parts35 s hs
  have e := Lib.hid (partsB_ok s)
  go_enter Try.func43, Try.ntmps43
  go_wp2_with (go_at_call 61; refine (hP _).mono ?_; rintro e w' ⟨v, rfl, hR, hb⟩)
  go_ret
  exact ⟨by rw [← e.out]; rfl, hb⟩
theorem path41 (s : ByteArray) (hs : s.size ≤ 1000) (w : World) : Calls Try.prog 41 #[.string s] w fun e w' => e = .returned (.bool (isPath (ub s))) ∧ Below w.heap.size w w' :=
  M.burgageref24_path.calls 3000 s _ w (rpath_at s hs 3000 (Nat.le_refl _))
theorem below44 (p q : ByteArray) (hq : q.size ≤ 1000) (w : World) : Calls Try.prog 44 #[.string p, .string q] w fun e w' => e = .returned (.bool (below (ub p) (ub q))) ∧ Drawn0 w w' :=
  M.name_Below.calls p q _ w (belowP_at p q hq)
theorem below15 (p q : ByteArray) (hq : q.size ≤ 1000) (w : World) : Calls Try.prog 15 #[.string p, .string q] w fun e w' => e = .returned (.bool (below (ub p) (ub q))) ∧ Drawn0 w w' :=
  M.burgageref01_Below.calls p q _ w (belowR_at p q hq)
theorem index51 (A : Option Addr) (c : Nat) (l : List S32) (s : ByteArray) (w : World) (hl : Small l) (hr : Kd.C k32 w A l.length l) (hc : l.length ≤ c) :
    Calls Try.prog 51 #[.agg #[.slice A l.length c], .string s] w fun e w' => e = .returned (.int .i64 (idxL l s : Int)) ∧ Below w.heap.size w w' :=
  M.place_index.calls 1001 A c l s _ w hr hc (index_at l s hl 1001 (Nat.le_refl _))
theorem index42 (A : Option Addr) (c : Nat) (l : List S32) (s : ByteArray) (w : World) (hl : Small l) (h0 : 0 < l.length) (hr : Kd.C k32 w A l.length l) (hc : l.length ≤ c) :
    Calls Try.prog 42 #[.agg #[.slice A l.length c], .string s] w fun e w' => e = .returned (.int .i64 (idxR l s : Int)) ∧ Below w.heap.size w w' :=
  M.burgageref24_Index.calls 1001 A c l s _ w hr hc (rindex_at l s hl h0 1001 (Nat.le_refl _))
theorem exact57 (A : Option Addr) (c : Nat) (l : List S32) (s : ByteArray) (w : World) (hl : l.length ≤ 1000) (hr : Kd.C k32 w A l.length l) (hc : l.length ≤ c) :
    Calls Try.prog 57 #[.agg #[.slice A l.length c], .string s] w fun e w' => e = .returned (.int .i64 (exL l s)) ∧ Below w.heap.size w w' :=
  M.burgageref24_exact.calls 1001 A c l s _ w hr hc (exact_at l s hl 1001 (Nat.le_refl _))
theorem same18 (A B : Option Addr) (c d : Nat) (l m : List S32) (w : World) (hl : l.length ≤ 1000) (hr : Kd.C k32 w A l.length l) (hc : l.length ≤ c) (hm : Kd.C k32 w B m.length m) (hd : m.length ≤ d) :
    Calls Try.prog 18 #[.agg #[.slice A l.length c], .agg #[.slice B m.length d]] w fun e w' => e = .returned (.bool (decide (l = m))) ∧ Below w.heap.size w w' :=
  M.burgageref24_Same.calls 1001 A c l B d m _ w hr hc hm hd (same_at l m hl 1001 (Nat.le_refl _))
theorem copied58 (A : Option Addr) (c : Nat) (l : List S32) (w : World) (hl : l.length ≤ 1000) (hr : Kd.C k32 w A l.length l) (hc : l.length ≤ c) :
    Calls Try.prog 58 #[.agg #[.slice A l.length c]] w fun e w' => ∃ v0_ : Value, e = .returned (.agg #[v0_]) ∧ Kd.R k32 32 w' w.heap.size (fun _ => True) v0_ l ∧ Below w.heap.size w w' :=
  M.burgageref24_copied.calls A c l l w hr hc (copied_at l hl)
end Go.Proofs.Ytfmeababiedamaa.K

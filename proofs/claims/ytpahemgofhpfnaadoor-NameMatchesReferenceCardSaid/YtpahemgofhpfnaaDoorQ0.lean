-- MADE BY A PROGRAM: the kit's printer, driven and mended by this session's wip/myprint.py. Lean checks it.
import Derived.Test.YtpahemgofhpfnaaDoorProg
import Derived.Below
import Derived.Deep.Draws
import Derived.Deep.AppendLies
import Derived.Maps.AppendAt
import Derived.OwnWalk
import Derived.Laws.BytesArg
import Derived.Laws.MakeOwn
import Derived.Laws.OwnMore
import Derived.Deep.OwnRows
import Derived.Tactics
import Derived.Lib.ConvBytes
import Derived.Laws.Slices
import Derived.WalkKit
import Derived.KernelRfl
import Derived.RowKit3
import Derived.Deep.LoopGhost
import Derived.Deep.QuietTactic
import Derived.BigQuiet
import Derived.WideLaws
import Derived.Deep.DeepCutAuto
import Derived.Deep.CutBlock
import Derived.Deep.RegionHeld3
import Derived.Laws.Rows
import Derived.Lib.AppendStr
import Derived.ArgAppend
import Derived.Laws.IdiomCopy
import Derived.OrdersHeld
import Derived.Laws.BitsLemmas
import Derived.RowKit
import Derived.Test.YtpahemgofhpfnaaDoorF
import Derived.Test.YtpahemgofhpfnaaDoorWWords
import Derived.Test.YtpahemgofhpfnaaDoorWLast
import Derived.Test.YtpahemgofhpfnaaDoorWTab
import Derived.Test.YtpahemgofhpfnaaDoorWFour
import Derived.Test.YtpahemgofhpfnaaDoorWQPut
import Derived.Test.YtpahemgofhpfnaaDoorWApart
import Derived.Test.YtpahemgofhpfnaaDoorWArr
import Derived.Test.YtpahemgofhpfnaaDoorWZeros
import Derived.Test.YtpahemgofhpfnaaDoorWFoot
import Derived.Test.YtpahemgofhpfnaaDoorWKept
import Derived.Test.YtpahemgofhpfnaaDoorWShare
import Derived.Test.YtpahemgofhpfnaaDoorWN
import Derived.Test.YtpahemgofhpfnaaDoorWFootNe
import Derived.Test.YtpahemgofhpfnaaDoorWAt
import Derived.Test.YtpahemgofhpfnaaDoorWEqStruct
import Derived.Test.YtpahemgofhpfnaaDoorWRepsOne
import Derived.Test.YtpahemgofhpfnaaDoorWInv
import Derived.Test.YtpahemgofhpfnaaDoorWInvWords
import Derived.Test.YtpahemgofhpfnaaDoorWGuard
import Derived.Test.YtpahemgofhpfnaaDoorWNEv
import Derived.Test.YtpahemgofhpfnaaDoorWMore
namespace Go.Proofs.YtpahemgofhpfnaaDoor.Q
open Go.Proofs.YtpahemgofhpfnaaDoor Go.Proofs.YtpahemgofhpfnaaDoor.M
open Go.RowKit Go.Proofs.YtpahemgofhpfnaaDoorW.PrintWords Go.Proofs.YtpahemgofhpfnaaDoorW.PrintLast Go.Proofs.YtpahemgofhpfnaaDoorW.PrintMore
attribute [local go_sem] max2_int min2_int max_two min_two max_three min_three max_four min_four   -- for this text's walks alone
set_option linter.unusedVariables false
set_option linter.unusedSimpArgs false



def errW : Option Int → Value
  | none => .nilIface
  | some c => .iface 0 (.int .i64 c)
theorem errW_none : errW none = .nilIface := rfl
theorem errW_some (c : Int) : errW (some c) = .iface 0 (.int .i64 c) := rfl

theorem info5 : (Tryd.prog.info? 5).map (fun i => (i.zero, i.size, i.bytes)) = some (some (.int .u8 0), 1, 1) := by kernel_rfl
theorem info9 : (Tryd.prog.info? 9).map (fun i => (i.zero, i.size, i.bytes)) = some (some (.string ⟨#[]⟩), 1, 16) := by kernel_rfl
-- the values' own types

end Go.Proofs.YtpahemgofhpfnaaDoor.Q

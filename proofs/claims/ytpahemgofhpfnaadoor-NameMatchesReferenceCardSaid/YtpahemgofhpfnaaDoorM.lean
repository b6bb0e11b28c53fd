-- MADE BY A PROGRAM: the kit's printer, driven and mended by this session's wip/myprint.py. Lean checks it.
import Derived.Test.YtpahemgofhpfnaaDoorM0
import Derived.Test.YtpahemgofhpfnaaDoorM1
import Derived.Test.YtpahemgofhpfnaaDoorM2
import Derived.Test.YtpahemgofhpfnaaDoorM3
import Derived.Test.YtpahemgofhpfnaaDoorM4
import Derived.Test.YtpahemgofhpfnaaDoorM5
namespace Go.Proofs.YtpahemgofhpfnaaDoor.M
open Go.RowKit Go.Proofs.YtpahemgofhpfnaaDoorW.PrintWords Go.Proofs.YtpahemgofhpfnaaDoorW.PrintLast Go.Proofs.YtpahemgofhpfnaaDoorW.PrintMore
attribute [local go_sem] max2_int min2_int max_two min_two max_three min_three max_four min_four   -- for this text's walks alone
set_option linter.unusedVariables false
set_option linter.unusedSimpArgs false

end Go.Proofs.YtpahemgofhpfnaaDoor.M

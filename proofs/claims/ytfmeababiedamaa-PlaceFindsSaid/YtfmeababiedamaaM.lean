-- MADE BY A PROGRAM: the kit's printer, driven and mended by this session's wip/myprint.py. Lean checks it.
import Derived.Test.YtfmeababiedamaaM0
import Derived.Test.YtfmeababiedamaaM1
import Derived.Test.YtfmeababiedamaaM2
import Derived.Test.YtfmeababiedamaaM3
import Derived.Test.YtfmeababiedamaaM4
import Derived.Test.YtfmeababiedamaaM5
namespace Go.Proofs.Ytfmeababiedamaa.M
open Go.RowKit Go.Proofs.YtfmeababiedamaaW.PrintWords Go.Proofs.YtfmeababiedamaaW.PrintLast Go.Proofs.YtfmeababiedamaaW.PrintMore
attribute [local go_sem] max2_int min2_int max_two min_two max_three min_three max_four min_four   -- for this text's walks alone
set_option linter.unusedVariables false
set_option linter.unusedSimpArgs false

end Go.Proofs.Ytfmeababiedamaa.M

/- Closed facts of the program: types, fields, functions. -/
import Derived.Test.YtmppcnbkfjeabaaDoorEng23
import Derived.Test.YtmppcnbkfjeabaaDoorProg
import Derived.KernelRfl
namespace Go.Proofs.YtmppcnbkfjeabaaDoor
open Go Go.Eng
set_option maxRecDepth 100000
set_option linter.unusedVariables false
set_option linter.unusedSimpArgs false
theorem hmix : Tryd.prog.follows .mixedOrders = true := by kernel_rfl

end Go.Proofs.YtmppcnbkfjeabaaDoor

/- Closed facts of the program: types, fields, functions. -/
import Derived.Test.YtfpphoapknecfaaGreatDoorBesafterEng28
import Derived.Test.YtfpphoapknecfaaGreatDoorBesafterProg
import Derived.KernelRfl
namespace Go.Proofs.YtfpphoapknecfaaGreatDoorBesafter
open Go Go.Eng
set_option maxRecDepth 100000
set_option linter.unusedVariables false
set_option linter.unusedSimpArgs false
theorem hmix : Tryz.prog.follows .mixedOrders = true := by kernel_rfl

end Go.Proofs.YtfpphoapknecfaaGreatDoorBesafter

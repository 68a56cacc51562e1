/- The transforms modulo a prime: the reference. -/
import Derived.Test.YtkgbdiahmamolaaGreatDoorBesafterEx
namespace Go.Proofs.YtkgbdiahmamolaaGreatDoorBesafter
open Go Go.Eng
set_option maxRecDepth 100000
set_option linter.unusedVariables false
set_option linter.unusedSimpArgs false

end Go.Proofs.YtkgbdiahmamolaaGreatDoorBesafter

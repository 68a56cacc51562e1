/- (Nothing of package pack is reached here.) -/
import Derived.Test.YtgkmmbdlclecnaaDoorBase
import Derived.Test.YtgkmmbdlclecnaaDoorFacts
namespace Go.Proofs.YtgkmmbdlclecnaaDoor
open Go Go.Eng
set_option maxRecDepth 100000
set_option linter.unusedVariables false
set_option linter.unusedSimpArgs false

end Go.Proofs.YtgkmmbdlclecnaaDoor

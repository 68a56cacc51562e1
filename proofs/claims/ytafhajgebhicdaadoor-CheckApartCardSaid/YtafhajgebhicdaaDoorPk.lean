/- (Nothing of package pack is reached here.) -/
import Derived.Test.YtafhajgebhicdaaDoorBase
import Derived.Test.YtafhajgebhicdaaDoorFacts
namespace Go.Proofs.YtafhajgebhicdaaDoor
open Go Go.Eng
set_option maxRecDepth 100000
set_option linter.unusedVariables false
set_option linter.unusedSimpArgs false

end Go.Proofs.YtafhajgebhicdaaDoor

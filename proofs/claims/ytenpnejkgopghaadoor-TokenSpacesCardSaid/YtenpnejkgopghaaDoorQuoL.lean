/- A name, quoted, is one token. No program in sight. -/
import Derived.Test.YtenpnejkgopghaaDoorQuoP
set_option linter.unusedVariables false
set_option linter.unusedSectionVars false
set_option linter.unusedSimpArgs false
set_option maxRecDepth 100000
namespace Go.Proofs.YtenpnejkgopghaaDoor.Tok
open Go Go.RowKit
end Go.Proofs.YtenpnejkgopghaaDoor.Tok

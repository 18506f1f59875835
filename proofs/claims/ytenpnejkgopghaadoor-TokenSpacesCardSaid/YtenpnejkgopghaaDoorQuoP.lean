/- A name between quotes, if it needs them: what Plain, Quote answer. No program in sight. -/
import Derived.Test.YtenpnejkgopghaaDoorLexW
set_option linter.unusedVariables false
set_option linter.unusedSectionVars false
set_option linter.unusedSimpArgs false
set_option maxRecDepth 100000
namespace Go.Proofs.YtenpnejkgopghaaDoor.Tok
open Go Go.RowKit
end Go.Proofs.YtenpnejkgopghaaDoor.Tok

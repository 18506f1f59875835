/- Names side by side, as tokens. No program in sight. -/
import Derived.Test.YtenpnejkgopghaaDoorLexW
set_option linter.unusedVariables false
set_option linter.unusedSectionVars false
set_option linter.unusedSimpArgs false
namespace Go.Proofs.YtenpnejkgopghaaDoor.Tok
open Go Go.RowKit
end Go.Proofs.YtenpnejkgopghaaDoor.Tok

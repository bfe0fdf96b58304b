
/- What plus and minus of package substationref01 return. -/
import Derived.Test.YtfdpnephjpcnbaaDoorBz29
set_option linter.unusedSimpArgs false
set_option linter.unusedVariables false
namespace Go.Proofs.YtfdpnephjpcnbaaDoor
open Go.RowKit Go.Sub
end Go.Proofs.YtfdpnephjpcnbaaDoor

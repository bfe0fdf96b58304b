
/- What plus and minus of package substationref01 return. -/
import Derived.Test.YtomodppdolfinaaGreatBgC
namespace Go.Proofs.YtomodppdolfinaaGreat
open Go.RowKit Go.Sub
end Go.Proofs.YtomodppdolfinaaGreat

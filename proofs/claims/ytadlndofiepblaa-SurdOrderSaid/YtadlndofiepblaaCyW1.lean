
/- What the functions of package cyclo that the sums and products are built on return: broken, within, limited, dozen, minus. -/
import Derived.Test.YtadlndofiepblaaRows
import Derived.Test.YtadlndofiepblaaJk
import Derived.Test.YtadlndofiepblaaCyPlain
namespace Go.Proofs.Ytadlndofiepblaa
open Go.RowKit Go.Sub

end Go.Proofs.Ytadlndofiepblaa

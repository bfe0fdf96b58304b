
/- '==' between two numbers of the ring, in this program. -/
import Derived.Test.YtadlndofiepblaaRows
import Derived.Test.YtadlndofiepblaaEqs
namespace Go.Proofs.Ytadlndofiepblaa
open Go.RowKit Go.Sub
end Go.Proofs.Ytadlndofiepblaa

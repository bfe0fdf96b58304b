
/- What Add, Sub, Conj, Real, Imag and Norm of package cyclo return. -/
import Derived.Test.YtadlndofiepblaaCyW1
namespace Go.Proofs.Ytadlndofiepblaa
open Go.RowKit Go.Sub

end Go.Proofs.Ytadlndofiepblaa


/- PhasorSizes: all cases. -/
import Derived.Test.YtomodppdolfinaaDoorLwPhSizes
import Derived.Test.YtomodppdolfinaaDoorPhI
namespace Go.Proofs.YtomodppdolfinaaDoor
open Go.RowKit Go.Sub
theorem phSz_walk (c : Cy) (v : Value) (p : Int) (w : World) (hr : RootsOK w) (hv : IntsArg w v) :
    Calls Tryd.prog 5 #[.agg #[.int .i64 c.a, .int .i64 c.b, .int .i64 c.c, .int .i64 c.d], v, .int .i64 p] w fun e w' => e = .returned (.bool true) ∧ Q w w' := by
  rcases hv with ⟨a, n, cp, rfl, hn⟩ | ⟨b, o, cp, x, rfl, hw⟩
  · exact phSz_err c a n cp p 3 w hr (by decide) (fun w' _ => phcheck_len a n cp w' hn) (fun w' _ => rcheck_len a n cp w' hn)
  · by_cases hz : chkE x = 0
    · by_cases hp : p < 0 ∨ 100 < p
      · exact phSz_arg c b o cp x p w hr hw (chkE_win hz) hp
      · exact phSz_ok c b o cp x p w hr hw (chkE_win hz) (by omega) (by omega)
    · exact phSz_err c (some ⟨b, o, none⟩) 12 cp p (chkE x) w hr hz (fun w' hq => phcheck_any b o cp x w' (hw.q hq)) (fun w' hq => rcheck_any b o cp x w' (hw.q hq))
end Go.Proofs.YtomodppdolfinaaDoor


/- CycloSums: the walk. -/
import Derived.Test.YtomodppdolfinaaDoorCyL2
import Derived.Test.YtomodppdolfinaaDoorRfS
import Derived.Test.YtomodppdolfinaaDoorRfW3
namespace Go.Proofs.YtomodppdolfinaaDoor
open Go.RowKit Go.Sub
set_option maxHeartbeats 4000000 in
theorem sums_walk (x y : Cy) (k : Int) (w : World) (hr : RootsOK w) :
    Calls Tryd.prog 4 #[.agg #[.int .i64 x.a, .int .i64 x.b, .int .i64 x.c, .int .i64 x.d], .agg #[.int .i64 y.a, .int .i64 y.b, .int .i64 y.c, .int .i64 y.d], .int .i64 k] w fun e w' => e = .returned (.bool true) ∧ Q w w' := by
  go_enter Tryd.func4, Tryd.ntmps4
  go_wp2_with (first | (go_at_call 6; refine (known_any _ (by repeat' (first | with_reducible exact hr | refine RootsOK.alloc ?_ _ | refine RootsOK.jk ?_ _ | refine RootsOK.drew ?_))).mono ?_; rintro e w' ⟨rfl, kj, rfl⟩) | (go_at_call 11; refine (add_any _ _ _ _ _ _ _ _ _).mono ?_; rintro e w' ⟨rfl, kj, rfl⟩) | (go_at_call 12; refine (radd_any _ _ _ _ _ _ _ _ _).mono ?_; rintro e w' ⟨rfl, kj, rfl⟩) | (go_at_call 14; refine (sub_any _ _ _ _ _ _ _ _ _).mono ?_; rintro e w' ⟨rfl, kj, rfl⟩) | (go_at_call 15; refine (rsub_any _ _ _ _ _ _ _ _ _).mono ?_; rintro e w' ⟨rfl, kj, rfl⟩) | (go_at_call 16; refine (scale_any _ _ _ _ _ _).mono ?_; rintro e w' ⟨rfl, kj, rfl⟩) | (go_at_call 17; refine (r3scale_any _ _ _ _ _ _).mono ?_; rintro e w' ⟨rfl, kj, rfl⟩) | (go_at_call 18; refine (conj_any _ _ _ _ _).mono ?_; rintro e w' ⟨rfl, kj, rfl⟩) | (go_at_call 19; refine (rconj_any _ _ _ _ _).mono ?_; rintro e w' ⟨rfl, kj, rfl⟩) | (go_at_call 10; refine (root_any _ _ (by repeat' (first | with_reducible exact hr | refine RootsOK.alloc ?_ _ | refine RootsOK.jk ?_ _ | refine RootsOK.drew ?_))).mono ?_; rintro e w' ⟨rfl, kj, rfl⟩) | (go_at_call 13; refine (rroot_any _ _).mono ?_; rintro e w' ⟨rfl, kj, rfl⟩))
  go_ret
  refine ⟨rfl, ?_⟩
  repeat' (first | exact Q.refl _ | refine Q.alloc ?_ _ | refine Q.jk ?_ _ | refine Q.drew ?_)
end Go.Proofs.YtomodppdolfinaaDoor

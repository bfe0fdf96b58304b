
/- PhasorBacks: the walk. -/
import Derived.Test.YtbonaopcoeconaaDoorPhR
import Derived.Test.YtbonaopcoeconaaDoorLwPhInverse
namespace Go.Proofs.YtbonaopcoeconaaDoor
open Go.RowKit Go.Sub
set_option maxRecDepth 100000 in
set_option maxHeartbeats 4000000 in
theorem phBacks_walk (c : Nat → Cy) (w : World) (hr : RootsOK w) :
    Calls Tryd.prog 12 #[.agg (cells48 c 12)] w fun e w' => e = .returned (.bool true) ∧ Q w w' := by
  go_enter Tryd.func12, Tryd.ntmps12
  go_wp2_with (go_at_call 24; refine (known20_c _ (by repeat' (first | with_reducible exact hr | refine RootsOK.alloc ?_ _ | refine RootsOK.jk ?_ _ | refine RootsOK.drew ?_))).mono ?_; rintro e w' ⟨rfl, kj, rfl⟩)
  go_at_call 40
  refine (phback_c c _).mono ?_
  rintro e w' ⟨⟨kb, rfl⟩, hres⟩
  rcases hres with ⟨h0, gb, cb, rfl, hwb⟩ | ⟨hne, rfl⟩
  · have HB := Lib.hid hwb
    have H0 := Lib.hid h0
    clear hwb h0
    go_wp2_with fail
    go_at_call 41
    refine (rback_c c _).mono ?_
    rintro e w' ⟨⟨kc, rfl⟩, hres⟩
    rcases hres with ⟨h1, gc, cc, rfl, hwc⟩ | ⟨hne, rfl⟩
    · have HC := Lib.hid hwc
      clear hwc h1
      go_wp2_with (go_at_call 42; refine (same12_c _ _ _ _ _ _ (bkX c) _ (HB.out.q (by repeat' (first | exact Q.refl _ | refine Q.alloc ?_ _ | refine Q.jk ?_ _ | refine Q.drew ?_))) HC.out).mono ?_; rintro e w' ⟨rfl, kj, rfl⟩)
      go_ret
      refine ⟨rfl, ?_⟩
      repeat' (first | exact Q.refl _ | refine Q.alloc ?_ _ | refine Q.jk ?_ _ | refine Q.drew ?_)
    · exact absurd H0.out hne
  · have H0 := Lib.hid hne
    clear hne
    go_wp2_with fail
    go_at_call 41
    refine (rback_c c _).mono ?_
    rintro e w' ⟨⟨kc, rfl⟩, hres⟩
    rcases hres with ⟨h1, gc, cc, rfl, hwc⟩ | ⟨hne, rfl⟩
    · exact absurd h1 H0.out
    · clear hne
      go_wp2_with (go_at_call 42; refine (samenil_c _).mono ?_; rintro e w' ⟨rfl, kj, rfl⟩)
      go_ret
      refine ⟨rfl, ?_⟩
      repeat' (first | exact Q.refl _ | refine Q.alloc ?_ _ | refine Q.jk ?_ _ | refine Q.drew ?_)
end Go.Proofs.YtbonaopcoeconaaDoor

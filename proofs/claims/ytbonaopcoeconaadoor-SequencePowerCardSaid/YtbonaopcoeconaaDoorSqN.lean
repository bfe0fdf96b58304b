
/- The helpers norm and total of the laws of sequence. -/
import Derived.Test.YtbonaopcoeconaaDoorSqB
import Derived.Deep.RegionHeld3
import Derived.Deep.RegionWith
namespace Go.Proofs.YtbonaopcoeconaaDoor
open Go.RowKit Go.Sub
set_option maxHeartbeats 1000000 in
theorem sqnorm_c (x : Cy) (w : World) (hx : x.In 268435456) :
    Calls Tryd.prog 50 #[.agg #[.int .i64 x.a, .int .i64 x.b, .int .i64 x.c, .int .i64 x.d]] w fun e w' => e = .returned (.agg #[.int .i64 (x.norm).a, .int .i64 (x.norm).b]) ∧ Q w w' := by
  go_enter Tryd.func50, Tryd.ntmps50
  go_wp2_with (go_at_call 38; refine (norm_c _ _ hx).mono ?_; rintro e w' ⟨rfl, kj, rfl⟩)
  refine bodyPost_ret (v := .agg #[.int .i64 (x.norm).a, .int .i64 (x.norm).b]) (by simp [results, Tryd.results50, go_sem]) rfl ⟨rfl, ?_⟩
  repeat' (first | exact Q.refl _ | refine Q.alloc ?_ _ | refine Q.jk ?_ _ | refine Q.drew ?_)

set_option maxHeartbeats 2000000 in
theorem sqtot_c (x y z : Cy) (w : World) (hx : x.In 2000000) (hy : y.In 2000000) (hz : z.In 2000000) :
    Calls Tryd.prog 23 #[.agg #[.int .i64 x.a, .int .i64 x.b, .int .i64 x.c, .int .i64 x.d, .int .i64 y.a, .int .i64 y.b, .int .i64 y.c, .int .i64 y.d, .int .i64 z.a, .int .i64 z.b, .int .i64 z.c, .int .i64 z.d]] w fun e w' => e = .returned (.agg #[.int .i64 ((x.norm.add y.norm).add z.norm).a, .int .i64 ((x.norm.add y.norm).add z.norm).b]) ∧ Q w w' := by
  have nx := norm_in hx
  have ny := norm_in hy
  have nz := norm_in hz
  have nxy : (x.norm.add y.norm).In 48000000000000 := by unfold Su.In at *; simp only [Su.add]; omega
  go_enter Tryd.func23, Tryd.ntmps23
  go_wp2
  go_region_held3 (fun w' => w'.cell? ⟨w.heap.size, 0, none⟩ = some (.int .i64 x.a) ∧ w'.cell? ⟨w.heap.size, 1, none⟩ = some (.int .i64 x.b) ∧ w'.cell? ⟨w.heap.size, 2, none⟩ = some (.int .i64 x.c) ∧ w'.cell? ⟨w.heap.size, 3, none⟩ = some (.int .i64 x.d) ∧ w'.cell? ⟨w.heap.size, 4, none⟩ = some (.int .i64 y.a) ∧ w'.cell? ⟨w.heap.size, 5, none⟩ = some (.int .i64 y.b) ∧ w'.cell? ⟨w.heap.size, 6, none⟩ = some (.int .i64 y.c) ∧ w'.cell? ⟨w.heap.size, 7, none⟩ = some (.int .i64 y.d)) (simp [go_sem]) (first | (go_at_call 50; refine (sqnorm_c _ _ (Cy.In.mono (by assumption) (by decide))).mono ?_; rintro e w' ⟨rfl, kj, rfl⟩) | (go_at_call 39; refine (sadd_c _ _ _ (Su.In.mono (by assumption) (by decide)) (Su.In.mono (by assumption) (by decide))).mono ?_; rintro e w' ⟨rfl, kj, rfl⟩))
  all_goals go_wp2
  all_goals (go_region_with (first | (go_at_call 50; refine (sqnorm_c _ _ (Cy.In.mono (by assumption) (by decide))).mono ?_; rintro e w' ⟨rfl, kj, rfl⟩) | (go_at_call 39; refine (sadd_c _ _ _ (Su.In.mono (by assumption) (by decide)) (Su.In.mono (by assumption) (by decide))).mono ?_; rintro e w' ⟨rfl, kj, rfl⟩)))
  all_goals go_wp2
  all_goals
    refine bodyPost_ret (v := .agg #[.int .i64 ((x.norm.add y.norm).add z.norm).a, .int .i64 ((x.norm.add y.norm).add z.norm).b]) (by simp [results, Tryd.results23, go_sem]) rfl ⟨rfl, ?_⟩
    repeat' (first | exact Q.refl _ | refine Q.alloc ?_ _ | refine Q.jk ?_ _ | refine Q.drew ?_)
end Go.Proofs.YtbonaopcoeconaaDoor

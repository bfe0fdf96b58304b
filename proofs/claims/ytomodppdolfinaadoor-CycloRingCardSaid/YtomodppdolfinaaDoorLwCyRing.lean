
/- CycloRing returns true: the walk. -/
import Derived.Test.YtomodppdolfinaaDoorCyL1
import Derived.Test.YtomodppdolfinaaDoorCyLaws
import Derived.Test.YtomodppdolfinaaDoorSto
namespace Go.Proofs.YtomodppdolfinaaDoor
open Go.RowKit Go.Sub
set_option maxRecDepth 100000 in
set_option maxHeartbeats 8000000 in
theorem ring_walk (a b c d a' b' c' d' a'' b'' c'' d'' : Int) (w : World) (hr : RootsOK w) :
    Calls Tryd.prog 3 #[.agg #[.int .i64 a, .int .i64 b, .int .i64 c, .int .i64 d], .agg #[.int .i64 a', .int .i64 b', .int .i64 c', .int .i64 d'], .agg #[.int .i64 a'', .int .i64 b'', .int .i64 c'', .int .i64 d'']] w fun e w' => e = .returned (.bool true) ∧ Q w w' := by
  go_enter Tryd.func3, Tryd.ntmps3
  go_wp2_with (go_at_call 6; refine (known_any _ (by repeat' (first | with_reducible exact hr | refine RootsOK.alloc ?_ _ | refine RootsOK.jk ?_ _ | refine RootsOK.drew ?_))).mono ?_; rintro e w' ⟨rfl, kj, rfl⟩)
  refine wp_region_tail 6 (by kernel_rfl) (by kernel_rfl) ?_
  simp only [List.take_succ_cons, List.take_zero, List.drop_succ_cons, List.drop_zero]
  repeat (go_big_quiet_step ((go_at_call 7; exact Calls.jk_of (small_any _ _ _ _ _))))
  refine wpQuiet_nil ?_
  intro _ hw'
  obtain ⟨kq, rfl⟩ := hw'
  go_wp2
  refine wp_loop_rounds 5 ?_
  rw [rounds_succ]; go_wp2_with fail
  refine wp_named ?_
  intro B hB
  have c1 : B.cell? ⟨w.heap.size, 0, none⟩ = some (.int .i64 (a.tmod 4096)) := by rw [hB]; simp [go_sem]
  have f1 : B.frozen? ⟨w.heap.size, 0, none⟩ = false := by rw [hB]; simp [go_sem]
  haveI o1 : Old (w.heap.size) B := ⟨World.block_lt_of_cell? B ⟨w.heap.size, 0, none⟩ c1⟩
  have c2 : B.cell? ⟨w.heap.size + 1, 0, none⟩ = some (.int .i64 (a'.tmod 4096)) := by rw [hB]; simp [go_sem]
  have f2 : B.frozen? ⟨w.heap.size + 1, 0, none⟩ = false := by rw [hB]; simp [go_sem]
  haveI o2 : Old (w.heap.size + 1) B := ⟨World.block_lt_of_cell? B ⟨w.heap.size + 1, 0, none⟩ c2⟩
  have c3 : B.cell? ⟨w.heap.size + 1 + 1, 0, none⟩ = some (.int .i64 (a''.tmod 4096)) := by rw [hB]; simp [go_sem]
  have f3 : B.frozen? ⟨w.heap.size + 1 + 1, 0, none⟩ = false := by rw [hB]; simp [go_sem]
  haveI o3 : Old (w.heap.size + 1 + 1) B := ⟨World.block_lt_of_cell? B ⟨w.heap.size + 1 + 1, 0, none⟩ c3⟩
  obtain ⟨F, hF⟩ : ∃ F, F = F3 B ⟨w.heap.size, 0, none⟩ (.int .i64 (a.tmod 256)) ⟨w.heap.size + 1, 0, none⟩ (.int .i64 (a'.tmod 256)) ⟨w.heap.size + 1 + 1, 0, none⟩ (.int .i64 (a''.tmod 256)) := ⟨_, rfl⟩
  haveI q1 : ∀ l, Old (w.heap.size) (F l) := fun l => by rw [hF]; exact F3_old o1 l
  haveI q2 : ∀ l, Old (w.heap.size + 1) (F l) := fun l => by rw [hF]; exact F3_old o2 l
  haveI q3 : ∀ l, Old (w.heap.size + 1 + 1) (F l) := fun l => by rw [hF]; exact F3_old o3 l
  have l1 : (F [false, false, false]).cell? ⟨w.heap.size, 0, none⟩ = some (.int .i64 (a.tmod 4096)) := by rw [hF]; exact c1
  have l2 : ∀ b, (F [b, false, false]).cell? ⟨w.heap.size + 1, 0, none⟩ = some (.int .i64 (a'.tmod 4096)) := fun b => by rw [hF, F3_at2 (by simp)]; exact c2
  have l3 : ∀ b c, (F [b, c, false]).cell? ⟨w.heap.size + 1 + 1, 0, none⟩ = some (.int .i64 (a''.tmod 4096)) := fun b c => by rw [hF, F3_at3 (by simp) (by simp)]; exact c3
  have HF := Lib.hid hF
  have HB := Lib.hid hB
  clear hF hB
  refine wp_region_S 21 rfl (StF [16, 18, 20] F) (by kernel_rfl) (StF.of [false, false, false] (by kernel_rfl) (by rw [HF.out]; exact (Q.refl _).drew)) ?_
  refine GoS.take (i := 0) (fun w' => ∃ q : JF, w' = (F q.l).jk q.k) StF.any rfl rfl (by kernel_rfl) (by kernel_rfl) (by kernel_rfl) (fun _ _ _ _ h => h) (StF.idle (by decide)) ?_
  simp only [List.getElem_toArray, List.getElem_cons_zero]
  go_big_quiet_step (fail)
  refine wpQuiet_nil ?_
  refine GoS.take (i := 1) (fun w' => ∃ q : JF, w' = (F q.l).jk q.k) StF.any rfl rfl (by kernel_rfl) (by kernel_rfl) (by kernel_rfl) (fun _ _ _ _ h => h) (StF.idle (by decide)) ?_
  simp only [List.getElem_toArray, List.getElem_cons_zero, List.getElem_cons_succ]
  go_big_quiet_step (fail)
  refine wpQuiet_nil ?_
  refine GoS.take (i := 2) (fun w' => ∃ q : JF, w' = (F q.l).jk q.k) StF.any rfl rfl (by kernel_rfl) (by kernel_rfl) (by kernel_rfl) (fun _ _ _ _ h => h) (StF.idle (by decide)) ?_
  simp only [List.getElem_toArray, List.getElem_cons_zero, List.getElem_cons_succ]
  go_big_quiet_step (fail)
  refine wpQuiet_nil ?_
  refine GoS.take (i := 3) (fun w' => ∃ q : JF, w' = (F q.l).jk q.k) StF.any rfl rfl (by kernel_rfl) (by kernel_rfl) (by kernel_rfl) (fun _ _ _ _ h => h) (StF.idle (by decide)) ?_
  simp only [List.getElem_toArray, List.getElem_cons_zero, List.getElem_cons_succ]
  go_big_quiet_step (fail)
  refine wpQuiet_nil ?_
  refine GoS.take (i := 4) (fun w' => ∃ q : JF, w' = (F q.l).jk q.k) StF.any rfl rfl (by kernel_rfl) (by kernel_rfl) (by kernel_rfl) (fun _ _ _ _ h => h) (StF.idle (by decide)) ?_
  simp only [List.getElem_toArray, List.getElem_cons_zero, List.getElem_cons_succ]
  go_big_quiet_step (fail)
  refine wpQuiet_nil ?_
  refine GoS.take (i := 5) (fun w' => ∃ q : Jk, w' = (F [false, false, false]).jk q) (StF.class1 (p := [6, 16, 18, 20]) (by kernel_rfl) (by decide) (by decide) (by decide)) rfl rfl (by kernel_rfl) (by kernel_rfl) (by kernel_rfl) (fun _ _ _ _ h => h) (StF.idle (by decide)) ?_
  simp only [List.getElem_toArray, List.getElem_cons_zero, List.getElem_cons_succ]
  go_big_quiet_step (fail)
  refine wpQuiet_nil ?_
  refine GoS.take (i := 6) (fun w' => ∃ q : JF, w' = (F q.l).jk q.k) StF.any rfl rfl (by kernel_rfl) (by kernel_rfl) (by kernel_rfl) (fun _ _ _ _ h => h) (StF.idle (by decide)) ?_
  simp only [List.getElem_toArray, List.getElem_cons_zero, List.getElem_cons_succ]
  go_big_quiet_step (fail)
  refine wpQuiet_nil ?_
  refine GoS.take (i := 7) (fun w' => ∃ q : JF, w' = (F q.l).jk q.k) StF.any rfl rfl (by kernel_rfl) (by kernel_rfl) (by kernel_rfl) (fun _ _ _ _ h => h) (StF.idle (by decide)) ?_
  simp only [List.getElem_toArray, List.getElem_cons_zero, List.getElem_cons_succ]
  go_big_quiet_step (fail)
  refine wpQuiet_nil ?_
  refine GoS.take (i := 8) (fun w' => ∃ q : JF, w' = (F q.l).jk q.k) StF.any rfl rfl (by kernel_rfl) (by kernel_rfl) (by kernel_rfl) (fun _ _ _ _ h => h) (StF.idle (by decide)) ?_
  simp only [List.getElem_toArray, List.getElem_cons_zero, List.getElem_cons_succ]
  go_big_quiet_step (fail)
  refine wpQuiet_nil ?_
  refine GoS.take (i := 9) (fun w' => ∃ q : JB, w' = (F [q.b, false, false]).jk q.k) (StF.class2 (p := [10, 18, 20]) (by kernel_rfl) (by decide) (by decide)) rfl rfl (by kernel_rfl) (by kernel_rfl) (by kernel_rfl) (fun _ _ _ _ h => h) (StF.idle (by decide)) ?_
  simp only [List.getElem_toArray, List.getElem_cons_zero, List.getElem_cons_succ]
  go_big_quiet_step (fail)
  refine wpQuiet_nil ?_
  refine GoS.take (i := 10) (fun w' => ∃ q : JF, w' = (F q.l).jk q.k) StF.any rfl rfl (by kernel_rfl) (by kernel_rfl) (by kernel_rfl) (fun _ _ _ _ h => h) (StF.idle (by decide)) ?_
  simp only [List.getElem_toArray, List.getElem_cons_zero, List.getElem_cons_succ]
  go_big_quiet_step (fail)
  refine wpQuiet_nil ?_
  refine GoS.take (i := 11) (fun w' => ∃ q : JF, w' = (F q.l).jk q.k) StF.any rfl rfl (by kernel_rfl) (by kernel_rfl) (by kernel_rfl) (fun _ _ _ _ h => h) (StF.idle (by decide)) ?_
  simp only [List.getElem_toArray, List.getElem_cons_zero, List.getElem_cons_succ]
  go_big_quiet_step (fail)
  refine wpQuiet_nil ?_
  refine GoS.take (i := 12) (fun w' => ∃ q : JF, w' = (F q.l).jk q.k) StF.any rfl rfl (by kernel_rfl) (by kernel_rfl) (by kernel_rfl) (fun _ _ _ _ h => h) (StF.idle (by decide)) ?_
  simp only [List.getElem_toArray, List.getElem_cons_zero, List.getElem_cons_succ]
  go_big_quiet_step (fail)
  refine wpQuiet_nil ?_
  refine GoS.take (i := 13) (fun w' => ∃ q : JBB, w' = (F [q.b, q.c, false]).jk q.k) (StF.class3 (p := [14, 20]) (by kernel_rfl) (by decide)) rfl rfl (by kernel_rfl) (by kernel_rfl) (by kernel_rfl) (fun _ _ _ _ h => h) (StF.idle (by decide)) ?_
  simp only [List.getElem_toArray, List.getElem_cons_zero, List.getElem_cons_succ]
  go_big_quiet_step (fail)
  refine wpQuiet_nil ?_
  refine GoS.take (i := 14) (fun w' => ∃ q : JF, w' = (F q.l).jk q.k) StF.any rfl rfl (by kernel_rfl) (by kernel_rfl) (by kernel_rfl) (fun _ _ _ _ h => h) (StF.idle (by decide)) ?_
  simp only [List.getElem_toArray, List.getElem_cons_zero, List.getElem_cons_succ]
  go_big_quiet_step (fail)
  refine wpQuiet_nil ?_
  refine GoS.take (i := 15) (fun w' => ∃ q : JF, w' = (F q.l).jk q.k) StF.any rfl rfl (by kernel_rfl) (by kernel_rfl) (by kernel_rfl) (fun _ _ _ _ h => h) (StF.idle (by decide)) ?_
  simp only [List.getElem_toArray, List.getElem_cons_zero, List.getElem_cons_succ]
  go_big_quiet_step (fail)
  refine wpQuiet_nil ?_
  refine GoS.turn (i := 16) (by kernel_rfl) rfl ?_
  intro K hK
  simp only [List.getElem_toArray, List.getElem_cons_zero, List.getElem_cons_succ]
  go_simp
  refine hK _ _ ?_ ?_
  · refine StF.of [true, false, false] (by kernel_rfl) ?_
    rw [HF.out]
    exact (Q.refl _).drew
  clear hK
  clear K
  refine GoS.take (i := 17) (fun w' => ∃ q : JF, w' = (F q.l).jk q.k) StF.any rfl rfl (by kernel_rfl) (by kernel_rfl) (by kernel_rfl) (fun _ _ _ _ h => h) (StF.idle (by decide)) ?_
  simp only [List.getElem_toArray, List.getElem_cons_zero, List.getElem_cons_succ]
  go_big_quiet_step (fail)
  refine wpQuiet_nil ?_
  refine GoS.turn (i := 18) (by kernel_rfl) rfl ?_
  intro K hK
  simp only [List.getElem_toArray, List.getElem_cons_zero, List.getElem_cons_succ]
  go_simp
  refine hK _ _ ?_ ?_
  · refine StF.of [true, true, false] (by kernel_rfl) ?_
    rw [HF.out]
    exact (Q.refl _).drew
  clear hK
  clear K
  refine GoS.take (i := 19) (fun w' => ∃ q : JF, w' = (F q.l).jk q.k) StF.any rfl rfl (by kernel_rfl) (by kernel_rfl) (by kernel_rfl) (fun _ _ _ _ h => h) (StF.idle (by decide)) ?_
  simp only [List.getElem_toArray, List.getElem_cons_zero, List.getElem_cons_succ]
  go_big_quiet_step (fail)
  refine wpQuiet_nil ?_
  refine GoS.turn (i := 20) (by kernel_rfl) rfl ?_
  intro K hK
  simp only [List.getElem_toArray, List.getElem_cons_zero, List.getElem_cons_succ]
  go_simp
  refine hK _ _ ?_ ?_
  · refine StF.of [true, true, true] (by kernel_rfl) ?_
    rw [HF.out]
    exact (Q.refl _).drew
  clear hK
  clear K
  refine GoS.done (by kernel_rfl) ?_
  have hB := HB.out
  subst hB
  clear HF HB l1 l2 l3 q1 q2 q3 o1 o2 o3 c1 c2 c3 f1 f2 f3
  go_wp2_with fail
  rw [rounds_succ]; go_wp2_with fail
  refine wp_named ?_
  intro B hB
  have c1 : B.cell? ⟨w.heap.size, 1, none⟩ = some (.int .i64 (b.tmod 4096)) := by rw [hB]; simp [go_sem]
  have f1 : B.frozen? ⟨w.heap.size, 1, none⟩ = false := by rw [hB]; simp [go_sem]
  haveI o1 : Old (w.heap.size) B := ⟨World.block_lt_of_cell? B ⟨w.heap.size, 1, none⟩ c1⟩
  have c2 : B.cell? ⟨w.heap.size + 1, 1, none⟩ = some (.int .i64 (b'.tmod 4096)) := by rw [hB]; simp [go_sem]
  have f2 : B.frozen? ⟨w.heap.size + 1, 1, none⟩ = false := by rw [hB]; simp [go_sem]
  haveI o2 : Old (w.heap.size + 1) B := ⟨World.block_lt_of_cell? B ⟨w.heap.size + 1, 1, none⟩ c2⟩
  have c3 : B.cell? ⟨w.heap.size + 1 + 1, 1, none⟩ = some (.int .i64 (b''.tmod 4096)) := by rw [hB]; simp [go_sem]
  have f3 : B.frozen? ⟨w.heap.size + 1 + 1, 1, none⟩ = false := by rw [hB]; simp [go_sem]
  haveI o3 : Old (w.heap.size + 1 + 1) B := ⟨World.block_lt_of_cell? B ⟨w.heap.size + 1 + 1, 1, none⟩ c3⟩
  obtain ⟨F, hF⟩ : ∃ F, F = F3 B ⟨w.heap.size, 1, none⟩ (.int .i64 (b.tmod 256)) ⟨w.heap.size + 1, 1, none⟩ (.int .i64 (b'.tmod 256)) ⟨w.heap.size + 1 + 1, 1, none⟩ (.int .i64 (b''.tmod 256)) := ⟨_, rfl⟩
  haveI q1 : ∀ l, Old (w.heap.size) (F l) := fun l => by rw [hF]; exact F3_old o1 l
  haveI q2 : ∀ l, Old (w.heap.size + 1) (F l) := fun l => by rw [hF]; exact F3_old o2 l
  haveI q3 : ∀ l, Old (w.heap.size + 1 + 1) (F l) := fun l => by rw [hF]; exact F3_old o3 l
  have l1 : (F [false, false, false]).cell? ⟨w.heap.size, 1, none⟩ = some (.int .i64 (b.tmod 4096)) := by rw [hF]; exact c1
  have l2 : ∀ b, (F [b, false, false]).cell? ⟨w.heap.size + 1, 1, none⟩ = some (.int .i64 (b'.tmod 4096)) := fun b => by rw [hF, F3_at2 (by simp)]; exact c2
  have l3 : ∀ b c, (F [b, c, false]).cell? ⟨w.heap.size + 1 + 1, 1, none⟩ = some (.int .i64 (b''.tmod 4096)) := fun b c => by rw [hF, F3_at3 (by simp) (by simp)]; exact c3
  have HF := Lib.hid hF
  have HB := Lib.hid hB
  clear hF hB
  refine wp_region_S 21 rfl (StF [16, 18, 20] F) (by kernel_rfl) (StF.of [false, false, false] (by kernel_rfl) (by rw [HF.out]; exact (Q.refl _).drew)) ?_
  refine GoS.take (i := 0) (fun w' => ∃ q : JF, w' = (F q.l).jk q.k) StF.any rfl rfl (by kernel_rfl) (by kernel_rfl) (by kernel_rfl) (fun _ _ _ _ h => h) (StF.idle (by decide)) ?_
  simp only [List.getElem_toArray, List.getElem_cons_zero]
  go_big_quiet_step (fail)
  refine wpQuiet_nil ?_
  refine GoS.take (i := 1) (fun w' => ∃ q : JF, w' = (F q.l).jk q.k) StF.any rfl rfl (by kernel_rfl) (by kernel_rfl) (by kernel_rfl) (fun _ _ _ _ h => h) (StF.idle (by decide)) ?_
  simp only [List.getElem_toArray, List.getElem_cons_zero, List.getElem_cons_succ]
  go_big_quiet_step (fail)
  refine wpQuiet_nil ?_
  refine GoS.take (i := 2) (fun w' => ∃ q : JF, w' = (F q.l).jk q.k) StF.any rfl rfl (by kernel_rfl) (by kernel_rfl) (by kernel_rfl) (fun _ _ _ _ h => h) (StF.idle (by decide)) ?_
  simp only [List.getElem_toArray, List.getElem_cons_zero, List.getElem_cons_succ]
  go_big_quiet_step (fail)
  refine wpQuiet_nil ?_
  refine GoS.take (i := 3) (fun w' => ∃ q : JF, w' = (F q.l).jk q.k) StF.any rfl rfl (by kernel_rfl) (by kernel_rfl) (by kernel_rfl) (fun _ _ _ _ h => h) (StF.idle (by decide)) ?_
  simp only [List.getElem_toArray, List.getElem_cons_zero, List.getElem_cons_succ]
  go_big_quiet_step (fail)
  refine wpQuiet_nil ?_
  refine GoS.take (i := 4) (fun w' => ∃ q : JF, w' = (F q.l).jk q.k) StF.any rfl rfl (by kernel_rfl) (by kernel_rfl) (by kernel_rfl) (fun _ _ _ _ h => h) (StF.idle (by decide)) ?_
  simp only [List.getElem_toArray, List.getElem_cons_zero, List.getElem_cons_succ]
  go_big_quiet_step (fail)
  refine wpQuiet_nil ?_
  refine GoS.take (i := 5) (fun w' => ∃ q : Jk, w' = (F [false, false, false]).jk q) (StF.class1 (p := [6, 16, 18, 20]) (by kernel_rfl) (by decide) (by decide) (by decide)) rfl rfl (by kernel_rfl) (by kernel_rfl) (by kernel_rfl) (fun _ _ _ _ h => h) (StF.idle (by decide)) ?_
  simp only [List.getElem_toArray, List.getElem_cons_zero, List.getElem_cons_succ]
  go_big_quiet_step (fail)
  refine wpQuiet_nil ?_
  refine GoS.take (i := 6) (fun w' => ∃ q : JF, w' = (F q.l).jk q.k) StF.any rfl rfl (by kernel_rfl) (by kernel_rfl) (by kernel_rfl) (fun _ _ _ _ h => h) (StF.idle (by decide)) ?_
  simp only [List.getElem_toArray, List.getElem_cons_zero, List.getElem_cons_succ]
  go_big_quiet_step (fail)
  refine wpQuiet_nil ?_
  refine GoS.take (i := 7) (fun w' => ∃ q : JF, w' = (F q.l).jk q.k) StF.any rfl rfl (by kernel_rfl) (by kernel_rfl) (by kernel_rfl) (fun _ _ _ _ h => h) (StF.idle (by decide)) ?_
  simp only [List.getElem_toArray, List.getElem_cons_zero, List.getElem_cons_succ]
  go_big_quiet_step (fail)
  refine wpQuiet_nil ?_
  refine GoS.take (i := 8) (fun w' => ∃ q : JF, w' = (F q.l).jk q.k) StF.any rfl rfl (by kernel_rfl) (by kernel_rfl) (by kernel_rfl) (fun _ _ _ _ h => h) (StF.idle (by decide)) ?_
  simp only [List.getElem_toArray, List.getElem_cons_zero, List.getElem_cons_succ]
  go_big_quiet_step (fail)
  refine wpQuiet_nil ?_
  refine GoS.take (i := 9) (fun w' => ∃ q : JB, w' = (F [q.b, false, false]).jk q.k) (StF.class2 (p := [10, 18, 20]) (by kernel_rfl) (by decide) (by decide)) rfl rfl (by kernel_rfl) (by kernel_rfl) (by kernel_rfl) (fun _ _ _ _ h => h) (StF.idle (by decide)) ?_
  simp only [List.getElem_toArray, List.getElem_cons_zero, List.getElem_cons_succ]
  go_big_quiet_step (fail)
  refine wpQuiet_nil ?_
  refine GoS.take (i := 10) (fun w' => ∃ q : JF, w' = (F q.l).jk q.k) StF.any rfl rfl (by kernel_rfl) (by kernel_rfl) (by kernel_rfl) (fun _ _ _ _ h => h) (StF.idle (by decide)) ?_
  simp only [List.getElem_toArray, List.getElem_cons_zero, List.getElem_cons_succ]
  go_big_quiet_step (fail)
  refine wpQuiet_nil ?_
  refine GoS.take (i := 11) (fun w' => ∃ q : JF, w' = (F q.l).jk q.k) StF.any rfl rfl (by kernel_rfl) (by kernel_rfl) (by kernel_rfl) (fun _ _ _ _ h => h) (StF.idle (by decide)) ?_
  simp only [List.getElem_toArray, List.getElem_cons_zero, List.getElem_cons_succ]
  go_big_quiet_step (fail)
  refine wpQuiet_nil ?_
  refine GoS.take (i := 12) (fun w' => ∃ q : JF, w' = (F q.l).jk q.k) StF.any rfl rfl (by kernel_rfl) (by kernel_rfl) (by kernel_rfl) (fun _ _ _ _ h => h) (StF.idle (by decide)) ?_
  simp only [List.getElem_toArray, List.getElem_cons_zero, List.getElem_cons_succ]
  go_big_quiet_step (fail)
  refine wpQuiet_nil ?_
  refine GoS.take (i := 13) (fun w' => ∃ q : JBB, w' = (F [q.b, q.c, false]).jk q.k) (StF.class3 (p := [14, 20]) (by kernel_rfl) (by decide)) rfl rfl (by kernel_rfl) (by kernel_rfl) (by kernel_rfl) (fun _ _ _ _ h => h) (StF.idle (by decide)) ?_
  simp only [List.getElem_toArray, List.getElem_cons_zero, List.getElem_cons_succ]
  go_big_quiet_step (fail)
  refine wpQuiet_nil ?_
  refine GoS.take (i := 14) (fun w' => ∃ q : JF, w' = (F q.l).jk q.k) StF.any rfl rfl (by kernel_rfl) (by kernel_rfl) (by kernel_rfl) (fun _ _ _ _ h => h) (StF.idle (by decide)) ?_
  simp only [List.getElem_toArray, List.getElem_cons_zero, List.getElem_cons_succ]
  go_big_quiet_step (fail)
  refine wpQuiet_nil ?_
  refine GoS.take (i := 15) (fun w' => ∃ q : JF, w' = (F q.l).jk q.k) StF.any rfl rfl (by kernel_rfl) (by kernel_rfl) (by kernel_rfl) (fun _ _ _ _ h => h) (StF.idle (by decide)) ?_
  simp only [List.getElem_toArray, List.getElem_cons_zero, List.getElem_cons_succ]
  go_big_quiet_step (fail)
  refine wpQuiet_nil ?_
  refine GoS.turn (i := 16) (by kernel_rfl) rfl ?_
  intro K hK
  simp only [List.getElem_toArray, List.getElem_cons_zero, List.getElem_cons_succ]
  go_simp
  refine hK _ _ ?_ ?_
  · refine StF.of [true, false, false] (by kernel_rfl) ?_
    rw [HF.out]
    exact (Q.refl _).drew
  clear hK
  clear K
  refine GoS.take (i := 17) (fun w' => ∃ q : JF, w' = (F q.l).jk q.k) StF.any rfl rfl (by kernel_rfl) (by kernel_rfl) (by kernel_rfl) (fun _ _ _ _ h => h) (StF.idle (by decide)) ?_
  simp only [List.getElem_toArray, List.getElem_cons_zero, List.getElem_cons_succ]
  go_big_quiet_step (fail)
  refine wpQuiet_nil ?_
  refine GoS.turn (i := 18) (by kernel_rfl) rfl ?_
  intro K hK
  simp only [List.getElem_toArray, List.getElem_cons_zero, List.getElem_cons_succ]
  go_simp
  refine hK _ _ ?_ ?_
  · refine StF.of [true, true, false] (by kernel_rfl) ?_
    rw [HF.out]
    exact (Q.refl _).drew
  clear hK
  clear K
  refine GoS.take (i := 19) (fun w' => ∃ q : JF, w' = (F q.l).jk q.k) StF.any rfl rfl (by kernel_rfl) (by kernel_rfl) (by kernel_rfl) (fun _ _ _ _ h => h) (StF.idle (by decide)) ?_
  simp only [List.getElem_toArray, List.getElem_cons_zero, List.getElem_cons_succ]
  go_big_quiet_step (fail)
  refine wpQuiet_nil ?_
  refine GoS.turn (i := 20) (by kernel_rfl) rfl ?_
  intro K hK
  simp only [List.getElem_toArray, List.getElem_cons_zero, List.getElem_cons_succ]
  go_simp
  refine hK _ _ ?_ ?_
  · refine StF.of [true, true, true] (by kernel_rfl) ?_
    rw [HF.out]
    exact (Q.refl _).drew
  clear hK
  clear K
  refine GoS.done (by kernel_rfl) ?_
  have hB := HB.out
  subst hB
  clear HF HB l1 l2 l3 q1 q2 q3 o1 o2 o3 c1 c2 c3 f1 f2 f3
  go_wp2_with fail
  rw [rounds_succ]; go_wp2_with fail
  refine wp_named ?_
  intro B hB
  have c1 : B.cell? ⟨w.heap.size, 2, none⟩ = some (.int .i64 (c.tmod 4096)) := by rw [hB]; simp [go_sem]
  have f1 : B.frozen? ⟨w.heap.size, 2, none⟩ = false := by rw [hB]; simp [go_sem]
  haveI o1 : Old (w.heap.size) B := ⟨World.block_lt_of_cell? B ⟨w.heap.size, 2, none⟩ c1⟩
  have c2 : B.cell? ⟨w.heap.size + 1, 2, none⟩ = some (.int .i64 (c'.tmod 4096)) := by rw [hB]; simp [go_sem]
  have f2 : B.frozen? ⟨w.heap.size + 1, 2, none⟩ = false := by rw [hB]; simp [go_sem]
  haveI o2 : Old (w.heap.size + 1) B := ⟨World.block_lt_of_cell? B ⟨w.heap.size + 1, 2, none⟩ c2⟩
  have c3 : B.cell? ⟨w.heap.size + 1 + 1, 2, none⟩ = some (.int .i64 (c''.tmod 4096)) := by rw [hB]; simp [go_sem]
  have f3 : B.frozen? ⟨w.heap.size + 1 + 1, 2, none⟩ = false := by rw [hB]; simp [go_sem]
  haveI o3 : Old (w.heap.size + 1 + 1) B := ⟨World.block_lt_of_cell? B ⟨w.heap.size + 1 + 1, 2, none⟩ c3⟩
  obtain ⟨F, hF⟩ : ∃ F, F = F3 B ⟨w.heap.size, 2, none⟩ (.int .i64 (c.tmod 256)) ⟨w.heap.size + 1, 2, none⟩ (.int .i64 (c'.tmod 256)) ⟨w.heap.size + 1 + 1, 2, none⟩ (.int .i64 (c''.tmod 256)) := ⟨_, rfl⟩
  haveI q1 : ∀ l, Old (w.heap.size) (F l) := fun l => by rw [hF]; exact F3_old o1 l
  haveI q2 : ∀ l, Old (w.heap.size + 1) (F l) := fun l => by rw [hF]; exact F3_old o2 l
  haveI q3 : ∀ l, Old (w.heap.size + 1 + 1) (F l) := fun l => by rw [hF]; exact F3_old o3 l
  have l1 : (F [false, false, false]).cell? ⟨w.heap.size, 2, none⟩ = some (.int .i64 (c.tmod 4096)) := by rw [hF]; exact c1
  have l2 : ∀ b, (F [b, false, false]).cell? ⟨w.heap.size + 1, 2, none⟩ = some (.int .i64 (c'.tmod 4096)) := fun b => by rw [hF, F3_at2 (by simp)]; exact c2
  have l3 : ∀ b c, (F [b, c, false]).cell? ⟨w.heap.size + 1 + 1, 2, none⟩ = some (.int .i64 (c''.tmod 4096)) := fun b c => by rw [hF, F3_at3 (by simp) (by simp)]; exact c3
  have HF := Lib.hid hF
  have HB := Lib.hid hB
  clear hF hB
  refine wp_region_S 21 rfl (StF [16, 18, 20] F) (by kernel_rfl) (StF.of [false, false, false] (by kernel_rfl) (by rw [HF.out]; exact (Q.refl _).drew)) ?_
  refine GoS.take (i := 0) (fun w' => ∃ q : JF, w' = (F q.l).jk q.k) StF.any rfl rfl (by kernel_rfl) (by kernel_rfl) (by kernel_rfl) (fun _ _ _ _ h => h) (StF.idle (by decide)) ?_
  simp only [List.getElem_toArray, List.getElem_cons_zero]
  go_big_quiet_step (fail)
  refine wpQuiet_nil ?_
  refine GoS.take (i := 1) (fun w' => ∃ q : JF, w' = (F q.l).jk q.k) StF.any rfl rfl (by kernel_rfl) (by kernel_rfl) (by kernel_rfl) (fun _ _ _ _ h => h) (StF.idle (by decide)) ?_
  simp only [List.getElem_toArray, List.getElem_cons_zero, List.getElem_cons_succ]
  go_big_quiet_step (fail)
  refine wpQuiet_nil ?_
  refine GoS.take (i := 2) (fun w' => ∃ q : JF, w' = (F q.l).jk q.k) StF.any rfl rfl (by kernel_rfl) (by kernel_rfl) (by kernel_rfl) (fun _ _ _ _ h => h) (StF.idle (by decide)) ?_
  simp only [List.getElem_toArray, List.getElem_cons_zero, List.getElem_cons_succ]
  go_big_quiet_step (fail)
  refine wpQuiet_nil ?_
  refine GoS.take (i := 3) (fun w' => ∃ q : JF, w' = (F q.l).jk q.k) StF.any rfl rfl (by kernel_rfl) (by kernel_rfl) (by kernel_rfl) (fun _ _ _ _ h => h) (StF.idle (by decide)) ?_
  simp only [List.getElem_toArray, List.getElem_cons_zero, List.getElem_cons_succ]
  go_big_quiet_step (fail)
  refine wpQuiet_nil ?_
  refine GoS.take (i := 4) (fun w' => ∃ q : JF, w' = (F q.l).jk q.k) StF.any rfl rfl (by kernel_rfl) (by kernel_rfl) (by kernel_rfl) (fun _ _ _ _ h => h) (StF.idle (by decide)) ?_
  simp only [List.getElem_toArray, List.getElem_cons_zero, List.getElem_cons_succ]
  go_big_quiet_step (fail)
  refine wpQuiet_nil ?_
  refine GoS.take (i := 5) (fun w' => ∃ q : Jk, w' = (F [false, false, false]).jk q) (StF.class1 (p := [6, 16, 18, 20]) (by kernel_rfl) (by decide) (by decide) (by decide)) rfl rfl (by kernel_rfl) (by kernel_rfl) (by kernel_rfl) (fun _ _ _ _ h => h) (StF.idle (by decide)) ?_
  simp only [List.getElem_toArray, List.getElem_cons_zero, List.getElem_cons_succ]
  go_big_quiet_step (fail)
  refine wpQuiet_nil ?_
  refine GoS.take (i := 6) (fun w' => ∃ q : JF, w' = (F q.l).jk q.k) StF.any rfl rfl (by kernel_rfl) (by kernel_rfl) (by kernel_rfl) (fun _ _ _ _ h => h) (StF.idle (by decide)) ?_
  simp only [List.getElem_toArray, List.getElem_cons_zero, List.getElem_cons_succ]
  go_big_quiet_step (fail)
  refine wpQuiet_nil ?_
  refine GoS.take (i := 7) (fun w' => ∃ q : JF, w' = (F q.l).jk q.k) StF.any rfl rfl (by kernel_rfl) (by kernel_rfl) (by kernel_rfl) (fun _ _ _ _ h => h) (StF.idle (by decide)) ?_
  simp only [List.getElem_toArray, List.getElem_cons_zero, List.getElem_cons_succ]
  go_big_quiet_step (fail)
  refine wpQuiet_nil ?_
  refine GoS.take (i := 8) (fun w' => ∃ q : JF, w' = (F q.l).jk q.k) StF.any rfl rfl (by kernel_rfl) (by kernel_rfl) (by kernel_rfl) (fun _ _ _ _ h => h) (StF.idle (by decide)) ?_
  simp only [List.getElem_toArray, List.getElem_cons_zero, List.getElem_cons_succ]
  go_big_quiet_step (fail)
  refine wpQuiet_nil ?_
  refine GoS.take (i := 9) (fun w' => ∃ q : JB, w' = (F [q.b, false, false]).jk q.k) (StF.class2 (p := [10, 18, 20]) (by kernel_rfl) (by decide) (by decide)) rfl rfl (by kernel_rfl) (by kernel_rfl) (by kernel_rfl) (fun _ _ _ _ h => h) (StF.idle (by decide)) ?_
  simp only [List.getElem_toArray, List.getElem_cons_zero, List.getElem_cons_succ]
  go_big_quiet_step (fail)
  refine wpQuiet_nil ?_
  refine GoS.take (i := 10) (fun w' => ∃ q : JF, w' = (F q.l).jk q.k) StF.any rfl rfl (by kernel_rfl) (by kernel_rfl) (by kernel_rfl) (fun _ _ _ _ h => h) (StF.idle (by decide)) ?_
  simp only [List.getElem_toArray, List.getElem_cons_zero, List.getElem_cons_succ]
  go_big_quiet_step (fail)
  refine wpQuiet_nil ?_
  refine GoS.take (i := 11) (fun w' => ∃ q : JF, w' = (F q.l).jk q.k) StF.any rfl rfl (by kernel_rfl) (by kernel_rfl) (by kernel_rfl) (fun _ _ _ _ h => h) (StF.idle (by decide)) ?_
  simp only [List.getElem_toArray, List.getElem_cons_zero, List.getElem_cons_succ]
  go_big_quiet_step (fail)
  refine wpQuiet_nil ?_
  refine GoS.take (i := 12) (fun w' => ∃ q : JF, w' = (F q.l).jk q.k) StF.any rfl rfl (by kernel_rfl) (by kernel_rfl) (by kernel_rfl) (fun _ _ _ _ h => h) (StF.idle (by decide)) ?_
  simp only [List.getElem_toArray, List.getElem_cons_zero, List.getElem_cons_succ]
  go_big_quiet_step (fail)
  refine wpQuiet_nil ?_
  refine GoS.take (i := 13) (fun w' => ∃ q : JBB, w' = (F [q.b, q.c, false]).jk q.k) (StF.class3 (p := [14, 20]) (by kernel_rfl) (by decide)) rfl rfl (by kernel_rfl) (by kernel_rfl) (by kernel_rfl) (fun _ _ _ _ h => h) (StF.idle (by decide)) ?_
  simp only [List.getElem_toArray, List.getElem_cons_zero, List.getElem_cons_succ]
  go_big_quiet_step (fail)
  refine wpQuiet_nil ?_
  refine GoS.take (i := 14) (fun w' => ∃ q : JF, w' = (F q.l).jk q.k) StF.any rfl rfl (by kernel_rfl) (by kernel_rfl) (by kernel_rfl) (fun _ _ _ _ h => h) (StF.idle (by decide)) ?_
  simp only [List.getElem_toArray, List.getElem_cons_zero, List.getElem_cons_succ]
  go_big_quiet_step (fail)
  refine wpQuiet_nil ?_
  refine GoS.take (i := 15) (fun w' => ∃ q : JF, w' = (F q.l).jk q.k) StF.any rfl rfl (by kernel_rfl) (by kernel_rfl) (by kernel_rfl) (fun _ _ _ _ h => h) (StF.idle (by decide)) ?_
  simp only [List.getElem_toArray, List.getElem_cons_zero, List.getElem_cons_succ]
  go_big_quiet_step (fail)
  refine wpQuiet_nil ?_
  refine GoS.turn (i := 16) (by kernel_rfl) rfl ?_
  intro K hK
  simp only [List.getElem_toArray, List.getElem_cons_zero, List.getElem_cons_succ]
  go_simp
  refine hK _ _ ?_ ?_
  · refine StF.of [true, false, false] (by kernel_rfl) ?_
    rw [HF.out]
    exact (Q.refl _).drew
  clear hK
  clear K
  refine GoS.take (i := 17) (fun w' => ∃ q : JF, w' = (F q.l).jk q.k) StF.any rfl rfl (by kernel_rfl) (by kernel_rfl) (by kernel_rfl) (fun _ _ _ _ h => h) (StF.idle (by decide)) ?_
  simp only [List.getElem_toArray, List.getElem_cons_zero, List.getElem_cons_succ]
  go_big_quiet_step (fail)
  refine wpQuiet_nil ?_
  refine GoS.turn (i := 18) (by kernel_rfl) rfl ?_
  intro K hK
  simp only [List.getElem_toArray, List.getElem_cons_zero, List.getElem_cons_succ]
  go_simp
  refine hK _ _ ?_ ?_
  · refine StF.of [true, true, false] (by kernel_rfl) ?_
    rw [HF.out]
    exact (Q.refl _).drew
  clear hK
  clear K
  refine GoS.take (i := 19) (fun w' => ∃ q : JF, w' = (F q.l).jk q.k) StF.any rfl rfl (by kernel_rfl) (by kernel_rfl) (by kernel_rfl) (fun _ _ _ _ h => h) (StF.idle (by decide)) ?_
  simp only [List.getElem_toArray, List.getElem_cons_zero, List.getElem_cons_succ]
  go_big_quiet_step (fail)
  refine wpQuiet_nil ?_
  refine GoS.turn (i := 20) (by kernel_rfl) rfl ?_
  intro K hK
  simp only [List.getElem_toArray, List.getElem_cons_zero, List.getElem_cons_succ]
  go_simp
  refine hK _ _ ?_ ?_
  · refine StF.of [true, true, true] (by kernel_rfl) ?_
    rw [HF.out]
    exact (Q.refl _).drew
  clear hK
  clear K
  refine GoS.done (by kernel_rfl) ?_
  have hB := HB.out
  subst hB
  clear HF HB l1 l2 l3 q1 q2 q3 o1 o2 o3 c1 c2 c3 f1 f2 f3
  go_wp2_with fail
  rw [rounds_succ]; go_wp2_with fail
  refine wp_named ?_
  intro B hB
  have c1 : B.cell? ⟨w.heap.size, 3, none⟩ = some (.int .i64 (d.tmod 4096)) := by rw [hB]; simp [go_sem]
  have f1 : B.frozen? ⟨w.heap.size, 3, none⟩ = false := by rw [hB]; simp [go_sem]
  haveI o1 : Old (w.heap.size) B := ⟨World.block_lt_of_cell? B ⟨w.heap.size, 3, none⟩ c1⟩
  have c2 : B.cell? ⟨w.heap.size + 1, 3, none⟩ = some (.int .i64 (d'.tmod 4096)) := by rw [hB]; simp [go_sem]
  have f2 : B.frozen? ⟨w.heap.size + 1, 3, none⟩ = false := by rw [hB]; simp [go_sem]
  haveI o2 : Old (w.heap.size + 1) B := ⟨World.block_lt_of_cell? B ⟨w.heap.size + 1, 3, none⟩ c2⟩
  have c3 : B.cell? ⟨w.heap.size + 1 + 1, 3, none⟩ = some (.int .i64 (d''.tmod 4096)) := by rw [hB]; simp [go_sem]
  have f3 : B.frozen? ⟨w.heap.size + 1 + 1, 3, none⟩ = false := by rw [hB]; simp [go_sem]
  haveI o3 : Old (w.heap.size + 1 + 1) B := ⟨World.block_lt_of_cell? B ⟨w.heap.size + 1 + 1, 3, none⟩ c3⟩
  obtain ⟨F, hF⟩ : ∃ F, F = F3 B ⟨w.heap.size, 3, none⟩ (.int .i64 (d.tmod 256)) ⟨w.heap.size + 1, 3, none⟩ (.int .i64 (d'.tmod 256)) ⟨w.heap.size + 1 + 1, 3, none⟩ (.int .i64 (d''.tmod 256)) := ⟨_, rfl⟩
  haveI q1 : ∀ l, Old (w.heap.size) (F l) := fun l => by rw [hF]; exact F3_old o1 l
  haveI q2 : ∀ l, Old (w.heap.size + 1) (F l) := fun l => by rw [hF]; exact F3_old o2 l
  haveI q3 : ∀ l, Old (w.heap.size + 1 + 1) (F l) := fun l => by rw [hF]; exact F3_old o3 l
  have l1 : (F [false, false, false]).cell? ⟨w.heap.size, 3, none⟩ = some (.int .i64 (d.tmod 4096)) := by rw [hF]; exact c1
  have l2 : ∀ b, (F [b, false, false]).cell? ⟨w.heap.size + 1, 3, none⟩ = some (.int .i64 (d'.tmod 4096)) := fun b => by rw [hF, F3_at2 (by simp)]; exact c2
  have l3 : ∀ b c, (F [b, c, false]).cell? ⟨w.heap.size + 1 + 1, 3, none⟩ = some (.int .i64 (d''.tmod 4096)) := fun b c => by rw [hF, F3_at3 (by simp) (by simp)]; exact c3
  have HF := Lib.hid hF
  have HB := Lib.hid hB
  clear hF hB
  refine wp_region_S 21 rfl (StF [16, 18, 20] F) (by kernel_rfl) (StF.of [false, false, false] (by kernel_rfl) (by rw [HF.out]; exact (Q.refl _).drew)) ?_
  refine GoS.take (i := 0) (fun w' => ∃ q : JF, w' = (F q.l).jk q.k) StF.any rfl rfl (by kernel_rfl) (by kernel_rfl) (by kernel_rfl) (fun _ _ _ _ h => h) (StF.idle (by decide)) ?_
  simp only [List.getElem_toArray, List.getElem_cons_zero]
  go_big_quiet_step (fail)
  refine wpQuiet_nil ?_
  refine GoS.take (i := 1) (fun w' => ∃ q : JF, w' = (F q.l).jk q.k) StF.any rfl rfl (by kernel_rfl) (by kernel_rfl) (by kernel_rfl) (fun _ _ _ _ h => h) (StF.idle (by decide)) ?_
  simp only [List.getElem_toArray, List.getElem_cons_zero, List.getElem_cons_succ]
  go_big_quiet_step (fail)
  refine wpQuiet_nil ?_
  refine GoS.take (i := 2) (fun w' => ∃ q : JF, w' = (F q.l).jk q.k) StF.any rfl rfl (by kernel_rfl) (by kernel_rfl) (by kernel_rfl) (fun _ _ _ _ h => h) (StF.idle (by decide)) ?_
  simp only [List.getElem_toArray, List.getElem_cons_zero, List.getElem_cons_succ]
  go_big_quiet_step (fail)
  refine wpQuiet_nil ?_
  refine GoS.take (i := 3) (fun w' => ∃ q : JF, w' = (F q.l).jk q.k) StF.any rfl rfl (by kernel_rfl) (by kernel_rfl) (by kernel_rfl) (fun _ _ _ _ h => h) (StF.idle (by decide)) ?_
  simp only [List.getElem_toArray, List.getElem_cons_zero, List.getElem_cons_succ]
  go_big_quiet_step (fail)
  refine wpQuiet_nil ?_
  refine GoS.take (i := 4) (fun w' => ∃ q : JF, w' = (F q.l).jk q.k) StF.any rfl rfl (by kernel_rfl) (by kernel_rfl) (by kernel_rfl) (fun _ _ _ _ h => h) (StF.idle (by decide)) ?_
  simp only [List.getElem_toArray, List.getElem_cons_zero, List.getElem_cons_succ]
  go_big_quiet_step (fail)
  refine wpQuiet_nil ?_
  refine GoS.take (i := 5) (fun w' => ∃ q : Jk, w' = (F [false, false, false]).jk q) (StF.class1 (p := [6, 16, 18, 20]) (by kernel_rfl) (by decide) (by decide) (by decide)) rfl rfl (by kernel_rfl) (by kernel_rfl) (by kernel_rfl) (fun _ _ _ _ h => h) (StF.idle (by decide)) ?_
  simp only [List.getElem_toArray, List.getElem_cons_zero, List.getElem_cons_succ]
  go_big_quiet_step (fail)
  refine wpQuiet_nil ?_
  refine GoS.take (i := 6) (fun w' => ∃ q : JF, w' = (F q.l).jk q.k) StF.any rfl rfl (by kernel_rfl) (by kernel_rfl) (by kernel_rfl) (fun _ _ _ _ h => h) (StF.idle (by decide)) ?_
  simp only [List.getElem_toArray, List.getElem_cons_zero, List.getElem_cons_succ]
  go_big_quiet_step (fail)
  refine wpQuiet_nil ?_
  refine GoS.take (i := 7) (fun w' => ∃ q : JF, w' = (F q.l).jk q.k) StF.any rfl rfl (by kernel_rfl) (by kernel_rfl) (by kernel_rfl) (fun _ _ _ _ h => h) (StF.idle (by decide)) ?_
  simp only [List.getElem_toArray, List.getElem_cons_zero, List.getElem_cons_succ]
  go_big_quiet_step (fail)
  refine wpQuiet_nil ?_
  refine GoS.take (i := 8) (fun w' => ∃ q : JF, w' = (F q.l).jk q.k) StF.any rfl rfl (by kernel_rfl) (by kernel_rfl) (by kernel_rfl) (fun _ _ _ _ h => h) (StF.idle (by decide)) ?_
  simp only [List.getElem_toArray, List.getElem_cons_zero, List.getElem_cons_succ]
  go_big_quiet_step (fail)
  refine wpQuiet_nil ?_
  refine GoS.take (i := 9) (fun w' => ∃ q : JB, w' = (F [q.b, false, false]).jk q.k) (StF.class2 (p := [10, 18, 20]) (by kernel_rfl) (by decide) (by decide)) rfl rfl (by kernel_rfl) (by kernel_rfl) (by kernel_rfl) (fun _ _ _ _ h => h) (StF.idle (by decide)) ?_
  simp only [List.getElem_toArray, List.getElem_cons_zero, List.getElem_cons_succ]
  go_big_quiet_step (fail)
  refine wpQuiet_nil ?_
  refine GoS.take (i := 10) (fun w' => ∃ q : JF, w' = (F q.l).jk q.k) StF.any rfl rfl (by kernel_rfl) (by kernel_rfl) (by kernel_rfl) (fun _ _ _ _ h => h) (StF.idle (by decide)) ?_
  simp only [List.getElem_toArray, List.getElem_cons_zero, List.getElem_cons_succ]
  go_big_quiet_step (fail)
  refine wpQuiet_nil ?_
  refine GoS.take (i := 11) (fun w' => ∃ q : JF, w' = (F q.l).jk q.k) StF.any rfl rfl (by kernel_rfl) (by kernel_rfl) (by kernel_rfl) (fun _ _ _ _ h => h) (StF.idle (by decide)) ?_
  simp only [List.getElem_toArray, List.getElem_cons_zero, List.getElem_cons_succ]
  go_big_quiet_step (fail)
  refine wpQuiet_nil ?_
  refine GoS.take (i := 12) (fun w' => ∃ q : JF, w' = (F q.l).jk q.k) StF.any rfl rfl (by kernel_rfl) (by kernel_rfl) (by kernel_rfl) (fun _ _ _ _ h => h) (StF.idle (by decide)) ?_
  simp only [List.getElem_toArray, List.getElem_cons_zero, List.getElem_cons_succ]
  go_big_quiet_step (fail)
  refine wpQuiet_nil ?_
  refine GoS.take (i := 13) (fun w' => ∃ q : JBB, w' = (F [q.b, q.c, false]).jk q.k) (StF.class3 (p := [14, 20]) (by kernel_rfl) (by decide)) rfl rfl (by kernel_rfl) (by kernel_rfl) (by kernel_rfl) (fun _ _ _ _ h => h) (StF.idle (by decide)) ?_
  simp only [List.getElem_toArray, List.getElem_cons_zero, List.getElem_cons_succ]
  go_big_quiet_step (fail)
  refine wpQuiet_nil ?_
  refine GoS.take (i := 14) (fun w' => ∃ q : JF, w' = (F q.l).jk q.k) StF.any rfl rfl (by kernel_rfl) (by kernel_rfl) (by kernel_rfl) (fun _ _ _ _ h => h) (StF.idle (by decide)) ?_
  simp only [List.getElem_toArray, List.getElem_cons_zero, List.getElem_cons_succ]
  go_big_quiet_step (fail)
  refine wpQuiet_nil ?_
  refine GoS.take (i := 15) (fun w' => ∃ q : JF, w' = (F q.l).jk q.k) StF.any rfl rfl (by kernel_rfl) (by kernel_rfl) (by kernel_rfl) (fun _ _ _ _ h => h) (StF.idle (by decide)) ?_
  simp only [List.getElem_toArray, List.getElem_cons_zero, List.getElem_cons_succ]
  go_big_quiet_step (fail)
  refine wpQuiet_nil ?_
  refine GoS.turn (i := 16) (by kernel_rfl) rfl ?_
  intro K hK
  simp only [List.getElem_toArray, List.getElem_cons_zero, List.getElem_cons_succ]
  go_simp
  refine hK _ _ ?_ ?_
  · refine StF.of [true, false, false] (by kernel_rfl) ?_
    rw [HF.out]
    exact (Q.refl _).drew
  clear hK
  clear K
  refine GoS.take (i := 17) (fun w' => ∃ q : JF, w' = (F q.l).jk q.k) StF.any rfl rfl (by kernel_rfl) (by kernel_rfl) (by kernel_rfl) (fun _ _ _ _ h => h) (StF.idle (by decide)) ?_
  simp only [List.getElem_toArray, List.getElem_cons_zero, List.getElem_cons_succ]
  go_big_quiet_step (fail)
  refine wpQuiet_nil ?_
  refine GoS.turn (i := 18) (by kernel_rfl) rfl ?_
  intro K hK
  simp only [List.getElem_toArray, List.getElem_cons_zero, List.getElem_cons_succ]
  go_simp
  refine hK _ _ ?_ ?_
  · refine StF.of [true, true, false] (by kernel_rfl) ?_
    rw [HF.out]
    exact (Q.refl _).drew
  clear hK
  clear K
  refine GoS.take (i := 19) (fun w' => ∃ q : JF, w' = (F q.l).jk q.k) StF.any rfl rfl (by kernel_rfl) (by kernel_rfl) (by kernel_rfl) (fun _ _ _ _ h => h) (StF.idle (by decide)) ?_
  simp only [List.getElem_toArray, List.getElem_cons_zero, List.getElem_cons_succ]
  go_big_quiet_step (fail)
  refine wpQuiet_nil ?_
  refine GoS.turn (i := 20) (by kernel_rfl) rfl ?_
  intro K hK
  simp only [List.getElem_toArray, List.getElem_cons_zero, List.getElem_cons_succ]
  go_simp
  refine hK _ _ ?_ ?_
  · refine StF.of [true, true, true] (by kernel_rfl) ?_
    rw [HF.out]
    exact (Q.refl _).drew
  clear hK
  clear K
  refine GoS.done (by kernel_rfl) ?_
  have hB := HB.out
  subst hB
  clear HF HB l1 l2 l3 q1 q2 q3 o1 o2 o3 c1 c2 c3 f1 f2 f3
  go_wp2_with fail
  rw [rounds_succ]; go_wp2_with fail
  have bnd : ∀ q : Int, -255 ≤ q.tmod 256 ∧ q.tmod 256 ≤ 255 := fun q => tmod_bd _ 256 (by decide)
  obtain ⟨x, x1, x2, x3, x4⟩ : ∃ x : Cy, a.tmod 256 = x.a ∧ b.tmod 256 = x.b ∧ c.tmod 256 = x.c ∧ d.tmod 256 = x.d := ⟨⟨_, _, _, _⟩, rfl, rfl, rfl, rfl⟩
  obtain ⟨y, y1, y2, y3, y4⟩ : ∃ x : Cy, a'.tmod 256 = x.a ∧ b'.tmod 256 = x.b ∧ c'.tmod 256 = x.c ∧ d'.tmod 256 = x.d := ⟨⟨_, _, _, _⟩, rfl, rfl, rfl, rfl⟩
  obtain ⟨z, z1, z2, z3, z4⟩ : ∃ x : Cy, a''.tmod 256 = x.a ∧ b''.tmod 256 = x.b ∧ c''.tmod 256 = x.c ∧ d''.tmod 256 = x.d := ⟨⟨_, _, _, _⟩, rfl, rfl, rfl, rfl⟩
  have hx : x.In 255 := by have := bnd a; have := bnd b; have := bnd c; have := bnd d; unfold Cy.In; omega
  have hy : y.In 255 := by have := bnd a'; have := bnd b'; have := bnd c'; have := bnd d'; unfold Cy.In; omega
  have hz : z.In 255 := by have := bnd a''; have := bnd b''; have := bnd c''; have := bnd d''; unfold Cy.In; omega
  rw [x1, x2, x3, x4, y1, y2, y3, y4, z1, z2, z3, z4]
  clear bnd x1 x2 x3 x4 y1 y2 y3 y4 z1 z2 z3 z4
  have c1 := Cy.mul_comm x y
  have c2 := Cy.mul_assoc x y z
  have c3 := Cy.mul_add x y z
  have c4 := Cy.mul_root0 x
  have c5 := Cy.add_comm3 x y z
  have hxy : (x.mul y).In 268435456 := (Cy.mul_in' hx hy).mono (by decide)
  have hyz : (y.mul z).In 268435456 := (Cy.mul_in' hy hz).mono (by decide)
  have hxz : (x.mul z).In 268435456 := (Cy.mul_in' hx hz).mono (by decide)
  have hr0 : (rootC 0).In 268435456 := by rw [rootC_0]; unfold Cy.In; decide
  have haz : (y.add z).In 268435456 := (Cy.add_in hy hz).mono (by decide)
  have hax : (x.add y).In 268435456 := (Cy.add_in hx hy).mono (by decide)
  have hayx : (y.add x).In 268435456 := (Cy.add_in hy hx).mono (by decide)
  have hx : x.In 268435456 := hx.mono (by decide)
  have hy : y.In 268435456 := hy.mono (by decide)
  have hz : z.In 268435456 := hz.mono (by decide)
  refine wp_region_jk (by kernel_rfl) (by kernel_rfl) ?_
  repeat (go_big_quiet_step (first | (go_at_call 8; exact Calls.jk_of (lmul_c _ _ _ (by assumption) (by assumption))) | (go_at_call 9; exact Calls.jk_of (ladd_c _ _ _ (Cy.In.mono (by assumption) (by decide)) (Cy.In.mono (by assumption) (by decide)))) | (go_at_call 10; exact Calls.jk_of (root_any 0 _ (by repeat' (first | with_reducible exact hr | refine RootsOK.alloc ?_ _ | refine RootsOK.jk ?_ _ | refine RootsOK.drew ?_))))))
  refine wpQuiet_nil ?_
  intro _ hw'
  obtain ⟨kq, rfl⟩ := hw'
  go_wp2
  go_ret
  refine ⟨rfl, ?_⟩
  repeat' (first | exact Q.refl _ | refine Q.alloc ?_ _ | refine Q.jk ?_ _ | refine Q.drew ?_)

theorem ring_c (x y z : Cy) (w : World) (hr : RootsOK w) :
    Calls Tryd.prog 3 #[.agg #[.int .i64 x.a, .int .i64 x.b, .int .i64 x.c, .int .i64 x.d], .agg #[.int .i64 y.a, .int .i64 y.b, .int .i64 y.c, .int .i64 y.d], .agg #[.int .i64 z.a, .int .i64 z.b, .int .i64 z.c, .int .i64 z.d]] w fun e w' => e = .returned (.bool true) ∧ Q w w' :=
  ring_walk x.a x.b x.c x.d y.a y.b y.c y.d z.a z.b z.c z.d w hr
end Go.Proofs.YtomodppdolfinaaDoor


/- What Direction and Inside of package distance return for arguments in their range. -/
import Derived.Test.YtomodppdolfinaaDsA
import Derived.Deep.CutBlock
import Derived.Deep.DeepCutAuto
namespace Go
open Go.RowKit
section
variable {P : Program}
/-- Three new variables; where they lie is left open. -/
theorem wp_region_al3 {id : Nat} {R : Exit → Act → World → Prop} {a : Act} {w : World} {l : List Oper} {f0 : FuncId} {fn0 : Func} (n : Nat) (i1 : Nat) (d1 : Tmp) (o1 : Obj) (i2 : Nat) (d2 : Tmp) (o2 : Obj) (i3 : Nat) (d3 : Tmp) (o3 : Obj)
    (h0 : P.funcs[f0]? = some fn0) (hr : fn0.results = #[]) (hi0 : P.inits.idxOf? f0 = none)
    (hm : P.follows .mixedOrders = true) (hB : Region.lexTailB .any (l.map unal).toArray n = true) (hT : Region.noSelect l.toArray && Region.sinkB .any l.toArray n && Region.chainB .any l.toArray n && decide (n < l.length) = true)
    (h12 : i1 ≠ i2) (h13 : i1 ≠ i3) (h23 : i2 ≠ i3) (hok : alB l.toArray n [(i1, d1, o1), (i2, d2, o2), (i3, d3, o3)] = true)
    (hr1 : ∀ op, l.toArray[i1]? = some op → ∀ (a : Act) (w : World), (execOp a.eval op).run P w = .ok (.value (.pointer (some ⟨w.heap.size, 0, none⟩))) (w.alloc o1))
    (hr2 : ∀ op, l.toArray[i2]? = some op → ∀ (a : Act) (w : World), (execOp a.eval op).run P w = .ok (.value (.pointer (some ⟨w.heap.size, 0, none⟩))) (w.alloc o2))
    (hr3 : ∀ op, l.toArray[i3]? = some op → ∀ (a : Act) (w : World), (execOp a.eval op).run P w = .ok (.value (.pointer (some ⟨w.heap.size, 0, none⟩))) (w.alloc o3))
    (h : ∀ k0 : Jk, wpQuiet P (l.map unal).toArray (fun w' => ∃ k, w' = (w.jk k0).jk k) (fun a' => ∀ b1 b2 b3 : Nat,
      (w.heap.size ≤ b1 ∧ (w.jk k0).heap[b1]? = some o1) → (w.heap.size ≤ b2 ∧ (w.jk k0).heap[b2]? = some o2) → (w.heap.size ≤ b3 ∧ (w.jk k0).heap[b3]? = some o3) → b1 ≠ b2 → b1 ≠ b3 → b2 ≠ b3 →
        wpList P l.toArray R (l.drop n) (((a'.put (some d1) (.pointer (some ⟨b1, 0, none⟩))).put (some d2) (.pointer (some ⟨b2, 0, none⟩))).put (some d3) (.pointer (some ⟨b3, 0, none⟩))) (w.jk k0)) ((l.map unal).take n) a) :
    (Code.region id l.toArray true).wp P R a w := by
  refine wp_region_al n [(i1, d1, o1), (i2, d2, o2), (i3, d3, o3)] h0 hr hi0 hm hB hT hok (fun x hx => by
    rcases List.mem_cons.1 hx with rfl | hx
    · exact hr1
    · rcases List.mem_cons.1 hx with rfl | hx
      · exact hr2
      · obtain rfl := List.mem_singleton.1 hx
        exact hr3) ?_
  rintro u ⟨k0, rfl⟩
  refine wpQuiet_imp _ _ (fun a' hk β hinv hall => ?_) (h k0)
  have m1 : (i1, d1, o1) ∈ [(i1, d1, o1), (i2, d2, o2), (i3, d3, o3)] := List.mem_cons_self
  have m2 : (i2, d2, o2) ∈ [(i1, d1, o1), (i2, d2, o2), (i3, d3, o3)] := List.mem_cons_of_mem _ List.mem_cons_self
  have m3 : (i3, d3, o3) ∈ [(i1, d1, o1), (i2, d2, o2), (i3, d3, o3)] := List.mem_cons_of_mem _ (List.mem_cons_of_mem _ List.mem_cons_self)
  obtain ⟨b1, hb1⟩ := hall _ m1
  obtain ⟨b2, hb2⟩ := hall _ m2
  obtain ⟨b3, hb3⟩ := hall _ m3
  have q1 := hinv.at_ _ m1 b1 hb1
  have q2 := hinv.at_ _ m2 b2 hb2
  have q3 := hinv.at_ _ m3 b3 hb3
  have n12 : b1 ≠ b2 := fun e => hinv.ne _ m1 _ m2 h12 b1 hb1 (e ▸ hb2)
  have n13 : b1 ≠ b3 := fun e => hinv.ne _ m1 _ m3 h13 b1 hb1 (e ▸ hb3)
  have n23 : b2 ≠ b3 := fun e => hinv.ne _ m2 _ m3 h23 b2 hb2 (e ▸ hb3)
  simp only [puts]
  simp only at hb1 hb2 hb3
  rw [hb1, hb2, hb3]
  exact hk b1 b2 b3 q1 q2 q3 n12 n13 n23
end
/-- Two cells written in a new block: again only new blocks. -/
theorem cell_of_block {w : World} {b i : Nat} {cs : Array Value} {t : TypeId} (h : w.heap[b]? = some (.cells cs t)) : w.cell? ⟨b, i, none⟩ = cs[i]? := by
  unfold World.cell?
  rw [h]
  simp
theorem soft_of_block {w : World} {b i : Nat} {cs : Array Value} {t : TypeId} (h : w.heap[b]? = some (.cells cs t)) : w.frozen? ⟨b, i, none⟩ = false := by
  unfold World.frozen?
  rw [h]
  simp
theorem setCell_block {w : World} {b i : Nat} {cs : Array Value} {t : TypeId} {v : Value} (h : w.heap[b]? = some (.cells cs t)) : (w.setCell ⟨b, i, none⟩ v).heap[b]? = some (.cells (cs.setIfInBounds i v) t) := by
  unfold World.setCell
  simp [Array.getElem?_modify, h]
theorem setCell_block_ne {w : World} {b c i : Nat} {v : Value} (h : b ≠ c) : (w.setCell ⟨b, i, none⟩ v).heap[c]? = w.heap[c]? := by
  unfold World.setCell
  simp [Array.getElem?_modify, h]
end Go
namespace Go.Proofs.Ytomodppdolfinaa
open Go.RowKit Go.Sub

theorem dir_bounds {p i : Cy} (hp : p.In 1048576) (htc : ((i.turn 2).conj).In 268435456) : (p.mul (i.turn 2).conj).In 10000000000000000 := (Cy.mul_in' hp htc).mono (by decide)
theorem turn2_conj (i : Cy) : (i.turn 2).conj = ⟨i.a, -i.d, -i.a - i.c, -i.b⟩ := by
  apply Cy.ext' <;> simp only [Cy.turn, Cy.tn, Cy.conj, Int.reduceMod, Int.reduceToNat] <;> omega
theorem turn2_conj_in {i : Cy} {l : Int} (hi : i.In l) : ((i.turn 2).conj).In (2 * l) := by
  rw [turn2_conj]
  unfold Cy.In at *
  dsimp only
  omega
set_option maxRecDepth 100000 in
set_option maxHeartbeats 2000000 in
theorem direction_c (p i : Cy) (w : World) (hp : p.In 1048576) (hi : i.In 134217728) :
    Calls Try.prog 21 #[.agg #[.int .i64 p.a, .int .i64 p.b, .int .i64 p.c, .int .i64 p.d], .agg #[.int .i64 i.a, .int .i64 i.b, .int .i64 i.c, .int .i64 i.d]] w fun e w' => e = .returned (.tuple #[.int .i64 (dirI p i), .int .i64 0]) ∧ Q w w' := by
  have ht := turn_in 2 hi
  have htc := (turn2_conj_in hi).mono (show 2 * 134217728 ≤ (268435456 : Int) by decide)
  have hm := dir_bounds hp htc
  have h1 := wiB_of hp
  have h2 := wiB_of hi
  have hre : -9223372036854775808 ≤ (p.mul (i.turn 2).conj).real.a ∧ (p.mul (i.turn 2).conj).real.a ≤ 9223372036854775807 ∧ -9223372036854775808 ≤ (p.mul (i.turn 2).conj).real.b ∧ (p.mul (i.turn 2).conj).real.b ≤ 9223372036854775807 := by
    unfold Cy.In at hm
    simp only [Cy.real]
    omega
  have HR := Lib.hid hre
  clear hre
  unfold dirI
  go_enter Try.func21, Try.ntmps21
  go_wp2_with (go_at_call 40; refine (dwithin_c _ _ _ (by decide) (by decide)).mono ?_; rintro e w' ⟨rfl, kj, rfl⟩)
  try simp only [List.append]
  refine wp_region_al1 7 6 7 (.cells #[.int .i64 0, .int .i64 0] 89) Try.func0 rfl (by kernel_rfl) (by kernel_rfl) (by kernel_rfl) (by kernel_rfl) (by kernel_rfl) (by intro op hop a w; simp at hop; subst hop; simp [go_sem]) ?_
  intro k0
  simp only [List.map_cons, List.map_nil, unal, List.take_succ_cons, List.take_zero, List.drop_succ_cons, List.drop_zero]
  repeat (go_big_quiet_step ((first | (go_at_call 53; exact Calls.jk_of (kturn_c _ i 2 _ (Calc.mk (by simp [go_sem]) (by simp [go_sem])) (hi.mono (by decide)))) | (go_at_call 43; exact Calls.jk_of (kconj_c _ (i.turn 2) _ (Calc.mk (by simp [go_sem]) (by simp [go_sem])) (ht.mono (by decide)))) | (go_at_call 42; exact Calls.jk_of (kmul_c _ p (i.turn 2).conj _ (Calc.mk (by simp [go_sem]) (by simp [go_sem])) (hp.mono (by decide)) htc)) | (go_at_call 44; exact Calls.jk_of (kreal_c _ (p.mul (i.turn 2).conj) _ (Calc.mk (by simp [go_sem]) (by simp [go_sem])) (hm.mono (by decide)))))))
  refine wpQuiet_nil ?_
  intro k1 k2 _
  simp only [Act.put, List.setIfInBounds_toArray, List.set_cons_succ, List.set_cons_zero]
  go_wp2_with (go_at_call 54; refine (sgnS_any _ _ _ HR.out.1 HR.out.2.1 HR.out.2.2.1 HR.out.2.2.2).mono ?_; rintro e w' ⟨rfl, kj, rfl⟩)
  go_ret2
  refine ⟨rfl, ?_⟩
  repeat' (first | exact Q.refl _ | refine Q.alloc ?_ _ | refine Q.jk ?_ _ | refine Q.drew ?_)
end Go.Proofs.Ytomodppdolfinaa

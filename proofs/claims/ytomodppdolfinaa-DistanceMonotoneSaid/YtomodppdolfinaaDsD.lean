
/- What Loops of package distance returns for arguments in their range. -/
import Derived.Test.YtomodppdolfinaaDsC
namespace Go
open Go.RowKit
section
variable {P : Program}
/-- Two new variables; where they lie is left open. -/
theorem wp_region_al2x {id : Nat} {R : Exit → Act → World → Prop} {a : Act} {w : World} {l : List Oper} {f0 : FuncId} {fn0 : Func} (n : Nat) (i1 : Nat) (d1 : Tmp) (o1 : Obj) (i2 : Nat) (d2 : Tmp) (o2 : Obj)
    (h0 : P.funcs[f0]? = some fn0) (hr : fn0.results = #[]) (hi0 : P.inits.idxOf? f0 = none)
    (hm : P.follows .mixedOrders = true) (hB : Region.lexTailB .any (l.map unal).toArray n = true) (hT : Region.noSelect l.toArray && Region.sinkB .any l.toArray n && Region.chainB .any l.toArray n && decide (n < l.length) = true)
    (h12 : i1 ≠ i2) (hok : alB l.toArray n [(i1, d1, o1), (i2, d2, o2)] = true)
    (hr1 : ∀ op, l.toArray[i1]? = some op → ∀ (a : Act) (w : World), (execOp a.eval op).run P w = .ok (.value (.pointer (some ⟨w.heap.size, 0, none⟩))) (w.alloc o1))
    (hr2 : ∀ op, l.toArray[i2]? = some op → ∀ (a : Act) (w : World), (execOp a.eval op).run P w = .ok (.value (.pointer (some ⟨w.heap.size, 0, none⟩))) (w.alloc o2))
    (h : ∀ k0 : Jk, wpQuiet P (l.map unal).toArray (fun w' => ∃ k, w' = (w.jk k0).jk k) (fun a' => ∀ b1 b2 : Nat,
      (w.heap.size ≤ b1 ∧ (w.jk k0).heap[b1]? = some o1) → (w.heap.size ≤ b2 ∧ (w.jk k0).heap[b2]? = some o2) → b1 ≠ b2 →
        wpList P l.toArray R (l.drop n) ((a'.put (some d1) (.pointer (some ⟨b1, 0, none⟩))).put (some d2) (.pointer (some ⟨b2, 0, none⟩))) (w.jk k0)) ((l.map unal).take n) a) :
    (Code.region id l.toArray true).wp P R a w := by
  refine wp_region_al n [(i1, d1, o1), (i2, d2, o2)] h0 hr hi0 hm hB hT hok (fun x hx => by
    rcases List.mem_cons.1 hx with rfl | hx
    · exact hr1
    · obtain rfl := List.mem_singleton.1 hx
      exact hr2) ?_
  rintro u ⟨k0, rfl⟩
  refine wpQuiet_imp _ _ (fun a' hk β hinv hall => ?_) (h k0)
  have m1 : (i1, d1, o1) ∈ [(i1, d1, o1), (i2, d2, o2)] := List.mem_cons_self
  have m2 : (i2, d2, o2) ∈ [(i1, d1, o1), (i2, d2, o2)] := List.mem_cons_of_mem _ List.mem_cons_self
  obtain ⟨b1, hb1⟩ := hall _ m1
  obtain ⟨b2, hb2⟩ := hall _ m2
  have q1 := hinv.at_ _ m1 b1 hb1
  have q2 := hinv.at_ _ m2 b2 hb2
  have n12 : b1 ≠ b2 := fun e => hinv.ne _ m1 _ m2 h12 b1 hb1 (e ▸ hb2)
  simp only [puts]
  simp only at hb1 hb2
  rw [hb1, hb2]
  exact hk b1 b2 q1 q2 n12
end
/-- The world under a name. -/
theorem wp_world {P : Program} {c : Code} {R : Exit → Act → World → Prop} {a : Act} {w : World} (h : ∀ B, B = w → Code.wp P c R a B) : Code.wp P c R a w := h w rfl
/-- Two blocks are not the same. -/
class Apt (m n : Nat) : Prop where
  ne : m ≠ n
theorem setBlk_block {w : World} {b : Nat} {o o' : Obj} (h : w.heap[b]? = some o) : (w.setBlk b o').heap[b]? = some o' := by
  have := (Array.getElem?_eq_some_iff.1 h).1
  simp [World.setBlk, this]
theorem setBlk_block_ne {w : World} {b c : Nat} {o' : Obj} (h : b ≠ c) : (w.setBlk b o').heap[c]? = w.heap[c]? := by
  simp [World.setBlk, h]
instance Blk.apart {w : World} {m n : Nat} {o : Obj} (o' : Obj) [h : Blk w n o] [hn : Apt m n] : Blk (w.setBlk m o') n o := ⟨by rw [setBlk_block_ne hn.ne]; exact h.eq⟩
/-- Two new rows written: only new blocks still, and what lies there. -/
theorem two_rows {w u : World} {b1 b2 : Nat} {o1 o2 o1' o2' : Obj} (hq : Q w u) (h1 : w.heap.size ≤ b1 ∧ u.heap[b1]? = some o1) (h2 : w.heap.size ≤ b2 ∧ u.heap[b2]? = some o2) (n12 : b1 ≠ b2) :
    ∃ k : Jk, (u.setBlk b1 o1').setBlk b2 o2' = w.jk k ∧ (w.jk k).heap[b1]? = some o1' ∧ (w.jk k).heap[b2]? = some o2' := by
  have hq2 : Q w ((u.setBlk b1 o1').setBlk b2 o2') := (hq.setBlk h1.1 _).setBlk h2.1 _
  obtain ⟨k, hk⟩ := hq2
  refine ⟨k, hk, ?_, ?_⟩
  · rw [← hk, setBlk_block_ne n12.symm, setBlk_block h1.2]
  · have e : (u.setBlk b1 o1').heap[b2]? = some o2 := by rw [setBlk_block_ne n12]; exact h2.2
    rw [← hk, setBlk_block e]
end Go
namespace Go.Proofs.Ytomodppdolfinaa
open Go.RowKit Go.Sub
/-- The cells of six loops of which k are there. -/
def c48L (v i : Nat → Cy) (k : Nat) : Array Value :=
  ((List.range 6).flatMap fun h => if h < k then [.int .i64 (v h).a, .int .i64 (v h).b, .int .i64 (v h).c, .int .i64 (v h).d, .int .i64 (i h).a, .int .i64 (i h).b, .int .i64 (i h).c, .int .i64 (i h).d] else [.int .i64 0, .int .i64 0, .int .i64 0, .int .i64 0, .int .i64 0, .int .i64 0, .int .i64 0, .int .i64 0]).toArray
@[go_sem] theorem c48L_size (v i : Nat → Cy) (k : Nat) : (c48L v i k).size = 48 := by
  unfold c48L
  simp only [List.range_succ, List.range_zero, List.nil_append, List.flatMap_append, List.flatMap_cons, List.flatMap_nil, List.append_nil, List.size_toArray, List.length_append]
  have e : ∀ h : Nat, (if h < k then [Value.int .i64 (v h).a, Value.int .i64 (v h).b, Value.int .i64 (v h).c, Value.int .i64 (v h).d, Value.int .i64 (i h).a, Value.int .i64 (i h).b, Value.int .i64 (i h).c, Value.int .i64 (i h).d] else [.int .i64 0, .int .i64 0, .int .i64 0, .int .i64 0, .int .i64 0, .int .i64 0, .int .i64 0, .int .i64 0]).length = 8 := by
    intro h; split <;> rfl
  simp only [e]
instance c48L_one (v i : Nat → Cy) (k : Nat) : Ones (c48L v i k) := by
  refine ⟨?_⟩
  apply Array.all_eq_true_iff_forall_mem.2
  intro x hx
  unfold c48L at hx
  simp only [List.mem_toArray, List.mem_flatMap] at hx
  obtain ⟨h, _, hx⟩ := hx
  split at hx <;> simp at hx
  · rcases hx with rfl | rfl | rfl | rfl | rfl | rfl | rfl | rfl <;> rfl
  · subst hx; rfl
@[go_sem ↓ high] theorem lv48L (a : Addr) : loadVar 49 a = bigLoad 49 a := rfl
@[go_sem ↓ high] theorem sv48L (a : Addr) (v : Value) : storeVar 49 a v = bigStore 49 a v := rfl
theorem info48L : (Try.prog.info? 49).map (·.size) = some 48 := by kernel_rfl
@[go_sem] theorem run_load48L {w : World} {n : Nat} {cs : Array Value} {t : TypeId} {fr : Nat × Nat} [h : Blk w n (.cells cs t fr)] (hs : cs.size = 48) :
    (bigLoad 49 ⟨n, 0, none⟩).run Try.prog w = .ok (.agg cs) w := run_bigLoad Try.underlying49 rfl (by rw [hs]; exact info48L)
@[go_sem] theorem run_store48L {w : World} {n : Nat} {cs cs' : Array Value} {t : TypeId} [h : Blk w n (.cells cs t (0, 0))] (hs : cs.size = 48) (hs' : cs'.size = 48) [h1 : Ones cs'] :
    (bigStore 49 ⟨n, 0, none⟩ (.agg cs')).run Try.prog w = .ok () (w.setBlk n (.cells cs' t)) := run_bigStore (by rw [hs']; exact info48L) (by rw [hs, hs'])

theorem c48L_set0 (v i : Nat → Cy) (xa xb xc xd : Value) : ((((((((((((c48L v i 0).setIfInBounds 0 (.int .i64 (v 0).a)).setIfInBounds 1 (.int .i64 (v 0).b)).setIfInBounds 2 (.int .i64 (v 0).c)).setIfInBounds 3 (.int .i64 (v 0).d)).setIfInBounds 4 (xa)).setIfInBounds 5 (xb)).setIfInBounds 6 (xc)).setIfInBounds 7 (xd)).setIfInBounds 4 (.int .i64 (i 0).a)).setIfInBounds 5 (.int .i64 (i 0).b)).setIfInBounds 6 (.int .i64 (i 0).c)).setIfInBounds 7 (.int .i64 (i 0).d) = c48L v i 1 := by kernel_rfl
theorem c48L_at0 (v i : Nat → Cy) : (c48L v i 0)[0]? = some (.int .i64 0) ∧ (c48L v i 0)[1]? = some (.int .i64 0) ∧ (c48L v i 0)[2]? = some (.int .i64 0) ∧ (c48L v i 0)[3]? = some (.int .i64 0) ∧ (c48L v i 0)[4]? = some (.int .i64 0) ∧ (c48L v i 0)[5]? = some (.int .i64 0) ∧ (c48L v i 0)[6]? = some (.int .i64 0) ∧ (c48L v i 0)[7]? = some (.int .i64 0) := ⟨by kernel_rfl, by kernel_rfl, by kernel_rfl, by kernel_rfl, by kernel_rfl, by kernel_rfl, by kernel_rfl, by kernel_rfl⟩
theorem c48L_set1 (v i : Nat → Cy) (xa xb xc xd : Value) : ((((((((((((c48L v i 1).setIfInBounds 8 (.int .i64 (v 1).a)).setIfInBounds 9 (.int .i64 (v 1).b)).setIfInBounds 10 (.int .i64 (v 1).c)).setIfInBounds 11 (.int .i64 (v 1).d)).setIfInBounds 12 (xa)).setIfInBounds 13 (xb)).setIfInBounds 14 (xc)).setIfInBounds 15 (xd)).setIfInBounds 12 (.int .i64 (i 1).a)).setIfInBounds 13 (.int .i64 (i 1).b)).setIfInBounds 14 (.int .i64 (i 1).c)).setIfInBounds 15 (.int .i64 (i 1).d) = c48L v i 2 := by kernel_rfl
theorem c48L_at1 (v i : Nat → Cy) : (c48L v i 1)[8]? = some (.int .i64 0) ∧ (c48L v i 1)[9]? = some (.int .i64 0) ∧ (c48L v i 1)[10]? = some (.int .i64 0) ∧ (c48L v i 1)[11]? = some (.int .i64 0) ∧ (c48L v i 1)[12]? = some (.int .i64 0) ∧ (c48L v i 1)[13]? = some (.int .i64 0) ∧ (c48L v i 1)[14]? = some (.int .i64 0) ∧ (c48L v i 1)[15]? = some (.int .i64 0) := ⟨by kernel_rfl, by kernel_rfl, by kernel_rfl, by kernel_rfl, by kernel_rfl, by kernel_rfl, by kernel_rfl, by kernel_rfl⟩
theorem c48L_set2 (v i : Nat → Cy) (xa xb xc xd : Value) : ((((((((((((c48L v i 2).setIfInBounds 16 (.int .i64 (v 2).a)).setIfInBounds 17 (.int .i64 (v 2).b)).setIfInBounds 18 (.int .i64 (v 2).c)).setIfInBounds 19 (.int .i64 (v 2).d)).setIfInBounds 20 (xa)).setIfInBounds 21 (xb)).setIfInBounds 22 (xc)).setIfInBounds 23 (xd)).setIfInBounds 20 (.int .i64 (i 2).a)).setIfInBounds 21 (.int .i64 (i 2).b)).setIfInBounds 22 (.int .i64 (i 2).c)).setIfInBounds 23 (.int .i64 (i 2).d) = c48L v i 3 := by kernel_rfl
theorem c48L_at2 (v i : Nat → Cy) : (c48L v i 2)[16]? = some (.int .i64 0) ∧ (c48L v i 2)[17]? = some (.int .i64 0) ∧ (c48L v i 2)[18]? = some (.int .i64 0) ∧ (c48L v i 2)[19]? = some (.int .i64 0) ∧ (c48L v i 2)[20]? = some (.int .i64 0) ∧ (c48L v i 2)[21]? = some (.int .i64 0) ∧ (c48L v i 2)[22]? = some (.int .i64 0) ∧ (c48L v i 2)[23]? = some (.int .i64 0) := ⟨by kernel_rfl, by kernel_rfl, by kernel_rfl, by kernel_rfl, by kernel_rfl, by kernel_rfl, by kernel_rfl, by kernel_rfl⟩
theorem c48L_set3 (v i : Nat → Cy) : ((((((((c48L v i 3).setIfInBounds 24 (.int .i64 (v 3).a)).setIfInBounds 25 (.int .i64 (v 3).b)).setIfInBounds 26 (.int .i64 (v 3).c)).setIfInBounds 27 (.int .i64 (v 3).d)).setIfInBounds 28 (.int .i64 (i 3).a)).setIfInBounds 29 (.int .i64 (i 3).b)).setIfInBounds 30 (.int .i64 (i 3).c)).setIfInBounds 31 (.int .i64 (i 3).d) = c48L v i 4 := by kernel_rfl
theorem c48L_at3 (v i : Nat → Cy) : (c48L v i 3)[24]? = some (.int .i64 0) ∧ (c48L v i 3)[25]? = some (.int .i64 0) ∧ (c48L v i 3)[26]? = some (.int .i64 0) ∧ (c48L v i 3)[27]? = some (.int .i64 0) ∧ (c48L v i 3)[28]? = some (.int .i64 0) ∧ (c48L v i 3)[29]? = some (.int .i64 0) ∧ (c48L v i 3)[30]? = some (.int .i64 0) ∧ (c48L v i 3)[31]? = some (.int .i64 0) := ⟨by kernel_rfl, by kernel_rfl, by kernel_rfl, by kernel_rfl, by kernel_rfl, by kernel_rfl, by kernel_rfl, by kernel_rfl⟩
theorem c48L_set4 (v i : Nat → Cy) : ((((((((c48L v i 4).setIfInBounds 32 (.int .i64 (v 4).a)).setIfInBounds 33 (.int .i64 (v 4).b)).setIfInBounds 34 (.int .i64 (v 4).c)).setIfInBounds 35 (.int .i64 (v 4).d)).setIfInBounds 36 (.int .i64 (i 4).a)).setIfInBounds 37 (.int .i64 (i 4).b)).setIfInBounds 38 (.int .i64 (i 4).c)).setIfInBounds 39 (.int .i64 (i 4).d) = c48L v i 5 := by kernel_rfl
theorem c48L_at4 (v i : Nat → Cy) : (c48L v i 4)[32]? = some (.int .i64 0) ∧ (c48L v i 4)[33]? = some (.int .i64 0) ∧ (c48L v i 4)[34]? = some (.int .i64 0) ∧ (c48L v i 4)[35]? = some (.int .i64 0) ∧ (c48L v i 4)[36]? = some (.int .i64 0) ∧ (c48L v i 4)[37]? = some (.int .i64 0) ∧ (c48L v i 4)[38]? = some (.int .i64 0) ∧ (c48L v i 4)[39]? = some (.int .i64 0) := ⟨by kernel_rfl, by kernel_rfl, by kernel_rfl, by kernel_rfl, by kernel_rfl, by kernel_rfl, by kernel_rfl, by kernel_rfl⟩
theorem c48L_set5 (v i : Nat → Cy) : ((((((((c48L v i 5).setIfInBounds 40 (.int .i64 (v 5).a)).setIfInBounds 41 (.int .i64 (v 5).b)).setIfInBounds 42 (.int .i64 (v 5).c)).setIfInBounds 43 (.int .i64 (v 5).d)).setIfInBounds 44 (.int .i64 (i 5).a)).setIfInBounds 45 (.int .i64 (i 5).b)).setIfInBounds 46 (.int .i64 (i 5).c)).setIfInBounds 47 (.int .i64 (i 5).d) = c48L v i 6 := by kernel_rfl
theorem c48L_at5 (v i : Nat → Cy) : (c48L v i 5)[40]? = some (.int .i64 0) ∧ (c48L v i 5)[41]? = some (.int .i64 0) ∧ (c48L v i 5)[42]? = some (.int .i64 0) ∧ (c48L v i 5)[43]? = some (.int .i64 0) ∧ (c48L v i 5)[44]? = some (.int .i64 0) ∧ (c48L v i 5)[45]? = some (.int .i64 0) ∧ (c48L v i 5)[46]? = some (.int .i64 0) ∧ (c48L v i 5)[47]? = some (.int .i64 0) := ⟨by kernel_rfl, by kernel_rfl, by kernel_rfl, by kernel_rfl, by kernel_rfl, by kernel_rfl, by kernel_rfl, by kernel_rfl⟩
@[go_sem] theorem c48L_g0 (v i : Nat → Cy) (h : 0 < (c48L v i 6).size) : (c48L v i 6)[0]'h = .int .i64 (v 0).a := by kernel_rfl
@[go_sem] theorem c48L_g1 (v i : Nat → Cy) (h : 1 < (c48L v i 6).size) : (c48L v i 6)[1]'h = .int .i64 (v 0).b := by kernel_rfl
@[go_sem] theorem c48L_g2 (v i : Nat → Cy) (h : 2 < (c48L v i 6).size) : (c48L v i 6)[2]'h = .int .i64 (v 0).c := by kernel_rfl
@[go_sem] theorem c48L_g3 (v i : Nat → Cy) (h : 3 < (c48L v i 6).size) : (c48L v i 6)[3]'h = .int .i64 (v 0).d := by kernel_rfl
@[go_sem] theorem c48L_g4 (v i : Nat → Cy) (h : 4 < (c48L v i 6).size) : (c48L v i 6)[4]'h = .int .i64 (i 0).a := by kernel_rfl
@[go_sem] theorem c48L_g5 (v i : Nat → Cy) (h : 5 < (c48L v i 6).size) : (c48L v i 6)[5]'h = .int .i64 (i 0).b := by kernel_rfl
@[go_sem] theorem c48L_g6 (v i : Nat → Cy) (h : 6 < (c48L v i 6).size) : (c48L v i 6)[6]'h = .int .i64 (i 0).c := by kernel_rfl
@[go_sem] theorem c48L_g7 (v i : Nat → Cy) (h : 7 < (c48L v i 6).size) : (c48L v i 6)[7]'h = .int .i64 (i 0).d := by kernel_rfl
@[go_sem] theorem c48L_g8 (v i : Nat → Cy) (h : 8 < (c48L v i 6).size) : (c48L v i 6)[8]'h = .int .i64 (v 1).a := by kernel_rfl
@[go_sem] theorem c48L_g9 (v i : Nat → Cy) (h : 9 < (c48L v i 6).size) : (c48L v i 6)[9]'h = .int .i64 (v 1).b := by kernel_rfl
@[go_sem] theorem c48L_g10 (v i : Nat → Cy) (h : 10 < (c48L v i 6).size) : (c48L v i 6)[10]'h = .int .i64 (v 1).c := by kernel_rfl
@[go_sem] theorem c48L_g11 (v i : Nat → Cy) (h : 11 < (c48L v i 6).size) : (c48L v i 6)[11]'h = .int .i64 (v 1).d := by kernel_rfl
@[go_sem] theorem c48L_g12 (v i : Nat → Cy) (h : 12 < (c48L v i 6).size) : (c48L v i 6)[12]'h = .int .i64 (i 1).a := by kernel_rfl
@[go_sem] theorem c48L_g13 (v i : Nat → Cy) (h : 13 < (c48L v i 6).size) : (c48L v i 6)[13]'h = .int .i64 (i 1).b := by kernel_rfl
@[go_sem] theorem c48L_g14 (v i : Nat → Cy) (h : 14 < (c48L v i 6).size) : (c48L v i 6)[14]'h = .int .i64 (i 1).c := by kernel_rfl
@[go_sem] theorem c48L_g15 (v i : Nat → Cy) (h : 15 < (c48L v i 6).size) : (c48L v i 6)[15]'h = .int .i64 (i 1).d := by kernel_rfl
@[go_sem] theorem c48L_g16 (v i : Nat → Cy) (h : 16 < (c48L v i 6).size) : (c48L v i 6)[16]'h = .int .i64 (v 2).a := by kernel_rfl
@[go_sem] theorem c48L_g17 (v i : Nat → Cy) (h : 17 < (c48L v i 6).size) : (c48L v i 6)[17]'h = .int .i64 (v 2).b := by kernel_rfl
@[go_sem] theorem c48L_g18 (v i : Nat → Cy) (h : 18 < (c48L v i 6).size) : (c48L v i 6)[18]'h = .int .i64 (v 2).c := by kernel_rfl
@[go_sem] theorem c48L_g19 (v i : Nat → Cy) (h : 19 < (c48L v i 6).size) : (c48L v i 6)[19]'h = .int .i64 (v 2).d := by kernel_rfl
@[go_sem] theorem c48L_g20 (v i : Nat → Cy) (h : 20 < (c48L v i 6).size) : (c48L v i 6)[20]'h = .int .i64 (i 2).a := by kernel_rfl
@[go_sem] theorem c48L_g21 (v i : Nat → Cy) (h : 21 < (c48L v i 6).size) : (c48L v i 6)[21]'h = .int .i64 (i 2).b := by kernel_rfl
@[go_sem] theorem c48L_g22 (v i : Nat → Cy) (h : 22 < (c48L v i 6).size) : (c48L v i 6)[22]'h = .int .i64 (i 2).c := by kernel_rfl
@[go_sem] theorem c48L_g23 (v i : Nat → Cy) (h : 23 < (c48L v i 6).size) : (c48L v i 6)[23]'h = .int .i64 (i 2).d := by kernel_rfl
@[go_sem] theorem c48L_g24 (v i : Nat → Cy) (h : 24 < (c48L v i 6).size) : (c48L v i 6)[24]'h = .int .i64 (v 3).a := by kernel_rfl
@[go_sem] theorem c48L_g25 (v i : Nat → Cy) (h : 25 < (c48L v i 6).size) : (c48L v i 6)[25]'h = .int .i64 (v 3).b := by kernel_rfl
@[go_sem] theorem c48L_g26 (v i : Nat → Cy) (h : 26 < (c48L v i 6).size) : (c48L v i 6)[26]'h = .int .i64 (v 3).c := by kernel_rfl
@[go_sem] theorem c48L_g27 (v i : Nat → Cy) (h : 27 < (c48L v i 6).size) : (c48L v i 6)[27]'h = .int .i64 (v 3).d := by kernel_rfl
@[go_sem] theorem c48L_g28 (v i : Nat → Cy) (h : 28 < (c48L v i 6).size) : (c48L v i 6)[28]'h = .int .i64 (i 3).a := by kernel_rfl
@[go_sem] theorem c48L_g29 (v i : Nat → Cy) (h : 29 < (c48L v i 6).size) : (c48L v i 6)[29]'h = .int .i64 (i 3).b := by kernel_rfl
@[go_sem] theorem c48L_g30 (v i : Nat → Cy) (h : 30 < (c48L v i 6).size) : (c48L v i 6)[30]'h = .int .i64 (i 3).c := by kernel_rfl
@[go_sem] theorem c48L_g31 (v i : Nat → Cy) (h : 31 < (c48L v i 6).size) : (c48L v i 6)[31]'h = .int .i64 (i 3).d := by kernel_rfl
@[go_sem] theorem c48L_g32 (v i : Nat → Cy) (h : 32 < (c48L v i 6).size) : (c48L v i 6)[32]'h = .int .i64 (v 4).a := by kernel_rfl
@[go_sem] theorem c48L_g33 (v i : Nat → Cy) (h : 33 < (c48L v i 6).size) : (c48L v i 6)[33]'h = .int .i64 (v 4).b := by kernel_rfl
@[go_sem] theorem c48L_g34 (v i : Nat → Cy) (h : 34 < (c48L v i 6).size) : (c48L v i 6)[34]'h = .int .i64 (v 4).c := by kernel_rfl
@[go_sem] theorem c48L_g35 (v i : Nat → Cy) (h : 35 < (c48L v i 6).size) : (c48L v i 6)[35]'h = .int .i64 (v 4).d := by kernel_rfl
@[go_sem] theorem c48L_g36 (v i : Nat → Cy) (h : 36 < (c48L v i 6).size) : (c48L v i 6)[36]'h = .int .i64 (i 4).a := by kernel_rfl
@[go_sem] theorem c48L_g37 (v i : Nat → Cy) (h : 37 < (c48L v i 6).size) : (c48L v i 6)[37]'h = .int .i64 (i 4).b := by kernel_rfl
@[go_sem] theorem c48L_g38 (v i : Nat → Cy) (h : 38 < (c48L v i 6).size) : (c48L v i 6)[38]'h = .int .i64 (i 4).c := by kernel_rfl
@[go_sem] theorem c48L_g39 (v i : Nat → Cy) (h : 39 < (c48L v i 6).size) : (c48L v i 6)[39]'h = .int .i64 (i 4).d := by kernel_rfl
@[go_sem] theorem c48L_g40 (v i : Nat → Cy) (h : 40 < (c48L v i 6).size) : (c48L v i 6)[40]'h = .int .i64 (v 5).a := by kernel_rfl
@[go_sem] theorem c48L_g41 (v i : Nat → Cy) (h : 41 < (c48L v i 6).size) : (c48L v i 6)[41]'h = .int .i64 (v 5).b := by kernel_rfl
@[go_sem] theorem c48L_g42 (v i : Nat → Cy) (h : 42 < (c48L v i 6).size) : (c48L v i 6)[42]'h = .int .i64 (v 5).c := by kernel_rfl
@[go_sem] theorem c48L_g43 (v i : Nat → Cy) (h : 43 < (c48L v i 6).size) : (c48L v i 6)[43]'h = .int .i64 (v 5).d := by kernel_rfl
@[go_sem] theorem c48L_g44 (v i : Nat → Cy) (h : 44 < (c48L v i 6).size) : (c48L v i 6)[44]'h = .int .i64 (i 5).a := by kernel_rfl
@[go_sem] theorem c48L_g45 (v i : Nat → Cy) (h : 45 < (c48L v i 6).size) : (c48L v i 6)[45]'h = .int .i64 (i 5).b := by kernel_rfl
@[go_sem] theorem c48L_g46 (v i : Nat → Cy) (h : 46 < (c48L v i 6).size) : (c48L v i 6)[46]'h = .int .i64 (i 5).c := by kernel_rfl
@[go_sem] theorem c48L_g47 (v i : Nat → Cy) (h : 47 < (c48L v i 6).size) : (c48L v i 6)[47]'h = .int .i64 (i 5).d := by kernel_rfl
end Go.Proofs.Ytomodppdolfinaa

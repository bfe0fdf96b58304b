
/- What the links of a bay are found to be. -/
import Derived.Test.YtcjflafjmdfanaaGreatDoorBv12
import Derived.Deep.RegionLaw
set_option maxHeartbeats 64000000
set_option maxRecDepth 100000
set_option linter.unusedSimpArgs false
set_option linter.unusedVariables false
/- What the methods line and source of a builder return. -/
namespace Go.Proofs.YtcjflafjmdfanaaGreatDoor
open Go.RowKit Go.Sub
attribute [local go_sem ↓] Go.wp_at_zero Go.wp_at_succ
theorem ways2 (a b : Bool) : a = false ∨ (a = true ∧ b = false) ∨ (a = true ∧ b = true) := by cases a <;> cases b <;> simp
theorem ways3 (a b c : Bool) : a = false ∨ (a = true ∧ b = false) ∨ (a = true ∧ b = true ∧ c = false) ∨ (a = true ∧ b = true ∧ c = true) := by cases a <;> cases b <;> cases c <;> simp
theorem cells_of {w : World} {g : Nat} {news : List Value} {t : TypeId} (h : HB w g news.toArray t) : ∀ j u, news[j]? = some u → w.cell? ⟨g, j, none⟩ = some u := by
 intro j u hj
 rw [h.cell, List.getElem?_toArray, hj]
theorem line_c (W0 w : World) (b m : Nat) (vB vL vS vY : Value) (seen : List ByteArray) (nb nl ns : Nat) (ys : List Byr) (x : Lnr) (h : Bld W0 w b m vB vL vS vY seen nb nl ns ys) (hx : (x.nm.size : Int) ≤ 9223372036854775807) (hl : seen.length < 1000) (hn : nl < 1000) :
  Calls Tryz.prog 60 #[.pointer (some ⟨b, 0, none⟩), .agg #[.string x.nm, .int .i64 x.z1.r, .int .i64 x.z1.x, .int .i64 x.z0.r, .int .i64 x.z0.x]] w (RetB W0 (lnE seen x) fun w' => ∃ v', Bld W0 w' b m vB v' vS vY (seen ++ [x.nm]) nb (nl + 1) ns ys) := by
 have h0 := h.to (Q.alloc (Q.refl w) (Obj.cells #[.string x.nm, Value.int .i64 x.z1.r, Value.int .i64 x.z1.x, Value.int .i64 x.z0.r, Value.int .i64 x.z0.x] 115))
 have NM := hh (bname_c b m _ x.nm seen _ h0.hb rfl h0.sn hx)
 have I1 := hh fun w => stimp_c x.z1 w
 have I0 := hh fun w => stimp_c x.z0 w
 have c5 := h.hb.cell 5
 simp only [List.getElem?_toArray, List.getElem?_cons_zero, List.getElem?_cons_succ] at c5
 have ob := h.hb.old
 have HQ := hh h.q
 by_cases hE : nmE seen x.nm = 0
 rotate_left
 ·have HE := hh hE
  have EE : lnE seen x = nmE seen x.nm := by simp [lnE, hE]
  rw [EE]
  generalize nmE seen x.nm = E at NM HE ⊢
  have hE' : ¬ E = 0 := HE.o
  clear h h0 hE EE
  go_enter Tryz.func60, Tryz.ntmps60
  go_wp2_with (first | (go_at_call 91; (with_reducible refine NM.o.p ?_)) | (go_at_call 92; (with_reducible refine (I1.o _).q ?_); intro k1) | (go_at_call 92; (with_reducible refine (I0.o _).q ?_); intro k0) | (go_at_call 93; (with_reducible refine (WM.o _).p ?_)) | fail)
  go_ret
  refine ⟨rfl, ?_, fun e => absurd e HE.o⟩
  repeat' (first | exact HQ.o | refine Q.alloc ?_ _ | refine Q.jk ?_ _ | refine Q.drew ?_)
 have hn12 := nmB_size (nmE_zero hE)
 rw [hE] at NM
 have EE : lnE seen x = if (ohmB x.z1 && ohmB x.z0) = true then 0 else 2 := by simp [lnE, hE]
 rw [EE]
 clear EE hE
 generalize ohmB x.z1 = p1 at I1 ⊢
 generalize ohmB x.z0 = p0 at I0 ⊢
 rcases ways2 p1 p0 with rfl | ⟨rfl, rfl⟩ | ⟨rfl, rfl⟩
 ·rw [if_neg (by simp)]
  go_enter Tryz.func60, Tryz.ntmps60
  go_wp2_with (first | (go_at_call 91; (with_reducible refine NM.o.p ?_)) | (go_at_call 92; (with_reducible refine (I1.o _).q ?_); intro k1) | (go_at_call 92; (with_reducible refine (I0.o _).q ?_); intro k0) | (go_at_call 93; (with_reducible refine (WM.o _).p ?_)) | fail)
  all_goals
   go_ret
   refine ⟨?_, ?_, fun e => absurd e (by decide)⟩
   ·rfl
   repeat' (first | exact HQ.o | refine Q.alloc ?_ _ | refine Q.jk ?_ _ | refine Q.drew ?_)
 ·rw [if_neg (by simp)]
  go_enter Tryz.func60, Tryz.ntmps60
  go_wp2_with (first | (go_at_call 91; (with_reducible refine NM.o.p ?_)) | (go_at_call 92; (with_reducible refine (I1.o _).q ?_); intro k1) | (go_at_call 92; (with_reducible refine (I0.o _).q ?_); intro k0) | (go_at_call 93; (with_reducible refine (WM.o _).p ?_)) | fail)
  all_goals
   go_ret
   refine ⟨?_, ?_, fun e => absurd e (by decide)⟩
   ·rfl
   repeat' (first | exact HQ.o | refine Q.alloc ?_ _ | refine Q.jk ?_ _ | refine Q.drew ?_)
 rw [if_pos (by simp)]
 go_enter Tryz.func60, Tryz.ntmps60
 go_wp2_with (first | (go_at_call 91; (with_reducible refine NM.o.p ?_)) | (go_at_call 92; (with_reducible refine (I1.o _).q ?_); intro k1) | (go_at_call 92; (with_reducible refine (I0.o _).q ?_); intro k0) | (go_at_call 93; (with_reducible refine (WM.o _).p ?_)) | fail)
 refine wp_region_tail 6 (by kernel_rfl) (by kernel_rfl) ?_
 simp only [List.take_succ_cons, List.take_zero, List.drop_succ_cons, List.drop_zero]
 repeat (go_big_quiet_step (fail))
 refine wq0 fun kq => ?_
 have HX := hh (h0.to (show Q (w.alloc (Obj.cells #[.string x.nm, Value.int .i64 x.z1.r, Value.int .i64 x.z1.x, Value.int .i64 x.z0.r, Value.int .i64 x.z0.x] 115)) ((((w.alloc (Obj.cells #[.string x.nm, Value.int .i64 x.z1.r, Value.int .i64 x.z1.x, Value.int .i64 x.z0.r, Value.int .i64 x.z0.x] 115)).jk k1).jk k0).jk kq) by exact Q.i))
 have HY : Hid (HB ((((w.alloc (Obj.cells #[.string x.nm, Value.int .i64 x.z1.r, Value.int .i64 x.z1.x, Value.int .i64 x.z0.r, Value.int .i64 x.z0.x] 115)).jk k1).jk k0).jk kq) w.heap.size #[.string x.nm, Value.int .i64 x.z1.r, Value.int .i64 x.z1.x, Value.int .i64 x.z0.r, Value.int .i64 x.z0.x] 115) := hh ((((HB.new _ _ _ _ rfl).jk _).jk _).jk _)
 go_wp2_with (first | (at_mapUpdate; refine wpList_put rfl _ _ _ rfl m x.nm seen rfl rfl rfl HX.o.sn hn12 hl ?_; intro w1 hs1 hg1) | fail)
 have h1 := HX.o.seen hs1 hg1
 have hy1 := HY.o.grown hg1 (fun e => by
  obtain ⟨D, ⟨es, clock, hh, _⟩, _⟩ := HX.o.sn
  have e' := Option.some.inj e
  have hb : _ = some (Obj.cells _ _) := HY.o
  rw [e'] at hb
  rw [hb] at hh
  cases hh)
 have HB1 := hh (h1.to (Q.drew (Q.refl w1)))
 obtain ⟨xK, hK⟩ := h1.rL
 have HKr := hh hK
 have c1 := h1.hb.cell 2
 simp only [List.getElem?_toArray, List.getElem?_cons_zero, List.getElem?_cons_succ] at c1
 have ob1 := h1.hb.old
 have oy1 := hy1.old
 have y0 := hy1.cell 0
 have y1 := hy1.cell 1
 have y2 := hy1.cell 2
 have y3 := hy1.cell 3
 have y4 := hy1.cell 4
 simp only [List.getElem?_toArray, List.getElem?_cons_zero, List.getElem?_cons_succ] at y0 y1 y2 y3 y4
 have hz := h1.q.below.size
 clear h h0 h1 hs1 hg1 hK hy1 HX HY NM
 go_region_law (go_loud (refine step_appL rfl _ _ rfl W0.heap.size vL nl xK (by rfl) (ownsRow_q HKr.o Q.i) _ (by rfl) [.string x.nm, Value.int .i64 x.z1.r, Value.int .i64 x.z1.x, Value.int .i64 x.z0.r, Value.int .i64 x.z0.x] rfl (cells_of (HB.new _ _ _ _ (by simp))) (by intro u hu; simp only [List.mem_cons, List.mem_nil_iff, or_false] at hu; rcases hu with rfl | rfl | rfl | rfl | rfl <;> rfl) hn (by simp; omega) ?_); intro v' w2 hown hg2; obtain ⟨gv, cv, rfl⟩ := own_slice hown (by omega); have hb2 := HB1.o.boxL hg2; have f1 := hb2.soft 2; have c2 := hb2.cell 2; simp only [List.getElem?_toArray, List.getElem?_cons_zero, List.getElem?_cons_succ] at c2; have ob2 := hb2.old; have HF := hh (HB1.o.putL hg2 hown); clear hb2 hown hg2)
 all_goals
  go_wp2_with fail
  go_ret
  exact ⟨rfl, HF.o.q, fun _ => ⟨_, HF.o⟩⟩
theorem source_c (W0 w : World) (b m : Nat) (vB vL vS vY : Value) (seen : List ByteArray) (nb nl ns : Nat) (ys : List Byr) (x : Srr) (h : Bld W0 w b m vB vL vS vY seen nb nl ns ys) (hx : (x.nm.size : Int) ≤ 9223372036854775807) (hl : seen.length < 1000) (hn : ns < 1000) :
  Calls Tryz.prog 62 #[.pointer (some ⟨b, 0, none⟩), .agg #[.string x.nm, .int .i64 x.em, .int .i64 x.z1.r, .int .i64 x.z1.x, .int .i64 x.z0.r, .int .i64 x.z0.x]] w (RetB W0 (srE seen x) fun w' => ∃ v', Bld W0 w' b m vB vL v' vY (seen ++ [x.nm]) nb nl (ns + 1) ys) := by
 have h0 := h.to (Q.alloc (Q.refl w) (Obj.cells #[.string x.nm, Value.int .i64 x.em, Value.int .i64 x.z1.r, Value.int .i64 x.z1.x, Value.int .i64 x.z0.r, Value.int .i64 x.z0.x] 95))
 have NM := hh (bname_c b m _ x.nm seen _ h0.hb rfl h0.sn hx)
 have I1 := hh fun w => stimp_c x.z1 w
 have I0 := hh fun w => stimp_c x.z0 w
 have WM := hh fun w => stwithin_c x.em 1 1000000 w
 have c5 := h.hb.cell 5
 simp only [List.getElem?_toArray, List.getElem?_cons_zero, List.getElem?_cons_succ] at c5
 have ob := h.hb.old
 have HQ := hh h.q
 by_cases hE : nmE seen x.nm = 0
 rotate_left
 ·have HE := hh hE
  have EE : srE seen x = nmE seen x.nm := by simp [srE, hE]
  rw [EE]
  generalize nmE seen x.nm = E at NM HE ⊢
  have hE' : ¬ E = 0 := HE.o
  clear h h0 hE EE
  go_enter Tryz.func62, Tryz.ntmps62
  go_wp2_with (first | (go_at_call 91; (with_reducible refine NM.o.p ?_)) | (go_at_call 92; (with_reducible refine (I1.o _).q ?_); intro k1) | (go_at_call 92; (with_reducible refine (I0.o _).q ?_); intro k0) | (go_at_call 93; (with_reducible refine (WM.o _).p ?_)) | fail)
  go_ret
  refine ⟨rfl, ?_, fun e => absurd e HE.o⟩
  repeat' (first | exact HQ.o | refine Q.alloc ?_ _ | refine Q.jk ?_ _ | refine Q.drew ?_)
 have hn12 := nmB_size (nmE_zero hE)
 rw [hE] at NM
 have EE : srE seen x = if (winB x.em 1 1000000 && (ohmB x.z1 && ohmB x.z0)) = true then 0 else 2 := by simp [srE, hE]
 rw [EE]
 clear EE hE
 generalize ohmB x.z1 = p1 at I1 ⊢
 generalize ohmB x.z0 = p0 at I0 ⊢
 generalize winB x.em 1 1000000 = pm at WM ⊢
 rcases ways3 pm p1 p0 with rfl | ⟨rfl, rfl⟩ | ⟨rfl, rfl, rfl⟩ | ⟨rfl, rfl, rfl⟩
 ·rw [if_neg (by simp)]
  go_enter Tryz.func62, Tryz.ntmps62
  go_wp2_with (first | (go_at_call 91; (with_reducible refine NM.o.p ?_)) | (go_at_call 92; (with_reducible refine (I1.o _).q ?_); intro k1) | (go_at_call 92; (with_reducible refine (I0.o _).q ?_); intro k0) | (go_at_call 93; (with_reducible refine (WM.o _).p ?_)) | fail)
  all_goals
   go_ret
   refine ⟨?_, ?_, fun e => absurd e (by decide)⟩
   ·rfl
   repeat' (first | exact HQ.o | refine Q.alloc ?_ _ | refine Q.jk ?_ _ | refine Q.drew ?_)
 ·rw [if_neg (by simp)]
  go_enter Tryz.func62, Tryz.ntmps62
  go_wp2_with (first | (go_at_call 91; (with_reducible refine NM.o.p ?_)) | (go_at_call 92; (with_reducible refine (I1.o _).q ?_); intro k1) | (go_at_call 92; (with_reducible refine (I0.o _).q ?_); intro k0) | (go_at_call 93; (with_reducible refine (WM.o _).p ?_)) | fail)
  all_goals
   go_ret
   refine ⟨?_, ?_, fun e => absurd e (by decide)⟩
   ·rfl
   repeat' (first | exact HQ.o | refine Q.alloc ?_ _ | refine Q.jk ?_ _ | refine Q.drew ?_)
 ·rw [if_neg (by simp)]
  go_enter Tryz.func62, Tryz.ntmps62
  go_wp2_with (first | (go_at_call 91; (with_reducible refine NM.o.p ?_)) | (go_at_call 92; (with_reducible refine (I1.o _).q ?_); intro k1) | (go_at_call 92; (with_reducible refine (I0.o _).q ?_); intro k0) | (go_at_call 93; (with_reducible refine (WM.o _).p ?_)) | fail)
  all_goals
   go_ret
   refine ⟨?_, ?_, fun e => absurd e (by decide)⟩
   ·rfl
   repeat' (first | exact HQ.o | refine Q.alloc ?_ _ | refine Q.jk ?_ _ | refine Q.drew ?_)
 rw [if_pos (by simp)]
 go_enter Tryz.func62, Tryz.ntmps62
 go_wp2_with (first | (go_at_call 91; (with_reducible refine NM.o.p ?_)) | (go_at_call 92; (with_reducible refine (I1.o _).q ?_); intro k1) | (go_at_call 92; (with_reducible refine (I0.o _).q ?_); intro k0) | (go_at_call 93; (with_reducible refine (WM.o _).p ?_)) | fail)
 refine wp_region_tail 6 (by kernel_rfl) (by kernel_rfl) ?_
 simp only [List.take_succ_cons, List.take_zero, List.drop_succ_cons, List.drop_zero]
 repeat (go_big_quiet_step (fail))
 refine wq0 fun kq => ?_
 have HX := hh (h0.to (show Q (w.alloc (Obj.cells #[.string x.nm, Value.int .i64 x.em, Value.int .i64 x.z1.r, Value.int .i64 x.z1.x, Value.int .i64 x.z0.r, Value.int .i64 x.z0.x] 95)) ((((w.alloc (Obj.cells #[.string x.nm, Value.int .i64 x.em, Value.int .i64 x.z1.r, Value.int .i64 x.z1.x, Value.int .i64 x.z0.r, Value.int .i64 x.z0.x] 95)).jk k1).jk k0).jk kq) by exact Q.i))
 have HY : Hid (HB ((((w.alloc (Obj.cells #[.string x.nm, Value.int .i64 x.em, Value.int .i64 x.z1.r, Value.int .i64 x.z1.x, Value.int .i64 x.z0.r, Value.int .i64 x.z0.x] 95)).jk k1).jk k0).jk kq) w.heap.size #[.string x.nm, Value.int .i64 x.em, Value.int .i64 x.z1.r, Value.int .i64 x.z1.x, Value.int .i64 x.z0.r, Value.int .i64 x.z0.x] 95) := hh ((((HB.new _ _ _ _ rfl).jk _).jk _).jk _)
 go_wp2_with (first | (at_mapUpdate; refine wpList_put rfl _ _ _ rfl m x.nm seen rfl rfl rfl HX.o.sn hn12 hl ?_; intro w1 hs1 hg1) | fail)
 have h1 := HX.o.seen hs1 hg1
 have hy1 := HY.o.grown hg1 (fun e => by
  obtain ⟨D, ⟨es, clock, hh, _⟩, _⟩ := HX.o.sn
  have e' := Option.some.inj e
  have hb : _ = some (Obj.cells _ _) := HY.o
  rw [e'] at hb
  rw [hb] at hh
  cases hh)
 have HB1 := hh (h1.to (Q.drew (Q.refl w1)))
 obtain ⟨xK, hK⟩ := h1.rS
 have HKr := hh hK
 have c1 := h1.hb.cell 3
 simp only [List.getElem?_toArray, List.getElem?_cons_zero, List.getElem?_cons_succ] at c1
 have ob1 := h1.hb.old
 have oy1 := hy1.old
 have y0 := hy1.cell 0
 have y1 := hy1.cell 1
 have y2 := hy1.cell 2
 have y3 := hy1.cell 3
 have y4 := hy1.cell 4
 have y5 := hy1.cell 5
 simp only [List.getElem?_toArray, List.getElem?_cons_zero, List.getElem?_cons_succ] at y0 y1 y2 y3 y4 y5
 have hz := h1.q.below.size
 clear h h0 h1 hs1 hg1 hK hy1 HX HY NM
 go_region_law (go_loud (refine step_appS rfl _ _ rfl W0.heap.size vS ns xK (by rfl) (ownsRow_q HKr.o Q.i) _ (by rfl) [.string x.nm, Value.int .i64 x.em, Value.int .i64 x.z1.r, Value.int .i64 x.z1.x, Value.int .i64 x.z0.r, Value.int .i64 x.z0.x] rfl (cells_of (HB.new _ _ _ _ (by simp))) (by intro u hu; simp only [List.mem_cons, List.mem_nil_iff, or_false] at hu; rcases hu with rfl | rfl | rfl | rfl | rfl | rfl <;> rfl) hn (by simp; omega) ?_); intro v' w2 hown hg2; obtain ⟨gv, cv, rfl⟩ := own_slice hown (by omega); have hb2 := HB1.o.boxS hg2; have f1 := hb2.soft 3; have c2 := hb2.cell 3; simp only [List.getElem?_toArray, List.getElem?_cons_zero, List.getElem?_cons_succ] at c2; have ob2 := hb2.old; have HF := hh (HB1.o.putS hg2 hown); clear hb2 hown hg2)
 all_goals
  go_wp2_with fail
  go_ret
  exact ⟨rfl, HF.o.q, fun _ => ⟨_, HF.o⟩⟩
end Go.Proofs.YtcjflafjmdfanaaGreatDoor
namespace Go.Sub
open Go
structure Lk where
 bus : Int
 pos : Int
def lkC (l : Lk) : List Value := [.int .i64 l.bus, .int .i64 l.pos]
def fstE (f : Nat → Int) : Nat → Int
 | 0 => 0
 | n + 1 => if fstE f n = 0 then f n else fstE f n
theorem fstE_none {f : Nat → Int} : ∀ {n : Nat}, (∀ j, j < n → f j = 0) → fstE f n = 0
 | 0, _ => rfl
 | n + 1, h => by rw [fstE, if_pos (fstE_none fun j hj => h j (by omega)), h n (by omega)]
theorem fstE_hit {f : Nat → Int} {k : Nat} (h : ∀ j, j < k → f j = 0) (hk : ¬ f k = 0) : ∀ {n : Nat}, k < n → fstE f n = f k
 | 0, hn => absurd hn (Nat.not_lt_zero _)
 | n + 1, hn => by
  rw [fstE]
  by_cases e : k = n
  ·subst e
   rw [if_pos (fstE_none h)]
  ·rw [fstE_hit h hk (n := n) (by omega), if_neg hk]
def posB (kd pos : Int) : Bool := decide (pos = 1) || (decide (pos = 0) && !decide (kd = 3))
def lkA (nb : Nat) (kd : Int) (lk : List Lk) (k : Nat) : Int :=
 match lk[k]? with
 | none => 0
 | some l => if winB l.bus 0 ((nb : Int) - 1) = true then (if posB kd l.pos = true then (if 0 < k ∧ (lk[k - 1]?).map Lk.bus = some l.bus then 12 else 0) else 16) else 9
def lkE (nb : Nat) (kd : Int) (lk : List Lk) : Int := if lk.length < 1 ∨ 2 < lk.length ∨ (kd = 3 ∧ lk.length ≠ 2) then 3 else fstE (lkA nb kd lk) lk.length
theorem lkC_get (l : List Lk) (k j : Nat) (c : Lk) (h : l[k]? = some c) (hj : j < 2) : (l.flatMap lkC)[k * 2 + j]? = (lkC c)[j]? := by
 induction l generalizing k with
 | nil => simp at h
 | cons d l ih =>
  rw [List.flatMap_cons]
  cases k with
  | zero =>
   simp only [List.getElem?_cons_zero, Option.some.injEq] at h
   subst h
   rw [List.getElem?_append_left (by simp only [lkC, List.length_cons, List.length_nil]; omega), Nat.zero_mul, Nat.zero_add]
  | succ k =>
   simp only [List.getElem?_cons_succ] at h
   rw [List.getElem?_append_right (by simp only [lkC, List.length_cons, List.length_nil]; omega)]
   have e : (k + 1) * 2 + j - (lkC d).length = k * 2 + j := by
    simp only [lkC, List.length_cons, List.length_nil]
    omega
   rw [e]
   exact ih k h
end Go.Sub
namespace Go.Proofs.YtcjflafjmdfanaaGreatDoor
open Go.RowKit Go.Sub
attribute [local go_sem ↓] Go.wp_at_zero Go.wp_at_succ
def LkAt (w : World) (y : Byr) (lk : List Lk) : Prop := RdV w y.la y.ln y.lc 2 (lk.flatMap lkC) ∧ lk.length = y.ln
theorem LkAt.q {w w' : World} {y : Byr} {lk : List Lk} (h : LkAt w y lk) (hq : Q w w') : LkAt w' y lk := ⟨h.1.q hq, h.2⟩
theorem LkAt.at_ {w : World} {y : Byr} {lk : List Lk} (h : LkAt w y lk) (hn : 0 < y.ln) : ∃ g o, y.la = some ⟨g, o, none⟩ ∧ Old g w ∧ Hid (∀ k l, lk[k]? = some l → w.cell? ⟨g, o + k * 2, none⟩ = some (.int .i64 l.bus) ∧ w.cell? ⟨g, o + k * 2 + 1, none⟩ = some (.int .i64 l.pos)) := by
 obtain ⟨g, o, e, ho, hc⟩ := h.1.at_ hn
 refine ⟨g, o, e, ho, hh fun k l hk => ⟨?_, ?_⟩⟩
 ·exact hc.o _ _ (by have := lkC_get lk k 0 l hk (by decide); rwa [Nat.add_zero] at this)
 rw [Nat.add_assoc]; exact hc.o _ _ (lkC_get lk k 1 l hk (by decide))
theorem links_c (W0 w : World) (b m : Nat) (vB vL vS vY : Value) (seen : List ByteArray) (nb nl ns : Nat) (ys : List Byr) (y : Byr) (lk : List Lk) (h : Bld W0 w b m vB vL vS vY seen nb nl ns ys) (hk : LkAt w y lk) (hn : nb < 1000) (hl : lk.length ≤ 9223372036854775807) :
  Calls Tryz.prog 95 #[.pointer (some ⟨b, 0, none⟩), Value.agg #[Value.string y.nm, Value.int .i64 y.kd, Value.int .i64 y.of, Value.int .i64 y.en, Value.int .i64 y.zr, Value.int .i64 y.zx, Value.slice y.la y.ln y.lc, Value.bool y.cl, Value.int .i64 y.ct, Value.int .i64 y.vt, Value.int .i64 y.sa, Value.int .i64 y.tr]] w fun e w' => e = .returned (.int .i64 (lkE nb y.kd lk)) ∧ Q w w' := by
 obtain ⟨nm, kd, of, en, zr, zx, la, ln, lc, cl, ct, vt, sa, tr⟩ := y
 have hln := hk.2
 dsimp only at hln ⊢
 obtain ⟨xB, hB⟩ := h.rB
 have c1 := h.hb.cell 1
 simp only [List.getElem?_toArray, List.getElem?_cons_zero, List.getElem?_cons_succ] at c1
 have ob := h.hb.old
 have n0 : (0 : Int) ≤ (ln : Int) := by omega
 have n9 : (ln : Int) ≤ 9223372036854775807 := by omega
 by_cases hbad : lk.length < 1 ∨ 2 < lk.length ∨ (kd = 3 ∧ lk.length ≠ 2)
 ·have EE : lkE nb kd lk = 3 := by unfold lkE; rw [if_pos hbad]
  rw [EE]
  clear EE
  have hways : ln = 0 ∨ 2 < ln ∨ (kd = 3 ∧ ln = 1) := by omega
  rcases hways with rfl | h2 | ⟨rfl, rfl⟩
  ·clear h hk hB
   go_enter Tryz.func95, Tryz.ntmps95
   go_wp2_with fail
   go_ret
   refine ⟨rfl, ?_⟩
   exact Q.i
  ·have h2' : (2 : Int) < (ln : Int) := by omega
   have h1' : ¬ (ln : Int) < 1 := by omega
   clear h hk hB
   go_enter Tryz.func95, Tryz.ntmps95
   go_wp2_with fail
   go_ret
   refine ⟨rfl, ?_⟩
   exact Q.i
  clear h hk hB
  go_enter Tryz.func95, Tryz.ntmps95
  go_wp2_with fail
  go_ret
  refine ⟨rfl, ?_⟩
  exact Q.i
 have EE : lkE nb kd lk = fstE (lkA nb kd lk) ln := by unfold lkE; rw [if_neg hbad, hln]
 rw [EE]
 clear EE
 obtain ⟨A1, C1, rfl⟩ := own_slice' hB
 have hh1 : ¬ (ln : Int) < 1 := by omega
 have hh2 : ¬ (2 : Int) < (ln : Int) := by omega
 obtain ⟨g, o, e, og, hc⟩ := hk.at_ (by dsimp only; omega)
 dsimp only at e
 subst e
 have nb0 : (0 : Int) ≤ (nb : Int) := by omega
 have nb1 : (nb : Int) ≤ 1000 := by omega
 by_cases k3 : kd = 3
 ·have l2 : ln = 2 := by omega
  subst k3
  subst l2
  clear h hk hB hbad
  go_enter Tryz.func95, Tryz.ntmps95
  go_wp2_with fail
  go_loopw [29] (fun i wr => ∃ k : Nat, i = .int .i64 k ∧ k ≤ 2 ∧ Hid (∀ j, j < k → lkA nb 3 lk j = 0) ∧ Q (w.alloc (Obj.cells #[Value.string nm, Value.int .i64 3, Value.int .i64 of, Value.int .i64 en, Value.int .i64 zr, Value.int .i64 zx, Value.slice (some ⟨g, o, none⟩) 2 lc, Value.bool cl, Value.int .i64 ct, Value.int .i64 vt, Value.int .i64 sa, Value.int .i64 tr] 91)) wr) (fun i _ => 2 - (intOf i).toNat)
  case atStart => exact ⟨0, rfl, Nat.zero_le _, hh (fun j hj => absurd hj (Nat.not_lt_zero _)), Q.refl _⟩
  case round =>
   obtain ⟨k, rfl, hkn, HG, kk, rfl⟩ := hrel
   by_cases hlt : k < 2
   rotate_left
   ·have EN : Hid (fstE (lkA nb 3 lk) 2 = 0) := hh (fstE_none (fun j hj => HG.o j (by omega)))
    obtain rfl : 2 = k := by omega
    go_wp2_with fail
    go_ret
    refine ⟨by rw [EN.o]; rfl, ?_⟩
    exact Q.i
   obtain ⟨l, hl'⟩ : ∃ l, lk[k]? = some l := ⟨_, List.getElem?_eq_getElem (by omega)⟩
   have NW := hh fun w => stwithin_c l.bus 0 ((nb : Int) - 1) w
   have a12 := hc.o k l hl'
   obtain ⟨a1, a2⟩ := a12
   have AE : Hid (lkA nb 3 lk k = if winB l.bus 0 ((nb : Int) - 1) = true then (if posB 3 l.pos = true then (if 0 < k ∧ (lk[k - 1]?).map Lk.bus = some l.bus then 12 else 0) else 16) else 9) := hh (by unfold lkA; rw [hl'])
   generalize winB l.bus 0 ((nb : Int) - 1) = p at NW AE
   obtain ⟨bus, pos⟩ := l
   dsimp only at NW AE a1 a2
   have kk0 : (0 : Int) ≤ (k : Int) := by omega
   have kk1 : (k : Int) < (2 : Int) := by omega
   cases p with
   | false =>
    have AE' : Hid (lkA nb 3 lk k = 9) := hh (by rw [AE.o]; rfl)
    clear hl'
    go_wp2_with fail
    refine wrj (by kernel_rfl) ?_
    repeat (go_big_quiet_step ((go_at_call 93; exact Calls.jk_of_same (NW.o _))))
    refine wq0 fun kq => ?_
    go_wp2_with fail
    go_ret
    refine ⟨?_, ?_⟩
    ·rw [fstE_hit (k := k) HG.o (by rw [AE'.o]; decide) (by omega), AE'.o]
     rfl
    exact Q.i
   | true =>
    rw [if_pos rfl] at AE
    cases hpos : posB 3 pos with
    | false =>
     have AE' : Hid (lkA nb 3 lk k = 16) := hh (by rw [AE.o, if_neg (by rw [hpos]; decide)])
     have hp : pos ≠ 1 ∧ (pos ≠ 0 ∨ 3 = 3) := by simp [posB] at hpos; exact ⟨hpos, .inr rfl⟩
     obtain ⟨hp1, hp2⟩ := hp
     have hp1' : (pos == 1) = false := by simpa using hp1
     clear hl' AE hpos hp2
     go_wp2_with fail
     refine wrj (by kernel_rfl) ?_
     repeat (go_big_quiet_step ((go_at_call 93; exact Calls.jk_of_same (NW.o _))))
     refine wq0 fun kq => ?_
     go_wp2_with fail
     all_goals
      go_ret
      refine ⟨?_, ?_⟩
      ·rw [fstE_hit (k := k) HG.o (by rw [AE'.o]; decide) (by omega), AE'.o]
       rfl
      exact Q.i
    | true =>
     rw [if_pos hpos] at AE
     have hp : pos = 1 ∨ (pos = 0 ∧ 3 ≠ 3) := by
      unfold posB at hpos
      simp only [Bool.or_eq_true, Bool.and_eq_true, decide_eq_true_eq, Bool.not_eq_true', decide_eq_false_iff_not] at hpos
      rcases hpos with h | h
      ·exact .inl h
      exact absurd trivial h.2
     clear hpos
     have hk01 : k = 0 ∨ k = 1 := by omega
     rcases hk01 with rfl | rfl
     ·have AE' : Hid (lkA nb 3 lk 0 = 0) := hh (by rw [AE.o]; rfl)
      clear AE hl'
      rw [Nat.zero_mul, Nat.add_zero] at a1 a2
      rcases hp with rfl | ⟨rfl, h3⟩
      ·go_wp2_with fail
       refine wrj (by kernel_rfl) ?_
       repeat (go_big_quiet_step ((go_at_call 93; exact Calls.jk_of_same (NW.o _))))
       refine wq0 fun kq => ?_
       go_wp2_with fail
       refine wrj (by kernel_rfl) ?_
       repeat (go_big_quiet_step (fail))
       refine wq0 fun kr => ?_
       go_wp2_with fail
       go_roundw
       case rel =>
        refine ⟨0 + 1, by go_num, by omega, hh (fun j hj => ?_), ?_⟩
        ·by_cases e : j = 0
         ·subst e; exact AE'.o
         exact HG.o j (by omega)
        exact Q.i
       case measure => simp [intOf] <;> omega
      exact absurd rfl h3
     obtain ⟨l0, hl0⟩ : ∃ l, lk[0]? = some l := ⟨_, List.getElem?_eq_getElem (by omega)⟩
     obtain ⟨z1, z2⟩ := hc.o 0 l0 hl0
     obtain ⟨bus0, pos0⟩ := l0
     dsimp only at z1 z2
     rw [Nat.zero_mul, Nat.add_zero] at z1 z2
     rw [Nat.one_mul] at a1 a2
     have AX : Hid (lkA nb 3 lk 1 = if bus0 = bus then 12 else 0) := hh (by rw [AE.o]; simp [hl0])
     clear AE hl' hl0
     by_cases hbb : bus0 = bus
     ·have AE' : Hid (lkA nb 3 lk 1 = 12) := hh (by rw [AX.o, if_pos hbb])
      subst hbb
      clear AX
      rcases hp with rfl | ⟨rfl, h3⟩
      ·go_wp2_with fail
       refine wrj (by kernel_rfl) ?_
       repeat (go_big_quiet_step ((go_at_call 93; exact Calls.jk_of_same (NW.o _))))
       refine wq0 fun kq => ?_
       go_wp2_with fail
       refine wrj (by kernel_rfl) ?_
       repeat (go_big_quiet_step (fail))
       refine wq0 fun kr => ?_
       go_wp2_with fail
       go_ret
       refine ⟨?_, ?_⟩
       ·rw [fstE_hit (k := 1) HG.o (by rw [AE'.o]; decide) (by omega), AE'.o]
        rfl
       exact Q.i
      exact absurd rfl h3
     have AE' : Hid (lkA nb 3 lk 1 = 0) := hh (by rw [AX.o, if_neg hbb])
     have hbb' : (bus0 == bus) = false := by simpa using hbb
     clear AX
     rcases hp with rfl | ⟨rfl, h3⟩
     ·go_wp2_with fail
      refine wrj (by kernel_rfl) ?_
      repeat (go_big_quiet_step ((go_at_call 93; exact Calls.jk_of_same (NW.o _))))
      refine wq0 fun kq => ?_
      go_wp2_with fail
      refine wrj (by kernel_rfl) ?_
      repeat (go_big_quiet_step (fail))
      refine wq0 fun kr => ?_
      go_wp2_with fail
      go_roundw
      case rel =>
       refine ⟨1 + 1, by go_num, by omega, hh (fun j hj => ?_), ?_⟩
       ·by_cases e : j = 1
        ·subst e; exact AE'.o
        exact HG.o j (by omega)
       exact Q.i
      case measure => simp [intOf] <;> omega
     exact absurd rfl h3
 have k3' : (kd == 3) = false := by simpa using k3
 clear h hk hB
 go_enter Tryz.func95, Tryz.ntmps95
 go_wp2_with fail
 go_loopw [29] (fun i wr => ∃ k : Nat, i = .int .i64 k ∧ k ≤ ln ∧ Hid (∀ j, j < k → lkA nb kd lk j = 0) ∧ Q (w.alloc (Obj.cells #[Value.string nm, Value.int .i64 kd, Value.int .i64 of, Value.int .i64 en, Value.int .i64 zr, Value.int .i64 zx, Value.slice (some ⟨g, o, none⟩) ln lc, Value.bool cl, Value.int .i64 ct, Value.int .i64 vt, Value.int .i64 sa, Value.int .i64 tr] 91)) wr) (fun i _ => ln - (intOf i).toNat)
 case atStart => exact ⟨0, rfl, Nat.zero_le _, hh (fun j hj => absurd hj (Nat.not_lt_zero _)), Q.refl _⟩
 case round =>
  obtain ⟨k, rfl, hkn, HG, kk, rfl⟩ := hrel
  by_cases hlt : k < ln
  rotate_left
  ·have EN : Hid (fstE (lkA nb kd lk) ln = 0) := hh (fstE_none (fun j hj => HG.o j (by omega)))
   obtain rfl : ln = k := by omega
   go_wp2_with fail
   go_ret
   refine ⟨by rw [EN.o]; rfl, ?_⟩
   exact Q.i
  obtain ⟨l, hl'⟩ : ∃ l, lk[k]? = some l := ⟨_, List.getElem?_eq_getElem (by omega)⟩
  have NW := hh fun w => stwithin_c l.bus 0 ((nb : Int) - 1) w
  have a12 := hc.o k l hl'
  obtain ⟨a1, a2⟩ := a12
  have AE : Hid (lkA nb kd lk k = if winB l.bus 0 ((nb : Int) - 1) = true then (if posB kd l.pos = true then (if 0 < k ∧ (lk[k - 1]?).map Lk.bus = some l.bus then 12 else 0) else 16) else 9) := hh (by unfold lkA; rw [hl'])
  generalize winB l.bus 0 ((nb : Int) - 1) = p at NW AE
  obtain ⟨bus, pos⟩ := l
  dsimp only at NW AE a1 a2
  have kk0 : (0 : Int) ≤ (k : Int) := by omega
  have kk1 : (k : Int) < (ln : Int) := by omega
  cases p with
  | false =>
   have AE' : Hid (lkA nb kd lk k = 9) := hh (by rw [AE.o]; rfl)
   clear hl'
   go_wp2_with fail
   refine wrj (by kernel_rfl) ?_
   repeat (go_big_quiet_step ((go_at_call 93; exact Calls.jk_of_same (NW.o _))))
   refine wq0 fun kq => ?_
   go_wp2_with fail
   go_ret
   refine ⟨?_, ?_⟩
   ·rw [fstE_hit (k := k) HG.o (by rw [AE'.o]; decide) (by omega), AE'.o]
    rfl
   exact Q.i
  | true =>
   rw [if_pos rfl] at AE
   cases hpos : posB kd pos with
   | false =>
    have AE' : Hid (lkA nb kd lk k = 16) := hh (by rw [AE.o, if_neg (by rw [hpos]; decide)])
    have hp : pos ≠ 1 ∧ (pos ≠ 0 ∨ kd = 3) := by simp [posB] at hpos; exact ⟨hpos.1, .inl (fun e => k3 (hpos.2 e))⟩
    obtain ⟨hp1, hp2⟩ := hp
    have hp1' : (pos == 1) = false := by simpa using hp1
    have hp0 : pos ≠ 0 := hp2.resolve_right k3
    have hp0' : (pos == 0) = false := by simpa using hp0
    clear hl' AE hpos hp2
    go_wp2_with fail
    refine wrj (by kernel_rfl) ?_
    repeat (go_big_quiet_step ((go_at_call 93; exact Calls.jk_of_same (NW.o _))))
    refine wq0 fun kq => ?_
    go_wp2_with fail
    all_goals
     go_ret
     refine ⟨?_, ?_⟩
     ·rw [fstE_hit (k := k) HG.o (by rw [AE'.o]; decide) (by omega), AE'.o]
      rfl
     exact Q.i
   | true =>
    rw [if_pos hpos] at AE
    have hp : pos = 1 ∨ (pos = 0 ∧ kd ≠ 3) := by
     unfold posB at hpos
     simp only [Bool.or_eq_true, Bool.and_eq_true, decide_eq_true_eq, Bool.not_eq_true', decide_eq_false_iff_not] at hpos
     rcases hpos with h | h
     ·exact .inl h
     exact .inr h
    clear hpos
    have hk01 : k = 0 ∨ k = 1 := by omega
    rcases hk01 with rfl | rfl
    ·have AE' : Hid (lkA nb kd lk 0 = 0) := hh (by rw [AE.o]; rfl)
     clear AE hl'
     rw [Nat.zero_mul, Nat.add_zero] at a1 a2
     rcases hp with rfl | ⟨rfl, h3⟩
     ·go_wp2_with fail
      refine wrj (by kernel_rfl) ?_
      repeat (go_big_quiet_step ((go_at_call 93; exact Calls.jk_of_same (NW.o _))))
      refine wq0 fun kq => ?_
      go_wp2_with fail
      refine wrj (by kernel_rfl) ?_
      repeat (go_big_quiet_step (fail))
      refine wq0 fun kr => ?_
      go_wp2_with fail
      go_roundw
      case rel =>
       refine ⟨0 + 1, by go_num, by omega, hh (fun j hj => ?_), ?_⟩
       ·by_cases e : j = 0
        ·subst e; exact AE'.o
        exact HG.o j (by omega)
       exact Q.i
      case measure => simp [intOf] <;> omega
     go_wp2_with fail
     refine wrj (by kernel_rfl) ?_
     repeat (go_big_quiet_step ((go_at_call 93; exact Calls.jk_of_same (NW.o _))))
     refine wq0 fun kq => ?_
     go_wp2_with fail
     refine wrj (by kernel_rfl) ?_
     repeat (go_big_quiet_step (fail))
     refine wq0 fun kr => ?_
     go_wp2_with fail
     go_roundw
     case rel =>
      refine ⟨0 + 1, by go_num, by omega, hh (fun j hj => ?_), ?_⟩
      ·by_cases e : j = 0
       ·subst e; exact AE'.o
       exact HG.o j (by omega)
      exact Q.i
     case measure => simp [intOf] <;> omega
    obtain ⟨l0, hl0⟩ : ∃ l, lk[0]? = some l := ⟨_, List.getElem?_eq_getElem (by omega)⟩
    obtain ⟨z1, z2⟩ := hc.o 0 l0 hl0
    obtain ⟨bus0, pos0⟩ := l0
    dsimp only at z1 z2
    rw [Nat.zero_mul, Nat.add_zero] at z1 z2
    rw [Nat.one_mul] at a1 a2
    have AX : Hid (lkA nb kd lk 1 = if bus0 = bus then 12 else 0) := hh (by rw [AE.o]; simp [hl0])
    clear AE hl' hl0
    by_cases hbb : bus0 = bus
    ·have AE' : Hid (lkA nb kd lk 1 = 12) := hh (by rw [AX.o, if_pos hbb])
     subst hbb
     clear AX
     rcases hp with rfl | ⟨rfl, h3⟩
     ·go_wp2_with fail
      refine wrj (by kernel_rfl) ?_
      repeat (go_big_quiet_step ((go_at_call 93; exact Calls.jk_of_same (NW.o _))))
      refine wq0 fun kq => ?_
      go_wp2_with fail
      refine wrj (by kernel_rfl) ?_
      repeat (go_big_quiet_step (fail))
      refine wq0 fun kr => ?_
      go_wp2_with fail
      go_ret
      refine ⟨?_, ?_⟩
      ·rw [fstE_hit (k := 1) HG.o (by rw [AE'.o]; decide) (by omega), AE'.o]
       rfl
      exact Q.i
     go_wp2_with fail
     refine wrj (by kernel_rfl) ?_
     repeat (go_big_quiet_step ((go_at_call 93; exact Calls.jk_of_same (NW.o _))))
     refine wq0 fun kq => ?_
     go_wp2_with fail
     refine wrj (by kernel_rfl) ?_
     repeat (go_big_quiet_step (fail))
     refine wq0 fun kr => ?_
     go_wp2_with fail
     go_ret
     refine ⟨?_, ?_⟩
     ·rw [fstE_hit (k := 1) HG.o (by rw [AE'.o]; decide) (by omega), AE'.o]
      rfl
     exact Q.i
    have AE' : Hid (lkA nb kd lk 1 = 0) := hh (by rw [AX.o, if_neg hbb])
    have hbb' : (bus0 == bus) = false := by simpa using hbb
    clear AX
    rcases hp with rfl | ⟨rfl, h3⟩
    ·go_wp2_with fail
     refine wrj (by kernel_rfl) ?_
     repeat (go_big_quiet_step ((go_at_call 93; exact Calls.jk_of_same (NW.o _))))
     refine wq0 fun kq => ?_
     go_wp2_with fail
     refine wrj (by kernel_rfl) ?_
     repeat (go_big_quiet_step (fail))
     refine wq0 fun kr => ?_
     go_wp2_with fail
     go_roundw
     case rel =>
      refine ⟨1 + 1, by go_num, by omega, hh (fun j hj => ?_), ?_⟩
      ·by_cases e : j = 1
       ·subst e; exact AE'.o
       exact HG.o j (by omega)
      exact Q.i
     case measure => simp [intOf] <;> omega
    go_wp2_with fail
    refine wrj (by kernel_rfl) ?_
    repeat (go_big_quiet_step ((go_at_call 93; exact Calls.jk_of_same (NW.o _))))
    refine wq0 fun kq => ?_
    go_wp2_with fail
    refine wrj (by kernel_rfl) ?_
    repeat (go_big_quiet_step (fail))
    refine wq0 fun kr => ?_
    go_wp2_with fail
    go_roundw
    case rel =>
     refine ⟨1 + 1, by go_num, by omega, hh (fun j hj => ?_), ?_⟩
     ·by_cases e : j = 1
      ·subst e; exact AE'.o
      exact HG.o j (by omega)
     exact Q.i
    case measure => simp [intOf] <;> omega
end Go.Proofs.YtcjflafjmdfanaaGreatDoor

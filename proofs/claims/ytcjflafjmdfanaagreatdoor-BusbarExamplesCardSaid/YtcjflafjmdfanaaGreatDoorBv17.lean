
/- What Resolve returns: closed in place of moving. -/
import Derived.Test.YtcjflafjmdfanaaGreatDoorBv16
import Derived.Test.YtcjflafjmdfanaaGreatDoorBv03
import Derived.Deep.Onto
import Derived.Lib.SliceRun
import Derived.Laws.OwnMore
set_option maxHeartbeats 64000000
set_option maxRecDepth 100000
set_option linter.unusedSimpArgs false
set_option linter.unusedVariables false
/- What boundary of a view returns for a group of buses. -/
namespace Go.Sub
open Go
def bdB (q : Int) (z : Int × Int × Int × Int) : Bool := decide (z.1 = 1) && (decide (z.2.1 = q) != (decide (z.2.2.1 = 1) && decide (z.2.2.2 = q)))
def bdN (s : Sta) (p : Pos) (gl : List Int) (q : Int) (n : Nat) : List Nat := (List.range n).filter fun k => bdB q (sdZ s p gl k)
def bdI (s : Sta) (p : Pos) (gl : List Int) (q : Int) (n : Nat) : List Int := (bdN s p gl q n).map Int.ofNat
theorem bdI_len (s : Sta) (p : Pos) (gl : List Int) (q : Int) (n : Nat) : (bdI s p gl q n).length ≤ n := by
 unfold bdI bdN
 rw [List.length_map]
 exact Nat.le_trans (List.length_filter_le _ _) (by rw [List.length_range]; exact Nat.le_refl _)
theorem bdI_succ (s : Sta) (p : Pos) (gl : List Int) (q : Int) (n : Nat) : bdI s p gl q (n + 1) = if bdB q (sdZ s p gl n) = true then bdI s p gl q n ++ [(n : Int)] else bdI s p gl q n := by
 unfold bdI bdN
 rw [List.range_succ, List.filter_append, List.map_append]
 cases h : bdB q (sdZ s p gl n) <;> simp [h]
end Go.Sub
namespace Go.Proofs.YtcjflafjmdfanaaGreatDoor
open Go.RowKit Go.Sub
attribute [local go_sem ↓] Go.wp_at_zero Go.wp_at_succ
theorem RowI.low {W0 W1 w : World} {v : Value} {l : List Int} (h : RowI W1 w v l) (hq : Q W0 W1) : RowI W0 w v l := World.ownsRow.mono h hq.below.size
def RetI (l : List Int) (w : World) (e : Ending) (w' : World) : Prop := ∃ v, e = .returned v ∧ Q w w' ∧ RowI w w' v l
theorem vbound_c (s : Sta) (p : Pos) (G : Option Addr) (nG cG : Nat) (gl : List Int) (of : Int) (w : World) (hs : StAt w s) (hp : PosAt w p) (hg : RdN w G nG cG .i64 gl) (hn : nG = s.buses.length) (hof : 0 ≤ of ∧ of < (nG : Int)) (hY : s.bays.length ≤ 16) (hok : ∀ k y, s.bays[k]? = some y → BayOK s p k y) :
  Calls Tryz.prog 75 #[.agg #[Value.string s.nm, Value.slice s.aB s.buses.length s.cB, Value.slice s.aL s.lines.length s.cL, Value.slice s.aS s.srcs.length s.cS, Value.slice s.aY s.bays.length s.cY, Value.slice p.aC p.closed.length p.cC, Value.slice p.aK p.rows.length p.cK, Value.slice G nG cG], .agg #[.int .i64 1, .int .i64 of]] w (RetI (bdI s p gl (gl.getD of.toNat 0) s.bays.length) w) := by
 have ND := hh fun (w' : World) (hq : Q w w') => vnode_c s p G nG cG gl 1 of w' (hg.q hq) hn hs.lB hs.lL
 have EZ : ndZ s gl 1 of = (1, gl.getD of.toNat 0, true) := by unfold ndZ; rw [if_pos ⟨rfl, hof.1, by rw [← hn]; exact hof.2⟩]
 rw [EZ] at ND
 dsimp only at ND
 have SDF := hh fun (k : Nat) (y : Byr) (hy : s.bays[k]? = some y) (w' : World) (hq : Q w w') => vsides_c s p G nG cG gl k y w' (hs.q hq) (hp.q hq) (hg.q hq) hn hy (hok k y hy)
 have hlY := hs.lY
 obtain ⟨nY, eY⟩ : ∃ n, s.bays.length = n := ⟨_, rfl⟩
 rw [eY] at ND SDF hlY hY ⊢
 generalize gl.getD of.toNat 0 = q at ND ⊢
 have EY := hh eY
 have y0 : (0 : Int) ≤ (nY : Int) := by omega
 have y1 : (nY : Int) ≤ 16 := by omega
 clear hs hp hg hn hof hok eY EZ hlY
 go_enter Tryz.func75, Tryz.ntmps75
 go_wp2_with (first | (go_at_call 109; (with_reducible refine (ND.o _ Q.i).q ?_); intro kn) | fail)
 go_loopw [7, 22] (fun s7 s22 wr => ∃ k : Nat, s22 = .int .i64 k ∧ k ≤ nY ∧ Q ((((w.alloc (Obj.cells #[Value.string s.nm, Value.slice s.aB s.buses.length s.cB, Value.slice s.aL s.lines.length s.cL, Value.slice s.aS s.srcs.length s.cS, Value.slice s.aY nY s.cY, Value.slice p.aC p.closed.length p.cC, Value.slice p.aK p.rows.length p.cK, Value.slice G nG cG] 150)).alloc (Obj.cells #[Value.int .i64 1, Value.int .i64 of] 109)).jk kn).alloc (Obj.cells #[Value.int .i64 1, Value.int .i64 q] 106)) wr ∧ Hid (RowI ((((w.alloc (Obj.cells #[Value.string s.nm, Value.slice s.aB s.buses.length s.cB, Value.slice s.aL s.lines.length s.cL, Value.slice s.aS s.srcs.length s.cS, Value.slice s.aY nY s.cY, Value.slice p.aC p.closed.length p.cC, Value.slice p.aK p.rows.length p.cK, Value.slice G nG cG] 150)).alloc (Obj.cells #[Value.int .i64 1, Value.int .i64 of] 109)).jk kn).alloc (Obj.cells #[Value.int .i64 1, Value.int .i64 q] 106)) wr s7 (bdI s p gl q k))) (fun _ i _ => nY - (intOf i).toNat)
 case atStart =>
  exact ⟨0, rfl, Nat.zero_le _, Q.refl _, hh (RowI.nil _ _)⟩
 case round =>
  obtain ⟨k, rfl, hk, ⟨kk, rfl⟩, HRI⟩ := hrel
  by_cases hlt : k < nY
  rotate_left
  ·obtain rfl : nY = k := by omega
   go_wp2_with fail
   have HR := HRI.o.low (W0 := w) Q.i
   go_ret
   refine ⟨_, rfl, Q.i, ?_⟩
   exact HR
  obtain ⟨v7, rfl⟩ : ∃ v7, v7 = u7 := ⟨_, rfl⟩
  obtain ⟨y, hy⟩ : ∃ y, s.bays[k]? = some y := ⟨_, List.getElem?_eq_getElem (by rw [EY.o]; exact hlt)⟩
  have SD := hh (SDF.o k y hy)
  have ES0 := hh (bdI_succ s p gl q k)
  obtain ⟨⟨za, zb, zc, zd⟩, ez⟩ : ∃ z, sdZ s p gl k = z := ⟨_, rfl⟩
  rw [ez] at SD ES0
  dsimp only at SD
  have k0 : (0 : Int) ≤ (k : Int) := by omega
  have k1 : (k : Int) < (nY : Int) := by omega
  clear hy ez
  have hw : ¬ za = 1 ∨ (za = 1 ∧ zb = q ∧ ¬ zc = 1) ∨ (za = 1 ∧ zb = q ∧ zc = 1 ∧ ¬ zd = q) ∨ (za = 1 ∧ zb = q ∧ zc = 1 ∧ zd = q) ∨ (za = 1 ∧ ¬ zb = q ∧ ¬ zc = 1) ∨ (za = 1 ∧ ¬ zb = q ∧ zc = 1 ∧ ¬ zd = q) ∨ (za = 1 ∧ ¬ zb = q ∧ zc = 1 ∧ zd = q) := by omega
  rcases hw with h1 | ⟨h1, h2, h3⟩ | ⟨h1, h2, h3, h4⟩ | ⟨h1, h2, h3, h4⟩ | ⟨h1, h2, h3⟩ | ⟨h1, h2, h3, h4⟩ | ⟨h1, h2, h3, h4⟩
  ·have ES : Hid (bdI s p gl q (k + 1) = bdI s p gl q k) := hh (by rw [ES0.o, if_neg (by simp [bdB, h1])])
   have b0 : (za == 1) = false := by simpa using h1
   clear h1
   go_wp2_with (first | (go_at_call 74; (with_reducible refine (SD.o _ Q.i).q ?_); intro ks) | fail)
   refine wrj (by kernel_rfl) ?_
   repeat (go_big_quiet_step (fail))
   refine wq0 fun kq => ?_
   go_wp2_with fail
   go_roundw
   case rel => exact ⟨k + 1, by go_num, by omega, Q.i, hh (by rw [ES.o]; exact HRI.o.q Q.i)⟩
   case measure => simp [intOf] <;> omega
  ·have ES : Hid (bdI s p gl q (k + 1) = bdI s p gl q k ++ [(k : Int)]) := hh (by rw [ES0.o, if_pos (by simp [bdB, h1, h2, h3])])
   have b0 : (za == 1) = true := by simpa using h1
   have b1 : (zb == q) = true := by simpa using h2
   have b2 : (zc == 1) = false := by simpa using h3
   clear h1 h2 h3
   go_wp2_with (first | (go_at_call 74; (with_reducible refine (SD.o _ Q.i).q ?_); intro ks) | fail)
   refine wrj (by kernel_rfl) ?_
   repeat (go_big_quiet_step (fail))
   refine wq0 fun kq => ?_
   go_wp2_with (first | (at_builtin; refine wpList_app_int rfl _ _ rfl ((((w.alloc (Obj.cells #[Value.string s.nm, Value.slice s.aB s.buses.length s.cB, Value.slice s.aL s.lines.length s.cL, Value.slice s.aS s.srcs.length s.cS, Value.slice s.aY nY s.cY, Value.slice p.aC p.closed.length p.cC, Value.slice p.aK p.rows.length p.cK, Value.slice G nG cG] 150)).alloc (Obj.cells #[Value.int .i64 1, Value.int .i64 of] 109)).jk kn).alloc (Obj.cells #[Value.int .i64 1, Value.int .i64 q] 106)) v7 (bdI s p gl q k) (k : Int) _ rfl rfl (HRI.o.q Q.i) (by simp [go_sem, World.size_jk]) (by have := bdI_len s p gl q k; omega) Q.i ?_; intro v7' kx' hri hgr) | fail)
   go_roundw
   case rel => exact ⟨k + 1, by go_num, by omega, ⟨kx', rfl⟩, hh (by rw [ES.o]; exact hri)⟩
   case measure => simp [intOf] <;> omega
  ·have ES : Hid (bdI s p gl q (k + 1) = bdI s p gl q k ++ [(k : Int)]) := hh (by rw [ES0.o, if_pos (by simp [bdB, h1, h2, h3, h4])])
   have b0 : (za == 1) = true := by simpa using h1
   have b1 : (zb == q) = true := by simpa using h2
   have b2 : (zc == 1) = true := by simpa using h3
   have b3 : (zd == q) = false := by simpa using h4
   clear h1 h2 h3 h4
   go_wp2_with (first | (go_at_call 74; (with_reducible refine (SD.o _ Q.i).q ?_); intro ks) | fail)
   refine wrj (by kernel_rfl) ?_
   repeat (go_big_quiet_step (fail))
   refine wq0 fun kq => ?_
   go_wp2_with (first | (at_builtin; refine wpList_app_int rfl _ _ rfl ((((w.alloc (Obj.cells #[Value.string s.nm, Value.slice s.aB s.buses.length s.cB, Value.slice s.aL s.lines.length s.cL, Value.slice s.aS s.srcs.length s.cS, Value.slice s.aY nY s.cY, Value.slice p.aC p.closed.length p.cC, Value.slice p.aK p.rows.length p.cK, Value.slice G nG cG] 150)).alloc (Obj.cells #[Value.int .i64 1, Value.int .i64 of] 109)).jk kn).alloc (Obj.cells #[Value.int .i64 1, Value.int .i64 q] 106)) v7 (bdI s p gl q k) (k : Int) _ rfl rfl (HRI.o.q Q.i) (by simp [go_sem, World.size_jk]) (by have := bdI_len s p gl q k; omega) Q.i ?_; intro v7' kx' hri hgr) | fail)
   go_roundw
   case rel => exact ⟨k + 1, by go_num, by omega, ⟨kx', rfl⟩, hh (by rw [ES.o]; exact hri)⟩
   case measure => simp [intOf] <;> omega
  ·have ES : Hid (bdI s p gl q (k + 1) = bdI s p gl q k) := hh (by rw [ES0.o, if_neg (by simp [bdB, h1, h2, h3, h4])])
   have b0 : (za == 1) = true := by simpa using h1
   have b1 : (zb == q) = true := by simpa using h2
   have b2 : (zc == 1) = true := by simpa using h3
   have b3 : (zd == q) = true := by simpa using h4
   clear h1 h2 h3 h4
   go_wp2_with (first | (go_at_call 74; (with_reducible refine (SD.o _ Q.i).q ?_); intro ks) | fail)
   refine wrj (by kernel_rfl) ?_
   repeat (go_big_quiet_step (fail))
   refine wq0 fun kq => ?_
   go_wp2_with fail
   go_roundw
   case rel => exact ⟨k + 1, by go_num, by omega, Q.i, hh (by rw [ES.o]; exact HRI.o.q Q.i)⟩
   case measure => simp [intOf] <;> omega
  ·have ES : Hid (bdI s p gl q (k + 1) = bdI s p gl q k) := hh (by rw [ES0.o, if_neg (by simp [bdB, h1, h2, h3])])
   have b0 : (za == 1) = true := by simpa using h1
   have b1 : (zb == q) = false := by simpa using h2
   have b2 : (zc == 1) = false := by simpa using h3
   clear h1 h2 h3
   go_wp2_with (first | (go_at_call 74; (with_reducible refine (SD.o _ Q.i).q ?_); intro ks) | fail)
   refine wrj (by kernel_rfl) ?_
   repeat (go_big_quiet_step (fail))
   refine wq0 fun kq => ?_
   go_wp2_with fail
   go_roundw
   case rel => exact ⟨k + 1, by go_num, by omega, Q.i, hh (by rw [ES.o]; exact HRI.o.q Q.i)⟩
   case measure => simp [intOf] <;> omega
  ·have ES : Hid (bdI s p gl q (k + 1) = bdI s p gl q k) := hh (by rw [ES0.o, if_neg (by simp [bdB, h1, h2, h3, h4])])
   have b0 : (za == 1) = true := by simpa using h1
   have b1 : (zb == q) = false := by simpa using h2
   have b2 : (zc == 1) = true := by simpa using h3
   have b3 : (zd == q) = false := by simpa using h4
   clear h1 h2 h3 h4
   go_wp2_with (first | (go_at_call 74; (with_reducible refine (SD.o _ Q.i).q ?_); intro ks) | fail)
   refine wrj (by kernel_rfl) ?_
   repeat (go_big_quiet_step (fail))
   refine wq0 fun kq => ?_
   go_wp2_with fail
   go_roundw
   case rel => exact ⟨k + 1, by go_num, by omega, Q.i, hh (by rw [ES.o]; exact HRI.o.q Q.i)⟩
   case measure => simp [intOf] <;> omega
  have ES : Hid (bdI s p gl q (k + 1) = bdI s p gl q k ++ [(k : Int)]) := hh (by rw [ES0.o, if_pos (by simp [bdB, h1, h2, h3, h4])])
  have b0 : (za == 1) = true := by simpa using h1
  have b1 : (zb == q) = false := by simpa using h2
  have b2 : (zc == 1) = true := by simpa using h3
  have b3 : (zd == q) = true := by simpa using h4
  clear h1 h2 h3 h4
  go_wp2_with (first | (go_at_call 74; (with_reducible refine (SD.o _ Q.i).q ?_); intro ks) | fail)
  refine wrj (by kernel_rfl) ?_
  repeat (go_big_quiet_step (fail))
  refine wq0 fun kq => ?_
  go_wp2_with (first | (at_builtin; refine wpList_app_int rfl _ _ rfl ((((w.alloc (Obj.cells #[Value.string s.nm, Value.slice s.aB s.buses.length s.cB, Value.slice s.aL s.lines.length s.cL, Value.slice s.aS s.srcs.length s.cS, Value.slice s.aY nY s.cY, Value.slice p.aC p.closed.length p.cC, Value.slice p.aK p.rows.length p.cK, Value.slice G nG cG] 150)).alloc (Obj.cells #[Value.int .i64 1, Value.int .i64 of] 109)).jk kn).alloc (Obj.cells #[Value.int .i64 1, Value.int .i64 q] 106)) v7 (bdI s p gl q k) (k : Int) _ rfl rfl (HRI.o.q Q.i) (by simp [go_sem, World.size_jk]) (by have := bdI_len s p gl q k; omega) Q.i ?_; intro v7' kx' hri hgr) | fail)
  go_roundw
  case rel => exact ⟨k + 1, by go_num, by omega, ⟨kx', rfl⟩, hh (by rw [ES.o]; exact hri)⟩
  case measure => simp [intOf] <;> omega
end Go.Proofs.YtcjflafjmdfanaaGreatDoor
/- What slices.Clone returns. -/
namespace Go.Proofs.YtcjflafjmdfanaaGreatDoor
open Go.RowKit Go.Sub
attribute [local go_sem ↓] Go.wp_at_zero Go.wp_at_succ
theorem infoBool : ∃ i, Tryz.prog.info? 4 = some i ∧ i.zero = some (.bool false) ∧ i.size = 1 ∧ i.bytes = 1 := by
 have h : (Tryz.prog.info? 4).map (fun i => (i.zero, i.size, i.bytes)) = some (some (.bool false), 1, 1) := by kernel_rfl
 cases hi : Tryz.prog.info? 4 with
 | none => rw [hi] at h; cases h
 | some i =>
  rw [hi] at h
  simp only [Option.map_some, Option.some.injEq, Prod.mk.injEq] at h
  exact ⟨i, rfl, h.1, h.2.1, h.2.2⟩
theorem infoRow : ∃ i, Tryz.prog.info? 61 = some i ∧ i.zero = some (.slice none 0 0) ∧ i.size = 1 ∧ i.bytes = 24 := by
 have h : (Tryz.prog.info? 61).map (fun i => (i.zero, i.size, i.bytes)) = some (some (.slice none 0 0), 1, 24) := by kernel_rfl
 cases hi : Tryz.prog.info? 61 with
 | none => rw [hi] at h; cases h
 | some i =>
  rw [hi] at h
  simp only [Option.map_some, Option.some.injEq, Prod.mk.injEq] at h
  exact ⟨i, rfl, h.1, h.2.1, h.2.2⟩
theorem cloneB (A : Option Addr) (n c : Nat) (vs : List Value) (w : World) (h : RdV w A n c 1 vs) (h1 : ∀ u ∈ vs, u.oneCell' = true) (hn : n < 1000) :
  Calls Tryz.prog 71 #[.slice A n c] w fun e w' => ∃ v, e = .returned v ∧ Q w w' ∧ w'.ownsRow w.heap.size 4 1 v n vs := by
 have hnil : ∀ (w' : World) (a : Option Addr) (n c n' c' : Nat), (binOp .eql 28 (.slice a n c) (.slice none n' c')).run Tryz.prog w' = .ok (.bool a.isNone) w' := fun w' a n c n' c' => Lib.run_eql_slice_nil w' _ 4 a n c n' c' Tryz.underlying28
 cases A with
 | none =>
  obtain rfl : c = 0 := h.2.2.2 rfl
  obtain rfl : n = 0 := by have := h.2.1; omega
  obtain rfl : vs = [] := List.eq_nil_of_length_eq_zero (by rw [h.1])
  have HO := hh (World.ownsRow_nil w w.heap.size 4 1)
  clear h h1 hn
  go_enter Tryz.func71, Tryz.ntmps71
  go_wp2_with fail
  go_ret
  exact ⟨_, rfl, Q.i, HO.o⟩
 | some ad =>
  have HL := hh h.1
  have HC : Hid (∀ j u, vs[j]? = some u → w.cell? (ad.add j) = some u) := hh fun j u hj => by
   have hlt := (List.getElem?_eq_some_iff.1 hj).1
   obtain ⟨g, o, e, hg, hc⟩ := h.2.2.1 (by have := h.1; omega)
   cases e
   rw [addr_add0]
   exact hc j u hj
  have H1 := hh h1
  have HLt : Hid (∀ j u, vs[j]? = some u → Old ad.block w) := hh fun j u hj => by
   have hlt := (List.getElem?_eq_some_iff.1 hj).1
   obtain ⟨g, o, e, hg, hc⟩ := h.2.2.1 (by have := h.1; omega)
   cases e
   exact ⟨hg⟩
  clear h h1
  go_enter Tryz.func71, Tryz.ntmps71
  go_wp2_with (first | (at_builtin; obtain ⟨i, hi, hz, hs1, hb⟩ := infoBool; refine wpList_app rfl _ _ 28 rfl w 4 i (.bool false) 1 1 Tryz.underlying28 hi hz hs1 hb rfl (by decide) _ 0 [] rfl (World.ownsRow_made w #[] 0 (Nat.le_refl _) (Nat.zero_le _) rfl) ad n c vs rfl (by rw [HL.o]) (fun j u hj => ((Q.alloc (Q.refl w) _).below.cell (p := ad.add j) (by have := (HLt.o j u hj).lt; unfold Addr.add; split <;> simpa using this)).trans (HC.o j u hj)) H1.o (by unfold maxLen; omega) (by omega) Q.i ?_; intro v' kx hown hgr) | fail)
  go_ret
  refine ⟨_, rfl, Q.i, ?_⟩
  rw [Nat.zero_add, List.nil_append] at hown
  exact hown
theorem cloneI (A : Option Addr) (n c : Nat) (vs : List Value) (w : World) (h : RdV w A n c 1 vs) (h1 : ∀ u ∈ vs, u.oneCell' = true) (hn : n < 1000) :
  Calls Tryz.prog 72 #[.slice A n c] w fun e w' => ∃ v, e = .returned v ∧ Q w w' ∧ w'.ownsRow w.heap.size 3 1 v n vs := by
 have hnil : ∀ (w' : World) (a : Option Addr) (n c n' c' : Nat), (binOp .eql 61 (.slice a n c) (.slice none n' c')).run Tryz.prog w' = .ok (.bool a.isNone) w' := fun w' a n c n' c' => Lib.run_eql_slice_nil w' _ 3 a n c n' c' Tryz.underlying61
 cases A with
 | none =>
  obtain rfl : c = 0 := h.2.2.2 rfl
  obtain rfl : n = 0 := by have := h.2.1; omega
  obtain rfl : vs = [] := List.eq_nil_of_length_eq_zero (by rw [h.1])
  have HO := hh (World.ownsRow_nil w w.heap.size 3 1)
  clear h h1 hn
  go_enter Tryz.func72, Tryz.ntmps72
  go_wp2_with fail
  go_ret
  exact ⟨_, rfl, Q.i, HO.o⟩
 | some ad =>
  have HL := hh h.1
  have HC : Hid (∀ j u, vs[j]? = some u → w.cell? (ad.add j) = some u) := hh fun j u hj => by
   have hlt := (List.getElem?_eq_some_iff.1 hj).1
   obtain ⟨g, o, e, hg, hc⟩ := h.2.2.1 (by have := h.1; omega)
   cases e
   rw [addr_add0]
   exact hc j u hj
  have H1 := hh h1
  have HLt : Hid (∀ j u, vs[j]? = some u → Old ad.block w) := hh fun j u hj => by
   have hlt := (List.getElem?_eq_some_iff.1 hj).1
   obtain ⟨g, o, e, hg, hc⟩ := h.2.2.1 (by have := h.1; omega)
   cases e
   exact ⟨hg⟩
  clear h h1
  go_enter Tryz.func72, Tryz.ntmps72
  go_wp2_with (first | (at_builtin; obtain ⟨i, hi, hz, hs1, hb⟩ := infoInt; refine wpList_app rfl _ _ 61 rfl w 3 i (.int .i64 0) 1 8 Tryz.underlying61 hi hz hs1 hb rfl (by decide) _ 0 [] rfl (World.ownsRow_made w #[] 0 (Nat.le_refl _) (Nat.zero_le _) rfl) ad n c vs rfl (by rw [HL.o]) (fun j u hj => ((Q.alloc (Q.refl w) _).below.cell (p := ad.add j) (by have := (HLt.o j u hj).lt; unfold Addr.add; split <;> simpa using this)).trans (HC.o j u hj)) H1.o (by unfold maxLen; omega) (by omega) Q.i ?_; intro v' kx hown hgr) | fail)
  go_ret
  refine ⟨_, rfl, Q.i, ?_⟩
  rw [Nat.zero_add, List.nil_append] at hown
  exact hown
end Go.Proofs.YtcjflafjmdfanaaGreatDoor
namespace Go.Sub
open Go
def mixL (f : Int → Int) (l : List Int) (j : Nat) : List Int := (l.take j).map f ++ l.drop j
theorem mixL_zero (f : Int → Int) (l : List Int) : mixL f l 0 = l := by simp [mixL]
theorem mixL_all (f : Int → Int) (l : List Int) {n : Nat} (h : l.length = n) : mixL f l n = l.map f := by
 subst h
 simp [mixL]
theorem mixL_len (f : Int → Int) (l : List Int) (j : Nat) (h : j ≤ l.length) : (mixL f l j).length = l.length := by
 simp [mixL]
 omega
theorem mixL_getD (f : Int → Int) (l : List Int) (j : Nat) (h : j < l.length) : (mixL f l j).getD j 0 = l.getD j 0 := by
 simp only [mixL, List.getD_eq_getElem?_getD]
 rw [List.getElem?_append_right (by simp; omega)]
 simp
 congr 2
 omega
theorem mixL_set (f : Int → Int) (l : List Int) (j : Nat) (h : j < l.length) : (mixL f l j).set j (f (l.getD j 0)) = mixL f l (j + 1) := by
 have e1 : l.drop j = l[j] :: l.drop (j + 1) := List.drop_eq_getElem_cons h
 have e2 : l.take (j + 1) = l.take j ++ [l[j]] := List.take_succ_eq_append_getElem h
 have e3 : l.getD j 0 = l[j] := by simp [List.getD_eq_getElem?_getD, h]
 have e4 : ((l.take j).map f).length = j := by simp; omega
 unfold mixL
 rw [e1, e2, e3, List.set_append_right _ _ (by omega), e4, Nat.sub_self, List.set_cons_zero, List.map_append, List.append_assoc]
 rfl
theorem mixL_same (f : Int → Int) (l : List Int) (j : Nat) (h : j < l.length) (he : f (l.getD j 0) = l.getD j 0) : mixL f l j = mixL f l (j + 1) := by
 rw [← mixL_set f l j h, he, ← mixL_getD f l j h]
 apply List.ext_getElem?
 intro i
 rw [List.getElem?_set]
 by_cases e : j = i
 rotate_left
 ·rw [if_neg e]
 subst e
 have hl : j < (mixL f l j).length := by rw [mixL_len _ _ _ (by omega)]; exact h
 rw [if_pos rfl, if_pos hl, List.getD_eq_getElem?_getD, List.getElem?_eq_getElem hl]
 rfl
def rs1 (x : Int) : Int := if x = 2 then 1 else x
def rsP (p : Pos) : Pos := { p with rows := p.rows.map fun r => { r with l := r.l.map rs1 } }
end Go.Sub
namespace Go
open Go.RowKit
theorem own_swap {W W' : World} {k : Jk} {e : TypeId} {size n : Nat} {v : Value} {xs : List Value} (hs : W.heap.size = W'.heap.size) (h : (W.jk k).ownsRow W.heap.size e size v n xs) : (W'.jk k).ownsRow W'.heap.size e size v n xs := by
 refine ⟨h.1, ?_⟩
 rcases h.2 with h | ⟨g, cap, cur, rfl, hb, hg, hr⟩
 ·exact .inl h
 refine .inr ⟨g, cap, cur, rfl, by omega, ?_, hr⟩
 rw [← hg]
 simp only [World.jk, Array.getElem?_append]
 rw [if_neg (by omega), if_neg (by omega), hs]
end Go
namespace Go.Proofs.YtcjflafjmdfanaaGreatDoor
open Go.RowKit Go.Sub
attribute [local go_sem ↓] Go.wp_at_zero Go.wp_at_succ
theorem one_bools (l : List Bool) : ∀ u ∈ l.map Value.bool, u.oneCell' = true := by
 intro u hu
 obtain ⟨b, _, rfl⟩ := List.mem_map.1 hu
 rfl
theorem rowI_win {W0 w : World} {A : Option Addr} {n c : Nat} {zs : List Int} (h : RowI W0 w (.slice A n c) zs) (hl : zs.length = n) (hn : 0 < n) : ∃ g, A = some ⟨g, 0, none⟩ ∧ W0.heap.size ≤ g ∧ Hid (∀ j, j < n → w.cell? ⟨g, j, none⟩ = some (.int .i64 (zs.getD j 0)) ∧ w.frozen? ⟨g, j, none⟩ = false) := by
 obtain ⟨g, c', e, hg, hc⟩ := h.win (by intro e; subst e; simp at hl; omega)
 injection e with e1 e2 e3
 subst e1 e3
 refine ⟨g, rfl, hg, hh fun j hj => ⟨hc j (by omega), ?_⟩⟩
 have h' : w.ownsRow W0.heap.size 3 1 (.slice (some ⟨g, 0, none⟩) zs.length c) zs.length (zs.map (Value.int .i64)) := by rw [hl]; unfold RowI at h; rw [hl] at h; exact h
 exact h'.frozenAt j
theorem rowI_set {W0 w : World} {g n c : Nat} {zs : List Int} (h : RowI W0 w (.slice (some ⟨g, 0, none⟩) n c) zs) (hl : zs.length = n) (j : Nat) (x : Int) : RowI W0 (w.setCell ⟨g, j, none⟩ (.int .i64 x)) (.slice (some ⟨g, 0, none⟩) n c) (zs.set j x) := by
 subst hl
 have := (World.ownsRow.stored h j (.int .i64 x)).1
 unfold RowI
 rw [List.length_set, List.map_set]
 exact this
def RowsAt (W0 w : World) (v : Value) (rs : List Ro) : Prop := w.ownsRow W0.heap.size 61 1 v rs.length (rs.map roC) ∧ ∀ r ∈ rs, RowI W0 w (roC r) r.l ∧ r.l.length < 1000
theorem RowsAt.q {W0 w w' : World} {v : Value} {rs : List Ro} (h : RowsAt W0 w v rs) (hq : Q w w') : RowsAt W0 w' v rs := ⟨ownsRow_q h.1 hq, fun r hr => ⟨(h.2 r hr).1.q hq, (h.2 r hr).2⟩⟩
theorem RowsAt.swap {W W' : World} {k : Jk} {v : Value} {rs : List Ro} (hs : W.heap.size = W'.heap.size) (h : RowsAt W (W.jk k) v rs) : RowsAt W' (W'.jk k) v rs := ⟨own_swap hs h.1, fun r hr => ⟨own_swap hs (h.2 r hr).1, (h.2 r hr).2⟩⟩
theorem own_apart2 {w : World} {base base' : Nat} {e e' : TypeId} {size size' n n' : Nat} {v u : Value} {xs ys : List Value} (h : w.ownsRow base e size v n xs) (h' : w.ownsRow base' e' size' u n' ys) (hne : e ≠ e') : Apart v u := by
 intro g hg hu
 rcases own_other h h' hne with h1 | h1
 ·rw [h1] at hg; cases hg
 exact h1 (hg.trans hu.symm)
theorem RowsAt.snoc {W0 w w' : World} {v v' : Value} {rs : List Ro} {r : Ro} (h : RowsAt W0 w v rs) (hr : RowI W0 w (roC r) r.l) (hl : r.l.length < 1000) (hown : w'.ownsRow W0.heap.size 61 1 v' (rs.length + 1) (rs.map roC ++ [roC r])) (hg : Grown W0.heap.size v v' w w') : RowsAt W0 w' v' (rs ++ [r]) := by
 refine ⟨by rw [List.length_append, List.map_append]; exact hown, fun r' hr' => ?_⟩
 rcases List.mem_append.1 hr' with h1 | h1
 ·exact ⟨(hg _ _ _ _ _ (h.2 r' h1).1 (own_apart2 h.1 (h.2 r' h1).1 (by decide))).1, (h.2 r' h1).2⟩
 rw [List.mem_singleton] at h1
 subst h1
 exact ⟨(hg _ _ _ _ _ hr (own_apart2 h.1 hr (by decide))).1, hl⟩
theorem wpList_app_row {ops : Array Oper} {rest : List Oper} {o : Oper} {a : Act} {w : World} {Q' : Exit → Act → World → Prop} (hgd : o.guard = none) (s x : Operand)
  (ho : o.op = .call { callee := .builtin .append, args := #[s, x], argTypes := #[29, 29] }) (W0 : World) (v : Value) (rs : List Ro) (r : Ro) (g : Nat)
  (hs : a.eval s = v) (hx : a.eval x = .slice (some ⟨g, 0, none⟩) 1 1) (hown : RowsAt W0 w v rs) (hr : RowI W0 w (roC r) r.l) (hl : r.l.length < 1000) (hg : w.cell? ⟨g, 0, none⟩ = some (roC r)) (hlen : rs.length < 1000) (hQ : Q W0 w)
  (h : ∀ A' c' kk, RowsAt W0 (W0.jk kk) (.slice A' (rs.length + 1) c') (rs ++ [r]) → wpList Tryz.prog ops Q' rest (a.put o.dst (.slice A' (rs.length + 1) c')) (W0.jk kk)) : wpList Tryz.prog ops Q' (o :: rest) a w := by
 obtain ⟨i, hi, hz, hs1, hb⟩ := infoRow
 refine wpList_app hgd s x 29 ho W0 61 i (.slice none 0 0) 1 24 Tryz.underlying29 hi hz hs1 hb rfl (by decide) v _ _ hs hown.1 ⟨g, 0, none⟩ 1 1 [roC r] hx rfl ?_ ?_ (by unfold maxLen; omega) (by omega) hQ ?_
 ·intro j u hj
  match j, hj with
  | 0, hj => simp at hj; subst hj; simpa [Addr.add] using hg
 ·intro u hu
  rw [List.mem_singleton] at hu
  subst hu
  rfl
 intro v' kk h1 h2
 obtain ⟨A', c', rfl⟩ := own_slice' h1
 exact h A' c' kk (hown.snoc hr hl h1 h2)
def RetP (cl : List Bool) (ls : List (List Int)) (w : World) (e : Ending) (w' : World) : Prop := ∃ p' : Pos, e = .returned (.agg #[Value.slice p'.aC p'.closed.length p'.cC, Value.slice p'.aK p'.rows.length p'.cK]) ∧ Q w w' ∧ PosAt w' p' ∧ p'.closed = cl ∧ p'.rows.map Ro.l = ls
theorem rowsAt_pos {W0 w : World} {aC aK : Option Addr} {cC cK nC nK : Nat} {cl : List Bool} {rs : List Ro} (h1 : w.ownsRow W0.heap.size 4 1 (.slice aC nC cC) nC (cl.map Value.bool)) (h2 : RowsAt W0 w (.slice aK nK cK) rs) (hc : cl.length = nC) (hr : rs.length = nK) (b1 : nC < 1000) (b2 : nK < 1000) : PosAt w ⟨cl, rs, aC, cC, aK, cK⟩ := by
 subst hc hr
 refine ⟨?_, ?_, fun r hr => ⟨?_, ?_⟩, ?_, ?_⟩
 ·obtain ⟨A, c, e, h⟩ := rdv_of_own h1 (by simp)
  injection e with e1 e2 e3
  subst e1 e3
  exact h
 ·obtain ⟨A, c, e, h⟩ := rdv_of_own h2.1 (by simp)
  injection e with e1 e2 e3
  subst e1 e3
  exact h
 ·obtain ⟨A, c, e, h⟩ := rdv_of_own (h2.2 r hr).1 (by simp)
  injection e with e1 e2 e3
  subst e1 e3
  exact h
 ·have := (h2.2 r hr).2
  omega
 ·show ((cl.length : Nat) : Int) ≤ _
  omega
 show ((rs.length : Nat) : Int) ≤ _
 omega
theorem resolve_c (p : Pos) (w : World) (hp : PosAt w p) (h1 : p.closed.length < 1000) (h2 : p.rows.length < 1000) (h3 : ∀ r ∈ p.rows, r.l.length < 1000) :
  Calls Tryz.prog 39 #[.agg #[Value.slice p.aC p.closed.length p.cC, Value.slice p.aK p.rows.length p.cK], .bool true] w (RetP p.closed (p.rows.map fun r => r.l.map rs1) w) := by
 have HP := hh hp
 have H3 := hh h3
 obtain ⟨nC, eC⟩ : ∃ n, p.closed.length = n := ⟨_, rfl⟩
 obtain ⟨nK, eK⟩ : ∃ n, p.rows.length = n := ⟨_, rfl⟩
 have HCL := hh hp.rC
 rw [eC] at h1 HCL ⊢
 rw [eK] at h2 ⊢
 obtain ⟨aK, eaK⟩ : ∃ a, p.aK = a := ⟨_, rfl⟩
 rw [eaK]
 have EAK := hh eaK
 have EC := hh eC
 have EK := hh eK
 clear hp h3 eC eK eaK
 go_enter Tryz.func39, Tryz.ntmps39
 go_wp2_with (first | (go_at_call 71; (with_reducible refine (cloneB p.aC nC p.cC (p.closed.map Value.bool) _ (HCL.o.q Q.i) (one_bools _) h1).mono ?_); rintro e w' ⟨v, rfl, ⟨kC, rfl⟩, hown⟩; obtain ⟨aC', cC', rfl⟩ := own_slice' hown; have HOC := hh hown; clear hown) | fail)
 go_loopw [19] (fun i wr => ∃ (k : Nat) (A : Option Addr) (c : Nat) (rs : List Ro), i = .int .i64 k ∧ k ≤ nK ∧ Q ((((w.alloc (Obj.cells #[Value.slice p.aC nC p.cC, Value.slice aK nK p.cK] 31)).alloc (Obj.cells #[Value.slice none 0 0, Value.slice none 0 0] 31)).jk kC).alloc (Obj.cells #[Value.slice aC' nC cC', (Value.slice A k c)] 31)) wr ∧ rs.length = k ∧ Hid (RowsAt ((((w.alloc (Obj.cells #[Value.slice p.aC nC p.cC, Value.slice aK nK p.cK] 31)).alloc (Obj.cells #[Value.slice none 0 0, Value.slice none 0 0] 31)).jk kC).alloc (Obj.cells #[Value.slice aC' nC cC', (Value.slice A k c)] 31)) wr (.slice A k c) rs) ∧ Hid (rs.map Ro.l = (p.rows.take k).map fun r => r.l.map rs1)) (fun i _ => nK - (intOf i).toNat)
 case atStart => exact ⟨0, none, 0, [], rfl, Nat.zero_le _, Q.refl _, rfl, hh ⟨World.ownsRow_nil _ _ _ _, fun r hr => by cases hr⟩, hh rfl⟩
 case round =>
  obtain ⟨k, A, c, rs, rfl, hk, ⟨kk, rfl⟩, hrs, HR, EL⟩ := hrel
  by_cases hlt : k < nK
  rotate_left
  ·obtain rfl : nK = k := by omega
   have HPOS : Hid (PosAt (((((w.alloc (Obj.cells #[Value.slice p.aC nC p.cC, Value.slice aK nK p.cK] 31)).alloc (Obj.cells #[Value.slice aC' nC cC', Value.slice A nK c] 31)).jk kC).alloc (Obj.cells #[Value.slice aC' nC cC', (Value.slice A nK c)] 31)).jk kk) ⟨p.closed, rs, aC', cC', A, c⟩) := hh (by
    rw [World.jk_alloc, World.jk_jk]
    refine rowsAt_pos (W0 := (w.alloc (Obj.cells #[Value.slice p.aC nC p.cC, Value.slice aK nK p.cK] 31)).alloc (Obj.cells #[Value.slice aC' nC cC', Value.slice A nK c] 31)) (own_swap (W := (w.alloc (Obj.cells #[Value.slice p.aC nC p.cC, Value.slice aK nK p.cK] 31)).alloc (Obj.cells #[Value.slice none 0 0, Value.slice none 0 0] 31)) (by simp) ?_) (RowsAt.swap (W := (w.alloc (Obj.cells #[Value.slice p.aC nC p.cC, Value.slice aK nK p.cK] 31)).alloc (Obj.cells #[Value.slice none 0 0, Value.slice none 0 0] 31)) (by simp) ?_) EC.o hrs h1 h2
    ·rw [← World.jk_jk, ← World.jk_alloc]
     exact ownsRow_q HOC.o Q.i
    ·rw [← World.jk_jk, ← World.jk_alloc]
     exact ⟨World.ownsRow.mono HR.o.1 (by simp [World.size_jk]; omega), fun r hr => ⟨(HR.o.2 r hr).1.low Q.i, (HR.o.2 r hr).2⟩⟩)
   go_wp2_with fail
   refine bodyPost_ret (v := .agg #[Value.slice aC' nC cC', Value.slice A nK c]) (by simp [results, Tryz.results39, go_sem]) rfl ⟨⟨p.closed, rs, aC', cC', A, c⟩, by simp only [EC.o, hrs], Q.i, HPOS.o, rfl, by rw [EL.o, List.take_of_length_le (by rw [EK.o]; exact Nat.le_refl _)]⟩
  obtain ⟨r, hr⟩ : ∃ r, p.rows[k]? = some r := ⟨_, List.getElem?_eq_getElem (by rw [EK.o]; exact hlt)⟩
  obtain ⟨g', o', eA', og', r1⟩ := HP.o.rowAt hr
  have hrm := List.mem_of_getElem? hr
  have RD : Hid (RdV w r.ad r.l.length r.cap 1 (r.l.map (Value.int .i64))) := hh (HP.o.row r hrm).1
  have hrl := H3.o r hrm
  have ETK : Hid ((p.rows.take (k + 1)).map (fun r => r.l.map rs1) = (p.rows.take k).map (fun r => r.l.map rs1) ++ [r.l.map rs1]) := hh (by
   have hlt2 := (List.getElem?_eq_some_iff.1 hr).1
   rw [List.take_succ_eq_append_getElem hlt2, List.map_append, (List.getElem?_eq_some_iff.1 hr).2]; rfl)
  obtain rfl : aK = some ⟨g', o', none⟩ := EAK.o.symm.trans eA'
  obtain ⟨nr, enr⟩ : ∃ n, r.l.length = n := ⟨_, rfl⟩
  rw [enr] at r1 RD hrl
  have k0 : (0 : Int) ≤ (k : Int) := by omega
  have k1 : (k : Int) < (nK : Int) := by omega
  have NR := hh enr
  clear hr hrm eA' enr
  go_wp2_with (first | (go_at_call 72; (with_reducible refine (cloneI r.ad nr r.cap (r.l.map (Value.int .i64)) _ (RD.o.q Q.i) (one_ints .i64 _) hrl).mono ?_); rintro e w' ⟨v, rfl, ⟨kc, rfl⟩, hown⟩; obtain ⟨a8, c8, rfl⟩ := own_slice' hown) | fail)
  have HO8 : Hid (RowI (((((w.alloc (Obj.cells #[Value.slice p.aC nC p.cC, Value.slice (some ⟨g', o', none⟩) nK p.cK] 31)).alloc (Obj.cells #[Value.slice none 0 0, Value.slice none 0 0] 31)).jk kC).alloc (Obj.cells #[Value.slice aC' nC cC', (Value.slice A k c)] 31)).jk kk) ((((((w.alloc (Obj.cells #[Value.slice p.aC nC p.cC, Value.slice (some ⟨g', o', none⟩) nK p.cK] 31)).alloc (Obj.cells #[Value.slice none 0 0, Value.slice none 0 0] 31)).jk kC).alloc (Obj.cells #[Value.slice aC' nC cC', (Value.slice A k c)] 31)).jk kk).jk kc) (.slice a8 nr c8) r.l) := hh (by unfold RowI; rw [NR.o]; exact hown)
  clear hown
  go_loopw [27] (fun i wr => ∃ j : Nat, i = .int .i64 j ∧ j ≤ nr ∧ Q (((((w.alloc (Obj.cells #[Value.slice p.aC nC p.cC, Value.slice (some ⟨g', o', none⟩) nK p.cK] 31)).alloc (Obj.cells #[Value.slice none 0 0, Value.slice none 0 0] 31)).jk kC).alloc (Obj.cells #[Value.slice aC' nC cC', (Value.slice A k c)] 31)).jk kk) wr ∧ Hid (RowI (((((w.alloc (Obj.cells #[Value.slice p.aC nC p.cC, Value.slice (some ⟨g', o', none⟩) nK p.cK] 31)).alloc (Obj.cells #[Value.slice none 0 0, Value.slice none 0 0] 31)).jk kC).alloc (Obj.cells #[Value.slice aC' nC cC', (Value.slice A k c)] 31)).jk kk) wr (.slice a8 nr c8) (mixL rs1 r.l j))) (fun i _ => nr - (intOf i).toNat)
  case atStart => exact ⟨0, rfl, Nat.zero_le _, (by repeat' (first | exact Q.refl _ | refine Q.alloc ?_ _ | refine Q.jk ?_ _ | refine Q.drew ?_)), hh (by rw [mixL_zero]; exact HO8.o)⟩
  case round =>
   obtain ⟨j, rfl, hj, ⟨k2, rfl⟩, HM⟩ := hrel
   by_cases hlj : j < nr
   rotate_left
   ·obtain rfl : nr = j := by omega
    clear hlj hj
    have HO9 : Hid (RowI (((((w.alloc (Obj.cells #[Value.slice p.aC nC p.cC, Value.slice (some ⟨g', o', none⟩) nK p.cK] 31)).alloc (Obj.cells #[Value.slice none 0 0, Value.slice none 0 0] 31)).jk kC).alloc (Obj.cells #[Value.slice aC' nC cC', (Value.slice A k c)] 31)).jk kk) ((((((w.alloc (Obj.cells #[Value.slice p.aC nC p.cC, Value.slice (some ⟨g', o', none⟩) nK p.cK] 31)).alloc (Obj.cells #[Value.slice none 0 0, Value.slice none 0 0] 31)).jk kC).alloc (Obj.cells #[Value.slice aC' nC cC', (Value.slice A k c)] 31)).jk kk).jk k2) (.slice a8 nr c8) (r.l.map rs1)) := hh (by rw [← mixL_all rs1 r.l NR.o]; exact HM.o)
    have HR9 := hh (HR.o.q (Q.jk (Q.refl _) k2))
    have L9 : Hid ((r.l.map rs1).length = nr) := hh (by rw [List.length_map, NR.o])
    have HR8 : Hid (RowI ((((w.alloc (Obj.cells #[Value.slice p.aC nC p.cC, Value.slice (some ⟨g', o', none⟩) nK p.cK] 31)).alloc (Obj.cells #[Value.slice none 0 0, Value.slice none 0 0] 31)).jk kC).alloc (Obj.cells #[Value.slice aC' nC cC', (Value.slice A k c)] 31)) ((((((w.alloc (Obj.cells #[Value.slice p.aC nC p.cC, Value.slice (some ⟨g', o', none⟩) nK p.cK] 31)).alloc (Obj.cells #[Value.slice none 0 0, Value.slice none 0 0] 31)).jk kC).alloc (Obj.cells #[Value.slice aC' nC cC', (Value.slice A k c)] 31)).jk kk).jk k2) (roC ⟨a8, c8, r.l.map rs1⟩) (r.l.map rs1)) := hh (by unfold roC; rw [L9.o]; exact HO9.o.low Q.i)
    have E8 : Hid (roC ⟨a8, c8, r.l.map rs1⟩ = .slice a8 nr c8) := hh (by unfold roC; rw [L9.o])
    go_wp2_with (first | (at_builtin; go_loud (refine wpList_app_row rfl _ _ rfl ((((w.alloc (Obj.cells #[Value.slice p.aC nC p.cC, Value.slice (some ⟨g', o', none⟩) nK p.cK] 31)).alloc (Obj.cells #[Value.slice none 0 0, Value.slice none 0 0] 31)).jk kC).alloc (Obj.cells #[Value.slice aC' nC cC', (Value.slice A k c)] 31)) (.slice A k c) rs ⟨a8, c8, r.l.map rs1⟩ _ rfl rfl (HR9.o.q Q.i) (HR8.o.q Q.i) (by rw [L9.o]; exact hrl) (by rw [E8.o]; simp [go_sem]) (by omega) Q.i ?_); intro A' c' kx hri; rw [hrs] at hri ⊢) | fail)
    go_roundw
    case rel =>
     exact ⟨k + 1, A', c', rs ++ [⟨a8, c8, r.l.map rs1⟩], by go_num, by omega, Q.jk (Q.refl _) kx, by rw [List.length_append, hrs]; rfl, hh (hri.swap (by simp)), hh (by rw [List.map_append, EL.o, ETK.o]; rfl)⟩
    case measure => simp [intOf] <;> omega
   have hjr : j < r.l.length := by rw [NR.o]; exact hlj
   obtain ⟨g8, rfl, hg8, hc8⟩ := rowI_win HM.o (by rw [mixL_len _ _ _ (by omega), NR.o]) (by omega)
   have x1 := (hc8.o j hlj).1
   have x2 := (hc8.o j hlj).2
   rw [mixL_getD _ _ _ hjr] at x1
   have j0 : (0 : Int) ≤ (j : Int) := by omega
   have j1 : (j : Int) < (nr : Int) := by omega
   have MS := hh (mixL_set rs1 r.l j hjr)
   have MN := hh (mixL_same rs1 r.l j hjr)
   have LM : Hid ((mixL rs1 r.l j).length = nr) := hh (by rw [mixL_len _ _ _ (by omega), NR.o])
   generalize r.l.getD j 0 = x at x1 MS MN
   clear hjr hc8
   by_cases hx : x = 2
   rotate_left
   ·have hx' : (x == 2) = false := by simpa using hx
    have ME : Hid (mixL rs1 r.l j = mixL rs1 r.l (j + 1)) := hh (MN.o (if_neg hx))
    clear hx MN MS
    go_wp2_with fail
    go_roundw
    case rel =>
     exact ⟨j + 1, by go_num, by omega, (Q.refl _).jk k2, hh (by rw [← ME.o]; exact HM.o)⟩
    case measure => simp [intOf] <;> omega
   subst hx
   clear MN
   have HG8 := hh hg8
   have o8 : Old g8 ((((((w.alloc (Obj.cells #[Value.slice p.aC nC p.cC, Value.slice (some ⟨g', o', none⟩) nK p.cK] 31)).alloc (Obj.cells #[Value.slice none 0 0, Value.slice none 0 0] 31)).jk kC).alloc (Obj.cells #[Value.slice aC' nC cC', (Value.slice A k c)] 31)).jk kk).jk k2) := ⟨World.block_lt_of_cell? _ _ x1⟩
   go_wp2_with fail
   go_roundw
   case rel =>
    exact ⟨j + 1, by go_num, by omega, (Q.refl _).jk k2 |>.setCell HG8.o _, hh (by rw [← MS.o]; exact rowI_set HM.o LM.o j 1)⟩
   case measure => simp [intOf] <;> omega
end Go.Proofs.YtcjflafjmdfanaaGreatDoor


/- What look returns for a station and a position that have no error. -/
import Derived.Test.YtcjflafjmdfanaaGreatDoorBv17
set_option maxHeartbeats 64000000
set_option maxRecDepth 100000
set_option linter.unusedSimpArgs false
set_option linter.unusedVariables false
namespace Go.Sub
open Go
def lowF (x y g : Int) : Int := if g = max x y then min x y else g
def repF (hi lo g : Int) : Int := if g = hi then lo else g
theorem lowF_lt {x y : Int} (h : x < y) : lowF x y = repF y x := by
 funext g
 unfold lowF repF
 rw [show max x y = y by omega, show min x y = x by omega]
theorem lowF_gt {x y : Int} (h : y < x) : lowF x y = repF x y := by
 funext g
 unfold lowF repF
 rw [show max x y = x by omega, show min x y = y by omega]
theorem lowF_eq (x : Int) : lowF x x = repF x x := by
 funext g
 unfold lowF repF
 rw [show max x x = x by omega, show min x x = x by omega]
def grF (s : Sta) (p : Pos) : Nat → List Int
 | 0 => (List.range s.buses.length).map Int.ofNat
 | k + 1 => match s.bays[k]?, s.lks k with
  | some y, [l0, l1] => if y.kd ≠ 3 ∧ clB p k 0 = true ∧ clB p k 1 = true then (grF s p k).map (lowF (busN (grF s p k) l0) (busN (grF s p k) l1)) else grF s p k
  | _, _ => grF s p k
def grI (s : Sta) (p : Pos) : List Int := grF s p s.bays.length
theorem grF_len (s : Sta) (p : Pos) (k : Nat) : (grF s p k).length = s.buses.length := by
 induction k with
 | zero => simp [grF]
 | succ k ih =>
  rw [grF]
  split
  ·split
   ·rw [List.length_map, ih]
   exact ih
  exact ih
theorem grF_same (s : Sta) (p : Pos) (k : Nat) (y : Byr) (hy : s.bays[k]? = some y) (hl : (s.lks k).length = y.ln) (h : y.kd = 3 ∨ y.ln ≠ 2 ∨ clB p k 0 = false ∨ clB p k 1 = false) : grF s p (k + 1) = grF s p k := by
 rw [grF]
 split
 ·rename_i y' l0 l1 e1 e2
  rw [hy] at e1
  injection e1 with e1
  subst e1
  rw [e2] at hl
  refine if_neg ?_
  rintro ⟨h1, h2, h3⟩
  rcases h with h | h | h | h
  ·exact h1 h
  ·exact h hl.symm
  ·rw [h] at h2; cases h2
  rw [h] at h3; cases h3
 rfl
theorem grF_step (s : Sta) (p : Pos) (k : Nat) (y : Byr) (l0 l1 : Lk) (hy : s.bays[k]? = some y) (hl : s.lks k = [l0, l1]) (h1 : y.kd ≠ 3) (h2 : clB p k 0 = true) (h3 : clB p k 1 = true) : grF s p (k + 1) = (grF s p k).map (lowF (busN (grF s p k) l0) (busN (grF s p k) l1)) := by
 rw [grF, hy, hl]
 exact if_pos ⟨h1, h2, h3⟩
end Go.Sub
namespace Go.Proofs.YtcjflafjmdfanaaGreatDoor
open Go.RowKit Go.Sub
attribute [local go_sem ↓] Go.wp_at_zero Go.wp_at_succ
def RetVw (s : Sta) (p : Pos) (w : World) (e : Ending) (w' : World) : Prop := ∃ G c, e = .returned (.tuple #[.agg #[Value.string s.nm, Value.slice s.aB s.buses.length s.cB, Value.slice s.aL s.lines.length s.cL, Value.slice s.aS s.srcs.length s.cS, Value.slice s.aY s.bays.length s.cY, Value.slice p.aC p.closed.length p.cC, Value.slice p.aK p.rows.length p.cK, Value.slice G s.buses.length c], .bool true]) ∧ Q w w' ∧ RowI w w' (.slice G s.buses.length c) (grI s p)
theorem look_c (s : Sta) (p : Pos) (w : World) (hs : StAt w s) (hp : PosAt w p) (h1 : stE s = 0) (h2 : psE s p = 0) (hB : s.buses.length < 1000) (hY : s.bays.length < 1000) (hok : ∀ k y, s.bays[k]? = some y → BayOK s p k y) :
  Calls Tryz.prog 73 #[.agg #[Value.string s.nm, Value.slice s.aB s.buses.length s.cB, Value.slice s.aL s.lines.length s.cL, Value.slice s.aS s.srcs.length s.cS, Value.slice s.aY s.bays.length s.cY], .agg #[Value.slice p.aC p.closed.length p.cC, Value.slice p.aK p.rows.length p.cK]] w (RetVw s p w) := by
 have SC := hh fun (w' : World) (hq : Q w w') => stcheck_c s w' (hs.q hq)
 have PC := hh fun (w' : World) (hq : Q w w') => tpcheck_c s p w' (hs.q hq) (hp.q hq)
 simp only [h1, h2] at SC PC
 have CL := hh fun (w' : World) (hq : Q w w') (k j : Nat) (r : Ro) (G : Option Addr) (nG cG : Nat) (hk : p.rows[k]? = some r) (hj : j < r.l.length) => vclosed_c s p G nG cG k j r w' (hp.q hq) hk hj
 have HOK := hh hok
 have HAY := hh fun k y (hy : s.bays[k]? = some y) => hs.bayAt hy
 have HLK := hh hs.lk
 have GS := hh fun k y hy h => grF_same s p k y hy (hs.lk k y hy).1.2 h
 have GT := hh (grF_step s p)
 have GZ : Hid (grF s p 0 = (List.range s.buses.length).map Int.ofNat) := hh rfl
 have GL := hh (grF_len s p)
 have GI : Hid (grI s p = grF s p s.bays.length) := hh rfl
 unfold RetVw
 obtain ⟨aY, eaY⟩ : ∃ a, s.aY = a := ⟨_, rfl⟩
 obtain ⟨aK, eaK⟩ : ∃ a, p.aK = a := ⟨_, rfl⟩
 obtain ⟨nY, eY⟩ : ∃ n, s.bays.length = n := ⟨_, rfl⟩
 obtain ⟨nB, eB⟩ : ∃ n, s.buses.length = n := ⟨_, rfl⟩
 rw [eaY, eY, eB] at SC
 rw [eaY, eaK, eY, eB] at PC CL
 rw [eY] at GI
 rw [eB] at GZ
 rw [eaY] at HAY
 rw [eB] at GL hB ⊢
 rw [eY] at hY ⊢
 rw [eaY, eaK]
 generalize grI s p = gI at GI ⊢
 have EB := hh eB
 have EY := hh eY
 have y0 : (0 : Int) ≤ (nY : Int) := by omega
 have b0 : (0 : Int) ≤ (nB : Int) := by omega
 clear hs hp h1 h2 hok eaY eaK eY eB
 go_enter Tryz.func73, Tryz.ntmps73
 go_wp2_with (first | (go_at_call 30; (with_reducible refine (SC.o _ Q.i).q ?_); intro k0) | (go_at_call 12; (with_reducible refine (PC.o _ Q.i).q ?_); intro k0') | fail)
 go_loopw [32] (fun i wr => ∃ (k : Nat) (A : Option Addr) (c : Nat), i = .int .i64 k ∧ k ≤ nB ∧ Q ((((((w.alloc (Obj.cells #[Value.string s.nm, Value.slice s.aB nB s.cB, Value.slice s.aL s.lines.length s.cL, Value.slice s.aS s.srcs.length s.cS, Value.slice aY nY s.cY] 27)).alloc (Obj.cells #[Value.slice p.aC p.closed.length p.cC, Value.slice aK p.rows.length p.cK] 31)).alloc (Obj.cells #[Value.string ByteArray.empty, Value.slice none 0 0, Value.slice none 0 0, Value.slice none 0 0, Value.slice none 0 0, Value.slice none 0 0, Value.slice none 0 0, Value.slice none 0 0] 150)).jk k0).jk k0').alloc (Obj.cells #[Value.string s.nm, Value.slice s.aB nB s.cB, Value.slice s.aL s.lines.length s.cL, Value.slice s.aS s.srcs.length s.cS, Value.slice aY nY s.cY, Value.slice p.aC p.closed.length p.cC, Value.slice aK p.rows.length p.cK, (Value.slice A k c)] 150)) wr ∧ Hid (RowI ((((((w.alloc (Obj.cells #[Value.string s.nm, Value.slice s.aB nB s.cB, Value.slice s.aL s.lines.length s.cL, Value.slice s.aS s.srcs.length s.cS, Value.slice aY nY s.cY] 27)).alloc (Obj.cells #[Value.slice p.aC p.closed.length p.cC, Value.slice aK p.rows.length p.cK] 31)).alloc (Obj.cells #[Value.string ByteArray.empty, Value.slice none 0 0, Value.slice none 0 0, Value.slice none 0 0, Value.slice none 0 0, Value.slice none 0 0, Value.slice none 0 0, Value.slice none 0 0] 150)).jk k0).jk k0').alloc (Obj.cells #[Value.string s.nm, Value.slice s.aB nB s.cB, Value.slice s.aL s.lines.length s.cL, Value.slice s.aS s.srcs.length s.cS, Value.slice aY nY s.cY, Value.slice p.aC p.closed.length p.cC, Value.slice aK p.rows.length p.cK, (Value.slice A k c)] 150)) wr (.slice A k c) ((List.range k).map Int.ofNat))) (fun i _ => nB - (intOf i).toNat)
 case atStart => exact ⟨0, none, 0, rfl, Nat.zero_le _, (by repeat' (first | exact Q.refl _ | refine Q.alloc ?_ _ | refine Q.jk ?_ _ | refine Q.drew ?_)), hh (RowI.nil _ _)⟩
 case round =>
  obtain ⟨k, A, c, rfl, hk, ⟨kk, rfl⟩, HR⟩ := hrel
  by_cases hlt : k < nB
  ·have k00 : (0 : Int) ≤ (k : Int) := by omega
   have k01 : (k : Int) < (nB : Int) := by omega
   have ER : Hid ((List.range (k + 1)).map Int.ofNat = (List.range k).map Int.ofNat ++ [(k : Int)]) := hh (by rw [List.range_succ, List.map_append]; rfl)
   have LR : Hid (((List.range k).map Int.ofNat).length = k) := hh (by simp)
   generalize (List.range k).map Int.ofNat = l at HR ER LR
   go_wp2_with (first | (at_builtin; refine wpList_app_int rfl _ _ rfl ((((((w.alloc (Obj.cells #[Value.string s.nm, Value.slice s.aB nB s.cB, Value.slice s.aL s.lines.length s.cL, Value.slice s.aS s.srcs.length s.cS, Value.slice aY nY s.cY] 27)).alloc (Obj.cells #[Value.slice p.aC p.closed.length p.cC, Value.slice aK p.rows.length p.cK] 31)).alloc (Obj.cells #[Value.string ByteArray.empty, Value.slice none 0 0, Value.slice none 0 0, Value.slice none 0 0, Value.slice none 0 0, Value.slice none 0 0, Value.slice none 0 0, Value.slice none 0 0] 150)).jk k0).jk k0').alloc (Obj.cells #[Value.string s.nm, Value.slice s.aB nB s.cB, Value.slice s.aL s.lines.length s.cL, Value.slice s.aS s.srcs.length s.cS, Value.slice aY nY s.cY, Value.slice p.aC p.closed.length p.cC, Value.slice aK p.rows.length p.cK, (Value.slice A k c)] 150)) (.slice A k c) l (k : Int) _ rfl rfl (HR.o.q Q.i) (by simp [go_sem, World.size_jk]) (by rw [LR.o]; omega) Q.i ?_; intro v' kx hri hgr; obtain ⟨A', c', rfl⟩ := own_slice' hri; rw [show (l ++ [(k : Int)]).length = k + 1 by rw [List.length_append, LR.o]; rfl] at hri ⊢) | fail)
   go_roundw
   case rel =>
    exact ⟨k + 1, A', c', by go_num, by omega, Q.i, hh (by rw [ER.o]; exact own_swap (by simp) hri)⟩
   case measure => simp [intOf] <;> omega
  obtain rfl : nB = k := by omega
  have HG0 : Hid (RowI ((((((w.alloc (Obj.cells #[Value.string s.nm, Value.slice s.aB nB s.cB, Value.slice s.aL s.lines.length s.cL, Value.slice s.aS s.srcs.length s.cS, Value.slice aY nY s.cY] 27)).alloc (Obj.cells #[Value.slice p.aC p.closed.length p.cC, Value.slice aK p.rows.length p.cK] 31)).alloc (Obj.cells #[Value.string ByteArray.empty, Value.slice none 0 0, Value.slice none 0 0, Value.slice none 0 0, Value.slice none 0 0, Value.slice none 0 0, Value.slice none 0 0, Value.slice none 0 0] 150)).jk k0).jk k0').alloc (Obj.cells #[Value.string s.nm, Value.slice s.aB nB s.cB, Value.slice s.aL s.lines.length s.cL, Value.slice s.aS s.srcs.length s.cS, Value.slice aY nY s.cY, Value.slice p.aC p.closed.length p.cC, Value.slice aK p.rows.length p.cK, (Value.slice A nB c)] 150)) (((((((w.alloc (Obj.cells #[Value.string s.nm, Value.slice s.aB nB s.cB, Value.slice s.aL s.lines.length s.cL, Value.slice s.aS s.srcs.length s.cS, Value.slice aY nY s.cY] 27)).alloc (Obj.cells #[Value.slice p.aC p.closed.length p.cC, Value.slice aK p.rows.length p.cK] 31)).alloc (Obj.cells #[Value.string ByteArray.empty, Value.slice none 0 0, Value.slice none 0 0, Value.slice none 0 0, Value.slice none 0 0, Value.slice none 0 0, Value.slice none 0 0, Value.slice none 0 0] 150)).jk k0).jk k0').alloc (Obj.cells #[Value.string s.nm, Value.slice s.aB nB s.cB, Value.slice s.aL s.lines.length s.cL, Value.slice s.aS s.srcs.length s.cS, Value.slice aY nY s.cY, Value.slice p.aC p.closed.length p.cC, Value.slice aK p.rows.length p.cK, (Value.slice A nB c)] 150)).jk kk) (.slice A nB c) (grF s p 0)) := hh (by rw [GZ.o]; exact HR.o)
  clear HR hlt hk
  go_wp2_with fail
  go_loopw [45] (fun i wr => ∃ k : Nat, i = .int .i64 k ∧ k ≤ nY ∧ Q ((((((w.alloc (Obj.cells #[Value.string s.nm, Value.slice s.aB nB s.cB, Value.slice s.aL s.lines.length s.cL, Value.slice s.aS s.srcs.length s.cS, Value.slice aY nY s.cY] 27)).alloc (Obj.cells #[Value.slice p.aC p.closed.length p.cC, Value.slice aK p.rows.length p.cK] 31)).alloc (Obj.cells #[Value.string ByteArray.empty, Value.slice none 0 0, Value.slice none 0 0, Value.slice none 0 0, Value.slice none 0 0, Value.slice none 0 0, Value.slice none 0 0, Value.slice none 0 0] 150)).jk k0).jk k0').alloc (Obj.cells #[Value.string s.nm, Value.slice s.aB nB s.cB, Value.slice s.aL s.lines.length s.cL, Value.slice s.aS s.srcs.length s.cS, Value.slice aY nY s.cY, Value.slice p.aC p.closed.length p.cC, Value.slice aK p.rows.length p.cK, (Value.slice A nB c)] 150)) wr ∧ Hid (RowI ((((((w.alloc (Obj.cells #[Value.string s.nm, Value.slice s.aB nB s.cB, Value.slice s.aL s.lines.length s.cL, Value.slice s.aS s.srcs.length s.cS, Value.slice aY nY s.cY] 27)).alloc (Obj.cells #[Value.slice p.aC p.closed.length p.cC, Value.slice aK p.rows.length p.cK] 31)).alloc (Obj.cells #[Value.string ByteArray.empty, Value.slice none 0 0, Value.slice none 0 0, Value.slice none 0 0, Value.slice none 0 0, Value.slice none 0 0, Value.slice none 0 0, Value.slice none 0 0] 150)).jk k0).jk k0').alloc (Obj.cells #[Value.string s.nm, Value.slice s.aB nB s.cB, Value.slice s.aL s.lines.length s.cL, Value.slice s.aS s.srcs.length s.cS, Value.slice aY nY s.cY, Value.slice p.aC p.closed.length p.cC, Value.slice aK p.rows.length p.cK, (Value.slice A nB c)] 150)) wr (.slice A nB c) (grF s p k))) (fun i _ => nY - (intOf i).toNat)
  case atStart => exact ⟨0, rfl, Nat.zero_le _, (by repeat' (first | exact Q.refl _ | refine Q.alloc ?_ _ | refine Q.jk ?_ _ | refine Q.drew ?_)), HG0⟩
  case round =>
   obtain ⟨k, rfl, hk, ⟨kk2, rfl⟩, HR⟩ := hrel
   by_cases hlt : k < nY
   rotate_left
   ·obtain rfl : nY = k := by omega
    have HGI : Hid (RowI ((((((w.alloc (Obj.cells #[Value.string s.nm, Value.slice s.aB nB s.cB, Value.slice s.aL s.lines.length s.cL, Value.slice s.aS s.srcs.length s.cS, Value.slice aY nY s.cY] 27)).alloc (Obj.cells #[Value.slice p.aC p.closed.length p.cC, Value.slice aK p.rows.length p.cK] 31)).alloc (Obj.cells #[Value.string ByteArray.empty, Value.slice none 0 0, Value.slice none 0 0, Value.slice none 0 0, Value.slice none 0 0, Value.slice none 0 0, Value.slice none 0 0, Value.slice none 0 0] 150)).jk k0).jk k0').alloc (Obj.cells #[Value.string s.nm, Value.slice s.aB nB s.cB, Value.slice s.aL s.lines.length s.cL, Value.slice s.aS s.srcs.length s.cS, Value.slice aY nY s.cY, Value.slice p.aC p.closed.length p.cC, Value.slice aK p.rows.length p.cK, (Value.slice A nB c)] 150)) (((((((w.alloc (Obj.cells #[Value.string s.nm, Value.slice s.aB nB s.cB, Value.slice s.aL s.lines.length s.cL, Value.slice s.aS s.srcs.length s.cS, Value.slice aY nY s.cY] 27)).alloc (Obj.cells #[Value.slice p.aC p.closed.length p.cC, Value.slice aK p.rows.length p.cK] 31)).alloc (Obj.cells #[Value.string ByteArray.empty, Value.slice none 0 0, Value.slice none 0 0, Value.slice none 0 0, Value.slice none 0 0, Value.slice none 0 0, Value.slice none 0 0, Value.slice none 0 0] 150)).jk k0).jk k0').alloc (Obj.cells #[Value.string s.nm, Value.slice s.aB nB s.cB, Value.slice s.aL s.lines.length s.cL, Value.slice s.aS s.srcs.length s.cS, Value.slice aY nY s.cY, Value.slice p.aC p.closed.length p.cC, Value.slice aK p.rows.length p.cK, (Value.slice A nB c)] 150)).jk kk2) (.slice A nB c) gI) := hh (by rw [GI.o]; exact HR.o)
    clear HR
    have HFIN : Hid (RowI w (((((((w.alloc (Obj.cells #[Value.string s.nm, Value.slice s.aB nB s.cB, Value.slice s.aL s.lines.length s.cL, Value.slice s.aS s.srcs.length s.cS, Value.slice aY nY s.cY] 27)).alloc (Obj.cells #[Value.slice p.aC p.closed.length p.cC, Value.slice aK p.rows.length p.cK] 31)).alloc (Obj.cells #[Value.string s.nm, Value.slice s.aB nB s.cB, Value.slice s.aL s.lines.length s.cL, Value.slice s.aS s.srcs.length s.cS, Value.slice aY nY s.cY, Value.slice p.aC p.closed.length p.cC, Value.slice aK p.rows.length p.cK, (Value.slice A nB c)] 150)).jk k0).jk k0').alloc (Obj.cells #[Value.string s.nm, Value.slice s.aB nB s.cB, Value.slice s.aL s.lines.length s.cL, Value.slice s.aS s.srcs.length s.cS, Value.slice aY nY s.cY, Value.slice p.aC p.closed.length p.cC, Value.slice aK p.rows.length p.cK, (Value.slice A nB c)] 150)).jk kk2) (.slice A nB c) gI) := hh (RowI.low (own_swap (W' := ((((((w.alloc (Obj.cells #[Value.string s.nm, Value.slice s.aB nB s.cB, Value.slice s.aL s.lines.length s.cL, Value.slice s.aS s.srcs.length s.cS, Value.slice aY nY s.cY] 27)).alloc (Obj.cells #[Value.slice p.aC p.closed.length p.cC, Value.slice aK p.rows.length p.cK] 31)).alloc (Obj.cells #[Value.string s.nm, Value.slice s.aB nB s.cB, Value.slice s.aL s.lines.length s.cL, Value.slice s.aS s.srcs.length s.cS, Value.slice aY nY s.cY, Value.slice p.aC p.closed.length p.cC, Value.slice aK p.rows.length p.cK, (Value.slice A nB c)] 150)).jk k0).jk k0').alloc (Obj.cells #[Value.string s.nm, Value.slice s.aB nB s.cB, Value.slice s.aL s.lines.length s.cL, Value.slice s.aS s.srcs.length s.cS, Value.slice aY nY s.cY, Value.slice p.aC p.closed.length p.cC, Value.slice aK p.rows.length p.cK, (Value.slice A nB c)] 150))) (by simp [World.size_jk]) HGI.o) Q.i)
    go_wp2_with fail
    refine bodyPost_ret (v := .tuple #[.agg #[Value.string s.nm, Value.slice s.aB nB s.cB, Value.slice s.aL s.lines.length s.cL, Value.slice s.aS s.srcs.length s.cS, Value.slice aY nY s.cY, Value.slice p.aC p.closed.length p.cC, Value.slice aK p.rows.length p.cK, (Value.slice A nB c)], .bool true]) (by simp [results, Tryz.results73, go_sem]) rfl ⟨A, c, rfl, Q.i, HFIN.o⟩
   obtain ⟨y, hy⟩ : ∃ y, s.bays[k]? = some y := ⟨_, List.getElem?_eq_getElem (by rw [EY.o]; exact hlt)⟩
   obtain ⟨g, o, rfl, og, hc⟩ := HAY.o k y hy
   obtain ⟨q0, q1, q2, q3, q4, q5, q6, q7, q8, q9, q10, q11⟩ := by12 hc
   have hok := HOK.o k y hy
   have hlk := (HLK.o k y hy).1
   have hln := hlk.2
   obtain ⟨r, hr, hrl⟩ := hok.row
   obtain ⟨g2, o2, eL, og2, hc2⟩ := hlk.at_ (by rcases hok.ln with h | h <;> omega)
   rw [eL] at q6
   have k00 : (0 : Int) ≤ (k : Int) := by omega
   have k01 : (k : Int) < (nY : Int) := by omega
   have EQ0 := hh (GS.o k y hy)
   have ET0 := hh fun l0 l1 => GT.o k y l0 l1 hy
   have hbus := hok.bus
   rw [EB.o] at hbus
   generalize s.lks k = lk at hln hrl hbus hc2 ET0
   have CL2 : Hid (∀ w', Q w w' → ∀ (j : Nat), j < y.ln → _) := hh fun w' hq j hj => CL.o w' hq k j r A nB c hr (by rw [hrl, hln]; exact hj)
   clear hok hlk hc hr hy eL
   by_cases h3 : y.kd = 3
   ·have e3 : (y.kd == 3) = true := by simpa using h3
    have EQ : Hid (grF s p (k + 1) = grF s p k) := hh (EQ0.o (.inl h3))
    clear EQ0 ET0 h3 CL2
    go_wp2_with fail
    go_roundw
    case rel => exact ⟨k + 1, by go_num, by omega, Q.i, hh (by rw [EQ.o]; exact HR.o.q Q.i)⟩
    case measure => simp [intOf] <;> omega
   have e3 : (y.kd == 3) = false := by simpa using h3
   by_cases h4 : y.ln = 2
   rotate_left
   ·have e4 : ((y.ln : Int) != 2) = true := by rw [bne_iff_ne]; omega
    have EQ : Hid (grF s p (k + 1) = grF s p k) := hh (EQ0.o (.inr (.inl h4)))
    clear EQ0 ET0 h3 h4 CL2 hln hrl hc2 hbus
    go_wp2_with fail
    go_roundw
    case rel => exact ⟨k + 1, by go_num, by omega, Q.i, hh (by rw [EQ.o]; exact HR.o.q Q.i)⟩
    case measure => simp [intOf] <;> omega
   obtain ⟨l0, l1, rfl⟩ : ∃ l0 l1, lk = [l0, l1] := by
    match lk, hln.trans h4 with
    | [l0, l1], _ => exact ⟨l0, l1, rfl⟩
   have C0 : Hid (∀ w', Q w w' → Calls Tryz.prog 107 #[.agg #[Value.string s.nm, Value.slice s.aB nB s.cB, Value.slice s.aL s.lines.length s.cL, Value.slice s.aS s.srcs.length s.cS, Value.slice (some ⟨g, o, none⟩) nY s.cY, Value.slice p.aC p.closed.length p.cC, Value.slice aK p.rows.length p.cK, (Value.slice A nB c)], .int .i64 k, .int .i64 0] w' fun e w'' => e = .returned (.bool (clB p k 0)) ∧ Q w' w'') := hh fun w' hq => CL2.o w' hq 0 (by omega)
   have C1 : Hid (∀ w', Q w w' → Calls Tryz.prog 107 #[.agg #[Value.string s.nm, Value.slice s.aB nB s.cB, Value.slice s.aL s.lines.length s.cL, Value.slice s.aS s.srcs.length s.cS, Value.slice (some ⟨g, o, none⟩) nY s.cY, Value.slice p.aC p.closed.length p.cC, Value.slice aK p.rows.length p.cK, (Value.slice A nB c)], .int .i64 k, .int .i64 1] w' fun e w'' => e = .returned (.bool (clB p k 1)) ∧ Q w' w'') := hh fun w' hq => CL2.o w' hq 1 (by omega)
   generalize hlny : y.ln = ln at *
   subst h4
   cases hp0 : clB p k 0 with
   | false =>
    have EQ : Hid (grF s p (k + 1) = grF s p k) := hh (EQ0.o (.inr (.inr (.inl hp0))))
    rw [hp0] at C0
    clear EQ0 ET0 h3 CL2 hlny hc2 hbus hln hrl hp0
    go_wp2_with (first | (go_at_call 107; (with_reducible refine (C0.o _ Q.i).q ?_); intro kc) | (go_at_call 107; (with_reducible refine (C1.o _ Q.i).q ?_); intro kc1) | fail)
    go_roundw
    case rel => exact ⟨k + 1, by go_num, by omega, Q.i, hh (by rw [EQ.o]; exact HR.o.q Q.i)⟩
    case measure => simp [intOf] <;> omega
   | true =>
    cases hp1 : clB p k 1 with
    | false =>
     have EQ : Hid (grF s p (k + 1) = grF s p k) := hh (EQ0.o (.inr (.inr (.inr hp1))))
     rw [hp0] at C0
     rw [hp1] at C1
     clear EQ0 ET0 h3 CL2 hlny hc2 hbus hln hrl hp0 hp1
     go_wp2_with (first | (go_at_call 107; (with_reducible refine (C0.o _ Q.i).q ?_); intro kc) | (go_at_call 107; (with_reducible refine (C1.o _ Q.i).q ?_); intro kc1) | fail)
     go_roundw
     case rel => exact ⟨k + 1, by go_num, by omega, Q.i, hh (by rw [EQ.o]; exact HR.o.q Q.i)⟩
     case measure => simp [intOf] <;> omega
    | true =>
     have EQ := hh (ET0.o l0 l1 rfl h3 hp0 hp1)
     rw [hp0] at C0
     rw [hp1] at C1
     obtain ⟨a1, a2⟩ := hc2.o 0 l0 rfl
     obtain ⟨d1, d2⟩ := hc2.o 1 l1 rfl
     rw [Nat.zero_mul, Nat.add_zero] at a1 a2
     rw [Nat.one_mul] at d1 d2
     obtain ⟨hb1, hb2⟩ := hbus l0 (by simp)
     obtain ⟨hb3, hb4⟩ := hbus l1 (by simp)
     have LG := hh (GL.o k)
     unfold busN at EQ
     obtain ⟨bus0, pos0⟩ := l0
     obtain ⟨bus1, pos1⟩ := l1
     dsimp only at a1 a2 d1 d2 hb1 hb2 hb3 hb4 EQ
     obtain ⟨b0, rfl⟩ := Int.eq_ofNat_of_zero_le hb1
     obtain ⟨b1, rfl⟩ := Int.eq_ofNat_of_zero_le hb3
     rw [Int.toNat_natCast, Int.toNat_natCast] at EQ
     obtain ⟨gG, rfl, hgG, hcG⟩ := rowI_win HR.o LG.o (by omega)
     generalize grF s p k = gl at HR EQ LG hcG
     have x1 := (hcG.o b0 (by omega)).1
     have x2 := (hcG.o b1 (by omega)).1
     have oG : Old gG (((((((w.alloc (Obj.cells #[Value.string s.nm, Value.slice s.aB nB s.cB, Value.slice s.aL s.lines.length s.cL, Value.slice s.aS s.srcs.length s.cS, Value.slice (some ⟨g, o, none⟩) nY s.cY] 27)).alloc (Obj.cells #[Value.slice p.aC p.closed.length p.cC, Value.slice aK p.rows.length p.cK] 31)).alloc (Obj.cells #[Value.string ByteArray.empty, Value.slice none 0 0, Value.slice none 0 0, Value.slice none 0 0, Value.slice none 0 0, Value.slice none 0 0, Value.slice none 0 0, Value.slice none 0 0] 150)).jk k0).jk k0').alloc (Obj.cells #[Value.string s.nm, Value.slice s.aB nB s.cB, Value.slice s.aL s.lines.length s.cL, Value.slice s.aS s.srcs.length s.cS, Value.slice (some ⟨g, o, none⟩) nY s.cY, Value.slice p.aC p.closed.length p.cC, Value.slice aK p.rows.length p.cK, (Value.slice (some ⟨gG, 0, none⟩) nB c)] 150)).jk kk2) := ⟨World.block_lt_of_cell? _ _ x1⟩
     generalize gl.getD b0 0 = xx at EQ x1
     generalize gl.getD b1 0 = xy at EQ x2
     clear EQ0 ET0 h3 CL2 hlny hc2 hbus hln hrl hp0 hp1 hcG
     have ELN := hlt
     clear hlt
     rcases Int.lt_trichotomy xx xy with hlt | rfl | hlt
     ·rw [lowF_lt hlt] at EQ
      go_wp2_with (first | (go_at_call 107; (with_reducible refine (C0.o _ Q.i).q ?_); intro kc) | (go_at_call 107; (with_reducible refine (C1.o _ Q.i).q ?_); intro kc1) | fail)
      refine wrj (by kernel_rfl) ?_
      repeat (go_big_quiet_step (fail))
      refine wq0 fun kq => ?_
      go_wp2_with fail
      go_loopw [98] (fun i wr => ∃ j : Nat, i = .int .i64 j ∧ j ≤ nB ∧ Q ((((((w.alloc (Obj.cells #[Value.string s.nm, Value.slice s.aB nB s.cB, Value.slice s.aL s.lines.length s.cL, Value.slice s.aS s.srcs.length s.cS, Value.slice (some ⟨g, o, none⟩) nY s.cY] 27)).alloc (Obj.cells #[Value.slice p.aC p.closed.length p.cC, Value.slice aK p.rows.length p.cK] 31)).alloc (Obj.cells #[Value.string ByteArray.empty, Value.slice none 0 0, Value.slice none 0 0, Value.slice none 0 0, Value.slice none 0 0, Value.slice none 0 0, Value.slice none 0 0, Value.slice none 0 0] 150)).jk k0).jk k0').alloc (Obj.cells #[Value.string s.nm, Value.slice s.aB nB s.cB, Value.slice s.aL s.lines.length s.cL, Value.slice s.aS s.srcs.length s.cS, Value.slice (some ⟨g, o, none⟩) nY s.cY, Value.slice p.aC p.closed.length p.cC, Value.slice aK p.rows.length p.cK, (Value.slice (some ⟨gG, 0, none⟩) nB c)] 150)) wr ∧ Hid (RowI ((((((w.alloc (Obj.cells #[Value.string s.nm, Value.slice s.aB nB s.cB, Value.slice s.aL s.lines.length s.cL, Value.slice s.aS s.srcs.length s.cS, Value.slice (some ⟨g, o, none⟩) nY s.cY] 27)).alloc (Obj.cells #[Value.slice p.aC p.closed.length p.cC, Value.slice aK p.rows.length p.cK] 31)).alloc (Obj.cells #[Value.string ByteArray.empty, Value.slice none 0 0, Value.slice none 0 0, Value.slice none 0 0, Value.slice none 0 0, Value.slice none 0 0, Value.slice none 0 0, Value.slice none 0 0] 150)).jk k0).jk k0').alloc (Obj.cells #[Value.string s.nm, Value.slice s.aB nB s.cB, Value.slice s.aL s.lines.length s.cL, Value.slice s.aS s.srcs.length s.cS, Value.slice (some ⟨g, o, none⟩) nY s.cY, Value.slice p.aC p.closed.length p.cC, Value.slice aK p.rows.length p.cK, (Value.slice (some ⟨gG, 0, none⟩) nB c)] 150)) wr (.slice (some ⟨gG, 0, none⟩) nB c) (mixL (repF xy xx) gl j))) (fun i _ => nB - (intOf i).toNat)
      case atStart => exact ⟨0, rfl, Nat.zero_le _, (by repeat' (first | exact Q.refl _ | refine Q.alloc ?_ _ | refine Q.jk ?_ _ | refine Q.drew ?_)), hh (by rw [mixL_zero]; exact HR.o.q (by repeat' (first | exact Q.refl _ | refine Q.alloc ?_ _ | refine Q.jk ?_ _ | refine Q.drew ?_)))⟩
      case round =>
       obtain ⟨j, rfl, hj, ⟨k3, rfl⟩, HM⟩ := hrel
       by_cases hlj : j < nB
       rotate_left
       ·obtain rfl : nB = j := by omega
        have HO9 : Hid (RowI ((((((w.alloc (Obj.cells #[Value.string s.nm, Value.slice s.aB nB s.cB, Value.slice s.aL s.lines.length s.cL, Value.slice s.aS s.srcs.length s.cS, Value.slice (some ⟨g, o, none⟩) nY s.cY] 27)).alloc (Obj.cells #[Value.slice p.aC p.closed.length p.cC, Value.slice aK p.rows.length p.cK] 31)).alloc (Obj.cells #[Value.string ByteArray.empty, Value.slice none 0 0, Value.slice none 0 0, Value.slice none 0 0, Value.slice none 0 0, Value.slice none 0 0, Value.slice none 0 0, Value.slice none 0 0] 150)).jk k0).jk k0').alloc (Obj.cells #[Value.string s.nm, Value.slice s.aB nB s.cB, Value.slice s.aL s.lines.length s.cL, Value.slice s.aS s.srcs.length s.cS, Value.slice (some ⟨g, o, none⟩) nY s.cY, Value.slice p.aC p.closed.length p.cC, Value.slice aK p.rows.length p.cK, (Value.slice (some ⟨gG, 0, none⟩) nB c)] 150)) (((((((w.alloc (Obj.cells #[Value.string s.nm, Value.slice s.aB nB s.cB, Value.slice s.aL s.lines.length s.cL, Value.slice s.aS s.srcs.length s.cS, Value.slice (some ⟨g, o, none⟩) nY s.cY] 27)).alloc (Obj.cells #[Value.slice p.aC p.closed.length p.cC, Value.slice aK p.rows.length p.cK] 31)).alloc (Obj.cells #[Value.string ByteArray.empty, Value.slice none 0 0, Value.slice none 0 0, Value.slice none 0 0, Value.slice none 0 0, Value.slice none 0 0, Value.slice none 0 0, Value.slice none 0 0] 150)).jk k0).jk k0').alloc (Obj.cells #[Value.string s.nm, Value.slice s.aB nB s.cB, Value.slice s.aL s.lines.length s.cL, Value.slice s.aS s.srcs.length s.cS, Value.slice (some ⟨g, o, none⟩) nY s.cY, Value.slice p.aC p.closed.length p.cC, Value.slice aK p.rows.length p.cK, (Value.slice (some ⟨gG, 0, none⟩) nB c)] 150)).jk k3) (.slice (some ⟨gG, 0, none⟩) nB c) (grF s p (k + 1))) := hh (by rw [EQ.o, ← mixL_all (repF xy xx) gl LG.o]; exact HM.o)
        clear HM hlj hj
        go_wp2_with fail
        go_roundw
        case rel => exact ⟨k + 1, by go_num, by have := ELN; omega, Q.i, HO9⟩
        case measure => simp [intOf] <;> omega
       have hjr : j < gl.length := by rw [LG.o]; exact hlj
       obtain ⟨g8, e8, hg8, hc8⟩ := rowI_win HM.o (by rw [mixL_len _ _ _ (by omega), LG.o]) (by omega)
       injection e8 with e8
       injection e8 with e8
       subst e8
       have x3 := (hc8.o j hlj).1
       have x4 := (hc8.o j hlj).2
       rw [mixL_getD _ _ _ hjr] at x3
       have j0 : (0 : Int) ≤ (j : Int) := by omega
       have j1 : (j : Int) < (nB : Int) := by omega
       have MS := hh (mixL_set (repF xy xx) gl j hjr)
       have MN := hh (mixL_same (repF xy xx) gl j hjr)
       have LM : Hid ((mixL (repF xy xx) gl j).length = nB) := hh (by rw [mixL_len _ _ _ (by omega), LG.o])
       generalize gl.getD j 0 = x at x3 MS MN
       have o8 : Old gG (((((((w.alloc (Obj.cells #[Value.string s.nm, Value.slice s.aB nB s.cB, Value.slice s.aL s.lines.length s.cL, Value.slice s.aS s.srcs.length s.cS, Value.slice (some ⟨g, o, none⟩) nY s.cY] 27)).alloc (Obj.cells #[Value.slice p.aC p.closed.length p.cC, Value.slice aK p.rows.length p.cK] 31)).alloc (Obj.cells #[Value.string ByteArray.empty, Value.slice none 0 0, Value.slice none 0 0, Value.slice none 0 0, Value.slice none 0 0, Value.slice none 0 0, Value.slice none 0 0, Value.slice none 0 0] 150)).jk k0).jk k0').alloc (Obj.cells #[Value.string s.nm, Value.slice s.aB nB s.cB, Value.slice s.aL s.lines.length s.cL, Value.slice s.aS s.srcs.length s.cS, Value.slice (some ⟨g, o, none⟩) nY s.cY, Value.slice p.aC p.closed.length p.cC, Value.slice aK p.rows.length p.cK, (Value.slice (some ⟨gG, 0, none⟩) nB c)] 150)).jk k3) := ⟨World.block_lt_of_cell? _ _ x3⟩
       have HG8 := hh hg8
       clear hjr hc8 hg8
       by_cases hx : x = xy
       ·have hx' : (x == xy) = true := by simpa using hx
        have ME : Hid ((mixL (repF xy xx) gl j).set j xx = mixL (repF xy xx) gl (j + 1)) := hh (by rw [← MS.o, repF, if_pos hx])
        clear hx MN MS
        go_wp2_with fail
        go_roundw
        case rel =>
         exact ⟨j + 1, by go_num, by omega, (Q.refl _).jk k3 |>.setCell HG8.o _, hh (by rw [← ME.o]; exact rowI_set HM.o LM.o j _)⟩
        case measure => simp [intOf] <;> omega
       have hx' : (x == xy) = false := by simpa using hx
       have ME : Hid (mixL (repF xy xx) gl j = mixL (repF xy xx) gl (j + 1)) := hh (MN.o (if_neg hx))
       clear hx MN MS
       go_wp2_with fail
       go_roundw
       case rel =>
        exact ⟨j + 1, by go_num, by omega, (Q.refl _).jk k3, hh (by rw [← ME.o]; exact HM.o)⟩
       case measure => simp [intOf] <;> omega
     ·rw [lowF_eq] at EQ
      go_wp2_with (first | (go_at_call 107; (with_reducible refine (C0.o _ Q.i).q ?_); intro kc) | (go_at_call 107; (with_reducible refine (C1.o _ Q.i).q ?_); intro kc1) | fail)
      refine wrj (by kernel_rfl) ?_
      repeat (go_big_quiet_step (fail))
      refine wq0 fun kq => ?_
      go_wp2_with fail
      go_loopw [98] (fun i wr => ∃ j : Nat, i = .int .i64 j ∧ j ≤ nB ∧ Q ((((((w.alloc (Obj.cells #[Value.string s.nm, Value.slice s.aB nB s.cB, Value.slice s.aL s.lines.length s.cL, Value.slice s.aS s.srcs.length s.cS, Value.slice (some ⟨g, o, none⟩) nY s.cY] 27)).alloc (Obj.cells #[Value.slice p.aC p.closed.length p.cC, Value.slice aK p.rows.length p.cK] 31)).alloc (Obj.cells #[Value.string ByteArray.empty, Value.slice none 0 0, Value.slice none 0 0, Value.slice none 0 0, Value.slice none 0 0, Value.slice none 0 0, Value.slice none 0 0, Value.slice none 0 0] 150)).jk k0).jk k0').alloc (Obj.cells #[Value.string s.nm, Value.slice s.aB nB s.cB, Value.slice s.aL s.lines.length s.cL, Value.slice s.aS s.srcs.length s.cS, Value.slice (some ⟨g, o, none⟩) nY s.cY, Value.slice p.aC p.closed.length p.cC, Value.slice aK p.rows.length p.cK, (Value.slice (some ⟨gG, 0, none⟩) nB c)] 150)) wr ∧ Hid (RowI ((((((w.alloc (Obj.cells #[Value.string s.nm, Value.slice s.aB nB s.cB, Value.slice s.aL s.lines.length s.cL, Value.slice s.aS s.srcs.length s.cS, Value.slice (some ⟨g, o, none⟩) nY s.cY] 27)).alloc (Obj.cells #[Value.slice p.aC p.closed.length p.cC, Value.slice aK p.rows.length p.cK] 31)).alloc (Obj.cells #[Value.string ByteArray.empty, Value.slice none 0 0, Value.slice none 0 0, Value.slice none 0 0, Value.slice none 0 0, Value.slice none 0 0, Value.slice none 0 0, Value.slice none 0 0] 150)).jk k0).jk k0').alloc (Obj.cells #[Value.string s.nm, Value.slice s.aB nB s.cB, Value.slice s.aL s.lines.length s.cL, Value.slice s.aS s.srcs.length s.cS, Value.slice (some ⟨g, o, none⟩) nY s.cY, Value.slice p.aC p.closed.length p.cC, Value.slice aK p.rows.length p.cK, (Value.slice (some ⟨gG, 0, none⟩) nB c)] 150)) wr (.slice (some ⟨gG, 0, none⟩) nB c) (mixL (repF xx xx) gl j))) (fun i _ => nB - (intOf i).toNat)
      case atStart => exact ⟨0, rfl, Nat.zero_le _, (by repeat' (first | exact Q.refl _ | refine Q.alloc ?_ _ | refine Q.jk ?_ _ | refine Q.drew ?_)), hh (by rw [mixL_zero]; exact HR.o.q (by repeat' (first | exact Q.refl _ | refine Q.alloc ?_ _ | refine Q.jk ?_ _ | refine Q.drew ?_)))⟩
      case round =>
       obtain ⟨j, rfl, hj, ⟨k3, rfl⟩, HM⟩ := hrel
       by_cases hlj : j < nB
       rotate_left
       ·obtain rfl : nB = j := by omega
        have HO9 : Hid (RowI ((((((w.alloc (Obj.cells #[Value.string s.nm, Value.slice s.aB nB s.cB, Value.slice s.aL s.lines.length s.cL, Value.slice s.aS s.srcs.length s.cS, Value.slice (some ⟨g, o, none⟩) nY s.cY] 27)).alloc (Obj.cells #[Value.slice p.aC p.closed.length p.cC, Value.slice aK p.rows.length p.cK] 31)).alloc (Obj.cells #[Value.string ByteArray.empty, Value.slice none 0 0, Value.slice none 0 0, Value.slice none 0 0, Value.slice none 0 0, Value.slice none 0 0, Value.slice none 0 0, Value.slice none 0 0] 150)).jk k0).jk k0').alloc (Obj.cells #[Value.string s.nm, Value.slice s.aB nB s.cB, Value.slice s.aL s.lines.length s.cL, Value.slice s.aS s.srcs.length s.cS, Value.slice (some ⟨g, o, none⟩) nY s.cY, Value.slice p.aC p.closed.length p.cC, Value.slice aK p.rows.length p.cK, (Value.slice (some ⟨gG, 0, none⟩) nB c)] 150)) (((((((w.alloc (Obj.cells #[Value.string s.nm, Value.slice s.aB nB s.cB, Value.slice s.aL s.lines.length s.cL, Value.slice s.aS s.srcs.length s.cS, Value.slice (some ⟨g, o, none⟩) nY s.cY] 27)).alloc (Obj.cells #[Value.slice p.aC p.closed.length p.cC, Value.slice aK p.rows.length p.cK] 31)).alloc (Obj.cells #[Value.string ByteArray.empty, Value.slice none 0 0, Value.slice none 0 0, Value.slice none 0 0, Value.slice none 0 0, Value.slice none 0 0, Value.slice none 0 0, Value.slice none 0 0] 150)).jk k0).jk k0').alloc (Obj.cells #[Value.string s.nm, Value.slice s.aB nB s.cB, Value.slice s.aL s.lines.length s.cL, Value.slice s.aS s.srcs.length s.cS, Value.slice (some ⟨g, o, none⟩) nY s.cY, Value.slice p.aC p.closed.length p.cC, Value.slice aK p.rows.length p.cK, (Value.slice (some ⟨gG, 0, none⟩) nB c)] 150)).jk k3) (.slice (some ⟨gG, 0, none⟩) nB c) (grF s p (k + 1))) := hh (by rw [EQ.o, ← mixL_all (repF xx xx) gl LG.o]; exact HM.o)
        clear HM hlj hj
        go_wp2_with fail
        go_roundw
        case rel => exact ⟨k + 1, by go_num, by have := ELN; omega, Q.i, HO9⟩
        case measure => simp [intOf] <;> omega
       have hjr : j < gl.length := by rw [LG.o]; exact hlj
       obtain ⟨g8, e8, hg8, hc8⟩ := rowI_win HM.o (by rw [mixL_len _ _ _ (by omega), LG.o]) (by omega)
       injection e8 with e8
       injection e8 with e8
       subst e8
       have x3 := (hc8.o j hlj).1
       have x4 := (hc8.o j hlj).2
       rw [mixL_getD _ _ _ hjr] at x3
       have j0 : (0 : Int) ≤ (j : Int) := by omega
       have j1 : (j : Int) < (nB : Int) := by omega
       have MS := hh (mixL_set (repF xx xx) gl j hjr)
       have MN := hh (mixL_same (repF xx xx) gl j hjr)
       have LM : Hid ((mixL (repF xx xx) gl j).length = nB) := hh (by rw [mixL_len _ _ _ (by omega), LG.o])
       generalize gl.getD j 0 = x at x3 MS MN
       have o8 : Old gG (((((((w.alloc (Obj.cells #[Value.string s.nm, Value.slice s.aB nB s.cB, Value.slice s.aL s.lines.length s.cL, Value.slice s.aS s.srcs.length s.cS, Value.slice (some ⟨g, o, none⟩) nY s.cY] 27)).alloc (Obj.cells #[Value.slice p.aC p.closed.length p.cC, Value.slice aK p.rows.length p.cK] 31)).alloc (Obj.cells #[Value.string ByteArray.empty, Value.slice none 0 0, Value.slice none 0 0, Value.slice none 0 0, Value.slice none 0 0, Value.slice none 0 0, Value.slice none 0 0, Value.slice none 0 0] 150)).jk k0).jk k0').alloc (Obj.cells #[Value.string s.nm, Value.slice s.aB nB s.cB, Value.slice s.aL s.lines.length s.cL, Value.slice s.aS s.srcs.length s.cS, Value.slice (some ⟨g, o, none⟩) nY s.cY, Value.slice p.aC p.closed.length p.cC, Value.slice aK p.rows.length p.cK, (Value.slice (some ⟨gG, 0, none⟩) nB c)] 150)).jk k3) := ⟨World.block_lt_of_cell? _ _ x3⟩
       have HG8 := hh hg8
       clear hjr hc8 hg8
       by_cases hx : x = xx
       ·have hx' : (x == xx) = true := by simpa using hx
        have ME : Hid ((mixL (repF xx xx) gl j).set j xx = mixL (repF xx xx) gl (j + 1)) := hh (by rw [← MS.o, repF, if_pos hx])
        clear hx MN MS
        go_wp2_with fail
        go_roundw
        case rel =>
         exact ⟨j + 1, by go_num, by omega, (Q.refl _).jk k3 |>.setCell HG8.o _, hh (by rw [← ME.o]; exact rowI_set HM.o LM.o j _)⟩
        case measure => simp [intOf] <;> omega
       have hx' : (x == xx) = false := by simpa using hx
       have ME : Hid (mixL (repF xx xx) gl j = mixL (repF xx xx) gl (j + 1)) := hh (MN.o (if_neg hx))
       clear hx MN MS
       go_wp2_with fail
       go_roundw
       case rel =>
        exact ⟨j + 1, by go_num, by omega, (Q.refl _).jk k3, hh (by rw [← ME.o]; exact HM.o)⟩
       case measure => simp [intOf] <;> omega
     rw [lowF_gt hlt] at EQ
     go_wp2_with (first | (go_at_call 107; (with_reducible refine (C0.o _ Q.i).q ?_); intro kc) | (go_at_call 107; (with_reducible refine (C1.o _ Q.i).q ?_); intro kc1) | fail)
     refine wrj (by kernel_rfl) ?_
     repeat (go_big_quiet_step (fail))
     refine wq0 fun kq => ?_
     go_wp2_with fail
     go_loopw [98] (fun i wr => ∃ j : Nat, i = .int .i64 j ∧ j ≤ nB ∧ Q ((((((w.alloc (Obj.cells #[Value.string s.nm, Value.slice s.aB nB s.cB, Value.slice s.aL s.lines.length s.cL, Value.slice s.aS s.srcs.length s.cS, Value.slice (some ⟨g, o, none⟩) nY s.cY] 27)).alloc (Obj.cells #[Value.slice p.aC p.closed.length p.cC, Value.slice aK p.rows.length p.cK] 31)).alloc (Obj.cells #[Value.string ByteArray.empty, Value.slice none 0 0, Value.slice none 0 0, Value.slice none 0 0, Value.slice none 0 0, Value.slice none 0 0, Value.slice none 0 0, Value.slice none 0 0] 150)).jk k0).jk k0').alloc (Obj.cells #[Value.string s.nm, Value.slice s.aB nB s.cB, Value.slice s.aL s.lines.length s.cL, Value.slice s.aS s.srcs.length s.cS, Value.slice (some ⟨g, o, none⟩) nY s.cY, Value.slice p.aC p.closed.length p.cC, Value.slice aK p.rows.length p.cK, (Value.slice (some ⟨gG, 0, none⟩) nB c)] 150)) wr ∧ Hid (RowI ((((((w.alloc (Obj.cells #[Value.string s.nm, Value.slice s.aB nB s.cB, Value.slice s.aL s.lines.length s.cL, Value.slice s.aS s.srcs.length s.cS, Value.slice (some ⟨g, o, none⟩) nY s.cY] 27)).alloc (Obj.cells #[Value.slice p.aC p.closed.length p.cC, Value.slice aK p.rows.length p.cK] 31)).alloc (Obj.cells #[Value.string ByteArray.empty, Value.slice none 0 0, Value.slice none 0 0, Value.slice none 0 0, Value.slice none 0 0, Value.slice none 0 0, Value.slice none 0 0, Value.slice none 0 0] 150)).jk k0).jk k0').alloc (Obj.cells #[Value.string s.nm, Value.slice s.aB nB s.cB, Value.slice s.aL s.lines.length s.cL, Value.slice s.aS s.srcs.length s.cS, Value.slice (some ⟨g, o, none⟩) nY s.cY, Value.slice p.aC p.closed.length p.cC, Value.slice aK p.rows.length p.cK, (Value.slice (some ⟨gG, 0, none⟩) nB c)] 150)) wr (.slice (some ⟨gG, 0, none⟩) nB c) (mixL (repF xx xy) gl j))) (fun i _ => nB - (intOf i).toNat)
     case atStart => exact ⟨0, rfl, Nat.zero_le _, (by repeat' (first | exact Q.refl _ | refine Q.alloc ?_ _ | refine Q.jk ?_ _ | refine Q.drew ?_)), hh (by rw [mixL_zero]; exact HR.o.q (by repeat' (first | exact Q.refl _ | refine Q.alloc ?_ _ | refine Q.jk ?_ _ | refine Q.drew ?_)))⟩
     case round =>
      obtain ⟨j, rfl, hj, ⟨k3, rfl⟩, HM⟩ := hrel
      by_cases hlj : j < nB
      rotate_left
      ·obtain rfl : nB = j := by omega
       have HO9 : Hid (RowI ((((((w.alloc (Obj.cells #[Value.string s.nm, Value.slice s.aB nB s.cB, Value.slice s.aL s.lines.length s.cL, Value.slice s.aS s.srcs.length s.cS, Value.slice (some ⟨g, o, none⟩) nY s.cY] 27)).alloc (Obj.cells #[Value.slice p.aC p.closed.length p.cC, Value.slice aK p.rows.length p.cK] 31)).alloc (Obj.cells #[Value.string ByteArray.empty, Value.slice none 0 0, Value.slice none 0 0, Value.slice none 0 0, Value.slice none 0 0, Value.slice none 0 0, Value.slice none 0 0, Value.slice none 0 0] 150)).jk k0).jk k0').alloc (Obj.cells #[Value.string s.nm, Value.slice s.aB nB s.cB, Value.slice s.aL s.lines.length s.cL, Value.slice s.aS s.srcs.length s.cS, Value.slice (some ⟨g, o, none⟩) nY s.cY, Value.slice p.aC p.closed.length p.cC, Value.slice aK p.rows.length p.cK, (Value.slice (some ⟨gG, 0, none⟩) nB c)] 150)) (((((((w.alloc (Obj.cells #[Value.string s.nm, Value.slice s.aB nB s.cB, Value.slice s.aL s.lines.length s.cL, Value.slice s.aS s.srcs.length s.cS, Value.slice (some ⟨g, o, none⟩) nY s.cY] 27)).alloc (Obj.cells #[Value.slice p.aC p.closed.length p.cC, Value.slice aK p.rows.length p.cK] 31)).alloc (Obj.cells #[Value.string ByteArray.empty, Value.slice none 0 0, Value.slice none 0 0, Value.slice none 0 0, Value.slice none 0 0, Value.slice none 0 0, Value.slice none 0 0, Value.slice none 0 0] 150)).jk k0).jk k0').alloc (Obj.cells #[Value.string s.nm, Value.slice s.aB nB s.cB, Value.slice s.aL s.lines.length s.cL, Value.slice s.aS s.srcs.length s.cS, Value.slice (some ⟨g, o, none⟩) nY s.cY, Value.slice p.aC p.closed.length p.cC, Value.slice aK p.rows.length p.cK, (Value.slice (some ⟨gG, 0, none⟩) nB c)] 150)).jk k3) (.slice (some ⟨gG, 0, none⟩) nB c) (grF s p (k + 1))) := hh (by rw [EQ.o, ← mixL_all (repF xx xy) gl LG.o]; exact HM.o)
       clear HM hlj hj
       go_wp2_with fail
       go_roundw
       case rel => exact ⟨k + 1, by go_num, by have := ELN; omega, Q.i, HO9⟩
       case measure => simp [intOf] <;> omega
      have hjr : j < gl.length := by rw [LG.o]; exact hlj
      obtain ⟨g8, e8, hg8, hc8⟩ := rowI_win HM.o (by rw [mixL_len _ _ _ (by omega), LG.o]) (by omega)
      injection e8 with e8
      injection e8 with e8
      subst e8
      have x3 := (hc8.o j hlj).1
      have x4 := (hc8.o j hlj).2
      rw [mixL_getD _ _ _ hjr] at x3
      have j0 : (0 : Int) ≤ (j : Int) := by omega
      have j1 : (j : Int) < (nB : Int) := by omega
      have MS := hh (mixL_set (repF xx xy) gl j hjr)
      have MN := hh (mixL_same (repF xx xy) gl j hjr)
      have LM : Hid ((mixL (repF xx xy) gl j).length = nB) := hh (by rw [mixL_len _ _ _ (by omega), LG.o])
      generalize gl.getD j 0 = x at x3 MS MN
      have o8 : Old gG (((((((w.alloc (Obj.cells #[Value.string s.nm, Value.slice s.aB nB s.cB, Value.slice s.aL s.lines.length s.cL, Value.slice s.aS s.srcs.length s.cS, Value.slice (some ⟨g, o, none⟩) nY s.cY] 27)).alloc (Obj.cells #[Value.slice p.aC p.closed.length p.cC, Value.slice aK p.rows.length p.cK] 31)).alloc (Obj.cells #[Value.string ByteArray.empty, Value.slice none 0 0, Value.slice none 0 0, Value.slice none 0 0, Value.slice none 0 0, Value.slice none 0 0, Value.slice none 0 0, Value.slice none 0 0] 150)).jk k0).jk k0').alloc (Obj.cells #[Value.string s.nm, Value.slice s.aB nB s.cB, Value.slice s.aL s.lines.length s.cL, Value.slice s.aS s.srcs.length s.cS, Value.slice (some ⟨g, o, none⟩) nY s.cY, Value.slice p.aC p.closed.length p.cC, Value.slice aK p.rows.length p.cK, (Value.slice (some ⟨gG, 0, none⟩) nB c)] 150)).jk k3) := ⟨World.block_lt_of_cell? _ _ x3⟩
      have HG8 := hh hg8
      clear hjr hc8 hg8
      by_cases hx : x = xx
      ·have hx' : (x == xx) = true := by simpa using hx
       have ME : Hid ((mixL (repF xx xy) gl j).set j xy = mixL (repF xx xy) gl (j + 1)) := hh (by rw [← MS.o, repF, if_pos hx])
       clear hx MN MS
       go_wp2_with fail
       go_roundw
       case rel =>
        exact ⟨j + 1, by go_num, by omega, (Q.refl _).jk k3 |>.setCell HG8.o _, hh (by rw [← ME.o]; exact rowI_set HM.o LM.o j _)⟩
       case measure => simp [intOf] <;> omega
      have hx' : (x == xx) = false := by simpa using hx
      have ME : Hid (mixL (repF xx xy) gl j = mixL (repF xx xy) gl (j + 1)) := hh (MN.o (if_neg hx))
      clear hx MN MS
      go_wp2_with fail
      go_roundw
      case rel =>
       exact ⟨j + 1, by go_num, by omega, (Q.refl _).jk k3, hh (by rw [← ME.o]; exact HM.o)⟩
      case measure => simp [intOf] <;> omega
end Go.Proofs.YtcjflafjmdfanaaGreatDoor


/- What distorted and operates of package busbar return. -/
import Derived.Test.YtcjflafjmdfanaaGreatDoorBv19
import Derived.Test.YtcjflafjmdfanaaGreatDoorBv11
import Derived.Test.YtcjflafjmdfanaaGreatDoorBv10
set_option maxHeartbeats 64000000
set_option maxRecDepth 100000
set_option linter.unusedSimpArgs false
set_option linter.unusedVariables false
/- The settings of a bus relay, the samples of its bays, and what window, usable and complete of package busbar return. -/
namespace Go
open Go.RowKit
def arrF (F : Nat → Value) (N : Nat) : Array Value := ((List.range N).map F).toArray
theorem arrF_size (F : Nat → Value) (N : Nat) : (arrF F N).size = N := by simp [arrF]
theorem arrF_get (F : Nat → Value) {N i : Nat} (h : i < N) : (arrF F N)[i]? = some (F i) := by
 simp [arrF, List.getElem?_map, List.getElem?_range h]
theorem arrF_congr {F G : Nat → Value} {N : Nat} (h : ∀ j, j < N → F j = G j) : arrF F N = arrF G N := by
 unfold arrF
 congr 1
 exact List.map_congr_left fun j hj => h j (List.mem_range.1 hj)
def updF (F : Nat → Value) (i : Nat) (v : Value) : Nat → Value := fun j => if j = i then v else F j
theorem updF_same (F : Nat → Value) (i : Nat) (v : Value) : updF F i v i = v := if_pos rfl
theorem updF_other (F : Nat → Value) {i j : Nat} (v : Value) (h : j ≠ i) : updF F i v j = F j := if_neg h
theorem arrF_set (F : Nat → Value) (N i : Nat) (v : Value) : (arrF F N).setIfInBounds i v = arrF (updF F i v) N := by
 apply Array.ext_getElem?
 intro j
 rw [Array.getElem?_setIfInBounds, arrF_size]
 by_cases hj : j < N
 ·rw [arrF_get _ hj, arrF_get _ hj]
  by_cases e : i = j
  rotate_left
  ·rw [if_neg e, updF_other _ _ (Ne.symm e)]
  subst e
  rw [if_pos rfl, if_pos hj, updF_same]
 have h1 : (arrF F N)[j]? = none := Array.getElem?_eq_none (by rw [arrF_size]; omega)
 have h2 : (arrF (updF F i v) N)[j]? = none := Array.getElem?_eq_none (by rw [arrF_size]; omega)
 rw [h1, h2]
 by_cases e : i = j
 ·rw [if_pos e, if_neg (by omega)]
 rw [if_neg e]
theorem madeCells_arrF (z : Array Value) (n : Nat) : madeCells z n = arrF (fun j => z[j % z.size]!) n := by
 apply Array.ext'
 simp [madeCells, arrF, Array.toList_map, Array.toList_range]
end Go
namespace Go.Sub
open Go
def wvF (W : List Int) (k ph : Nat) (j : Nat) : Int := W.getD (k * 72 + ph * 12 + j) 0
structure Rel where
 kd : Int
 dm : Int
 nu : Int
 de : Int
 hm : Int
def usB (r : Rel) : Bool := if r.dm = 0 then decide (r.nu = 0) && decide (r.de = 0) && decide (r.hm = 0) else decide (0 < r.dm) && decide (r.dm ≤ 16383) && decide (1 ≤ r.de) && decide (r.de ≤ 100) && decide (0 ≤ r.nu) && decide (r.nu ≤ r.de) && decide (0 ≤ r.hm) && decide (r.hm ≤ 100)
def cpB (G : List Bool) (ml : List (Int × Int)) : Bool := ml.all fun m => G.getD m.1.toNat false
end Go.Sub
namespace Go.Proofs.YtcjflafjmdfanaaGreatDoor
open Go.RowKit Go.Sub
attribute [local go_sem ↓] Go.wp_at_zero Go.wp_at_succ
@[go_sem ↓ high] theorem lvRelay (a : Addr) : loadVar 44 a = bigLoad 44 a := rfl
class RelC (cs : Array Value) (r : outParam Rel) : Prop where
 size : cs.size = 53
 kd : cs[1]? = some (.int .i64 r.kd)
 dm : cs[45]? = some (.int .i64 r.dm)
 nu : cs[46]? = some (.int .i64 r.nu)
 de : cs[47]? = some (.int .i64 r.de)
 hm : cs[48]? = some (.int .i64 r.hm)
theorem infoRelay : (Tryz.prog.info? 44).map (·.size) = some 53 := by kernel_rfl
@[go_sem ↓ high] theorem rlRelay {w : World} {n : Nat} {cs : Array Value} {r : Rel} {t : TypeId} {fr : Nat × Nat} [h : Blk w n (.cells cs t fr)] [hs : RelC cs r] :
  (bigLoad 44 ⟨n, 0, none⟩).run Tryz.prog w = .ok (.agg cs) w := run_bigLoad Tryz.underlying44 rfl (by rw [hs.size]; exact infoRelay)
def WvAt (w : World) (A : Option Addr) (n c : Nat) (W : List Int) : Prop := RdV w A n c 72 (W.map (Value.int .i64)) ∧ (n : Int) ≤ 9223372036854775807
theorem WvAt.q {w w' : World} {A : Option Addr} {n c : Nat} {W : List Int} (h : WvAt w A n c W) (hq : Q w w') : WvAt w' A n c W := ⟨h.1.q hq, h.2⟩
theorem WvAt.at_ {w : World} {A : Option Addr} {n c : Nat} {W : List Int} (h : WvAt w A n c W) (hn : 0 < n) : ∃ g o, A = some ⟨g, o, none⟩ ∧ Old g w ∧ Hid (∀ k ph, k < n → ph < 6 → Win w g (o + k * 72 + ph * 12) (wvF W k ph)) := by
 obtain ⟨g, o, e, ho, hc⟩ := h.1.at_ hn
 refine ⟨g, o, e, ho, hh fun k ph hk hp j hj => ?_⟩
 have hl : W.length = n * 72 := by have := h.1.1; rwa [List.length_map] at this
 have hi : k * 72 + ph * 12 + j < W.length := by rw [hl]; omega
 have := hc.o (k * 72 + ph * 12 + j) (.int .i64 (wvF W k ph j)) (by
  rw [List.getElem?_map, List.getElem?_eq_getElem hi]
  unfold wvF
  rw [List.getD_eq_getElem?_getD, List.getElem?_eq_getElem hi]
  rfl)
 rw [← this]
 congr 2
 omega
def GdAt (w : World) (A : Option Addr) (n c : Nat) (G : List Bool) : Prop := RdV w A n c 1 (G.map Value.bool) ∧ (n : Int) ≤ 9223372036854775807
theorem GdAt.q {w w' : World} {A : Option Addr} {n c : Nat} {G : List Bool} (h : GdAt w A n c G) (hq : Q w w') : GdAt w' A n c G := ⟨h.1.q hq, h.2⟩
theorem GdAt.len {w : World} {A : Option Addr} {n c : Nat} {G : List Bool} (h : GdAt w A n c G) : G.length = n := by have := h.1.1; rw [List.length_map] at this; omega
theorem GdAt.at_ {w : World} {A : Option Addr} {n c : Nat} {G : List Bool} (h : GdAt w A n c G) (hn : 0 < n) : ∃ g o, A = some ⟨g, o, none⟩ ∧ Old g w ∧ Hid (∀ k, k < n → w.cell? ⟨g, o + k, none⟩ = some (.bool (G.getD k false))) := by
 obtain ⟨g, o, e, ho, hc⟩ := h.1.at_ hn
 refine ⟨g, o, e, ho, hh fun k hk => hc.o k _ ?_⟩
 have hi : k < G.length := by rw [h.len]; exact hk
 rw [List.getElem?_map, List.getElem?_eq_getElem hi, List.getD_eq_getElem?_getD, List.getElem?_eq_getElem hi]
 rfl
theorem mem_at {w : World} {A : Option Addr} {n c : Nat} {ml : List (Int × Int)} (h : RdV w A n c 2 (ml.flatMap mmC)) (hn : 0 < n) : ∃ g o, A = some ⟨g, o, none⟩ ∧ Old g w ∧ Hid (∀ k m, ml[k]? = some m → w.cell? ⟨g, o + k * 2, none⟩ = some (.int .i64 m.1) ∧ w.cell? ⟨g, o + k * 2 + 1, none⟩ = some (.int .i64 m.2)) := by
 obtain ⟨g, o, e, ho, hc⟩ := h.at_ hn
 refine ⟨g, o, e, ho, hh fun k m hm => ⟨?_, ?_⟩⟩
 ·exact hc.o (k * 2) _ (by rw [show k * 2 = k * 2 + 0 from rfl, mmC_get ml k 0 m hm (by decide)]; rfl)
 rw [Nat.add_assoc]
 exact hc.o (k * 2 + 1) _ (by rw [mmC_get ml k 1 m hm (by decide)]; rfl)
theorem mem_len {w : World} {A : Option Addr} {n c : Nat} {ml : List (Int × Int)} (h : RdV w A n c 2 (ml.flatMap mmC)) : ml.length = n := by have := h.1; rw [mmC_len] at this; omega
theorem window_c (g o n c k ph : Nat) (w : World) (hk : k < n) (hp : ph < 3) :
  Calls Tryz.prog 34 #[.slice (some ⟨g, o, none⟩) n c, .int .i64 k, .int .i64 ph] w fun e w' => e = .returned (.slice (some ⟨g, o + k * 72 + ph * 12, none⟩) 12 12) ∧ Q w w' := by
 have k0 : (0 : Int) ≤ (k : Int) := by omega
 have k1 : (k : Int) < (n : Int) := by omega
 have p0 : (0 : Int) ≤ (ph : Int) := by omega
 have p1 : (ph : Int) < 3 := by omega
 clear hk hp
 go_enter Tryz.func34, Tryz.ntmps34
 go_wp2_with fail
 go_ret
 refine ⟨?_, Q.i⟩
 rfl
theorem usable_c (cs : Array Value) (r : Rel) [hR : RelC cs r] (w : World) :
  Calls Tryz.prog 32 #[.agg cs] w fun e w' => e = .returned (.bool (usB r)) ∧ Q w w' := by
 have h1 := hR.dm
 have h2 := hR.nu
 have h3 := hR.de
 have h4 := hR.hm
 unfold usB
 generalize r.dm = dm at *
 generalize r.nu = nu at *
 generalize r.de = de at *
 generalize r.hm = hm at *
 clear hR
 go_enter Tryz.func32, Tryz.ntmps32
 go_wp2_with fail
 all_goals
  go_ret
  refine ⟨?_, Q.i⟩
  (simp_all) <;> (first | rfl | omega)
theorem complete_c (A : Option Addr) (n c : Nat) (ml : List (Int × Int)) (aG : Option Addr) (nG cG : Nat) (G : List Bool) (w : World) (hm : RdV w A n c 2 (ml.flatMap mmC)) (hG : GdAt w aG nG cG G) (hn : n < 1000) (hb : ∀ m ∈ ml, ∃ k : Nat, m.1 = (k : Int) ∧ k < nG) :
  Calls Tryz.prog 36 #[.slice A n c, .slice aG nG cG] w fun e w' => e = .returned (.bool (cpB G ml)) ∧ Q w w' := by
 have HL := hh (mem_len hm)
 have HM := hh hm
 have HG := hh hG
 have HB' := hh hb
 have HC : Hid (cpB G ml = ml.all fun m => G.getD m.1.toNat false) := hh rfl
 generalize cpB G ml = C at HC ⊢
 have n0 : (0 : Int) ≤ (n : Int) := by omega
 clear hm hG hb
 go_enter Tryz.func36, Tryz.ntmps36
 go_wp2_with fail
 go_loopw [9] (fun i wr => ∃ k : Nat, i = .int .i64 k ∧ k ≤ n ∧ Hid (∀ j m, j < k → ml[j]? = some m → G.getD m.1.toNat false = true) ∧ Q w wr) (fun i _ => n - (intOf i).toNat)
 case atStart => exact ⟨0, rfl, Nat.zero_le _, hh (fun j m hj => absurd hj (Nat.not_lt_zero _)), Q.refl _⟩
 case round =>
  obtain ⟨k, rfl, hk, HZ, kk, rfl⟩ := hrel
  by_cases hlt : k < n
  rotate_left
  ·obtain rfl : n = k := by omega
   have EC : Hid (C = true) := hh (by
    rw [HC.o, List.all_eq_true]
    intro m hm
    obtain ⟨j, hj⟩ := List.getElem?_of_mem hm
    exact HZ.o j m (by rw [← HL.o]; exact (List.getElem?_eq_some_iff.1 hj).1) hj)
   go_wp2_with fail
   go_ret
   exact ⟨by rw [EC.o]; rfl, Q.i⟩
  obtain ⟨m, hm⟩ : ∃ m, ml[k]? = some m := ⟨_, List.getElem?_eq_getElem (by rw [HL.o]; exact hlt)⟩
  obtain ⟨g, o, rfl, og, hc⟩ := mem_at HM.o (by omega)
  obtain ⟨a1, a2⟩ := hc.o k m hm
  obtain ⟨q, eq, hq⟩ := HB'.o m (List.mem_of_getElem? hm)
  obtain ⟨g2, o2, rfl, og2, hc2⟩ := HG.o.at_ (by omega)
  have a3 := hc2.o q hq
  rw [eq] at a1
  have EM : Hid (m.1.toNat = q) := hh (by rw [eq]; exact Int.toNat_natCast q)
  have EMK := hh hm
  have k0 : (0 : Int) ≤ (k : Int) := by omega
  have k1 : (k : Int) < (n : Int) := by omega
  have q0 : (0 : Int) ≤ (q : Int) := by omega
  have q1 : (q : Int) < (nG : Int) := by omega
  obtain ⟨b, eb⟩ : ∃ b, G.getD q false = b := ⟨_, rfl⟩
  rw [eb] at a3
  have EB := hh eb
  clear hc hc2 hm eq eb
  cases b with
  | false =>
   have EC : Hid (C = false) := hh (by
    rw [HC.o, List.all_eq_false]
    exact ⟨m, List.mem_of_getElem? EMK.o, by rw [EM.o, EB.o]; decide⟩)
   go_wp2_with fail
   go_ret
   exact ⟨by rw [EC.o]; rfl, Q.i⟩
  | true =>
   go_wp2_with fail
   go_roundw
   case rel =>
    refine ⟨k + 1, by go_num, by omega, hh (fun j m' hj hm' => ?_), Q.i⟩
    by_cases e : j = k
    rotate_left
    ·exact HZ.o j m' (by omega) hm'
    subst e
    rw [EMK.o] at hm'
    obtain rfl := Option.some.inj hm'
    rw [EM.o, EB.o]
   case measure => simp [intOf] <;> omega
end Go.Proofs.YtcjflafjmdfanaaGreatDoor
/- What check of package busbar returns. -/
namespace Go.Sub
open Go
def phE (W : List Int) (G : List Bool) (k : Nat) : Int := if G.getD k false = true then fstE (fun ph => chkE (wvF W k ph)) 3 else 0
def ckE (r : Rel) (W : List Int) (G : List Bool) (nY nW nG : Nat) (nF : Int) : Int :=
 if r.kd = 4 then (if usB r = true then (if nW = nY ∧ nG = nY ∧ nF = (nY : Int) then fstE (phE W G) nW else 3) else 2) else 10
end Go.Sub
namespace Go.Proofs.YtcjflafjmdfanaaGreatDoor
open Go.RowKit Go.Sub
attribute [local go_sem ↓] Go.wp_at_zero Go.wp_at_succ
theorem check_c (s : Sta) (cs : Array Value) (r : Rel) [hR : RelC cs r] (aW : Option Addr) (nW cW : Nat) (W : List Int) (aG : Option Addr) (nG cG : Nat) (G : List Bool) (nF : Int) (w : World) (hW : WvAt w aW nW cW W) (hG : GdAt w aG nG cG G) (h1000 : s.bays.length < 1000) :
  Calls Tryz.prog 19 #[.agg #[Value.string s.nm, Value.slice s.aB s.buses.length s.cB, Value.slice s.aL s.lines.length s.cL, Value.slice s.aS s.srcs.length s.cS, Value.slice s.aY s.bays.length s.cY], .agg cs, .slice aW nW cW, .slice aG nG cG, .int .i64 nF] w fun e w' => e = .returned (.int .i64 (ckE r W G s.bays.length nW nG nF)) ∧ Q w w' := by
 have c1 := hR.kd
 have US := hh fun w => usable_c cs r w
 obtain ⟨nY, eY⟩ : ∃ n, s.bays.length = n := ⟨_, rfl⟩
 rw [eY] at h1000 ⊢
 have HW := hh hW
 have HG := hh hG
 have HC : Hid (ckE r W G nY nW nG nF = if r.kd = 4 then (if usB r = true then (if nW = nY ∧ nG = nY ∧ nF = (nY : Int) then fstE (phE W G) nW else 3) else 2) else 10) := hh rfl
 generalize ckE r W G nY nW nG nF = C at HC ⊢
 generalize usB r = u at US HC
 clear hW hG eY
 by_cases h4 : r.kd = 4
 rotate_left
 ·have e4 : (r.kd != 4) = true := by simpa using h4
  have HC1 := hh (HC.o.trans (if_neg h4))
  clear HC h4
  generalize r.kd = kd at c1 e4
  go_enter Tryz.func19, Tryz.ntmps19
  go_wp2_with fail
  go_ret
  exact ⟨by rw [HC1.o]; rfl, Q.i⟩
 have e4 : (r.kd != 4) = false := by simpa using h4
 have HC1 := hh (HC.o.trans (if_pos h4))
 clear HC h4
 generalize r.kd = kd at c1 e4
 cases u with
 | false =>
  have HC2 := hh (HC1.o.trans (if_neg (by decide)))
  clear HC1
  go_enter Tryz.func19, Tryz.ntmps19
  go_wp2_with (first | (go_at_call 32; (with_reducible refine (US.o _).q ?_); intro ku) | fail)
  go_ret
  exact ⟨by rw [HC2.o]; rfl, Q.i⟩
 | true =>
  have HC2 := hh (HC1.o.trans (if_pos rfl))
  clear HC1
  by_cases i1 : nW = nY
  rotate_left
  ·have HC3 := hh (HC2.o.trans (if_neg fun h => i1 h.1))
   clear HC2
   have j1 : ((nW : Int) != (nY : Int)) = true := by simpa using (by omega : ¬ (nW : Int) = (nY : Int))
   clear i1
   go_enter Tryz.func19, Tryz.ntmps19
   go_wp2_with (first | (go_at_call 32; (with_reducible refine (US.o _).q ?_); intro ku) | fail)
   go_ret
   exact ⟨by rw [HC3.o]; rfl, Q.i⟩
  by_cases i2 : nG = nY
  rotate_left
  ·have HC3 := hh (HC2.o.trans (if_neg fun h => i2 h.2.1))
   clear HC2
   subst i1
   have j2 : ((nG : Int) != (nW : Int)) = true := by simpa using (by omega : ¬ (nG : Int) = (nW : Int))
   clear i2
   go_enter Tryz.func19, Tryz.ntmps19
   go_wp2_with (first | (go_at_call 32; (with_reducible refine (US.o _).q ?_); intro ku) | fail)
   go_ret
   exact ⟨by rw [HC3.o]; rfl, Q.i⟩
  by_cases i3 : nF = (nY : Int)
  rotate_left
  ·have HC3 := hh (HC2.o.trans (if_neg fun h => i3 h.2.2))
   clear HC2
   subst i1 i2
   have j3 : (nF != (nG : Int)) = true := by simpa using i3
   clear i3
   go_enter Tryz.func19, Tryz.ntmps19
   go_wp2_with (first | (go_at_call 32; (with_reducible refine (US.o _).q ?_); intro ku) | fail)
   go_ret
   exact ⟨by rw [HC3.o]; rfl, Q.i⟩
  have HC3 := hh (HC2.o.trans (if_pos ⟨i1, i2, i3⟩))
  clear HC2
  subst i1 i2 i3
  have n0 : (0 : Int) ≤ (nG : Int) := by omega
  go_enter Tryz.func19, Tryz.ntmps19
  go_wp2_with (first | (go_at_call 32; (with_reducible refine (US.o _).q ?_); intro ku) | fail)
  go_loopw [43] (fun i wr => ∃ k : Nat, i = .int .i64 k ∧ k ≤ nG ∧ Hid (∀ j, j < k → phE W G j = 0) ∧ Q ((w.alloc (Obj.cells #[Value.string s.nm, Value.slice s.aB s.buses.length s.cB, Value.slice s.aL s.lines.length s.cL, Value.slice s.aS s.srcs.length s.cS, Value.slice s.aY nG s.cY] 27)).alloc (Obj.cells cs 44)) wr) (fun i _ => nG - (intOf i).toNat)
  case atStart => exact ⟨0, rfl, Nat.zero_le _, hh (fun j hj => absurd hj (Nat.not_lt_zero _)), (by repeat' (first | exact Q.refl _ | refine Q.alloc ?_ _ | refine Q.jk ?_ _ | refine Q.drew ?_))⟩
  case round =>
   obtain ⟨k, rfl, hk, HZ, kk, rfl⟩ := hrel
   by_cases hlt : k < nG
   rotate_left
   ·obtain rfl : nG = k := by omega
    have EC : Hid (C = 0) := hh (by rw [HC3.o]; exact fstE_none HZ.o)
    go_wp2_with fail
    go_ret
    exact ⟨by rw [EC.o]; rfl, Q.i⟩
   obtain ⟨g, o, rfl, og, hc⟩ := HW.o.at_ (by omega)
   obtain ⟨g2, o2, rfl, og2, hc2⟩ := HG.o.at_ (by omega)
   have a1 := hc2.o k hlt
   have EP : Hid (phE W G k = if G.getD k false = true then fstE (fun ph => chkE (wvF W k ph)) 3 else 0) := hh rfl
   have k0 : (0 : Int) ≤ (k : Int) := by omega
   have k1 : (k : Int) < (nG : Int) := by omega
   generalize G.getD k false = b at a1 EP
   clear hc2
   cases b with
   | false =>
    go_wp2_with fail
    go_roundw
    case rel =>
     refine ⟨k + 1, by go_num, by omega, hh (fun i hi => ?_), Q.i⟩
     by_cases e : i = k
     ·subst e; exact EP.o
     exact HZ.o i (by omega)
    case measure => simp [intOf] <;> omega
   | true =>
    have EP1 := hh (EP.o.trans (if_pos rfl))
    clear EP
    go_wp2_with fail
    go_loopw [51] (fun i wr => ∃ ph : Nat, i = .int .i64 ph ∧ ph ≤ 3 ∧ Hid (∀ j, j < ph → chkE (wvF W k j) = 0) ∧ Q ((w.alloc (Obj.cells #[Value.string s.nm, Value.slice s.aB s.buses.length s.cB, Value.slice s.aL s.lines.length s.cL, Value.slice s.aS s.srcs.length s.cS, Value.slice s.aY nG s.cY] 27)).alloc (Obj.cells cs 44)) wr) (fun i _ => 3 - (intOf i).toNat)
    case atStart => exact ⟨0, rfl, Nat.zero_le _, hh (fun j hj => absurd hj (Nat.not_lt_zero _)), (by repeat' (first | exact Q.refl _ | refine Q.alloc ?_ _ | refine Q.jk ?_ _ | refine Q.drew ?_))⟩
    case round =>
     obtain ⟨ph, rfl, hph, HJ, k2, rfl⟩ := hrel
     by_cases hlp : ph < 3
     rotate_left
     ·obtain rfl : ph = 3 := by omega
      have EK : Hid (phE W G k = 0) := hh (by rw [EP1.o]; exact fstE_none HJ.o)
      clear HJ EP1
      go_wp2_with fail
      go_roundw
      case rel =>
       refine ⟨k + 1, by go_num, by omega, hh (fun i hi => ?_), Q.i⟩
       by_cases e : i = k
       ·subst e; exact EK.o
       exact HZ.o i (by omega)
      case measure => simp [intOf] <;> omega
     have HWN := hh (hc.o k ph hlt (by omega))
     have p0 : (0 : Int) ≤ (ph : Int) := by omega
     have p1 : (ph : Int) < 3 := by omega
     obtain ⟨E, eE⟩ : ∃ E, chkE (wvF W k ph) = E := ⟨_, rfl⟩
     have EE := hh eE
     have PH := hh fun w' hq => phcheck_any g (o + k * 72 + ph * 12) 12 (wvF W k ph) w' (HWN.o.q hq)
     rw [eE] at PH
     have WC := hh fun w' => window_c g o nG cW k ph w' hlt hlp
     clear eE HWN
     by_cases hE : E = 0
     rotate_left
     ·have hE' : (E != 0) = true := by simpa using hE
      have EC : Hid (C = E) := hh (by
       have h1 : fstE (fun ph => chkE (wvF W k ph)) 3 = E := (fstE_hit HJ.o (by rw [EE.o]; exact hE) hlp).trans EE.o
       rw [HC3.o, fstE_hit HZ.o (by rw [EP1.o, h1]; exact hE) hlt, EP1.o, h1])
      go_wp2_with (first | (go_at_call 34; (with_reducible refine (WC.o _).q ?_); intro kv) | (go_at_call 33; (with_reducible refine (PH.o _ Q.i).p ?_)) | fail)
      go_ret
      exact ⟨by rw [EC.o]; rfl, Q.i⟩
     have hE' : (E != 0) = false := by simpa using hE
     go_wp2_with (first | (go_at_call 34; (with_reducible refine (WC.o _).q ?_); intro kv) | (go_at_call 33; (with_reducible refine (PH.o _ Q.i).p ?_)) | fail)
     go_roundw
     case rel =>
      refine ⟨ph + 1, by go_num, by omega, hh (fun i hi => ?_), Q.i⟩
      by_cases e : i = ph
      ·subst e; rw [EE.o]; exact hE
      exact HJ.o i (by omega)
     case measure => simp [intOf] <;> omega
end Go.Proofs.YtcjflafjmdfanaaGreatDoor
namespace Go.Sub
open Go
def cuM (s : Sta) (W : List Int) (ph : Nat) (m : Int × Int) : Cur := ⟨harm (wvF W m.1.toNat ph) 1, (match s.bays[m.1.toNat]? with | some y => y.ct | none => 0), decide (m.2 = -1)⟩
def opM (s : Sta) (W : List Int) (r : Rel) (ml : List (Int × Int)) (ph : Nat) : Bool := if r.dm = 0 ∨ ml = [] then false else opB (ml.map (cuM s W ph)) r.dm r.nu r.de
theorem harm1_bd {x : Nat → Int} {l : Int} (hx : WinOK x l) : (harm x 1).In (4 * l) := by
 have h0 := hx 0 (by decide)
 have h1 := hx 1 (by decide)
 have h2 := hx 2 (by decide)
 have h3 := hx 3 (by decide)
 have h4 := hx 4 (by decide)
 have h5 := hx 5 (by decide)
 have h6 := hx 6 (by decide)
 have h7 := hx 7 (by decide)
 have h8 := hx 8 (by decide)
 have h9 := hx 9 (by decide)
 have h10 := hx 10 (by decide)
 have h11 := hx 11 (by decide)
 have e0 : hterm x 1 0 = ⟨x 0, 0, 0, 0⟩ := by
  unfold hterm; rw [show rootC (-1 * ((0 : Nat) : Int)) = ⟨1, 0, 0, 0⟩ by rfl]; apply Cy.ext' <;> simp [Cy.scl]
 have e1 : hterm x 1 1 = ⟨0, x 1, 0, -x 1⟩ := by
  unfold hterm; rw [show rootC (-1 * ((1 : Nat) : Int)) = ⟨0, 1, 0, -1⟩ by rfl]; apply Cy.ext' <;> simp [Cy.scl]
 have e2 : hterm x 1 2 = ⟨x 2, 0, -x 2, 0⟩ := by
  unfold hterm; rw [show rootC (-1 * ((2 : Nat) : Int)) = ⟨1, 0, -1, 0⟩ by rfl]; apply Cy.ext' <;> simp [Cy.scl]
 have e3 : hterm x 1 3 = ⟨0, 0, 0, -x 3⟩ := by
  unfold hterm; rw [show rootC (-1 * ((3 : Nat) : Int)) = ⟨0, 0, 0, -1⟩ by rfl]; apply Cy.ext' <;> simp [Cy.scl]
 have e4 : hterm x 1 4 = ⟨0, 0, -x 4, 0⟩ := by
  unfold hterm; rw [show rootC (-1 * ((4 : Nat) : Int)) = ⟨0, 0, -1, 0⟩ by rfl]; apply Cy.ext' <;> simp [Cy.scl]
 have e5 : hterm x 1 5 = ⟨0, -x 5, 0, 0⟩ := by
  unfold hterm; rw [show rootC (-1 * ((5 : Nat) : Int)) = ⟨0, -1, 0, 0⟩ by rfl]; apply Cy.ext' <;> simp [Cy.scl]
 have e6 : hterm x 1 6 = ⟨-x 6, 0, 0, 0⟩ := by
  unfold hterm; rw [show rootC (-1 * ((6 : Nat) : Int)) = ⟨-1, 0, 0, 0⟩ by rfl]; apply Cy.ext' <;> simp [Cy.scl]
 have e7 : hterm x 1 7 = ⟨0, -x 7, 0, x 7⟩ := by
  unfold hterm; rw [show rootC (-1 * ((7 : Nat) : Int)) = ⟨0, -1, 0, 1⟩ by rfl]; apply Cy.ext' <;> simp [Cy.scl]
 have e8 : hterm x 1 8 = ⟨-x 8, 0, x 8, 0⟩ := by
  unfold hterm; rw [show rootC (-1 * ((8 : Nat) : Int)) = ⟨-1, 0, 1, 0⟩ by rfl]; apply Cy.ext' <;> simp [Cy.scl]
 have e9 : hterm x 1 9 = ⟨0, 0, 0, x 9⟩ := by
  unfold hterm; rw [show rootC (-1 * ((9 : Nat) : Int)) = ⟨0, 0, 0, 1⟩ by rfl]; apply Cy.ext' <;> simp [Cy.scl]
 have e10 : hterm x 1 10 = ⟨0, 0, x 10, 0⟩ := by
  unfold hterm; rw [show rootC (-1 * ((10 : Nat) : Int)) = ⟨0, 0, 1, 0⟩ by rfl]; apply Cy.ext' <;> simp [Cy.scl]
 have e11 : hterm x 1 11 = ⟨0, x 11, 0, 0⟩ := by
  unfold hterm; rw [show rootC (-1 * ((11 : Nat) : Int)) = ⟨0, 1, 0, 0⟩ by rfl]; apply Cy.ext' <;> simp [Cy.scl]
 unfold harm
 simp only [sumC, e0, e1, e2, e3, e4, e5, e6, e7, e8, e9, e10, e11, Cy.add]
 clear e0 e1 e2 e3 e4 e5 e6 e7 e8 e9 e10 e11
 unfold Cy.In
 dsimp only
 refine ⟨?_, ?_, ?_, ?_, ?_, ?_, ?_, ?_⟩ <;> omega
def cuC (c : Cur) : List Value := [.int .i64 c.i.a, .int .i64 c.i.b, .int .i64 c.i.c, .int .i64 c.i.d, .int .i64 c.r, .bool c.v]
structure MemOK (s : Sta) (W : List Int) (nW : Nat) (m : Int × Int) (k : Nat) (y : Byr) : Prop where
 e : m.1 = (k : Int)
 lt : k < nW
 hy : s.bays[k]? = some y
 c0 : 1 ≤ y.ct
 c1 : y.ct ≤ 100
 w : ∀ ph, ph < 3 → WinOK (wvF W k ph) 16383
end Go.Sub
namespace Go.Proofs.YtcjflafjmdfanaaGreatDoor
open Go.RowKit Go.Sub
attribute [local go_sem ↓] Go.wp_at_zero Go.wp_at_succ
def dsM (W : List Int) (hm : Int) (ml : List (Int × Int)) (ph : Nat) : Bool := if hm = 0 then false else ml.any fun m => dstB (wvF W m.1.toNat ph) hm
theorem distorted_c (s : Sta) (cs : Array Value) (r : Rel) [hR : RelC cs r] (aW : Option Addr) (nW cW : Nat) (W : List Int) (A : Option Addr) (n c : Nat) (ml : List (Int × Int)) (ph : Nat) (w : World) (hr : RootsOK w) (hW : WvAt w aW nW cW W) (hm : RdV w A n c 2 (ml.flatMap mmC)) (hn : n < 1000) (hp : ph < 3) (hu : usB r = true) (hb : ∀ m ∈ ml, ∃ k y, MemOK s W nW m k y) :
  Calls Tryz.prog 38 #[.agg cs, .slice aW nW cW, .slice A n c, .int .i64 ph] w fun e w' => e = .returned (.tuple #[.bool (dsM W r.hm ml ph), .int .i64 0]) ∧ Q w w' := by
 have c4 := hR.hm
 have hm0 : 0 ≤ r.hm ∧ r.hm ≤ 100 := by
  unfold usB at hu
  split at hu
  ·simp only [Bool.and_eq_true, decide_eq_true_eq] at hu
   omega
  simp only [Bool.and_eq_true, decide_eq_true_eq] at hu
  omega
 obtain ⟨m0, m1⟩ := hm0
 generalize r.hm = h at c4 m0 m1 ⊢
 have HL := hh (mem_len hm)
 have HM := hh hm
 have HW := hh hW
 have HB' := hh hb
 have HC : Hid (dsM W h ml ph = if h = 0 then false else ml.any fun m => dstB (wvF W m.1.toNat ph) h) := hh rfl
 generalize dsM W h ml ph = C at HC ⊢
 have n0 : (0 : Int) ≤ (n : Int) := by omega
 have p0 : (0 : Int) ≤ (ph : Int) := by omega
 have p1 : (ph : Int) < 3 := by omega
 clear hm hW hb hu
 by_cases h0 : h = 0
 ·have HC1 := hh (HC.o.trans (if_pos h0))
  subst h0
  clear HC
  go_enter Tryz.func38, Tryz.ntmps38
  go_wp2_with fail
  go_ret2
  exact ⟨by rw [HC1.o]; rfl, Q.i⟩
 have HC1 := hh (HC.o.trans (if_neg h0))
 have h0' : (h == 0) = false := by simpa using h0
 clear HC h0
 go_enter Tryz.func38, Tryz.ntmps38
 go_wp2_with fail
 go_loopw [19] (fun i wr => ∃ k : Nat, i = .int .i64 k ∧ k ≤ n ∧ Hid (∀ j m, j < k → ml[j]? = some m → dstB (wvF W m.1.toNat ph) h = false) ∧ Q (w.alloc (Obj.cells cs 44)) wr) (fun i _ => n - (intOf i).toNat)
 case atStart => exact ⟨0, rfl, Nat.zero_le _, hh (fun j m hj => absurd hj (Nat.not_lt_zero _)), Q.refl _⟩
 case round =>
  obtain ⟨k, rfl, hk, HZ, kk, rfl⟩ := hrel
  by_cases hlt : k < n
  rotate_left
  ·obtain rfl : n = k := by omega
   have EC : Hid (C = false) := hh (by
    rw [HC1.o, List.any_eq_false]
    intro m hm
    obtain ⟨j, hj⟩ := List.getElem?_of_mem hm
    rw [HZ.o j m (by rw [← HL.o]; exact (List.getElem?_eq_some_iff.1 hj).1) hj]
    decide)
   go_wp2_with fail
   go_ret2
   exact ⟨by rw [EC.o]; rfl, Q.i⟩
  obtain ⟨m, hm⟩ : ∃ m, ml[k]? = some m := ⟨_, List.getElem?_eq_getElem (by rw [HL.o]; exact hlt)⟩
  obtain ⟨g, o, rfl, og, hc⟩ := mem_at HM.o (by omega)
  obtain ⟨a1, a2⟩ := hc.o k m hm
  obtain ⟨q, y, hq⟩ := HB'.o m (List.mem_of_getElem? hm)
  obtain ⟨g2, o2, rfl, og2, hc2⟩ := HW.o.at_ (by have := hq.lt; omega)
  have hlq := hq.lt
  have HWN := hh (hc2.o q ph hlq (by omega))
  have HWK := hh (hq.w ph hp)
  rw [hq.e] at a1
  have EM : Hid (m.1.toNat = q) := hh (by rw [hq.e]; exact Int.toNat_natCast q)
  have EMK := hh hm
  have k0 : (0 : Int) ≤ (k : Int) := by omega
  have k1 : (k : Int) < (n : Int) := by omega
  have q0 : (0 : Int) ≤ (q : Int) := by omega
  have q1 : (q : Int) < (nW : Int) := by omega
  have PH := hh fun w' hq hr => phdist_c g2 (o2 + q * 72 + ph * 12) 12 (wvF W q ph) h w' hr (HWN.o.q hq) HWK.o m0 m1
  have WC := hh fun w' => window_c g2 o2 nW cW q ph w' hlq hp
  obtain ⟨b, eb⟩ : ∃ b, dstB (wvF W q ph) h = b := ⟨_, rfl⟩
  rw [eb] at PH
  have EB := hh eb
  clear hc hc2 hm eb hq HWN HWK
  go_wp2_with fail
  refine wrj (by kernel_rfl) ?_
  repeat (go_big_quiet_step (first | (go_at_call 34; exact Calls.jk_of (WC.o _)) | (go_at_call 70; exact Calls.jk_of (PH.o _ Q.i (hr.q Q.i)))))
  refine wq0 fun kq => ?_
  cases b with
  | false =>
   go_wp2_with fail
   go_roundw
   case rel =>
    refine ⟨k + 1, by go_num, by omega, hh (fun j m' hj hm' => ?_), Q.i⟩
    by_cases e : j = k
    rotate_left
    ·exact HZ.o j m' (by omega) hm'
    subst e
    rw [EMK.o] at hm'
    obtain rfl := Option.some.inj hm'
    rw [EM.o, EB.o]
   case measure => simp [intOf] <;> omega
  | true =>
   have EC : Hid (C = true) := hh (by
    rw [HC1.o, List.any_eq_true]
    exact ⟨m, List.mem_of_getElem? EMK.o, by rw [EM.o, EB.o]⟩)
   go_wp2_with fail
   go_ret2
   exact ⟨by rw [EC.o]; rfl, Q.i⟩
theorem infoCur : ∃ i, Tryz.prog.info? 145 = some i ∧ i.zero = some (.agg #[.int .i64 0, .int .i64 0, .int .i64 0, .int .i64 0, .int .i64 0, .bool false]) ∧ i.size = 6 ∧ i.bytes = 48 := by
 have h : (Tryz.prog.info? 145).map (fun i => (i.zero, i.size, i.bytes)) = some (some (.agg #[.int .i64 0, .int .i64 0, .int .i64 0, .int .i64 0, .int .i64 0, .bool false]), 6, 48) := by kernel_rfl
 cases hi : Tryz.prog.info? 145 with
 | none => rw [hi] at h; cases h
 | some i =>
  rw [hi] at h
  simp only [Option.map_some, Option.some.injEq, Prod.mk.injEq] at h
  exact ⟨i, rfl, h.1, h.2.1, h.2.2⟩
theorem make_cur (w : World) (n : Nat) (hn : n < 1000) : (Instr.makeSlice 139 (.int .i64 n) (.int .i64 n)).run Tryz.prog w = .ok (.slice (some ⟨w.heap.size, 0, none⟩) n n) (w.alloc (.cells (arrF (fun j => (#[.int .i64 0, .int .i64 0, .int .i64 0, .int .i64 0, .int .i64 0, .bool false] : Array Value)[j % 6]!) (n * 6)) 145)) := by
 obtain ⟨i, hi, hz, hs1, hb⟩ := infoCur
 have := run_makeSlice (P := Tryz.prog) w 139 145 i _ Tryz.underlying139 hi hz .i64 .i64 n n (by omega) (by omega) (by rw [hs1]; omega) (by rw [hb]; omega) (by omega)
 rw [this, hs1, madeCells_arrF, Int.toNat_natCast]
 rfl
theorem pick_ct (s : Sta) (m : Int × Int) (k : Nat) (y : Byr) (e : m.1 = (k : Int)) (hy : s.bays[k]? = some y) (W : List Int) (ph : Nat) : cuM s W ph m = ⟨harm (wvF W k ph) 1, y.ct, decide (m.2 = -1)⟩ := by
 unfold cuM
 rw [e, Int.toNat_natCast, hy]
theorem operates_c (s : Sta) (cs : Array Value) (r : Rel) [hR : RelC cs r] (aW : Option Addr) (nW cW : Nat) (W : List Int) (A : Option Addr) (n c : Nat) (ml : List (Int × Int)) (ph : Nat) (w : World) (hr : RootsOK w) (hs : StAt w s) (hW : WvAt w aW nW cW W) (hm : RdV w A n c 2 (ml.flatMap mmC)) (hn : n ≤ 16) (hp : ph < 3) (hu : usB r = true) (hb : ∀ m ∈ ml, ∃ k y, MemOK s W nW m k y) (hY : s.bays.length < 1000) :
  Calls Tryz.prog 37 #[.agg #[Value.string s.nm, Value.slice s.aB s.buses.length s.cB, Value.slice s.aL s.lines.length s.cL, Value.slice s.aS s.srcs.length s.cS, Value.slice s.aY s.bays.length s.cY], .agg cs, .slice aW nW cW, .slice A n c, .int .i64 ph] w fun e w' => e = .returned (.tuple #[.bool (opM s W r ml ph), .int .i64 0]) ∧ Q w w' := by
 have c1 := hR.dm
 have c2 := hR.nu
 have c3 := hR.de
 have HU : Hid (r.dm ≠ 0 → 1 ≤ r.dm ∧ r.dm ≤ 16383 ∧ 1 ≤ r.de ∧ r.de ≤ 100 ∧ 0 ≤ r.nu ∧ r.nu ≤ r.de) := hh fun h0 => by
  unfold usB at hu
  rw [if_neg h0] at hu
  simp only [Bool.and_eq_true, decide_eq_true_eq] at hu
  omega
 have HL := hh (mem_len hm)
 have HM := hh hm
 have HW := hh hW
 have HB' := hh hb
 have HAY := hh fun k y (hy : s.bays[k]? = some y) => hs.bayAt hy
 have HC : Hid (opM s W r ml ph = if r.dm = 0 ∨ ml = [] then false else opB (ml.map (cuM s W ph)) r.dm r.nu r.de) := hh rfl
 generalize opM s W r ml ph = C at HC ⊢
 obtain ⟨aY, eaY⟩ : ∃ a, s.aY = a := ⟨_, rfl⟩
 obtain ⟨nY, eY⟩ : ∃ n, s.bays.length = n := ⟨_, rfl⟩
 rw [eaY] at HAY
 rw [eY] at hY
 rw [eaY, eY]
 have HYL := hh eY
 have n0 : (0 : Int) ≤ (n : Int) := by omega
 have p0 : (0 : Int) ≤ (ph : Int) := by omega
 have p1 : (ph : Int) < 3 := by omega
 clear hm hW hb hs hu eaY eY
 generalize r.dm = dm at *
 generalize r.nu = nu at *
 generalize r.de = de at *
 by_cases h0 : dm = 0
 ·have HC1 := hh (HC.o.trans (if_pos (.inl h0)))
  subst h0
  clear HC HU
  go_enter Tryz.func37, Tryz.ntmps37
  go_wp2_with fail
  go_ret2
  exact ⟨by rw [HC1.o]; rfl, Q.i⟩
 have h0' : (dm == 0) = false := by simpa using h0
 by_cases hnil : n = 0
 ·have HC1 := hh (HC.o.trans (if_pos (.inr (List.eq_nil_of_length_eq_zero (by rw [HL.o]; exact hnil)))))
  subst hnil
  clear HC HU h0
  go_enter Tryz.func37, Tryz.ntmps37
  go_wp2_with fail
  go_ret2
  exact ⟨by rw [HC1.o]; rfl, Q.i⟩
 have HC1 := hh (HC.o.trans (if_neg fun h => h.elim h0 fun h => hnil (by rw [← HL.o, h]; rfl)))
 have n1 : ((n : Int) == 0) = false := by simpa using (by omega : ¬ (n : Int) = 0)
 have HU1 := hh (HU.o h0)
 have hmk := fun w => make_cur w n (by omega)
 clear HC HU h0
 go_enter Tryz.func37, Tryz.ntmps37
 go_wp2_with fail
 go_loopw [30] (fun i wr => ∃ (k : Nat) (F : Nat → Value), i = .int .i64 k ∧ k ≤ n ∧ Q ((((w.alloc (Obj.cells #[Value.string s.nm, Value.slice s.aB s.buses.length s.cB, Value.slice s.aL s.lines.length s.cL, Value.slice s.aS s.srcs.length s.cS, Value.slice aY nY s.cY] 27)).alloc (Obj.cells cs 44))).alloc (Obj.cells (arrF F (n * 6)) 145)) wr ∧ Hid (∀ j m q, j < k → ml[j]? = some m → q < 6 → some (F (j * 6 + q)) = (cuC (cuM s W ph m))[q]?)) (fun i _ => n - (intOf i).toNat)
 case atStart => exact ⟨0, _, rfl, Nat.zero_le _, (by repeat' (first | exact Q.refl _ | refine Q.alloc ?_ _ | refine Q.jk ?_ _ | refine Q.drew ?_)), hh (fun j m q hj => absurd hj (Nat.not_lt_zero _))⟩
 case round =>
  obtain ⟨k, F, rfl, hk, ⟨kk, rfl⟩, HZ⟩ := hrel
  by_cases hlt : k < n
  rotate_left
  ·obtain rfl : n = k := by omega
   have HOP : Hid (∀ w', RdC w' (w.heap.size + 1 + 1) 0 (ml.map (cuM s W ph)) → Calls Tryz.prog 69 #[.slice (some ⟨w.heap.size + 1 + 1, 0, none⟩) n n, .int .i64 dm, .int .i64 nu, .int .i64 de] w' fun e w'' => e = .returned (.tuple #[.bool C, .int .i64 0]) ∧ Q w' w'') := hh fun w' hrd => by
    obtain ⟨u1, u2, u3, u4, u5, u6⟩ := HU1.o
    have := doperate_c (w.heap.size + 1 + 1) 0 n (ml.map (cuM s W ph)) dm nu de w' (by rw [List.length_map, HL.o]; omega) (by rw [List.length_map, HL.o]; omega) hrd (fun c hc => by
     obtain ⟨m, hm, rfl⟩ := List.mem_map.1 hc
     obtain ⟨q, y, hq⟩ := HB'.o m hm
     rw [pick_ct s m q y hq.e hq.hy W ph]
     exact ⟨(harm1_bd (hq.w ph hp)).mono (by decide), hq.c0, hq.c1⟩) u1 (by omega) u3 u4 u5 u6
    rw [List.length_map, HL.o, ← HC1.o] at this
    exact this
   have HRD : Hid (RdC (((((w.alloc (Obj.cells #[Value.string s.nm, Value.slice s.aB s.buses.length s.cB, Value.slice s.aL s.lines.length s.cL, Value.slice s.aS s.srcs.length s.cS, Value.slice aY nY s.cY] 27)).alloc (Obj.cells cs 44))).alloc (Obj.cells (arrF F (n * 6)) 145)).jk kk) (w.heap.size + 1 + 1) 0 (ml.map (cuM s W ph))) := hh fun j c hc => by
    rw [List.getElem?_map, Option.map_eq_some_iff] at hc
    obtain ⟨m, hm, rfl⟩ := hc
    have hj : j < n := by rw [← HL.o]; exact (List.getElem?_eq_some_iff.1 hm).1
    have hb : HB (((((w.alloc (Obj.cells #[Value.string s.nm, Value.slice s.aB s.buses.length s.cB, Value.slice s.aL s.lines.length s.cL, Value.slice s.aS s.srcs.length s.cS, Value.slice aY nY s.cY] 27)).alloc (Obj.cells cs 44))).alloc (Obj.cells (arrF F (n * 6)) 145)).jk kk) (w.heap.size + 1 + 1) (arrF F (n * 6)) 145 := (HB.new _ _ _ _ (by simp)).jk kk
    have z := HZ.o j m
    rw [Nat.zero_add]
    refine ⟨?_, ?_, ?_, ?_, ?_, ?_⟩
    ·rw [hb.cell, arrF_get _ (by omega)]; exact z 0 hj hm (by omega)
    ·rw [hb.cell, arrF_get _ (by omega)]; exact z 1 hj hm (by omega)
    ·rw [hb.cell, arrF_get _ (by omega)]; exact z 2 hj hm (by omega)
    ·rw [hb.cell, arrF_get _ (by omega)]; exact z 3 hj hm (by omega)
    ·rw [hb.cell, arrF_get _ (by omega)]; exact z 4 hj hm (by omega)
    rw [hb.cell, arrF_get _ (by omega)]; exact z 5 hj hm (by omega)
   clear HM HW HAY HB' HL HU1 HC1 HZ
   go_wp2_with (first | (go_at_call 69; (with_reducible refine (HOP.o _ (HRD.o.q Q.i)).q ?_); intro ko) | fail)
   go_ret2
   exact ⟨rfl, Q.i⟩
  obtain ⟨m, hm⟩ : ∃ m, ml[k]? = some m := ⟨_, List.getElem?_eq_getElem (by rw [HL.o]; exact hlt)⟩
  obtain ⟨g, o, rfl, og, hc⟩ := mem_at HM.o (by omega)
  obtain ⟨a1, a2⟩ := hc.o k m hm
  obtain ⟨q, y, hq⟩ := HB'.o m (List.mem_of_getElem? hm)
  obtain ⟨g2, o2, rfl, og2, hc2⟩ := HW.o.at_ (by have := hq.lt; omega)
  obtain ⟨g3, o3, rfl, og3, hc3⟩ := HAY.o q y hq.hy
  have q8 : w.cell? ⟨g3, o3 + q * 12 + 8, none⟩ = some (.int .i64 y.ct) := hc3.o 8 _ rfl
  have hlq := hq.lt
  have HWN := hh (hc2.o q ph hlq (by omega))
  have HWK := hh (hq.w ph hp)
  rw [hq.e] at a1
  have EM : Hid (cuM s W ph m = ⟨harm (wvF W q ph) 1, y.ct, decide (m.2 = -1)⟩) := hh (pick_ct s m q y hq.e hq.hy W ph)
  have EMK := hh hm
  have k0 : (0 : Int) ≤ (k : Int) := by omega
  have k1 : (k : Int) < (n : Int) := by omega
  have q0 : (0 : Int) ≤ (q : Int) := by omega
  have q1 : (q : Int) < (nW : Int) := by omega
  have qy : q < nY := by rw [← HYL.o]; exact (List.getElem?_eq_some_iff.1 hq.hy).1
  have q2 : (q : Int) < (nY : Int) := by omega
  have PH := hh fun w' hq hr => phharm_c 1 g2 (o2 + q * 72 + ph * 12) 12 (wvF W q ph) w' hr (HWN.o.q hq) HWK.o
  have WC := hh fun w' => window_c g2 o2 nW cW q ph w' hlq hp
  have N6 : k * 6 + 5 < n * 6 := by omega
  have e0 : (arrF F (n * 6))[k * 6]? = some (F (k * 6)) := arrF_get F (by omega)
  have e1 : (arrF F (n * 6))[k * 6 + 1]? = some (F (k * 6 + 1)) := arrF_get F (by omega)
  have e2 : (arrF F (n * 6))[k * 6 + 2]? = some (F (k * 6 + 2)) := arrF_get F (by omega)
  have e3 : (arrF F (n * 6))[k * 6 + 3]? = some (F (k * 6 + 3)) := arrF_get F (by omega)
  have e4 : (arrF F (n * 6))[k * 6 + 4]? = some (F (k * 6 + 4)) := arrF_get F (by omega)
  have e5 : (arrF F (n * 6))[k * 6 + 5]? = some (F (k * 6 + 5)) := arrF_get F (by omega)
  generalize harm (wvF W q ph) 1 = H at PH EM
  generalize y.ct = ct at q8 EM
  clear hc hc2 hc3 hm hq HWN HWK
  go_wp2_with (first | (go_at_call 34; (with_reducible refine (WC.o _).q ?_); intro kv) | (go_at_call 68; (with_reducible refine (PH.o _ Q.i (hr.q Q.i)).q ?_); intro kh) | fail)
  refine wp_region_tail 14 (by kernel_rfl) (by kernel_rfl) ?_
  simp only [List.take_succ_cons, List.take_zero, List.drop_succ_cons, List.drop_zero]
  repeat (go_big_quiet_step (fail))
  refine wq0 fun kq => ?_
  go_wp2_with fail
  go_roundw
  case rel =>
   simp only [arrF_set]
   refine ⟨k + 1, _, by go_num, by omega, (by repeat' (first | exact Q.refl _ | refine Q.alloc ?_ _ | refine Q.jk ?_ _ | refine Q.drew ?_)), hh (fun j m' i hj hm' hi => ?_)⟩
   by_cases e : j = k
   rotate_left
   ·rw [updF_other _ _ (by omega), updF_other _ _ (by omega), updF_other _ _ (by omega), updF_other _ _ (by omega), updF_other _ _ (by omega), updF_other _ _ (by omega)]
    exact HZ.o j m' i (by omega) hm' hi
   subst e
   rw [EMK.o] at hm'
   obtain rfl := Option.some.inj hm'
   rw [EM.o]
   rcases i with _ | _ | _ | _ | _ | _ | i
   ·simp [updF, cuC]
   ·simp [updF, cuC]
   ·simp [updF, cuC]
   ·simp [updF, cuC]
   ·simp [updF, cuC]
   ·simp [updF, cuC]
    rfl
   omega
  case measure => simp [intOf] <;> omega
end Go.Proofs.YtcjflafjmdfanaaGreatDoor


/- What Check of the reference 06 returns: the first error of a position; and fine of a good station and position. -/
import Derived.Test.YtcjflafjmdfanaaGreatDoorBv27
import Derived.Deep.RegionHeld3
import Derived.Test.YtcjflafjmdfanaaGreatDoorBv19
set_option maxHeartbeats 64000000
set_option maxRecDepth 100000
set_option linter.unusedSimpArgs false
set_option linter.unusedVariables false
/- What Check of the reference 05 returns: the first error of a station. -/
namespace Go.Sub
open Go
theorem stE_good {s : Sta} (hn : nmB s.nm = true) (hb : ¬ stBad s) : stE s = orE (fstE s.bF s.buses.length) (orE (fstE s.lF s.lines.length) (orE (fstE s.sF s.srcs.length) (fstE s.yF s.bays.length))) := by
 unfold stE
 rw [if_pos hn, if_neg hb]
theorem orE_hit {a b : Int} (h : a ≠ 0) : orE a b = a := if_neg h
theorem orE_skip {a b : Int} (h : a = 0) : orE a b = b := if_pos h
theorem fst_ne {F : Nat → Int} {k n : Nat} {E : Int} (h : ∀ j, j < k → F j = 0) (he : F k = E) (hk : k < n) (hz : E ≠ 0) : fstE F n = E := by
 rw [fstE_hit h (by rw [he]; exact hz) hk, he]
theorem stE_b {s : Sta} {E : Int} {k : Nat} (hn : nmB s.nm = true) (hb : ¬ stBad s) (h : ∀ j, j < k → s.bF j = 0) (he : s.bF k = E) (hk : k < s.buses.length) (hz : E ≠ 0) : stE s = E := by
 rw [stE_good hn hb, fst_ne h he hk hz, orE_hit hz]
theorem stE_l {s : Sta} {E : Int} {k : Nat} (hn : nmB s.nm = true) (hb : ¬ stBad s) (h0 : ∀ j, j < s.buses.length → s.bF j = 0) (h : ∀ j, j < k → s.lF j = 0) (he : s.lF k = E) (hk : k < s.lines.length) (hz : E ≠ 0) : stE s = E := by
 rw [stE_good hn hb, orE_skip (fstE_none h0), fst_ne h he hk hz, orE_hit hz]
theorem stE_s {s : Sta} {E : Int} {k : Nat} (hn : nmB s.nm = true) (hb : ¬ stBad s) (h0 : ∀ j, j < s.buses.length → s.bF j = 0) (h1 : ∀ j, j < s.lines.length → s.lF j = 0) (h : ∀ j, j < k → s.sF j = 0) (he : s.sF k = E) (hk : k < s.srcs.length) (hz : E ≠ 0) : stE s = E := by
 rw [stE_good hn hb, orE_skip (fstE_none h0), orE_skip (fstE_none h1), fst_ne h he hk hz, orE_hit hz]
theorem stE_y {s : Sta} {E : Int} {k : Nat} (hn : nmB s.nm = true) (hb : ¬ stBad s) (h0 : ∀ j, j < s.buses.length → s.bF j = 0) (h1 : ∀ j, j < s.lines.length → s.lF j = 0) (h2 : ∀ j, j < s.srcs.length → s.sF j = 0) (h : ∀ j, j < k → s.yF j = 0) (he : s.yF k = E) (hk : k < s.bays.length) (hz : E ≠ 0) : stE s = E := by
 rw [stE_good hn hb, orE_skip (fstE_none h0), orE_skip (fstE_none h1), orE_skip (fstE_none h2), fst_ne h he hk hz]
theorem stE_ok {s : Sta} (hn : nmB s.nm = true) (hb : ¬ stBad s) (h0 : ∀ j, j < s.buses.length → s.bF j = 0) (h1 : ∀ j, j < s.lines.length → s.lF j = 0) (h2 : ∀ j, j < s.srcs.length → s.sF j = 0) (h3 : ∀ j, j < s.bays.length → s.yF j = 0) : stE s = 0 := by
 rw [stE_good hn hb, orE_skip (fstE_none h0), orE_skip (fstE_none h1), orE_skip (fstE_none h2), fstE_none h3]
end Go.Sub
namespace Go.Proofs.YtcjflafjmdfanaaGreatDoor
open Go.RowKit Go.Sub
attribute [local go_sem ↓] Go.wp_at_zero Go.wp_at_succ
theorem nms_b (s : Sta) (k : Nat) : nmsL s k 0 0 0 = s.buses.take k := by simp [nmsL]
theorem nms_l (s : Sta) (k : Nat) : nmsL s s.buses.length k 0 0 = s.buses ++ (s.lines.take k).map Lnr.nm := by simp [nmsL]
theorem nms_s (s : Sta) (k : Nat) : nmsL s s.buses.length s.lines.length k 0 = s.buses ++ s.lines.map Lnr.nm ++ (s.srcs.take k).map Srr.nm := by simp [nmsL]
theorem nms_y (s : Sta) (k : Nat) : nmsL s s.buses.length s.lines.length s.srcs.length k = s.buses ++ s.lines.map Lnr.nm ++ s.srcs.map Srr.nm ++ (s.bays.take k).map Byr.nm := by simp [nmsL]
theorem nms_len (s : Sta) (i j k q : Nat) : (nmsL s i j k q).length ≤ s.buses.length + s.lines.length + s.srcs.length + s.bays.length := by
 simp only [nmsL, List.length_append, List.length_map, List.length_take]
 omega
theorem r5check_c (s : Sta) (w : World) (h : StAt w s) :
  Calls Tryz.prog 22 #[.agg #[Value.string s.nm, Value.slice s.aB s.buses.length s.cB, Value.slice s.aL s.lines.length s.cL, Value.slice s.aS s.srcs.length s.cS, Value.slice s.aY s.bays.length s.cY]] w fun e w' => e = .returned (.int .i64 (stE s)) ∧ Q w w' := by
 have NM := hh fun w => r5name_c s.nm w h.z0
 have l0 : (0 : Int) ≤ (s.buses.length : Int) := by omega
 cases hn : nmB s.nm with
 | false =>
  have EE : Hid (stE s = 7) := hh (by unfold stE; rw [hn]; rfl)
  rw [hn] at NM
  clear hn h
  go_enter Tryz.func22, Tryz.ntmps22
  go_wp2_with (first | (go_at_call 42; (with_reducible refine (NM.o _).p ?_)) | fail)
  go_ret
  refine ⟨by rw [EE.o]; first | done | rfl, ?_⟩
  exact Q.i
 | true =>
  rw [hn] at NM
  have HN := hh hn
  clear hn
  by_cases hbad : stBad s
  ·have EE : Hid (stE s = 3) := hh (by unfold stE; rw [if_pos HN.o, if_pos hbad])
   have hw : (s.buses.length : Int) < 1 ∨ (¬ (s.buses.length : Int) < 1 ∧ (4 : Int) < (s.buses.length : Int)) ∨ (¬ (s.buses.length : Int) < 1 ∧ ¬ (4 : Int) < (s.buses.length : Int) ∧ (6 : Int) < (s.lines.length : Int)) ∨ (¬ (s.buses.length : Int) < 1 ∧ ¬ (4 : Int) < (s.buses.length : Int) ∧ ¬ (6 : Int) < (s.lines.length : Int) ∧ (4 : Int) < (s.srcs.length : Int)) ∨ (¬ (s.buses.length : Int) < 1 ∧ ¬ (4 : Int) < (s.buses.length : Int) ∧ ¬ (6 : Int) < (s.lines.length : Int) ∧ ¬ (4 : Int) < (s.srcs.length : Int) ∧ (16 : Int) < (s.bays.length : Int)) := by unfold stBad at hbad; omega
   clear h hbad
   rcases hw with c0 | ⟨c0, c1⟩ | ⟨c0, c1, c2⟩ | ⟨c0, c1, c2, c3⟩ | ⟨c0, c1, c2, c3, c4⟩
   all_goals
    go_enter Tryz.func22, Tryz.ntmps22
    go_wp2_with (first | (go_at_call 42; (with_reducible refine (NM.o _).p ?_)) | fail)
    refine wrj (by kernel_rfl) ?_
    repeat (go_big_quiet_step (fail))
    refine wq0 fun kq => ?_
    go_wp2_with fail
    go_ret
    refine ⟨by rw [EE.o]; first | done | rfl, ?_⟩
    exact Q.i
  have HB_ := hh hbad
  have c0n : 1 ≤ s.buses.length := by unfold stBad at hbad; omega
  have c1n : s.buses.length ≤ 4 := by unfold stBad at hbad; omega
  have c2n : s.lines.length ≤ 6 := by unfold stBad at hbad; omega
  have c3n : s.srcs.length ≤ 4 := by unfold stBad at hbad; omega
  have c4n : s.bays.length ≤ 16 := by unfold stBad at hbad; omega
  clear hbad
  have c0 : ¬ (s.buses.length : Int) < 1 := by omega
  have c1 : ¬ (4 : Int) < (s.buses.length : Int) := by omega
  have c2 : ¬ (6 : Int) < (s.lines.length : Int) := by omega
  have c3 : ¬ (4 : Int) < (s.srcs.length : Int) := by omega
  have c4 : ¬ (16 : Int) < (s.bays.length : Int) := by omega
  have HST := hh h
  clear h
  go_enter Tryz.func22, Tryz.ntmps22
  go_upto_region 1 with fail
  refine wp_world ?_
  intro V eV
  have hq0 : Q w V := by rw [eV]; exact Q.alloc (Q.refl _) _
  have hb : HB V w.heap.size #[Value.string s.nm, Value.slice s.aB s.buses.length s.cB, Value.slice s.aL s.lines.length s.cL, Value.slice s.aS s.srcs.length s.cS, Value.slice s.aY s.bays.length s.cY] 27 := by rw [eV]; exact HB.new _ _ _ _ rfl
  have HQ0 := hh hq0
  have s0 := hb.cell 0
  have s1 := hb.cell 1
  have s2 := hb.cell 2
  have s3 := hb.cell 3
  have s4 := hb.cell 4
  simp only [List.getElem?_toArray, List.getElem?_cons_zero, List.getElem?_cons_succ] at s0 s1 s2 s3 s4
  have ob := hb.old
  have HST : Hid (StAt V s) := hh (HST.o.q hq0)
  clear eV hb hq0
  generalize w.heap.size = b at s0 s1 s2 s3 s4 ob ⊢
  go_wp2_with (first | (go_at_call 42; (with_reducible refine (NM.o _).p ?_)) | fail)
  refine wrj (by kernel_rfl) ?_
  repeat (go_big_quiet_step (fail))
  refine wq0 fun kq => ?_
  go_wp2_with fail
  go_loopw [7] (fun i wr => ∃ k : Nat, i = .int .i64 k ∧ k ≤ s.buses.length ∧ Hid (∀ j, j < k → s.bF j = 0) ∧ Q V wr) (fun i _ => s.buses.length - (intOf i).toNat)
  case atStart => exact ⟨0, rfl, Nat.zero_le _, hh (fun j hj => absurd hj (Nat.not_lt_zero _)), (by repeat' (first | exact Q.refl _ | refine Q.alloc ?_ _ | refine Q.jk ?_ _ | refine Q.drew ?_))⟩
  case round =>
   obtain ⟨k, rfl, hk, HG, kk, rfl⟩ := hrel
   by_cases hlt : k < s.buses.length
   ·obtain ⟨x, hx⟩ : ∃ x, s.buses[k]? = some x := ⟨_, List.getElem?_eq_getElem hlt⟩
    have k0 : (0 : Int) ≤ (k : Int) := by omega
    have k1 : (k : Int) < (s.buses.length : Int) := by omega
    have N1 : Hid (∀ w', Q V w' → Calls Tryz.prog 44 #[.agg #[Value.string s.nm, Value.slice s.aB s.buses.length s.cB, Value.slice s.aL s.lines.length s.cL, Value.slice s.aS s.srcs.length s.cS, Value.slice s.aY s.bays.length s.cY], .int .i64 k, .int .i64 0, .int .i64 0, .int .i64 0] w' (RetStr (nmsL s k 0 0 0) w')) := hh fun w' hq => r5names_c s k 0 0 0 w' (HST.o.q hq) c0n c1n c2n c3n c4n (by omega) (by omega) (by omega) (by omega)
    have NL := nms_len s k 0 0 0
    obtain ⟨g, o, eA, og, hc⟩ := HST.o.rB.at_ (by omega)
    have d0 : V.cell? ⟨g, o + k, none⟩ = some (.string x) := by rw [show o + k = o + k * 1 by omega]; exact hc.o _ _ (by rw [Nat.mul_one, List.getElem?_map, hx]; rfl)
    have zx := HST.o.zB x (List.mem_of_getElem? hx)
    rw [eA] at s1 N1
    obtain ⟨ev, hev⟩ : ∃ e, nmE (nmsL s k 0 0 0) x = e := ⟨_, rfl⟩
    have HE : Hid (s.bF k = ev) := hh (by unfold Sta.bF; rw [hx, ← hev, nms_b])
    have ND : Hid (∀ A c w', RdV w' A (nmsL s k 0 0 0).length c 1 ((nmsL s k 0 0 0).map Value.string) → Calls Tryz.prog 43 #[.slice A (nmsL s k 0 0 0).length c, .string x] w' fun e w'' => e = .returned (.int .i64 ev) ∧ Q w' w'') := hh fun A c w' hr => hev ▸ r5named_c A _ c _ x w' hr (by omega) zx
    have S1 := hh eA
    clear hev hc hx eA NL
    by_cases z : ev = 0
    rotate_left
    ·have z' : (ev != 0) = true := by simpa using z
     go_wp2_with fail
     go_region_held3 (fun w' => w'.cell? ⟨b, 0, none⟩ = some (Value.string s.nm) ∧ w'.cell? ⟨b, 1, none⟩ = some (Value.slice (some ⟨g, o, none⟩) s.buses.length s.cB) ∧ w'.cell? ⟨b, 2, none⟩ = some (Value.slice s.aL s.lines.length s.cL) ∧ w'.cell? ⟨b, 3, none⟩ = some (Value.slice s.aS s.srcs.length s.cS) ∧ w'.cell? ⟨b, 4, none⟩ = some (Value.slice s.aY s.bays.length s.cY) ∧ w'.cell? ⟨g, o + k, none⟩ = some (Value.string x)) (simp [go_sem, s0, s1, s2, s3, s4, d0]) (first | (go_at_call 44; (with_reducible refine (N1.o _ Q.i).mono ?_); rintro e w' ⟨A, c, rfl, ⟨kn, rfl⟩, hrd⟩; have HRD := hh hrd; clear hrd) | (go_at_call 43; (with_reducible refine (ND.o A c _ (HRD.o.q Q.i)).q ?_); intro kd) | fail)
     go_wp2_with fail
     go_ret
     refine ⟨?_, HQ0.o.trans Q.i⟩
     rw [stE_b HN.o HB_.o  HG.o HE.o hlt z]; first | done | rfl
    subst z
    go_wp2_with fail
    go_region_held3 (fun w' => w'.cell? ⟨b, 0, none⟩ = some (Value.string s.nm) ∧ w'.cell? ⟨b, 1, none⟩ = some (Value.slice (some ⟨g, o, none⟩) s.buses.length s.cB) ∧ w'.cell? ⟨b, 2, none⟩ = some (Value.slice s.aL s.lines.length s.cL) ∧ w'.cell? ⟨b, 3, none⟩ = some (Value.slice s.aS s.srcs.length s.cS) ∧ w'.cell? ⟨b, 4, none⟩ = some (Value.slice s.aY s.bays.length s.cY) ∧ w'.cell? ⟨g, o + k, none⟩ = some (Value.string x)) (simp [go_sem, s0, s1, s2, s3, s4, d0]) (first | (go_at_call 44; (with_reducible refine (N1.o _ Q.i).mono ?_); rintro e w' ⟨A, c, rfl, ⟨kn, rfl⟩, hrd⟩; have HRD := hh hrd; clear hrd) | (go_at_call 43; (with_reducible refine (ND.o A c _ (HRD.o.q Q.i)).q ?_); intro kd) | fail)
    go_wp2_with fail
    go_roundw
    case rel =>
     refine ⟨k + 1, by go_num, by omega, hh (fun j hj => ?_), Q.i⟩
     by_cases e : j = k
     ·subst e; exact HE.o
     exact HG.o j (by omega)
    case measure => simp [intOf] <;> omega
   obtain rfl : k = s.buses.length := by omega
   have HG0 := HG
   clear HG
   go_wp2_with fail
   go_loopw [9] (fun i wr => ∃ k : Nat, i = .int .i64 k ∧ k ≤ s.lines.length ∧ Hid (∀ j, j < k → s.lF j = 0) ∧ Q V wr) (fun i _ => s.lines.length - (intOf i).toNat)
   case atStart => exact ⟨0, rfl, Nat.zero_le _, hh (fun j hj => absurd hj (Nat.not_lt_zero _)), (by repeat' (first | exact Q.refl _ | refine Q.alloc ?_ _ | refine Q.jk ?_ _ | refine Q.drew ?_))⟩
   case round =>
    obtain ⟨k, rfl, hk, HG, kk, rfl⟩ := hrel
    by_cases hlt : k < s.lines.length
    ·obtain ⟨x, hx⟩ : ∃ x, s.lines[k]? = some x := ⟨_, List.getElem?_eq_getElem hlt⟩
     have k0 : (0 : Int) ≤ (k : Int) := by omega
     have k1 : (k : Int) < (s.lines.length : Int) := by omega
     have N1 : Hid (∀ w', Q V w' → Calls Tryz.prog 44 #[.agg #[Value.string s.nm, Value.slice s.aB s.buses.length s.cB, Value.slice s.aL s.lines.length s.cL, Value.slice s.aS s.srcs.length s.cS, Value.slice s.aY s.bays.length s.cY], .int .i64 s.buses.length, .int .i64 k, .int .i64 0, .int .i64 0] w' (RetStr (nmsL s s.buses.length k 0 0) w')) := hh fun w' hq => r5names_c s s.buses.length k 0 0 w' (HST.o.q hq) c0n c1n c2n c3n c4n (by omega) (by omega) (by omega) (by omega)
     have NL := nms_len s s.buses.length k 0 0
     obtain ⟨g, o, eA, og, hc⟩ := HST.o.rL.at_ (by omega)
     have d0 : V.cell? ⟨g, o + k * 5, none⟩ = some (Value.string x.nm) :=  hc.o (k * 5) _ (show (s.lines.flatMap lnC)[k * 5 + 0]? = _ from by rw [lnC_get _ k 0 x hx (by decide)]; rfl)
     have d1 : V.cell? ⟨g, o + k * 5 + 1, none⟩ = some (Value.int .i64 x.z1.r) := by rw [Nat.add_assoc]; exact hc.o (k * 5 + 1) _ (by rw [lnC_get _ k 1 x hx (by decide)]; rfl)
     have d2 : V.cell? ⟨g, o + k * 5 + 2, none⟩ = some (Value.int .i64 x.z1.x) := by rw [Nat.add_assoc]; exact hc.o (k * 5 + 2) _ (by rw [lnC_get _ k 2 x hx (by decide)]; rfl)
     have d3 : V.cell? ⟨g, o + k * 5 + 3, none⟩ = some (Value.int .i64 x.z0.r) := by rw [Nat.add_assoc]; exact hc.o (k * 5 + 3) _ (by rw [lnC_get _ k 3 x hx (by decide)]; rfl)
     have d4 : V.cell? ⟨g, o + k * 5 + 4, none⟩ = some (Value.int .i64 x.z0.x) := by rw [Nat.add_assoc]; exact hc.o (k * 5 + 4) _ (by rw [lnC_get _ k 4 x hx (by decide)]; rfl)
     have zx := HST.o.zL x (List.mem_of_getElem? hx)
     rw [eA] at s2 N1
     obtain ⟨ev, hev⟩ : ∃ e, nmE (nmsL s s.buses.length k 0 0) x.nm = e := ⟨_, rfl⟩
     have HE0 : Hid (s.lF k = if ev = 0 then (if (ohmB x.z1 && ohmB x.z0) = true then 0 else 2) else ev) := hh (by unfold Sta.lF; rw [hx, ← hev, nms_l]; rfl)
     have ND : Hid (∀ A c w', RdV w' A (nmsL s s.buses.length k 0 0).length c 1 ((nmsL s s.buses.length k 0 0).map Value.string) → Calls Tryz.prog 43 #[.slice A (nmsL s s.buses.length k 0 0).length c, .string x.nm] w' fun e w'' => e = .returned (.int .i64 ev) ∧ Q w' w'') := hh fun A c w' hr => hev ▸ r5named_c A _ c _ x.nm w' hr (by omega) zx
     have S1 := hh eA
     have O1 := hh fun w => r5ohms_c x.z1 w
     have O2 := hh fun w => r5ohms_c x.z0 w
     generalize ohmB x.z1 = p1 at O1 HE0
     generalize ohmB x.z0 = p2 at O2 HE0
     clear hev hc hx eA NL
     by_cases z : ev = 0
     rotate_left
     ·have z' : (ev != 0) = true := by simpa using z
      have z'' : (ev == 0) = false := by simpa using z
      have HE : Hid (s.lF k = ev) := hh (by rw [HE0.o, if_neg z])
      clear HE0
      go_wp2_with fail
      go_region_held3 (fun w' => w'.cell? ⟨b, 0, none⟩ = some (Value.string s.nm) ∧ w'.cell? ⟨b, 1, none⟩ = some (Value.slice s.aB s.buses.length s.cB) ∧ w'.cell? ⟨b, 2, none⟩ = some (Value.slice (some ⟨g, o, none⟩) s.lines.length s.cL) ∧ w'.cell? ⟨b, 3, none⟩ = some (Value.slice s.aS s.srcs.length s.cS) ∧ w'.cell? ⟨b, 4, none⟩ = some (Value.slice s.aY s.bays.length s.cY) ∧ w'.cell? ⟨g, o + k * 5, none⟩ = some (Value.string x.nm)) (simp [go_sem, s0, s1, s2, s3, s4, d0]) (first | (go_at_call 44; (with_reducible refine (N1.o _ Q.i).mono ?_); rintro e w' ⟨A, c, rfl, ⟨kn, rfl⟩, hrd⟩; have HRD := hh hrd; clear hrd) | (go_at_call 43; (with_reducible refine (ND.o A c _ (HRD.o.q Q.i)).q ?_); intro kd) | fail)
      go_wp2_with (first | (go_at_call 45; (with_reducible refine (O1.o _).q ?_); intro kj) | (go_at_call 45; (with_reducible refine (O2.o _).q ?_); intro kj) | fail)
      go_ret
      refine ⟨?_, HQ0.o.trans Q.i⟩
      rw [stE_l HN.o HB_.o HG0.o HG.o HE.o hlt z]; first | done | rfl
     subst z
     cases p1 with
     | false =>
      have HE : Hid (s.lF k = 2) := hh (by rw [HE0.o]; rfl)
      go_wp2_with fail
      go_region_held3 (fun w' => w'.cell? ⟨b, 0, none⟩ = some (Value.string s.nm) ∧ w'.cell? ⟨b, 1, none⟩ = some (Value.slice s.aB s.buses.length s.cB) ∧ w'.cell? ⟨b, 2, none⟩ = some (Value.slice (some ⟨g, o, none⟩) s.lines.length s.cL) ∧ w'.cell? ⟨b, 3, none⟩ = some (Value.slice s.aS s.srcs.length s.cS) ∧ w'.cell? ⟨b, 4, none⟩ = some (Value.slice s.aY s.bays.length s.cY) ∧ w'.cell? ⟨g, o + k * 5, none⟩ = some (Value.string x.nm)) (simp [go_sem, s0, s1, s2, s3, s4, d0]) (first | (go_at_call 44; (with_reducible refine (N1.o _ Q.i).mono ?_); rintro e w' ⟨A, c, rfl, ⟨kn, rfl⟩, hrd⟩; have HRD := hh hrd; clear hrd) | (go_at_call 43; (with_reducible refine (ND.o A c _ (HRD.o.q Q.i)).q ?_); intro kd) | fail)
      go_wp2_with (first | (go_at_call 45; (with_reducible refine (O1.o _).q ?_); intro kj) | (go_at_call 45; (with_reducible refine (O2.o _).q ?_); intro kj) | fail)
      go_ret
      refine ⟨?_, HQ0.o.trans Q.i⟩
      rw [stE_l HN.o HB_.o HG0.o HG.o HE.o hlt (by decide)]; first | done | rfl
     | true =>
      cases p2 with
      | false =>
       have HE : Hid (s.lF k = 2) := hh (by rw [HE0.o]; rfl)
       go_wp2_with fail
       go_region_held3 (fun w' => w'.cell? ⟨b, 0, none⟩ = some (Value.string s.nm) ∧ w'.cell? ⟨b, 1, none⟩ = some (Value.slice s.aB s.buses.length s.cB) ∧ w'.cell? ⟨b, 2, none⟩ = some (Value.slice (some ⟨g, o, none⟩) s.lines.length s.cL) ∧ w'.cell? ⟨b, 3, none⟩ = some (Value.slice s.aS s.srcs.length s.cS) ∧ w'.cell? ⟨b, 4, none⟩ = some (Value.slice s.aY s.bays.length s.cY) ∧ w'.cell? ⟨g, o + k * 5, none⟩ = some (Value.string x.nm)) (simp [go_sem, s0, s1, s2, s3, s4, d0]) (first | (go_at_call 44; (with_reducible refine (N1.o _ Q.i).mono ?_); rintro e w' ⟨A, c, rfl, ⟨kn, rfl⟩, hrd⟩; have HRD := hh hrd; clear hrd) | (go_at_call 43; (with_reducible refine (ND.o A c _ (HRD.o.q Q.i)).q ?_); intro kd) | fail)
       go_wp2_with (first | (go_at_call 45; (with_reducible refine (O1.o _).q ?_); intro kj) | (go_at_call 45; (with_reducible refine (O2.o _).q ?_); intro kj) | fail)
       go_ret
       refine ⟨?_, HQ0.o.trans Q.i⟩
       rw [stE_l HN.o HB_.o HG0.o HG.o HE.o hlt (by decide)]; first | done | rfl
      | true =>
       have HE : Hid (s.lF k = 0) := hh (by rw [HE0.o]; rfl)
       go_wp2_with fail
       go_region_held3 (fun w' => w'.cell? ⟨b, 0, none⟩ = some (Value.string s.nm) ∧ w'.cell? ⟨b, 1, none⟩ = some (Value.slice s.aB s.buses.length s.cB) ∧ w'.cell? ⟨b, 2, none⟩ = some (Value.slice (some ⟨g, o, none⟩) s.lines.length s.cL) ∧ w'.cell? ⟨b, 3, none⟩ = some (Value.slice s.aS s.srcs.length s.cS) ∧ w'.cell? ⟨b, 4, none⟩ = some (Value.slice s.aY s.bays.length s.cY) ∧ w'.cell? ⟨g, o + k * 5, none⟩ = some (Value.string x.nm)) (simp [go_sem, s0, s1, s2, s3, s4, d0]) (first | (go_at_call 44; (with_reducible refine (N1.o _ Q.i).mono ?_); rintro e w' ⟨A, c, rfl, ⟨kn, rfl⟩, hrd⟩; have HRD := hh hrd; clear hrd) | (go_at_call 43; (with_reducible refine (ND.o A c _ (HRD.o.q Q.i)).q ?_); intro kd) | fail)
       go_wp2_with (first | (go_at_call 45; (with_reducible refine (O1.o _).q ?_); intro kj) | (go_at_call 45; (with_reducible refine (O2.o _).q ?_); intro kj) | fail)
       go_roundw
       case rel =>
        refine ⟨k + 1, by go_num, by omega, hh (fun j hj => ?_), Q.i⟩
        by_cases e : j = k
        ·subst e; exact HE.o
        exact HG.o j (by omega)
       case measure => simp [intOf] <;> omega
    obtain rfl : k = s.lines.length := by omega
    have HG1 := HG
    clear HG
    go_wp2_with fail
    go_loopw [11] (fun i wr => ∃ k : Nat, i = .int .i64 k ∧ k ≤ s.srcs.length ∧ Hid (∀ j, j < k → s.sF j = 0) ∧ Q V wr) (fun i _ => s.srcs.length - (intOf i).toNat)
    case atStart => exact ⟨0, rfl, Nat.zero_le _, hh (fun j hj => absurd hj (Nat.not_lt_zero _)), (by repeat' (first | exact Q.refl _ | refine Q.alloc ?_ _ | refine Q.jk ?_ _ | refine Q.drew ?_))⟩
    case round =>
     obtain ⟨k, rfl, hk, HG, kk, rfl⟩ := hrel
     by_cases hlt : k < s.srcs.length
     ·obtain ⟨x, hx⟩ : ∃ x, s.srcs[k]? = some x := ⟨_, List.getElem?_eq_getElem hlt⟩
      have k0 : (0 : Int) ≤ (k : Int) := by omega
      have k1 : (k : Int) < (s.srcs.length : Int) := by omega
      have N1 : Hid (∀ w', Q V w' → Calls Tryz.prog 44 #[.agg #[Value.string s.nm, Value.slice s.aB s.buses.length s.cB, Value.slice s.aL s.lines.length s.cL, Value.slice s.aS s.srcs.length s.cS, Value.slice s.aY s.bays.length s.cY], .int .i64 s.buses.length, .int .i64 s.lines.length, .int .i64 k, .int .i64 0] w' (RetStr (nmsL s s.buses.length s.lines.length k 0) w')) := hh fun w' hq => r5names_c s s.buses.length s.lines.length k 0 w' (HST.o.q hq) c0n c1n c2n c3n c4n (by omega) (by omega) (by omega) (by omega)
      have NL := nms_len s s.buses.length s.lines.length k 0
      obtain ⟨g, o, eA, og, hc⟩ := HST.o.rS.at_ (by omega)
      have d0 : V.cell? ⟨g, o + k * 6, none⟩ = some (Value.string x.nm) :=  hc.o (k * 6) _ (show (s.srcs.flatMap srC)[k * 6 + 0]? = _ from by rw [srC_get _ k 0 x hx (by decide)]; rfl)
      have d1 : V.cell? ⟨g, o + k * 6 + 1, none⟩ = some (Value.int .i64 x.em) := by rw [Nat.add_assoc]; exact hc.o (k * 6 + 1) _ (by rw [srC_get _ k 1 x hx (by decide)]; rfl)
      have d2 : V.cell? ⟨g, o + k * 6 + 2, none⟩ = some (Value.int .i64 x.z1.r) := by rw [Nat.add_assoc]; exact hc.o (k * 6 + 2) _ (by rw [srC_get _ k 2 x hx (by decide)]; rfl)
      have d3 : V.cell? ⟨g, o + k * 6 + 3, none⟩ = some (Value.int .i64 x.z1.x) := by rw [Nat.add_assoc]; exact hc.o (k * 6 + 3) _ (by rw [srC_get _ k 3 x hx (by decide)]; rfl)
      have d4 : V.cell? ⟨g, o + k * 6 + 4, none⟩ = some (Value.int .i64 x.z0.r) := by rw [Nat.add_assoc]; exact hc.o (k * 6 + 4) _ (by rw [srC_get _ k 4 x hx (by decide)]; rfl)
      have d5 : V.cell? ⟨g, o + k * 6 + 5, none⟩ = some (Value.int .i64 x.z0.x) := by rw [Nat.add_assoc]; exact hc.o (k * 6 + 5) _ (by rw [srC_get _ k 5 x hx (by decide)]; rfl)
      have zx := HST.o.zS x (List.mem_of_getElem? hx)
      rw [eA] at s3 N1
      obtain ⟨ev, hev⟩ : ∃ e, nmE (nmsL s s.buses.length s.lines.length k 0) x.nm = e := ⟨_, rfl⟩
      have HE0 : Hid (s.sF k = if ev = 0 then (if (winB x.em 1 1000000 && (ohmB x.z1 && ohmB x.z0)) = true then 0 else 2) else ev) := hh (by unfold Sta.sF; rw [hx, ← hev, nms_s]; rfl)
      have ND : Hid (∀ A c w', RdV w' A (nmsL s s.buses.length s.lines.length k 0).length c 1 ((nmsL s s.buses.length s.lines.length k 0).map Value.string) → Calls Tryz.prog 43 #[.slice A (nmsL s s.buses.length s.lines.length k 0).length c, .string x.nm] w' fun e w'' => e = .returned (.int .i64 ev) ∧ Q w' w'') := hh fun A c w' hr => hev ▸ r5named_c A _ c _ x.nm w' hr (by omega) zx
      have S1 := hh eA
      have O1 := hh fun w => r5source_c x w
      generalize (winB x.em 1 1000000 && (ohmB x.z1 && ohmB x.z0)) = p1 at O1 HE0
      clear hev hc hx eA NL
      by_cases z : ev = 0
      rotate_left
      ·have z' : (ev != 0) = true := by simpa using z
       have z'' : (ev == 0) = false := by simpa using z
       have HE : Hid (s.sF k = ev) := hh (by rw [HE0.o, if_neg z])
       clear HE0
       go_wp2_with fail
       go_region_held3 (fun w' => w'.cell? ⟨b, 0, none⟩ = some (Value.string s.nm) ∧ w'.cell? ⟨b, 1, none⟩ = some (Value.slice s.aB s.buses.length s.cB) ∧ w'.cell? ⟨b, 2, none⟩ = some (Value.slice s.aL s.lines.length s.cL) ∧ w'.cell? ⟨b, 3, none⟩ = some (Value.slice (some ⟨g, o, none⟩) s.srcs.length s.cS) ∧ w'.cell? ⟨b, 4, none⟩ = some (Value.slice s.aY s.bays.length s.cY) ∧ w'.cell? ⟨g, o + k * 6, none⟩ = some (Value.string x.nm)) (simp [go_sem, s0, s1, s2, s3, s4, d0]) (first | (go_at_call 44; (with_reducible refine (N1.o _ Q.i).mono ?_); rintro e w' ⟨A, c, rfl, ⟨kn, rfl⟩, hrd⟩; have HRD := hh hrd; clear hrd) | (go_at_call 43; (with_reducible refine (ND.o A c _ (HRD.o.q Q.i)).q ?_); intro kd) | fail)
       go_wp2_with (first | (go_at_call 46; (with_reducible refine (O1.o _).q ?_); intro kj) | fail)
       go_ret
       refine ⟨?_, HQ0.o.trans Q.i⟩
       rw [stE_s HN.o HB_.o HG0.o HG1.o HG.o HE.o hlt z]; first | done | rfl
      subst z
      cases p1 with
      | false =>
       have HE : Hid (s.sF k = 2) := hh (by rw [HE0.o]; rfl)
       go_wp2_with fail
       go_region_held3 (fun w' => w'.cell? ⟨b, 0, none⟩ = some (Value.string s.nm) ∧ w'.cell? ⟨b, 1, none⟩ = some (Value.slice s.aB s.buses.length s.cB) ∧ w'.cell? ⟨b, 2, none⟩ = some (Value.slice s.aL s.lines.length s.cL) ∧ w'.cell? ⟨b, 3, none⟩ = some (Value.slice (some ⟨g, o, none⟩) s.srcs.length s.cS) ∧ w'.cell? ⟨b, 4, none⟩ = some (Value.slice s.aY s.bays.length s.cY) ∧ w'.cell? ⟨g, o + k * 6, none⟩ = some (Value.string x.nm)) (simp [go_sem, s0, s1, s2, s3, s4, d0]) (first | (go_at_call 44; (with_reducible refine (N1.o _ Q.i).mono ?_); rintro e w' ⟨A, c, rfl, ⟨kn, rfl⟩, hrd⟩; have HRD := hh hrd; clear hrd) | (go_at_call 43; (with_reducible refine (ND.o A c _ (HRD.o.q Q.i)).q ?_); intro kd) | fail)
       go_wp2_with (first | (go_at_call 46; (with_reducible refine (O1.o _).q ?_); intro kj) | fail)
       go_ret
       refine ⟨?_, HQ0.o.trans Q.i⟩
       rw [stE_s HN.o HB_.o HG0.o HG1.o HG.o HE.o hlt (by decide)]; first | done | rfl
      | true =>
       have HE : Hid (s.sF k = 0) := hh (by rw [HE0.o]; rfl)
       go_wp2_with fail
       go_region_held3 (fun w' => w'.cell? ⟨b, 0, none⟩ = some (Value.string s.nm) ∧ w'.cell? ⟨b, 1, none⟩ = some (Value.slice s.aB s.buses.length s.cB) ∧ w'.cell? ⟨b, 2, none⟩ = some (Value.slice s.aL s.lines.length s.cL) ∧ w'.cell? ⟨b, 3, none⟩ = some (Value.slice (some ⟨g, o, none⟩) s.srcs.length s.cS) ∧ w'.cell? ⟨b, 4, none⟩ = some (Value.slice s.aY s.bays.length s.cY) ∧ w'.cell? ⟨g, o + k * 6, none⟩ = some (Value.string x.nm)) (simp [go_sem, s0, s1, s2, s3, s4, d0]) (first | (go_at_call 44; (with_reducible refine (N1.o _ Q.i).mono ?_); rintro e w' ⟨A, c, rfl, ⟨kn, rfl⟩, hrd⟩; have HRD := hh hrd; clear hrd) | (go_at_call 43; (with_reducible refine (ND.o A c _ (HRD.o.q Q.i)).q ?_); intro kd) | fail)
       go_wp2_with (first | (go_at_call 46; (with_reducible refine (O1.o _).q ?_); intro kj) | fail)
       go_roundw
       case rel =>
        refine ⟨k + 1, by go_num, by omega, hh (fun j hj => ?_), Q.i⟩
        by_cases e : j = k
        ·subst e; exact HE.o
        exact HG.o j (by omega)
       case measure => simp [intOf] <;> omega
     obtain rfl : k = s.srcs.length := by omega
     have HG2 := HG
     clear HG
     go_wp2_with fail
     go_loopw [13] (fun i wr => ∃ k : Nat, i = .int .i64 k ∧ k ≤ s.bays.length ∧ Hid (∀ j, j < k → s.yF j = 0) ∧ Q V wr) (fun i _ => s.bays.length - (intOf i).toNat)
     case atStart => exact ⟨0, rfl, Nat.zero_le _, hh (fun j hj => absurd hj (Nat.not_lt_zero _)), (by repeat' (first | exact Q.refl _ | refine Q.alloc ?_ _ | refine Q.jk ?_ _ | refine Q.drew ?_))⟩
     case round =>
      obtain ⟨k, rfl, hk, HG, kk, rfl⟩ := hrel
      by_cases hlt : k < s.bays.length
      rotate_left
      ·obtain rfl : k = s.bays.length := by omega
       have HG3 := HG
       clear HG
       go_wp2_with fail
       go_ret
       refine ⟨?_, HQ0.o.trans Q.i⟩
       rw [stE_ok HN.o HB_.o HG0.o HG1.o HG2.o HG3.o]; first | done | rfl
      obtain ⟨x, hx⟩ : ∃ x, s.bays[k]? = some x := ⟨_, List.getElem?_eq_getElem hlt⟩
      have k0 : (0 : Int) ≤ (k : Int) := by omega
      have k1 : (k : Int) < (s.bays.length : Int) := by omega
      have N1 : Hid (∀ w', Q V w' → Calls Tryz.prog 44 #[.agg #[Value.string s.nm, Value.slice s.aB s.buses.length s.cB, Value.slice s.aL s.lines.length s.cL, Value.slice s.aS s.srcs.length s.cS, Value.slice s.aY s.bays.length s.cY], .int .i64 s.buses.length, .int .i64 s.lines.length, .int .i64 s.srcs.length, .int .i64 k] w' (RetStr (nmsL s s.buses.length s.lines.length s.srcs.length k) w')) := hh fun w' hq => r5names_c s s.buses.length s.lines.length s.srcs.length k w' (HST.o.q hq) c0n c1n c2n c3n c4n (by omega) (by omega) (by omega) (by omega)
      have NL := nms_len s s.buses.length s.lines.length s.srcs.length k
      obtain ⟨g, o, eA, og, hc⟩ := HST.o.rY.at_ (by omega)
      have d0 : V.cell? ⟨g, o + k * 12, none⟩ = some (.string x.nm) := hc.o (k * 12) _ (show (s.bays.flatMap byC)[k * 12 + 0]? = _ from by rw [byC_get _ k 0 x hx (by decide)]; rfl)
      have zx := HST.o.zY x (List.mem_of_getElem? hx)
      have BY := hh fun w' (hq : Q V w') => r5bay_c s k x w' (HST.o.q hq) hx (by omega) (by omega) (by omega) (by omega)
      rw [eA] at s4 N1 BY
      obtain ⟨ev, hev⟩ : ∃ e, nmE (nmsL s s.buses.length s.lines.length s.srcs.length k) x.nm = e := ⟨_, rfl⟩
      obtain ⟨eb, heb⟩ : ∃ e, byX s.buses.length s.lines.length s.srcs.length (s.bays.take k) x (s.lks k) = e := ⟨_, rfl⟩
      have HE0 : Hid (s.yF k = if ev = 0 then eb else ev) := hh (by unfold Sta.yF; rw [hx, ← hev, ← heb, nms_y]; exact byE_eq _ _ _ _ _ _ _)
      rw [heb] at BY
      have ND : Hid (∀ A c w', RdV w' A (nmsL s s.buses.length s.lines.length s.srcs.length k).length c 1 ((nmsL s s.buses.length s.lines.length s.srcs.length k).map Value.string) → Calls Tryz.prog 43 #[.slice A (nmsL s s.buses.length s.lines.length s.srcs.length k).length c, .string x.nm] w' fun e w'' => e = .returned (.int .i64 ev) ∧ Q w' w'') := hh fun A c w' hr => hev ▸ r5named_c A _ c _ x.nm w' hr (by omega) zx
      have S1 := hh eA
      clear hev heb hc hx eA NL
      by_cases z : ev = 0
      rotate_left
      ·have z' : (ev != 0) = true := by simpa using z
       have z'' : (ev == 0) = false := by simpa using z
       have HE : Hid (s.yF k = ev) := hh (by rw [HE0.o, if_neg z])
       clear HE0
       go_wp2_with fail
       go_region_held3 (fun w' => w'.cell? ⟨b, 0, none⟩ = some (Value.string s.nm) ∧ w'.cell? ⟨b, 1, none⟩ = some (Value.slice s.aB s.buses.length s.cB) ∧ w'.cell? ⟨b, 2, none⟩ = some (Value.slice s.aL s.lines.length s.cL) ∧ w'.cell? ⟨b, 3, none⟩ = some (Value.slice s.aS s.srcs.length s.cS) ∧ w'.cell? ⟨b, 4, none⟩ = some (Value.slice (some ⟨g, o, none⟩) s.bays.length s.cY) ∧ w'.cell? ⟨g, o + k * 12, none⟩ = some (Value.string x.nm)) (simp [go_sem, s0, s1, s2, s3, s4, d0]) (first | (go_at_call 44; (with_reducible refine (N1.o _ Q.i).mono ?_); rintro e w' ⟨A, c, rfl, ⟨kn, rfl⟩, hrd⟩; have HRD := hh hrd; clear hrd) | (go_at_call 43; (with_reducible refine (ND.o A c _ (HRD.o.q Q.i)).q ?_); intro kd) | fail)
       go_wp2_with (first | (go_at_call 47; (with_reducible refine (BY.o _ Q.i).q ?_); intro kb) | fail)
       go_ret
       refine ⟨?_, HQ0.o.trans Q.i⟩
       rw [stE_y HN.o HB_.o HG0.o HG1.o HG2.o HG.o HE.o hlt z]; first | done | rfl
      subst z
      by_cases zb : eb = 0
      rotate_left
      ·have z' : (eb != 0) = true := by simpa using zb
       have HE : Hid (s.yF k = eb) := hh (by rw [HE0.o]; rfl)
       go_wp2_with fail
       go_region_held3 (fun w' => w'.cell? ⟨b, 0, none⟩ = some (Value.string s.nm) ∧ w'.cell? ⟨b, 1, none⟩ = some (Value.slice s.aB s.buses.length s.cB) ∧ w'.cell? ⟨b, 2, none⟩ = some (Value.slice s.aL s.lines.length s.cL) ∧ w'.cell? ⟨b, 3, none⟩ = some (Value.slice s.aS s.srcs.length s.cS) ∧ w'.cell? ⟨b, 4, none⟩ = some (Value.slice (some ⟨g, o, none⟩) s.bays.length s.cY) ∧ w'.cell? ⟨g, o + k * 12, none⟩ = some (Value.string x.nm)) (simp [go_sem, s0, s1, s2, s3, s4, d0]) (first | (go_at_call 44; (with_reducible refine (N1.o _ Q.i).mono ?_); rintro e w' ⟨A, c, rfl, ⟨kn, rfl⟩, hrd⟩; have HRD := hh hrd; clear hrd) | (go_at_call 43; (with_reducible refine (ND.o A c _ (HRD.o.q Q.i)).q ?_); intro kd) | fail)
       go_wp2_with (first | (go_at_call 47; (with_reducible refine (BY.o _ Q.i).q ?_); intro kb) | fail)
       go_ret
       refine ⟨?_, HQ0.o.trans Q.i⟩
       rw [stE_y HN.o HB_.o HG0.o HG1.o HG2.o HG.o HE.o hlt zb]; first | done | rfl
      subst zb
      have HE : Hid (s.yF k = 0) := hh (by rw [HE0.o]; rfl)
      go_wp2_with fail
      go_region_held3 (fun w' => w'.cell? ⟨b, 0, none⟩ = some (Value.string s.nm) ∧ w'.cell? ⟨b, 1, none⟩ = some (Value.slice s.aB s.buses.length s.cB) ∧ w'.cell? ⟨b, 2, none⟩ = some (Value.slice s.aL s.lines.length s.cL) ∧ w'.cell? ⟨b, 3, none⟩ = some (Value.slice s.aS s.srcs.length s.cS) ∧ w'.cell? ⟨b, 4, none⟩ = some (Value.slice (some ⟨g, o, none⟩) s.bays.length s.cY) ∧ w'.cell? ⟨g, o + k * 12, none⟩ = some (Value.string x.nm)) (simp [go_sem, s0, s1, s2, s3, s4, d0]) (first | (go_at_call 44; (with_reducible refine (N1.o _ Q.i).mono ?_); rintro e w' ⟨A, c, rfl, ⟨kn, rfl⟩, hrd⟩; have HRD := hh hrd; clear hrd) | (go_at_call 43; (with_reducible refine (ND.o A c _ (HRD.o.q Q.i)).q ?_); intro kd) | fail)
      go_wp2_with (first | (go_at_call 47; (with_reducible refine (BY.o _ Q.i).q ?_); intro kb) | fail)
      go_roundw
      case rel =>
       refine ⟨k + 1, by go_num, by omega, hh (fun j hj => ?_), Q.i⟩
       by_cases e : j = k
       ·subst e; exact HE.o
       exact HG.o j (by omega)
      case measure => simp [intOf] <;> omega
theorem r6check_c (s : Sta) (p : Pos) (w : World) (hs : StAt w s) (hp : PosAt w p) :
  Calls Tryz.prog 23 #[.agg #[Value.string s.nm, Value.slice s.aB s.buses.length s.cB, Value.slice s.aL s.lines.length s.cL, Value.slice s.aS s.srcs.length s.cS, Value.slice s.aY s.bays.length s.cY], .agg #[Value.slice p.aC p.closed.length p.cC, Value.slice p.aK p.rows.length p.cK]] w fun e w' => e = .returned (.int .i64 (psE s p)) ∧ Q w w' := by
 have HS := hh hs
 have HP := hh hp
 have b1 := hs.lY
 have b2 := hp.lC
 have b3 := hp.lK
 have c1 : (0 : Int) ≤ (s.bays.length : Int) := by omega
 have c2 : (0 : Int) ≤ (p.closed.length : Int) := by omega
 have c3 : (0 : Int) ≤ (p.rows.length : Int) := by omega
 clear hs hp
 by_cases hbad : p.closed.length ≠ s.bays.length ∨ p.rows.length ≠ s.bays.length
 ·have EE : Hid (psE s p = 3) := hh (by unfold psE; rw [if_pos hbad])
  have hw : ((p.closed.length : Int) != (s.bays.length : Int)) = true ∨ (((p.closed.length : Int) != (s.bays.length : Int)) = false ∧ ((p.rows.length : Int) != (s.bays.length : Int)) = true) := by
   by_cases a : p.closed.length = s.bays.length
   ·right
    rw [a]
    exact ⟨by simp, by simp; omega⟩
   left
   simp
   omega
  clear hbad
  rcases hw with d1 | ⟨d1, d2⟩
  all_goals
   go_enter Tryz.func23, Tryz.ntmps23
   go_wp2_with fail
   go_ret
   refine ⟨by rw [EE.o]; first | done | rfl, ?_⟩
   exact Q.i
 have EE : Hid (psE s p = orE (fstE (rwL s p) s.bays.length) (fstE (rwE s p) s.bays.length)) := hh (by unfold psE; rw [if_neg hbad])
 have e1 : p.closed.length = s.bays.length := by omega
 have e2 : p.rows.length = s.bays.length := by omega
 have E2 := hh e2
 have d1 : ((p.closed.length : Int) != (s.bays.length : Int)) = false := by rw [e1]; simp
 have d2 : ((p.rows.length : Int) != (s.bays.length : Int)) = false := by rw [e2]; simp
 clear hbad e1 e2
 go_enter Tryz.func23, Tryz.ntmps23
 go_upto_region 1 with fail
 refine wp_world ?_
 intro V eV
 have hq0 : Q w V := by rw [eV]; exact Q.i
 have hb : HB V w.heap.size #[Value.string s.nm, Value.slice s.aB s.buses.length s.cB, Value.slice s.aL s.lines.length s.cL, Value.slice s.aS s.srcs.length s.cS, Value.slice s.aY s.bays.length s.cY] 27 := by rw [eV]; exact (HB.new _ _ _ _ rfl).q Q.i
 have hb2 : HB V (w.heap.size + 1) #[Value.slice p.aC p.closed.length p.cC, Value.slice p.aK p.rows.length p.cK] 31 := by rw [eV]; exact (HB.new (w.alloc (Obj.cells #[Value.string s.nm, Value.slice s.aB s.buses.length s.cB, Value.slice s.aL s.lines.length s.cL, Value.slice s.aS s.srcs.length s.cS, Value.slice s.aY s.bays.length s.cY] 27)) _ _ _ (by simp)).q Q.i
 have HQ0 := hh hq0
 have s0 := hb.cell 0
 have s1 := hb.cell 1
 have s2 := hb.cell 2
 have s3 := hb.cell 3
 have s4 := hb.cell 4
 have p0 := hb2.cell 0
 have p1 := hb2.cell 1
 simp only [List.getElem?_toArray, List.getElem?_cons_zero, List.getElem?_cons_succ] at s0 s1 s2 s3 s4 p0 p1
 have ob := hb.old
 have ob2 := hb2.old
 have HS : Hid (StAt V s) := hh (HS.o.q hq0)
 have HP : Hid (PosAt V p) := hh (HP.o.q hq0)
 clear eV hb hq0 hb2
 generalize w.heap.size + 1 = b2 at p0 p1 ob2 ⊢
 generalize w.heap.size = b at s0 s1 s2 s3 s4 ob ⊢
 go_wp2_with fail
 go_loopw [5] (fun i wr => ∃ k : Nat, i = .int .i64 k ∧ k ≤ s.bays.length ∧ Hid (∀ j, j < k → rwL s p j = 0) ∧ Q V wr) (fun i _ => s.bays.length - (intOf i).toNat)
 case atStart => exact ⟨0, rfl, Nat.zero_le _, hh (fun j hj => absurd hj (Nat.not_lt_zero _)), Q.refl _⟩
 case round =>
 obtain ⟨k, rfl, hk, HZ, kk, rfl⟩ := hrel
 by_cases hlt : k < s.bays.length
 ·obtain ⟨y, hy⟩ : ∃ y, s.bays[k]? = some y := ⟨_, List.getElem?_eq_getElem hlt⟩
  obtain ⟨r, hr⟩ : ∃ r, p.rows[k]? = some r := ⟨_, List.getElem?_eq_getElem (by rw [E2.o]; exact hlt)⟩
  obtain ⟨g, o, eA, og, hc⟩ := HS.o.bayAt hy
  obtain ⟨g', o', eA', og', r1⟩ := HP.o.rowAt hr
  rw [eA] at s4
  rw [eA'] at p1
  have q6 : V.cell? ⟨g, o + k * 12 + 6, none⟩ = some (Value.slice y.la y.ln y.lc) := hc.o 6 _ rfl
  have k0 : (0 : Int) ≤ (k : Int) := by omega
  have k1 : (k : Int) < (s.bays.length : Int) := by omega
  have k2 : (k : Int) < (p.rows.length : Int) := by have := E2.o; omega
  have RL : Hid (rwL s p k = if r.l.length = y.ln then 0 else 3) := hh (by unfold rwL; rw [hy, hr])
  obtain ⟨nr, enr⟩ : ∃ n, r.l.length = n := ⟨_, rfl⟩
  have hnr := (HP.o.row r (List.mem_of_getElem? hr)).2
  have hln := (HS.o.lk k y hy)
  have hln2 : (y.ln : Int) ≤ 9223372036854775807 := by have h1 := hln.2; have h2 := hln.1.2; omega
  rw [enr] at r1 RL hnr
  have n0 : (0 : Int) ≤ (nr : Int) := by omega
  have n1 : (0 : Int) ≤ (y.ln : Int) := by omega
  clear hy hr eA eA' hc hln enr
  by_cases hd : nr = y.ln
  rotate_left
  ·have RL0 : Hid (rwL s p k = 3) := hh (by rw [RL.o, if_neg hd])
   have EX : Hid (psE s p = 3) := hh (by rw [EE.o, fstE_hit HZ.o (by rw [RL0.o]; decide) hlt, RL0.o]; rfl)
   have hd' : ((nr : Int) != (y.ln : Int)) = true := by rw [bne_iff_ne]; omega
   clear hd RL
   go_wp2_with fail
   refine wrj (by kernel_rfl) ?_
   repeat (go_big_quiet_step (fail))
   refine wq0 fun kq => ?_
   go_wp2_with fail
   go_ret
   exact ⟨by rw [EX.o]; first | done | rfl, HQ0.o.trans Q.i⟩
  have RL0 : Hid (rwL s p k = 0) := hh (by rw [RL.o, if_pos hd])
  have hd' : ((nr : Int) != (y.ln : Int)) = false := by rw [hd]; simp
  clear hd RL
  go_wp2_with fail
  refine wrj (by kernel_rfl) ?_
  repeat (go_big_quiet_step (fail))
  refine wq0 fun kq => ?_
  go_wp2_with fail
  go_roundw
  case rel =>
   refine ⟨k + 1, by go_num, by omega, hh (fun j hj => ?_), Q.i⟩
   by_cases e : j = k
   ·subst e; exact RL0.o
   exact HZ.o j (by omega)
  case measure => simp [intOf] <;> omega
 obtain rfl : k = s.bays.length := by omega
 have EE2 : Hid (psE s p = fstE (rwE s p) s.bays.length) := hh (by rw [EE.o, fstE_none HZ.o]; rfl)
 have HZ1 := HZ
 clear HZ hlt hk
 go_wp2_with fail
 go_loopw [6] (fun i wr => ∃ k : Nat, i = .int .i64 k ∧ k ≤ s.bays.length ∧ Hid (∀ j, j < k → rwE s p j = 0) ∧ Q V wr) (fun i _ => s.bays.length - (intOf i).toNat)
 case atStart => exact ⟨0, rfl, Nat.zero_le _, hh (fun j hj => absurd hj (Nat.not_lt_zero _)), (by repeat' (first | exact Q.refl _ | refine Q.alloc ?_ _ | refine Q.jk ?_ _ | refine Q.drew ?_))⟩
 case round =>
 obtain ⟨k, rfl, hk, HZ, kk2, rfl⟩ := hrel
 by_cases hlt : k < s.bays.length
 rotate_left
 ·obtain rfl : k = s.bays.length := by omega
  have EX : Hid (psE s p = 0) := hh (by rw [EE2.o, fstE_none HZ.o])
  clear HZ
  go_wp2_with fail
  go_ret
  exact ⟨by rw [EX.o]; first | done | rfl, HQ0.o.trans Q.i⟩
 obtain ⟨y, hy⟩ : ∃ y, s.bays[k]? = some y := ⟨_, List.getElem?_eq_getElem hlt⟩
 obtain ⟨r, hr⟩ : ∃ r, p.rows[k]? = some r := ⟨_, List.getElem?_eq_getElem (by rw [E2.o]; exact hlt)⟩
 obtain ⟨g, o, eA, og, hc⟩ := HS.o.bayAt hy
 obtain ⟨g', o', eA', og', r1⟩ := HP.o.rowAt hr
 rw [eA] at s4
 rw [eA'] at p1
 have q1 : V.cell? ⟨g, o + k * 12 + 1, none⟩ = some (Value.int .i64 y.kd) := hc.o 1 _ rfl
 have k0 : (0 : Int) ≤ (k : Int) := by omega
 have k1 : (k : Int) < (s.bays.length : Int) := by omega
 have k2 : (k : Int) < (p.rows.length : Int) := by have := E2.o; omega
 obtain ⟨nr, enr⟩ : ∃ n, r.l.length = n := ⟨_, rfl⟩
 have RE : Hid (rwE s p k = fstE (plE y.kd r.l) nr) := hh (by unfold rwE; rw [hy, hr, ← enr])
 have hrow := HP.o.row r (List.mem_of_getElem? hr)
 have ER := hh enr
 have HROW := hh hrow.1
 have hnr := hrow.2
 rw [enr] at r1 hnr HROW
 have n0 : (0 : Int) ≤ (nr : Int) := by omega
 generalize r.ad = ra at r1 HROW
 clear hy hr eA eA' hc enr hrow
 go_wp2_with fail
 go_loopw [7] (fun i wr => ∃ j : Nat, i = .int .i64 j ∧ j ≤ nr ∧ Hid (∀ i, i < j → plE y.kd r.l i = 0) ∧ Q V wr) (fun i _ => nr - (intOf i).toNat)
 case atStart => exact ⟨0, rfl, Nat.zero_le _, hh (fun j hj => absurd hj (Nat.not_lt_zero _)), (by repeat' (first | exact Q.refl _ | refine Q.alloc ?_ _ | refine Q.jk ?_ _ | refine Q.drew ?_))⟩
 case round =>
 obtain ⟨j, rfl, hj, HJ, kk3, rfl⟩ := hrel
 by_cases hlj : j < nr
 rotate_left
 ·obtain rfl : j = nr := by omega
  have RL0 : Hid (rwE s p k = 0) := hh (by rw [RE.o, fstE_none HJ.o])
  clear HJ
  go_wp2_with fail
  go_roundw
  case rel =>
   refine ⟨k + 1, by go_num, by omega, hh (fun j hj => ?_), Q.i⟩
   by_cases e : j = k
   ·subst e; exact RL0.o
   exact HZ.o j (by omega)
  case measure => simp [intOf] <;> omega
 obtain ⟨g3, o3, rfl, og3, hc3⟩ := HROW.o.at_ (by omega)
 have u0 := hc3.o j hlj
 have j0 : (0 : Int) ≤ (j : Int) := by omega
 have j1 : (j : Int) < (nr : Int) := by omega
 obtain ⟨x, hx⟩ : ∃ x, r.l.getD j 0 = x := ⟨_, rfl⟩
 have PE : Hid (plE y.kd r.l j = if plB y.kd x = true then 0 else 16) := hh (by unfold plE; rw [hx])
 rw [hx] at u0
 clear hx hc3
 cases hpl : plB y.kd x with
 | false =>
  have PJ : Hid (plE y.kd r.l j = 16) := hh (by rw [PE.o, hpl]; rfl)
  have EX : Hid (psE s p = 16) := hh (by rw [EE2.o, fst_ne HZ.o (E := 16) (by rw [RE.o, fst_ne HJ.o PJ.o hlj (by decide)]) hlt (by decide)])
  have hw : x < 0 ∨ (¬ x < 0 ∧ 2 < x) ∨ (¬ x < 0 ∧ ¬ 2 < x ∧ (y.kd == 3) = true ∧ (x != 1) = true) := by
   by_cases h3 : y.kd = 3
   rotate_left
   ·simp [plB, h3] at hpl
    omega
   simp [plB, h3] at hpl
   simp [h3, hpl]
   omega
  clear hpl PE
  rcases hw with v0 | ⟨v0, v1⟩ | ⟨v0, v1, v2, v3⟩
  all_goals
   go_wp2_with fail
   go_ret
   exact ⟨by rw [EX.o]; first | done | rfl, HQ0.o.trans Q.i⟩
 | true =>
  have PJ : Hid (plE y.kd r.l j = 0) := hh (by rw [PE.o, hpl]; rfl)
  have hw : ¬ x < 0 ∧ ¬ 2 < x ∧ ((y.kd == 3) = false ∨ ((y.kd == 3) = true ∧ (x != 1) = false)) := by
   by_cases h3 : y.kd = 3
   ·simp [plB, h3] at hpl
    simp [h3, hpl]
   simp [plB, h3] at hpl
   simp [h3]
   omega
  obtain ⟨v0, v1, hw⟩ := hw
  clear hpl PE
  rcases hw with v2 | ⟨v2, v3⟩
  all_goals
   go_wp2_with fail
   go_roundw
   case rel =>
    refine ⟨j + 1, by go_num, by omega, hh (fun i hi => ?_), Q.i⟩
    by_cases e : i = j
    ·subst e; exact PJ.o
    exact HJ.o i (by omega)
   case measure => simp [intOf] <;> omega
theorem r6fine_g (s : Sta) (p : Pos) (w : World) (h : GoodAt w s p) :
  Calls Tryz.prog 81 #[.agg #[Value.string s.nm, Value.slice s.aB s.buses.length s.cB, Value.slice s.aL s.lines.length s.cL, Value.slice s.aS s.srcs.length s.cS, Value.slice s.aY s.bays.length s.cY], .agg #[Value.slice p.aC p.closed.length p.cC, Value.slice p.aK p.rows.length p.cK]] w fun e w' => e = .returned (.bool true) ∧ Q w w' := by
 have C5 := hh fun (w' : World) (hq : Q w w') => r5check_c s w' (h.st.q hq)
 have C6 := hh fun (w' : World) (hq : Q w w') => r6check_c s p w' (h.st.q hq) (h.ps.q hq)
 rw [h.e1] at C5
 rw [h.e2] at C6
 clear h
 go_enter Tryz.func81, Tryz.ntmps81
 go_wp2_with (first | (go_at_call 22; (with_reducible refine (C5.o _ Q.i).q ?_); intro k1) | (go_at_call 23; (with_reducible refine (C6.o _ Q.i).q ?_); intro k2) | fail)
 go_ret
 exact ⟨rfl, Q.i⟩
end Go.Proofs.YtcjflafjmdfanaaGreatDoor

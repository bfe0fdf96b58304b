
/- What the leaf functions of the reference 05 return: Name, between, ohms, source, Index, named. -/
import Derived.Test.YtcjflafjmdfanaaGreatDoorBv23
import Derived.Test.YtcjflafjmdfanaaGreatDoorBv11
import Derived.Test.YtcjflafjmdfanaaGreatDoorBv15
set_option maxHeartbeats 64000000
set_option maxRecDepth 100000
set_option linter.unusedSimpArgs false
set_option linter.unusedVariables false
/- What Around of the bus image, and place, Sections and Overall of package busbar return. -/
namespace Go.Proofs.YtcjflafjmdfanaaGreatDoor
open Go.RowKit Go.Sub
attribute [local go_sem ↓] Go.wp_at_zero Go.wp_at_succ
def ScAt (w : World) (A : Option Addr) (c : Nat) (rs : List SecR) : Prop := RdV w A rs.length c 3 (rs.flatMap secC) ∧ ∀ a ∈ rs, RdV w a.aM a.d.mem.length a.cM 2 (a.d.mem.flatMap mmC)
theorem ScAt.q {w w' : World} {A : Option Addr} {c : Nat} {rs : List SecR} (h : ScAt w A c rs) (hq : Q w w') : ScAt w' A c rs := ⟨h.1.q hq, fun a ha => (h.2 a ha).q hq⟩
theorem PrAt.q {w w' : World} {A : Option Addr} {c : Nat} {rs : List SecR} {f : Sec → Prt} (h : PrAt w A c rs f) (hq : Q w w') : PrAt w' A c rs f := ⟨h.1.q hq, fun a ha => ⟨(h.2 a ha).1.q hq, (h.2 a ha).2.q hq⟩⟩
theorem PrAt.at_ {w : World} {A : Option Addr} {c : Nat} {rs : List SecR} {f : Sec → Prt} (h : PrAt w A c rs f) (hn : 0 < rs.length) : ∃ g o, A = some ⟨g, o, none⟩ ∧ Old g w ∧ Hid (∀ k a q u, rs[k]? = some a → q < 11 → (prC a (f a.d))[q]? = some u → w.cell? ⟨g, o + k * 11 + q, none⟩ = some u) := by
 obtain ⟨g, o, e, ho, hc⟩ := h.1.at_ hn
 refine ⟨g, o, e, ho, hh fun k a q u ha hq hu => ?_⟩
 rw [Nat.add_assoc]
 exact hc.o (k * 11 + q) u (by rw [prC_get rs f k q a ha hq]; exact hu)
theorem make_intB (w : World) (n : Nat) (hn : n < 1000) : (Instr.makeSlice 61 (.int .i64 n) (.int .i64 n)).run Tryz.prog w = .ok (.slice (some ⟨w.heap.size, 0, none⟩) n n) (w.alloc (.cells (arrF (fun j => .int .i64 0) n) 3)) := by
 obtain ⟨i, hi, hz, hs1, hb⟩ := infoInt
 have := run_makeSlice (P := Tryz.prog) w 61 3 i _ Tryz.underlying61 hi hz .i64 .i64 n n (by omega) (by omega) (by rw [hs1]; omega) (by rw [hb]; omega) (by omega)
 rw [this, hs1, madeCells_arrF, Int.toNat_natCast, Nat.mul_one]
 have e : ∀ F : Nat → Value, (∀ j, F j = .int .i64 0) → arrF F n = arrF (fun _ => .int .i64 0) n := fun F hF => arrF_congr fun j _ => hF j
 rw [e _ (fun j => by
  show (#[Value.int .i64 0] : Array Value)[j % 1]! = _
  rw [Nat.mod_one]
  rfl)]
def arB (n : Nat) (F : Nat → Value) : Obj := .cells (arrF F n) 3
theorem around_c (A : Option Addr) (c : Nat) (rs : List SecR) (k : Nat) (a : SecR) (w : World) (h : ScAt w A c rs) (ha : rs[k]? = some a) (h1000 : a.d.mem.length < 1000) (hrs : rs.length < 1000) :
  Calls Tryz.prog 15 #[.slice A rs.length c, .int .i64 k] w fun e w' => ∃ g, e = .returned (.slice (some ⟨g, 0, none⟩) a.d.mem.length a.d.mem.length) ∧ Q w w' ∧ w.heap.size ≤ g ∧ RdN w' (some ⟨g, 0, none⟩) a.d.mem.length a.d.mem.length .i64 (a.d.mem.map Prod.fst) := by
 have hlt := (List.getElem?_eq_some_iff.1 ha).1
 obtain ⟨g4, o4, rfl, og4, hc4⟩ := sec_at h.1 (by omega)
 obtain ⟨x1, x2, x3⟩ := hc4.o k a ha
 have HMA := hh (h.2 a (List.mem_of_getElem? ha))
 obtain ⟨ml, eml⟩ : ∃ ml, a.d.mem = ml := ⟨_, rfl⟩
 rw [eml] at x2 HMA h1000 ⊢
 obtain ⟨n, en⟩ : ∃ n, ml.length = n := ⟨_, rfl⟩
 rw [en] at x2 HMA h1000 ⊢
 have HL := hh en
 obtain ⟨aM, eaM⟩ : ∃ m, a.aM = m := ⟨_, rfl⟩
 rw [eaM] at x2 HMA
 obtain ⟨nR, enR⟩ : ∃ n, rs.length = n := ⟨_, rfl⟩
 rw [enR] at hlt hrs ⊢
 have hmk := fun w => make_intB w n h1000
 have k0 : (0 : Int) ≤ (k : Int) := by omega
 have k1 : (k : Int) < (nR : Int) := by omega
 have k0' : ¬ (k : Int) < 0 := by omega
 have k1' : ¬ (nR : Int) ≤ (k : Int) := by omega
 have n0 : (0 : Int) ≤ (n : Int) := by omega
 clear h ha hc4 eml en eaM enR
 go_enter Tryz.func15, Tryz.ntmps15
 go_wp2_with fail
 go_loopw [29] (fun i wr => ∃ (j : Nat) (F : Nat → Value), i = .int .i64 j ∧ j ≤ n ∧ Q (w.alloc (.cells (arrF F n) 3)) wr ∧ Hid (∀ q m, q < j → ml[q]? = some m → F q = .int .i64 m.1)) (fun i _ => n - (intOf i).toNat)
 case atStart => exact ⟨0, _, rfl, Nat.zero_le _, (by repeat' (first | exact Q.refl _ | refine Q.alloc ?_ _ | refine Q.jk ?_ _ | refine Q.drew ?_)), hh (fun q m hq => absurd hq (Nat.not_lt_zero _))⟩
 case round =>
  obtain ⟨j, F, rfl, hj, ⟨kk, rfl⟩, HF⟩ := hrel
  by_cases hlj : j < n
  rotate_left
  ·obtain rfl : n = j := by omega
   have HRD : Hid (∀ w', Q ((w.alloc (.cells (arrF F n) 3)).jk kk) w' → RdN w' (some ⟨w.heap.size, 0, none⟩) n n .i64 (ml.map Prod.fst)) := hh fun w' hq => by
    refine RdV.q (w := (w.alloc (.cells (arrF F n) 3)).jk kk) ?_ hq
    have hb : HB ((w.alloc (.cells (arrF F n) 3)).jk kk) w.heap.size (arrF F n) 3 := (HB.new _ _ _ _ rfl).jk kk
    refine ⟨by simp [HL.o], Nat.le_refl _, fun hn => ⟨_, 0, rfl, hb.lt, fun i u hi => ?_⟩, fun e => by cases e⟩
    rw [List.getElem?_map, List.getElem?_map] at hi
    cases hm : ml[i]? with
    | none => rw [hm] at hi; cases hi
    | some m =>
     rw [hm] at hi
     have hin : i < n := by rw [← HL.o]; exact (List.getElem?_eq_some_iff.1 hm).1
     rw [hb.cell, Nat.zero_add, arrF_get F hin, HF.o i m hin hm]
     exact hi
   go_wp2_with fail
   go_ret
   exact ⟨_, rfl, Q.i, Nat.le_refl _, HRD.o _ Q.i⟩
  obtain ⟨m, hm⟩ : ∃ m, ml[j]? = some m := ⟨_, List.getElem?_eq_getElem (by rw [HL.o]; exact hlj)⟩
  obtain ⟨g, o, rfl, og, hc⟩ := mem_at HMA.o (by omega)
  obtain ⟨a1, a2⟩ := hc.o j m hm
  have EMJ := hh hm
  have e0 : (arrF F n)[j]? = some (F j) := arrF_get F hlj
  have j0 : (0 : Int) ≤ (j : Int) := by omega
  have j1 : (j : Int) < (n : Int) := by omega
  clear hc hm
  go_wp2_with fail
  go_roundw
  case rel =>
   simp only [arrF_set]
   refine ⟨j + 1, _, by go_num, by omega, (by repeat' (first | exact Q.refl _ | refine Q.alloc ?_ _ | refine Q.jk ?_ _ | refine Q.drew ?_)), hh (fun q m' hq hm' => ?_)⟩
   by_cases e : q = j
   rotate_left
   ·rw [updF_other _ _ e]
    exact HF.o q m' (by omega) hm'
   subst e
   rw [EMJ.o] at hm'
   obtain rfl := Option.some.inj hm'
   rw [updF_same]
  case measure => simp [intOf] <;> omega
theorem place_c (s : Sta) (p : Pos) (w : World) (hs : StAt w s) (hp : PosAt w p) :
  Calls Tryz.prog 18 #[.agg #[Value.string s.nm, Value.slice s.aB s.buses.length s.cB, Value.slice s.aL s.lines.length s.cL, Value.slice s.aS s.srcs.length s.cS, Value.slice s.aY s.bays.length s.cY], .agg #[Value.slice p.aC p.closed.length p.cC, Value.slice p.aK p.rows.length p.cK]] w fun e w' => e = .returned (.int .i64 (orE (stE s) (psE s p))) ∧ Q w w' := by
 have SC := hh fun (w' : World) (hq : Q w w') => stcheck_c s w' (hs.q hq)
 have PC := hh fun (w' : World) (hq : Q w w') => tpcheck_c s p w' (hs.q hq) (hp.q hq)
 have HO : Hid (orE (stE s) (psE s p) = if stE s = 0 then psE s p else stE s) := hh rfl
 generalize orE (stE s) (psE s p) = E at HO ⊢
 generalize stE s = e1 at SC HO
 generalize psE s p = e2 at PC HO
 clear hs hp
 by_cases h1 : e1 = 0
 ·have h1' : (e1 != 0) = false := by simpa using h1
  have HE : Hid (E = e2) := hh (by rw [HO.o, if_pos h1])
  clear HO h1
  go_enter Tryz.func18, Tryz.ntmps18
  go_wp2_with (first | (go_at_call 30; (with_reducible refine (SC.o _ Q.i).q ?_); intro k0) | (go_at_call 12; (with_reducible refine (PC.o _ Q.i).q ?_); intro k1) | fail)
  go_ret
  exact ⟨by rw [HE.o]; rfl, Q.i⟩
 have h1' : (e1 != 0) = true := by simpa using h1
 have HE : Hid (E = e1) := hh (by rw [HO.o, if_neg h1])
 clear HO h1
 go_enter Tryz.func18, Tryz.ntmps18
 go_wp2_with (first | (go_at_call 30; (with_reducible refine (SC.o _ Q.i).q ?_); intro k0) | fail)
 go_ret
 exact ⟨by rw [HE.o]; rfl, Q.i⟩
theorem ckE_zero {r : Rel} {W : List Int} {G : List Bool} {nY nW nG : Nat} {nF : Int} (h : ckE r W G nY nW nG nF = 0) : r.kd = 4 ∧ usB r = true ∧ nW = nY ∧ nG = nY ∧ nF = (nY : Int) ∧ WvOK W G nY := by
 unfold ckE at h
 split at h
 ·split at h
  ·split at h
   ·rename_i h1 h2 h3
    refine ⟨h1, h2, h3.1, h3.2.1, h3.2.2, fun k hk hg ph hp => ?_⟩
    have h4 := fstE_zero h k (by rw [h3.1]; exact hk)
    unfold phE at h4
    rw [if_pos hg] at h4
    exact chkE_win (fstE_zero h4 ph hp)
   cases h
  cases h
 cases h
def seE (s : Sta) (p : Pos) (r : Rel) (W : List Int) (G : List Bool) (nW nG : Nat) (nF : Int) : Int := orE (orE (stE s) (psE s p)) (ckE r W G s.bays.length nW nG nF)
def RetSe (E : Int) (l : List Sec) (f : Sec → Prt) (w : World) (e : Ending) (w' : World) : Prop := (E ≠ 0 ∧ e = .returned (.tuple #[.slice none 0 0, .int .i64 E]) ∧ Q w w') ∨ (E = 0 ∧ RetPr l f w e w')
theorem r5between_c (n lo hi : Int) (w : World) :
  Calls Tryz.prog 77 #[.int .i64 n, .int .i64 lo, .int .i64 hi] w fun e w' => e = .returned (.bool (winB n lo hi)) ∧ w = w' := by
 by_cases h1 : lo ≤ n <;> by_cases h2 : n ≤ hi
 all_goals
  go_enter Tryz.func77, Tryz.ntmps77
  go_wp2
  go_ret
  exact ⟨by simp [winB, h1, h2], rfl⟩
theorem r5ohms_c (z : Zi) (w : World) :
  Calls Tryz.prog 45 #[.agg #[.int .i64 z.r, .int .i64 z.x]] w fun e w' => e = .returned (.bool (ohmB z)) ∧ Q w w' := by
 have W1 := hh fun w => r5between_c z.r 0 1000 w
 have W2 := hh fun w => r5between_c z.x 1 1000 w
 unfold ohmB
 generalize winB z.r 0 1000 = p at W1 ⊢
 generalize winB z.x 1 1000 = q at W2 ⊢
 cases p
 all_goals
  go_enter Tryz.func45, Tryz.ntmps45
  go_wp2_with (first | (go_at_call 77; (with_reducible refine (W1.o _).p ?_)) | (go_at_call 77; (with_reducible refine (W2.o _).p ?_)) | fail)
  go_ret
  refine ⟨by simp, ?_⟩
  exact Q.i
theorem r5source_c (x : Srr) (w : World) :
  Calls Tryz.prog 46 #[.agg #[.string x.nm, .int .i64 x.em, .int .i64 x.z1.r, .int .i64 x.z1.x, .int .i64 x.z0.r, .int .i64 x.z0.x]] w fun e w' => e = .returned (.bool (winB x.em 1 1000000 && (ohmB x.z1 && ohmB x.z0))) ∧ Q w w' := by
 have W1 := hh fun w => r5between_c x.em 1 1000000 w
 have W2 := hh fun w => r5ohms_c x.z1 w
 have W3 := hh fun w => r5ohms_c x.z0 w
 generalize winB x.em 1 1000000 = p at W1 ⊢
 generalize ohmB x.z1 = q at W2 ⊢
 generalize ohmB x.z0 = q2 at W3 ⊢
 cases p <;> cases q
 all_goals
  go_enter Tryz.func46, Tryz.ntmps46
  go_wp2_with (first | (go_at_call 77; (with_reducible refine (W1.o _).p ?_)) | (go_at_call 45; (with_reducible refine (W2.o _).q ?_); intro kj) | (go_at_call 45; (with_reducible refine (W3.o _).q ?_); intro kj) | fail)
  go_ret
  refine ⟨by simp, ?_⟩
  exact Q.i
theorem r5name_c (s : ByteArray) (w : World) (hs : (s.size : Int) ≤ 9223372036854775807) :
  Calls Tryz.prog 42 #[.string s] w fun e w' => e = .returned (.bool (nmB s)) ∧ w = w' := by
 have s0 : (0 : Int) ≤ (s.size : Int) := by omega
 by_cases h0 : s.size = 0
 ·have h0' : (s.size : Int) < 1 := by omega
  have e : nmB s = false := by simp [nmB, h0]
  rw [e]
  clear e
  go_enter Tryz.func42, Tryz.ntmps42
  go_wp2
  go_ret
  exact ⟨rfl, rfl⟩
 have h0' : ¬ (s.size : Int) < 1 := by omega
 by_cases h1 : s.size ≤ 12
 rotate_left
 ·have h1' : (12 : Int) < (s.size : Int) := by omega
  have h1'' : ¬ (s.size : Int) < 1 := by omega
  have e : nmB s = false := by simp [nmB, h1]
  rw [e]
  clear e
  go_enter Tryz.func42, Tryz.ntmps42
  go_wp2
  go_ret
  exact ⟨rfl, rfl⟩
 have h1' : ¬ (12 : Int) < (s.size : Int) := by omega
 go_enter Tryz.func42, Tryz.ntmps42
 go_wp2
 go_loopw [3] (fun i wr => ∃ k : Nat, i = .int .i64 k ∧ k ≤ s.size ∧ Hid (∀ j, j < k → chB s j = true) ∧ w = wr) (fun i _ => s.size - (intOf i).toNat)
 case atStart => exact ⟨0, rfl, Nat.zero_le _, hh (fun j hj => absurd hj (Nat.not_lt_zero _)), rfl⟩
 case round =>
  obtain ⟨k, rfl, hk, HG, rfl⟩ := hrel
  by_cases hlt : k < s.size
  rotate_left
  ·obtain rfl : k = s.size := by omega
   have e := hh (nmB_good h0 h1 HG.o)
   clear HG
   go_wp2
   go_ret
   exact ⟨by rw [e.o]; rfl, rfl⟩
  have k0 : (0 : Int) ≤ (k : Int) := by omega
  have k1 : (k : Int) < (s.size : Int) := by omega
  have eb : (((s[k]'hlt).toNat : Nat) : Int) = bI s k := by unfold bI; rw [dif_pos hlt]
  obtain ⟨b0, b1⟩ := bI_bd s k
  have kz : k = 0 ∨ ¬ k = 0 := by omega
  obtain ⟨c, hc⟩ : ∃ c, bI s k = c := ⟨_, rfl⟩
  have ed : chB s k = (letB c || (decide (k ≠ 0) && othB c)) := by unfold chB; rw [hc]
  rw [hc] at eb b0 b1
  clear hc
  rcases kz with kz | kz
  ·subst kz
   rcases chars9 c with ⟨f0, f1, f2, f3, f4, f5, f6⟩ | ⟨f0, f1, f2, f3, f4, f5, f6⟩ | ⟨f0, f1, f2, f3, f4, f5, f6⟩ | ⟨f0, f1, f2, f3, f4, f5, f6⟩ | ⟨f0, f1, f2, f3, f4, f5, f6⟩ | ⟨f0, f1, f2, f3, f4, f5, f6⟩ | ⟨f0, f1, f2, f3, f4, f5, f6⟩ | ⟨f0, f1, f2, f3, f4, f5, f6⟩ | ⟨f0, f1, f2, f3, f4, f5, f6⟩
   all_goals
    have EG := hh ed
    simp only [letB, othB, f0, f1, f2, f3, f4, f5, f6, decide_true, decide_false, Bool.true_and, Bool.and_true, Bool.false_and, Bool.and_false, Bool.or_false, Bool.false_or, Bool.or_true, Bool.true_or, ne_eq, not_true_eq_false, not_false_eq_true] at EG
    clear ed
    first | (have g4 : c < 48 := by omega) | (have g4 : ¬ c < 48 := by omega)
    first | (have g5 : 57 < c := by omega) | (have g5 : ¬ 57 < c := by omega)
    first | (have g7 : (c != 95) = true := by simp; omega) | (have g7 : (c != 95) = false := by simp; omega)
    go_wp2_with fail
    first
     | (go_ret; refine ⟨?_, rfl⟩; show Ending.returned (Value.bool false) = _; rw [nmB_bad hlt EG.o]; done)
     | (go_roundw; (case rel => exact ⟨1, by go_num, by omega, hh (fun j hj => (show 0 = j by omega) ▸ EG.o), trivial⟩); case measure => simp [intOf]; omega)
  have kz' : ¬ (k : Int) = 0 := by omega
  rcases chars9 c with ⟨f0, f1, f2, f3, f4, f5, f6⟩ | ⟨f0, f1, f2, f3, f4, f5, f6⟩ | ⟨f0, f1, f2, f3, f4, f5, f6⟩ | ⟨f0, f1, f2, f3, f4, f5, f6⟩ | ⟨f0, f1, f2, f3, f4, f5, f6⟩ | ⟨f0, f1, f2, f3, f4, f5, f6⟩ | ⟨f0, f1, f2, f3, f4, f5, f6⟩ | ⟨f0, f1, f2, f3, f4, f5, f6⟩ | ⟨f0, f1, f2, f3, f4, f5, f6⟩
  all_goals
   have EG := hh ed
   simp only [letB, othB, kz, f0, f1, f2, f3, f4, f5, f6, decide_true, decide_false, Bool.true_and, Bool.and_true, Bool.false_and, Bool.and_false, Bool.or_false, Bool.false_or, Bool.or_true, Bool.true_or, ne_eq, not_true_eq_false, not_false_eq_true] at EG
   clear ed
   first | (have g4 : c < 48 := by omega) | (have g4 : ¬ c < 48 := by omega)
   first | (have g5 : 57 < c := by omega) | (have g5 : ¬ 57 < c := by omega)
   first | (have g7 : (c != 95) = true := by simp; omega) | (have g7 : (c != 95) = false := by simp; omega)
   go_wp2_with fail
   first
    | (go_ret; refine ⟨?_, rfl⟩; show Ending.returned (Value.bool false) = _; rw [nmB_bad hlt EG.o]; done)
    | (go_roundw; (case rel => exact ⟨k + 1, by go_num, by omega, hh (fun j hj => by rcases Nat.lt_succ_iff_lt_or_eq.1 hj with h | h; exact HG.o j h; subst h; exact EG.o), trivial⟩); case measure => simp [intOf]; omega)
def RetIx (b : Bool) (w : World) (e : Ending) (w' : World) : Prop := ∃ n : Int, e = .returned (.int .i64 n) ∧ Q w w' ∧ (b = true → 0 ≤ n) ∧ (b = false → n = -1)
theorem sawB_take {l : List ByteArray} {s : ByteArray} (h : ∀ (j : Nat) (x : ByteArray), l[j]? = some x → x ≠ s) : sawB l s = false := by
 unfold sawB
 rw [List.any_eq_false]
 intro x hx
 obtain ⟨j, hj⟩ := List.getElem?_of_mem hx
 simpa using h j x hj
theorem sawB_at {l : List ByteArray} {s : ByteArray} {j : Nat} (h : l[j]? = some s) : sawB l s = true := by
 unfold sawB
 rw [List.any_eq_true]
 exact ⟨s, List.mem_of_getElem? h, by simp⟩
theorem r5index_c (A : Option Addr) (n c : Nat) (l : List ByteArray) (s : ByteArray) (w : World) (hl : RdV w A n c 1 (l.map Value.string)) (hn : n < 1000) :
  Calls Tryz.prog 76 #[.slice A n c, .string s] w (RetIx (sawB l s) w) := by
 have HLN : Hid (l.length = n) := hh (by have := hl.1; rw [List.length_map] at this; omega)
 have HL := hh hl
 have HS : Hid (∀ b, sawB l s = b → b = sawB l s) := hh fun b h => h.symm
 have n0 : (0 : Int) ≤ (n : Int) := by omega
 clear hl
 go_enter Tryz.func76, Tryz.ntmps76
 go_wp2_with fail
 go_loopw [5] (fun i wr => ∃ k : Nat, i = .int .i64 k ∧ k ≤ n ∧ Hid (∀ j x, j < k → l[j]? = some x → x ≠ s) ∧ Q w wr) (fun i _ => n - (intOf i).toNat)
 case atStart => exact ⟨0, rfl, Nat.zero_le _, hh (fun j x hj => absurd hj (Nat.not_lt_zero _)), Q.refl _⟩
 case round =>
  obtain ⟨k, rfl, hk, HG, kk, rfl⟩ := hrel
  by_cases hlt : k < n
  rotate_left
  ·obtain rfl : n = k := by omega
   have ES := hh (sawB_take fun j x hx => HG.o j x (by rw [← HLN.o]; exact (List.getElem?_eq_some_iff.1 hx).1) hx)
   go_wp2_with fail
   go_ret
   exact ⟨_, rfl, Q.i, (fun h => by rw [ES.o] at h; cases h), fun _ => rfl⟩
  obtain ⟨x, hx⟩ : ∃ x, l[k]? = some x := ⟨_, List.getElem?_eq_getElem (by rw [HLN.o]; exact hlt)⟩
  obtain ⟨g, o, rfl, og, hc⟩ := HL.o.at_ (by omega)
  have c0 := hc.o k (.string x) (by rw [List.getElem?_map, hx]; rfl)
  have HX := hh hx
  have k0 : (0 : Int) ≤ (k : Int) := by omega
  have k1 : (k : Int) < (n : Int) := by omega
  clear hc hx
  by_cases e : x = s
  ·subst e
   have ES := hh (sawB_at HX.o)
   go_wp2_with fail
   go_ret
   exact ⟨_, rfl, Q.i, fun _ => k0, fun h => by rw [ES.o] at h; cases h⟩
  have e' : (x.toList == s.toList) = false := by
   rw [ByteArray.toList_eq, ByteArray.toList_eq, beq_eq_false_iff_ne]
   exact fun h => e (ba_ext h)
  go_wp2_with fail
  go_roundw
  case rel =>
   refine ⟨k + 1, by go_num, by omega, hh (fun j y hj hy => ?_), Q.i⟩
   by_cases h : j = k
   rotate_left
   ·exact HG.o j y (by omega) hy
   subst h
   rw [HX.o] at hy
   obtain rfl := Option.some.inj hy
   exact e
  case measure => simp [intOf] <;> omega
theorem r5named_c (A : Option Addr) (n c : Nat) (l : List ByteArray) (s : ByteArray) (w : World) (hl : RdV w A n c 1 (l.map Value.string)) (hn : n < 1000) (hs : (s.size : Int) ≤ 9223372036854775807) :
  Calls Tryz.prog 43 #[.slice A n c, .string s] w fun e w' => e = .returned (.int .i64 (nmE l s)) ∧ Q w w' := by
 have NM := hh fun w => r5name_c s w hs
 have IX := hh fun (w' : World) (hq : Q w w') => r5index_c A n c l s w' (hl.q hq) hn
 unfold nmE
 generalize nmB s = p at NM ⊢
 generalize sawB l s = q at IX ⊢
 clear hl hs
 cases p <;> cases q
 all_goals
  go_enter Tryz.func43, Tryz.ntmps43
  go_wp2_with (first | (go_at_call 42; (with_reducible refine (NM.o _).p ?_)) | (go_at_call 76; go_loud (with_reducible refine (IX.o _ Q.i).mono ?_); rintro e w' ⟨m, rfl, ⟨kj, rfl⟩, h1, h2⟩; first | (have h3 := h1 rfl; clear h1 h2) | (have h3 := h2 rfl; clear h1 h2; subst h3)) | fail)
  go_ret
  exact ⟨rfl, Q.i⟩
end Go.Proofs.YtcjflafjmdfanaaGreatDoor

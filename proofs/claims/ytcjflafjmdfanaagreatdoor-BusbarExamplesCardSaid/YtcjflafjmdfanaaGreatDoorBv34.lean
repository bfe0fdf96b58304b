
/- What Targets of package breakerfailure and of the reference 29 return for a station and a position that have no error. -/
import Derived.Test.YtcjflafjmdfanaaGreatDoorBv33
import Derived.Test.YtcjflafjmdfanaaGreatDoorBv31
import Derived.RangeFuncBox
set_option maxHeartbeats 64000000
set_option maxRecDepth 100000
set_option linter.unusedSimpArgs false
set_option linter.unusedVariables false
namespace Go.Sub
open Go
def tgS (s : Sta) (p : Pos) (gl : List Int) (kd of : Int) (b : Nat) : Bool := decide (kd = 1) && (bdI s (rsP p) gl (gl.getD of.toNat 0) s.bays.length).any fun x => decide (x = (b : Int))
def tgK (s : Sta) (p : Pos) (gl : List Int) (k b : Nat) : Bool := tgS s p gl (sdZ s (rsP p) gl k).1 (sdZ s (rsP p) gl k).2.1 b || tgS s p gl (sdZ s (rsP p) gl k).2.2.1 (sdZ s (rsP p) gl k).2.2.2 b
def tgB (s : Sta) (p : Pos) (FL : List Bool) (n b : Nat) : Bool := (List.range n).any fun k => FL.getD k false && tgK s p (grI s (rsP p)) k b
end Go.Sub
namespace Go
open Go.RowKit
theorem grownBy_set (W : World) (b i : Nat) (v : Value) : W.grownBy (W.setCell ⟨b, i, none⟩ v) (some b) :=
 ⟨rfl, rfl, rfl, (KeepsWalks.setCell W _ v).size, fun k _ hk => Below.heap_setCell _ _ _ k (fun e => hk (by rw [e]))⟩
end Go
namespace Go.Proofs.YtcjflafjmdfanaaGreatDoor
open Go.RowKit Go.Sub
attribute [local go_sem ↓] Go.wp_at_zero Go.wp_at_succ
theorem kept_hb {w : World} {g i : Nat} {cs : Array Value} {t : TypeId} {v : Value} (hb : HB w g cs t) {base size n : Nat} {e : TypeId} {u : Value} {ys : List Value} (h : w.ownsRow base e size u n ys) (hne : e ≠ t) : (w.setCell ⟨g, i, none⟩ v).ownsRow base e size u n ys :=
 h.kept (grownBy_set w g i v) (.inr (own_hb h hb hne))
@[go_sem] theorem ixN_p0 (a b c d : Int) (w : World) : (Instr.index 107 (.agg #[.int .i64 a, .int .i64 b, .int .i64 c, .int .i64 d]) (.int .i64 0)).run Tryz.prog w = .ok (.agg #[.int .i64 a, .int .i64 b]) w := by kernel_rfl
@[go_sem] theorem ixN_p1 (a b c d : Int) (w : World) : (Instr.index 107 (.agg #[.int .i64 a, .int .i64 b, .int .i64 c, .int .i64 d]) (.int .i64 1)).run Tryz.prog w = .ok (.agg #[.int .i64 c, .int .i64 d]) w := by kernel_rfl
@[go_sem] theorem ixN_r0 (a b c d : Int) (w : World) : (Instr.index 120 (.agg #[.int .i64 a, .int .i64 b, .int .i64 c, .int .i64 d]) (.int .i64 0)).run Tryz.prog w = .ok (.agg #[.int .i64 a, .int .i64 b]) w := by kernel_rfl
@[go_sem] theorem ixN_r1 (a b c d : Int) (w : World) : (Instr.index 120 (.agg #[.int .i64 a, .int .i64 b, .int .i64 c, .int .i64 d]) (.int .i64 1)).run Tryz.prog w = .ok (.agg #[.int .i64 c, .int .i64 d]) w := by kernel_rfl
theorem sdZ_grp {w : World} {s : Sta} {p : Pos} (h : GoodAt w s p) (k : Nat) :
  ((sdZ s (rsP p) (grI s (rsP p)) k).1 = 1 → ∃ of : Nat, (sdZ s (rsP p) (grI s (rsP p)) k).2.1 = (of : Int) ∧ of < s.buses.length) ∧ ((sdZ s (rsP p) (grI s (rsP p)) k).2.2.1 = 1 → ∃ of : Nat, (sdZ s (rsP p) (grI s (rsP p)) k).2.2.2 = (of : Int) ∧ of < s.buses.length) := by
 have hbd := grF_bd s (rsP p) (fun k y hy => (h.ok k y hy).bus) s.bays.length
 have hbus : ∀ k y, s.bays[k]? = some y → ∀ l ∈ s.lks k, ∃ of : Nat, busN (grI s (rsP p)) l = (of : Int) ∧ of < s.buses.length := by
  intro k y hy l hl
  obtain ⟨h1, h2⟩ := (h.ok k y hy).bus l hl
  obtain ⟨b, hb⟩ := Int.eq_ofNat_of_zero_le h1
  have hlt : b < (grI s (rsP p)).length := by rw [grI_len]; omega
  have hm : (grI s (rsP p)).getD b 0 ∈ grI s (rsP p) := by
   rw [List.getD_eq_getElem?_getD, List.getElem?_eq_getElem hlt]
   exact List.getElem_mem hlt
  obtain ⟨h3, h4⟩ := hbd _ hm
  obtain ⟨q, hq⟩ := Int.eq_ofNat_of_zero_le h3
  refine ⟨q, ?_, by omega⟩
  unfold busN
  rw [hb, Int.toNat_natCast]
  exact hq
 generalize grI s (rsP p) = gl at *
 unfold sdZ
 cases hy : s.bays[k]? with
 | none => constructor <;> intro h <;> simp at h
 | some y =>
  have hb := hbus k y hy
  cases hl : s.lks k with
  | nil => constructor <;> intro h <;> simp at h
  | cons l0 rest =>
   rw [hl] at hb
   dsimp only
   split
   ·refine ⟨fun _ => hb l0 (by simp), fun _ => ?_⟩
    dsimp only
    cases rest with
    | nil => exact hb l0 (by simp)
    | cons l1 r => exact hb l1 (by simp)
   refine ⟨fun h1 => ?_, fun h1 => ?_⟩
   ·dsimp only at h1 ⊢
    unfold sdA at h1 ⊢
    rw [hl] at h1 ⊢
    dsimp only at h1 ⊢
    split
    ·exact hb l0 (by simp)
    rename_i hc
    rw [if_neg hc] at h1
    cases rest with
    | nil => cases h1
    | cons l1 r =>
     dsimp only at h1 ⊢
     split
     ·exact hb l1 (by simp)
     rename_i hc1
     rw [if_neg hc1] at h1
     cases h1
   dsimp only at h1
   split at h1 <;> cases h1
def RetTg (T : Nat → Bool) (n : Nat) (w : World) (e : Ending) (w' : World) : Prop := ∃ g, e = .returned (.slice (some ⟨g, 0, none⟩) n n) ∧ Q w w' ∧ w.heap.size ≤ g ∧ HB w' g (arrF (fun b => .bool (T b)) n) 4
theorem targets_c (s : Sta) (p : Pos) (aF : Option Addr) (cF : Nat) (FL : List Bool) (w : World) (h : GoodAt w s p) (hF : GdAt w aF s.bays.length cF FL) :
  Calls Tryz.prog 21 #[.agg #[Value.string s.nm, Value.slice s.aB s.buses.length s.cB, Value.slice s.aL s.lines.length s.cL, Value.slice s.aS s.srcs.length s.cS, Value.slice s.aY s.bays.length s.cY], .agg #[Value.slice p.aC p.closed.length p.cC, Value.slice p.aK p.rows.length p.cK], .slice aF s.bays.length cF] w (RetTg (tgB s p FL s.bays.length) s.bays.length w) := by
 have hlens := h.lens
 have C5 := hh fun (w' : World) (hq : Q w w') => stcheck_c s w' (h.st.q hq)
 have C6 := hh fun (w' : World) (hq : Q w w') => tpcheck_c s p w' (h.st.q hq) (h.ps.q hq)
 simp only [h.e1, h.e2] at C5 C6
 have RS := hh fun (w' : World) (hq : Q w w') => resolve_c p w' (h.ps.q hq) (by omega) (by omega) (good_lens h)
 unfold RetP at RS
 have GOOD := hh fun (p2 : Pos) (w' : World) (hq : Q w w') (hp : PosAt w' p2) (hc : p2.closed = p.closed) (hr : p2.rows.map Ro.l = p.rows.map fun r => r.l.map rs1) => (⟨h.st.q hq, hp, h.e1, psE_rs h.e2 hc hr⟩ : GoodAt w' s p2)
 have SDC : Hid (∀ (p2 : Pos) (k : Nat) (w' : World) (hq : Q w w') (hp : PosAt w' p2) (hc : p2.closed = p.closed) (hr : p2.rows.map Ro.l = p.rows.map fun r => r.l.map rs1) (hk : k < s.bays.length), Calls Tryz.prog 40 #[.agg #[Value.string s.nm, Value.slice s.aB s.buses.length s.cB, Value.slice s.aL s.lines.length s.cL, Value.slice s.aS s.srcs.length s.cS, Value.slice s.aY s.bays.length s.cY], .agg #[Value.slice p2.aC p2.closed.length p2.cC, Value.slice p2.aK p2.rows.length p2.cK], .int .i64 k] w' fun e w'' => e = .returned (.agg #[.int .i64 (sdZ s (rsP p) (grI s (rsP p)) k).1, .int .i64 (sdZ s (rsP p) (grI s (rsP p)) k).2.1, .int .i64 (sdZ s (rsP p) (grI s (rsP p)) k).2.2.1, .int .i64 (sdZ s (rsP p) (grI s (rsP p)) k).2.2.2]) ∧ Q w' w'') := hh fun p2 k w' hq hp hc hr hk => by
  have := sides_c s p2 k w' (GOOD.o p2 w' hq hp hc hr) hk
  rw [grI_congr (rsP_rows hr), sdZ_congr (rsP_rows hr)] at this
  exact this
 have BDC : Hid (∀ (p2 : Pos) (k : Nat) (w' : World) (hq : Q w w') (hp : PosAt w' p2) (hc : p2.closed = p.closed) (hr : p2.rows.map Ro.l = p.rows.map fun r => r.l.map rs1) (hk : k < s.buses.length), Calls Tryz.prog 41 #[.agg #[Value.string s.nm, Value.slice s.aB s.buses.length s.cB, Value.slice s.aL s.lines.length s.cL, Value.slice s.aS s.srcs.length s.cS, Value.slice s.aY s.bays.length s.cY], .agg #[Value.slice p2.aC p2.closed.length p2.cC, Value.slice p2.aK p2.rows.length p2.cK], .agg #[.int .i64 1, .int .i64 k]] w' (RetI (bdI s (rsP p) (grI s (rsP p)) ((grI s (rsP p)).getD k 0) s.bays.length) w')) := hh fun p2 k w' hq hp hc hr hk => by
  have := boundary_c s p2 k w' (GOOD.o p2 w' hq hp hc hr) hk
  rw [grI_congr (rsP_rows hr), bdI_congr (rsP_rows hr)] at this
  exact this
 unfold RetI at BDC
 have HGR := hh fun k => sdZ_grp h k
 have HBA := hh fun q j => bdI_at s (rsP p) (grI s (rsP p)) q s.bays.length j
 have HBL := hh fun q => bdI_len s (rsP p) (grI s (rsP p)) q s.bays.length
 have HTB : Hid (∀ n b, tgB s p FL (n + 1) b = (tgB s p FL n b || (FL.getD n false && tgK s p (grI s (rsP p)) n b))) := hh fun n b => any_succ _ n
 have HT0 : Hid (∀ b, tgB s p FL 0 b = false) := hh fun b => rfl
 have HTK : Hid (∀ k b, tgK s p (grI s (rsP p)) k b = (tgS s p (grI s (rsP p)) (sdZ s (rsP p) (grI s (rsP p)) k).1 (sdZ s (rsP p) (grI s (rsP p)) k).2.1 b || tgS s p (grI s (rsP p)) (sdZ s (rsP p) (grI s (rsP p)) k).2.2.1 (sdZ s (rsP p) (grI s (rsP p)) k).2.2.2 b)) := hh fun k b => rfl
 have HTS : Hid (∀ kd (of b : Nat), tgS s p (grI s (rsP p)) kd of b = (decide (kd = 1) && (bdI s (rsP p) (grI s (rsP p)) ((grI s (rsP p)).getD of 0) s.bays.length).any fun x => decide (x = (b : Int)))) := hh fun kd of b => rfl
 have HTN : Hid (∀ kd of b, kd ≠ 1 → tgS s p (grI s (rsP p)) kd of b = false) := hh fun kd of b hk => by unfold tgS; rw [decide_eq_false hk, Bool.false_and]
 generalize tgB s p FL = TB at HTB HT0 ⊢
 generalize tgK s p (grI s (rsP p)) = TK at HTB HTK
 generalize tgS s p (grI s (rsP p)) = TS at HTK HTS HTN
 generalize grI s (rsP p) = gl at *
 have hY16 : s.bays.length ≤ 16 := by omega
 have hmk := fun w => make_boolB w s.bays.length (by omega)
 have n0 : (0 : Int) ≤ (s.bays.length : Int) := by omega
 have HF := hh hF
 have HGA := hh h
 have lC : p.closed.length < 1000 := by omega
 have lK : p.rows.length < 1000 := by omega
 clear h hF hlens
 go_enter Tryz.func21, Tryz.ntmps21
 go_upto_region 1 with fail
 obtain ⟨V, eV⟩ : ∃ V, w.alloc (Obj.cells #[Value.string s.nm, Value.slice s.aB s.buses.length s.cB, Value.slice s.aL s.lines.length s.cL, Value.slice s.aS s.srcs.length s.cS, Value.slice s.aY s.bays.length s.cY] 27) = V := ⟨_, rfl⟩
 have hsz : w.heap.size + 1 = V.heap.size := by rw [← eV]; simp
 have hq0 : Q w V := by rw [← eV]; exact Q.i
 have hb : HB V w.heap.size #[Value.string s.nm, Value.slice s.aB s.buses.length s.cB, Value.slice s.aL s.lines.length s.cL, Value.slice s.aS s.srcs.length s.cS, Value.slice s.aY s.bays.length s.cY] 27 := by rw [← eV]; exact HB.new _ _ _ _ rfl
 rw [eV, hsz]
 have HQ0 := hh hq0
 have s0 := hb.cell 0
 have s1 := hb.cell 1
 have s2 := hb.cell 2
 have s3 := hb.cell 3
 have s4 := hb.cell 4
 simp only [List.getElem?_toArray, List.getElem?_cons_zero, List.getElem?_cons_succ] at s0 s1 s2 s3 s4
 have ob := hb.old
 have C5 := hh fun (w' : World) (hq : Q V w') => C5.o w' (HQ0.o.trans hq)
 have C6 := hh fun (w' : World) (hq : Q V w') => C6.o w' (HQ0.o.trans hq)
 have RS := hh fun (w' : World) (hq : Q V w') => RS.o w' (HQ0.o.trans hq)
 clear eV hb hq0 hsz
 generalize w.heap.size = b at s0 s1 s2 s3 s4 ob ⊢
 go_upto_region 4 with (first | (go_at_call 30; (with_reducible refine (C5.o _ Q.i).q ?_); intro k0) | (go_at_call 12; (with_reducible refine (C6.o _ Q.i).q ?_); intro k1) | (go_at_call 39; (with_reducible refine (RS.o _ Q.i).mono ?_); rintro e w' ⟨p2, rfl, ⟨kR, rfl⟩, hp2, hc2, hr2⟩; have HP2 := hh hp2; have HC2 := hh hc2; have HR2 := hh hr2; clear hp2 hc2 hr2) | fail)
 refine wp_world ?_
 intro U eU
 have hqU : Q V U := by rw [eU]; exact Q.i
 have hbp : HB U (V.heap.size + 1 + k0.os.size + k1.os.size + kR.os.size) #[Value.slice p2.aC p2.closed.length p2.cC, Value.slice p2.aK p2.rows.length p2.cK] 31 := by rw [eU]; exact HB.new ((((V.alloc (Obj.cells #[Value.slice p.aC p.closed.length p.cC, Value.slice p.aK p.rows.length p.cK] 31)).jk k0).jk k1).jk kR) _ _ _ (by simp [World.size_jk])
 have HP2 : Hid (PosAt U p2) := hh (HP2.o.q (by rw [eU]; exact Q.i))
 have HQU := hh (HQ0.o.trans hqU)
 replace s0 := (hqU.below.cell (p := ⟨b, 0, none⟩) ob.lt).trans s0
 replace s1 := (hqU.below.cell (p := ⟨b, 1, none⟩) ob.lt).trans s1
 replace s2 := (hqU.below.cell (p := ⟨b, 2, none⟩) ob.lt).trans s2
 replace s3 := (hqU.below.cell (p := ⟨b, 3, none⟩) ob.lt).trans s3
 replace s4 := (hqU.below.cell (p := ⟨b, 4, none⟩) ob.lt).trans s4
 have obU : Old b U := ⟨Nat.lt_of_lt_of_le ob.lt hqU.below.size⟩
 have r0 := hbp.cell 0
 have r1 := hbp.cell 1
 simp only [List.getElem?_toArray, List.getElem?_cons_zero, List.getElem?_cons_succ] at r0 r1
 have obp := hbp.old
 have HFU : Hid (GdAt U aF s.bays.length cF FL) := hh (HF.o.q HQU.o)
 have SDU := hh fun (k : Nat) (w' : World) (hq : Q U w') (hk : k < s.bays.length) => SDC.o p2 k w' (HQU.o.trans hq) (HP2.o.q hq) HC2.o HR2.o hk
 have BDU := hh fun (k : Nat) (w' : World) (hq : Q U w') (hk : k < s.buses.length) => BDC.o p2 k w' (HQU.o.trans hq) (HP2.o.q hq) HC2.o HR2.o hk
 clear eU hqU hbp ob HQ0 C5 C6 RS GOOD SDC BDC HF HGA
 generalize V.heap.size + 1 + k0.os.size + k1.os.size + kR.os.size = bp at r0 r1 obp ⊢
 go_wp2_with fail
 have HSZ : Hid (w.heap.size ≤ U.heap.size) := hh HQU.o.below.size
 go_loopw [40] (fun i wr => ∃ (k : Nat) (F : Nat → Value), i = .int .i64 k ∧ k ≤ s.bays.length ∧ Hid (Q U wr) ∧ Hid (HB wr U.heap.size (arrF F s.bays.length) 4) ∧ Hid (∀ b, b < s.bays.length → F b = .bool (TB k b))) (fun i _ => s.bays.length - (intOf i).toNat)
 case atStart => exact ⟨0, _, rfl, Nat.zero_le _, hh (by repeat' (first | exact Q.refl _ | refine Q.alloc ?_ _ | refine Q.jk ?_ _ | refine Q.drew ?_)), hh (HB.new _ _ _ _ rfl), hh (fun b _ => by rw [HT0.o b])⟩
 case round =>
  obtain ⟨k, F, rfl, hk, HQ1, HB1, HT1⟩ := hrel
  have hq1 := HQ1.o
  obtain ⟨kk, rfl⟩ := hq1
  by_cases hlt : k < s.bays.length
  rotate_left
  ·obtain rfl : k = s.bays.length := by omega
   have HFN : Hid (arrF F s.bays.length = arrF (fun b => .bool (TB s.bays.length b)) s.bays.length) := hh (arrF_congr HT1.o)
   go_wp2_with fail
   go_ret
   exact ⟨_, rfl, HQU.o.trans Q.i, HSZ.o, by rw [← HFN.o]; exact HB1.o.q Q.i⟩
  obtain ⟨g, o, rfl, og, hc⟩ := HFU.o.at_ (by omega)
  have a1 := hc.o k hlt
  have k0 : (0 : Int) ≤ (k : Int) := by omega
  have k1 : (k : Int) < (s.bays.length : Int) := by omega
  have HTB1 := hh (HTB.o k)
  cases hfl : FL.getD k false with
  | false =>
   rw [hfl] at a1
   have HT2 : Hid (∀ b, b < s.bays.length → F b = .bool (TB (k + 1) b)) := hh fun b hb => by rw [HT1.o b hb, HTB1.o b, hfl, Bool.false_and, Bool.or_false]
   clear hfl hc HTB1
   go_wp2_with fail
   go_roundw
   case rel => exact ⟨k + 1, F, by go_num, by omega, hh Q.i, HB1, HT2⟩
   case measure => simp [intOf] <;> omega
  | true =>
   rw [hfl] at a1
   have HTB2 : Hid (∀ b, TB (k + 1) b = (TB k b || TK k b)) := hh fun b => by rw [HTB1.o b, hfl, Bool.true_and]
   have HTK1 := hh (HTK.o k)
   obtain ⟨hg1, hg2⟩ := HGR.o k
   have SD := hh fun (w' : World) (hq : Q U w') => SDU.o k w' hq hlt
   obtain ⟨⟨za, zb, zc, zd⟩, ez⟩ : ∃ z, sdZ s (rsP p) gl k = z := ⟨_, rfl⟩
   rw [ez] at HTK1 hg1 hg2 SD
   dsimp only at HTK1 hg1 hg2 SD
   have HG1 := hh hg1
   have HG2 := hh hg2
   have HLT := hh hlt
   clear hfl hc HTB1 ez hg1 hg2 hlt hk
   go_wp2_with (first | (go_at_call 40; (with_reducible refine (SD.o _ Q.i).q ?_); intro ks) | fail)
   go_loopw [52] (fun i wr => ∃ (q : Nat) (F1 : Nat → Value), i = .int .i64 q ∧ q ≤ 2 ∧ Hid (Q U wr) ∧ Hid (HB wr U.heap.size (arrF F1 s.bays.length) 4) ∧ Hid (∀ b, b < s.bays.length → F1 b = .bool (TB k b || ((decide (0 < q) && TS za zb b) || (decide (1 < q) && TS zc zd b))))) (fun i _ => 2 - (intOf i).toNat)
   case atStart => exact ⟨0, F, rfl, by omega, hh (by repeat' (first | exact Q.refl _ | refine Q.alloc ?_ _ | refine Q.jk ?_ _ | refine Q.drew ?_)), hh (HB1.o.q (by repeat' (first | exact Q.refl _ | refine Q.alloc ?_ _ | refine Q.jk ?_ _ | refine Q.drew ?_))), hh (fun b hb => by rw [HT1.o b hb]; simp)⟩
   case round =>
    clear HB1 HT1 HQ1
    obtain ⟨q, F1, rfl, hq2, HQ1, HB1, HT1⟩ := hrel
    have hq1 := HQ1.o
    obtain ⟨kq, rfl⟩ := hq1
    by_cases hlq : q < 2
    rotate_left
    ·obtain rfl : q = 2 := by omega
     go_wp2_with fail
     go_roundw
     case rel => exact ⟨k + 1, F1, by go_num, by have := HLT.o; omega, hh Q.i, HB1, hh (fun b hb => by rw [HT1.o b hb, HTB2.o b, HTK1.o b]; simp)⟩
     case measure => have := HLT.o; simp [intOf] <;> omega
    have hq01 : q = 0 ∨ q = 1 := by omega
    rcases hq01 with rfl | rfl
    all_goals try rw [show ((0 : Nat) : Int) = 0 from rfl]
    all_goals try rw [show ((1 : Nat) : Int) = 1 from rfl]
    ·by_cases hkd : za = 1
     rotate_left
     ·have e1 : (za != 1) = true := by simpa using hkd
      have HT3 : Hid (∀ b, b < s.bays.length → F1 b = .bool (TB k b || ((decide (0 < 1) && TS za zb b) || (decide (1 < 1) && TS zc zd b)))) := hh fun b hb => by
       rw [HT1.o b hb, HTN.o za zb b hkd]
       simp
      clear hkd HT1
      go_wp2_with fail
      go_roundw
      case rel => exact ⟨1, F1, by go_num, by omega, hh Q.i, hh (HB1.o.q Q.i), HT3⟩
      case measure => simp [intOf] <;> omega
     obtain ⟨of, eof, hof⟩ := HG1.o hkd
     subst hkd
     subst eof
     have BD := hh fun (w' : World) (hq : Q U w') => BDU.o of w' hq hof
     have HBA1 := hh (HBA.o (gl.getD of 0))
     have HBL1 := hh (HBL.o (gl.getD of 0))
     have HTS1 := hh fun b => HTS.o 1 of b
     generalize bdI s (rsP p) gl (gl.getD of 0) s.bays.length = bm at BD HBA1 HBL1 HTS1
     obtain ⟨nM, eM⟩ : ∃ n, bm.length = n := ⟨_, rfl⟩
     have HNM := hh eM
     have nm1 : nM ≤ 16 := by have := HBL1.o; omega
     clear hof eM hlq hq2
     go_wp2_with (first | (go_at_call 41; (with_reducible refine (BD.o _ Q.i).mono ?_); rintro e w' ⟨vb, rfl, ⟨kb, rfl⟩, hvb⟩; obtain ⟨ab, cb, rfl⟩ := own_slice' hvb; rw [HNM.o] at hvb ⊢; have HVB : Hid (RowI U _ _ bm) := hh (hvb.low Q.i); clear hvb) | fail)
     go_loopw [66] (fun i wr => ∃ (j : Nat) (F2 : Nat → Value), i = .int .i64 j ∧ j ≤ nM ∧ Hid (Q U wr) ∧ Hid (HB wr U.heap.size (arrF F2 s.bays.length) 4) ∧ Hid (RowI U wr (.slice ab nM cb) bm) ∧ Hid (∀ b, b < s.bays.length → F2 b = .bool (TB k b || ((bm.take j).any fun x => decide (x = (b : Int)))))) (fun i _ => nM - (intOf i).toNat)
     case atStart => exact ⟨0, F1, rfl, Nat.zero_le _, hh (by repeat' (first | exact Q.refl _ | refine Q.alloc ?_ _ | refine Q.jk ?_ _ | refine Q.drew ?_)), hh (HB1.o.q (by repeat' (first | exact Q.refl _ | refine Q.alloc ?_ _ | refine Q.jk ?_ _ | refine Q.drew ?_))), hh (HVB.o.q (by repeat' (first | exact Q.refl _ | refine Q.alloc ?_ _ | refine Q.jk ?_ _ | refine Q.drew ?_))), hh (fun b hb => by rw [HT1.o b hb]; simp)⟩
     case round =>
      clear HB1 HVB HQ1
      obtain ⟨j, F2, rfl, hj, HQ1, HB2, HV2, HT2⟩ := hrel
      have hq1 := HQ1.o
      obtain ⟨kj, rfl⟩ := hq1
      by_cases hlj : j < nM
      rotate_left
      ·obtain rfl : j = nM := by omega
       have HT3 : Hid (∀ b, b < s.bays.length → F2 b = .bool (TB k b || ((decide (0 < 1) && TS 1 (of : Int) b) || (decide (1 < 1) && TS zc zd b)))) := hh fun b hb => by
        have h9 : bm.take j = bm := List.take_of_length_le (by rw [HNM.o]; exact Nat.le_refl _)
        rw [HT2.o b hb, h9, HTS1.o b]
        simp
       clear HT2
       go_wp2_with fail
       go_roundw
       case rel => exact ⟨1, F2, by go_num, by omega, hh Q.i, HB2, HT3⟩
       case measure => simp [intOf] <;> omega
      obtain ⟨kb', ekb, hkb⟩ := HBA1.o j (by rw [HNM.o]; exact hlj)
      obtain ⟨gb, rfl, hgb, hcb⟩ := rowI_win HV2.o HNM.o (by omega)
      have x1 := (hcb.o j hlj).1
      rw [ekb] at x1
      have ogb : Old gb (U.jk kj) := ⟨World.block_lt_of_cell? _ _ x1⟩
      have y1 := HB2.o.cell kb'
      rw [arrF_get _ hkb] at y1
      have y2 := HB2.o.soft kb'
      have ogt : Old U.heap.size (U.jk kj) := HB2.o.old
      have HTJ : Hid (∀ b : Nat, ((bm.take (j + 1)).any fun x => decide (x = (b : Int))) = (((bm.take j).any fun x => decide (x = (b : Int))) || decide ((kb' : Int) = (b : Int)))) := hh fun b => by
       have h9 : bm[j]? = some (kb' : Int) := by
        have hjl : j < bm.length := by rw [HNM.o]; exact hlj
        rw [List.getD_eq_getElem?_getD, List.getElem?_eq_getElem hjl] at ekb
        rw [List.getElem?_eq_getElem hjl]
        exact congrArg some ekb
       exact any_take_succ bm (fun x => decide (x = (b : Int))) j _ h9
      have j0 : (0 : Int) ≤ (j : Int) := by omega
      have j1 : (j : Int) < (nM : Int) := by omega
      have q0 : (0 : Int) ≤ (kb' : Int) := by omega
      have q1 : (kb' : Int) < (s.bays.length : Int) := by omega
      have HNQ : Hid (Q U ((U.jk kj).setCell ⟨U.heap.size, kb', none⟩ (.bool true))) := hh (HQ1.o.setCell (Nat.le_refl _) _)
      have HNB : Hid (HB ((U.jk kj).setCell ⟨U.heap.size, kb', none⟩ (.bool true)) U.heap.size (arrF (updF F2 kb' (.bool true)) s.bays.length) 4) := hh (by rw [← arrF_set]; exact HB2.o.set kb' _)
      have HNV : Hid (RowI U ((U.jk kj).setCell ⟨U.heap.size, kb', none⟩ (.bool true)) (.slice (some ⟨gb, 0, none⟩) nM cb) bm) := hh (kept_hb HB2.o HV2.o (by decide))
      have HNT : Hid (∀ b, b < s.bays.length → updF F2 kb' (.bool true) b = .bool (TB k b || ((bm.take (j + 1)).any fun x => decide (x = (b : Int))))) := hh fun b hb => by
       rw [HTJ.o b]
       by_cases e : b = kb'
       rotate_left
       ·rw [updF_other _ _ e, HT2.o b hb, decide_eq_false (fun h : (kb' : Int) = (b : Int) => e (by omega)), Bool.or_false]
       subst e
       rw [updF_same]
       simp
      clear hcb ekb HTJ HT2 hgb
      go_wp2_with fail
      go_roundw
      case rel => exact ⟨j + 1, _, by go_num, by omega, HNQ, HNB, HNV, HNT⟩
      case measure => simp [intOf] <;> omega
    by_cases hkd : zc = 1
    rotate_left
    ·have e1 : (zc != 1) = true := by simpa using hkd
     have HT3 : Hid (∀ b, b < s.bays.length → F1 b = .bool (TB k b || ((decide (0 < 2) && TS za zb b) || (decide (1 < 2) && TS zc zd b)))) := hh fun b hb => by
      rw [HT1.o b hb, HTN.o zc zd b hkd]
      simp
     clear hkd HT1
     go_wp2_with fail
     go_roundw
     case rel => exact ⟨2, F1, by go_num, by omega, hh Q.i, hh (HB1.o.q Q.i), HT3⟩
     case measure => simp [intOf] <;> omega
    obtain ⟨of, eof, hof⟩ := HG2.o hkd
    subst hkd
    subst eof
    have BD := hh fun (w' : World) (hq : Q U w') => BDU.o of w' hq hof
    have HBA1 := hh (HBA.o (gl.getD of 0))
    have HBL1 := hh (HBL.o (gl.getD of 0))
    have HTS1 := hh fun b => HTS.o 1 of b
    generalize bdI s (rsP p) gl (gl.getD of 0) s.bays.length = bm at BD HBA1 HBL1 HTS1
    obtain ⟨nM, eM⟩ : ∃ n, bm.length = n := ⟨_, rfl⟩
    have HNM := hh eM
    have nm1 : nM ≤ 16 := by have := HBL1.o; omega
    clear hof eM hlq hq2
    go_wp2_with (first | (go_at_call 41; (with_reducible refine (BD.o _ Q.i).mono ?_); rintro e w' ⟨vb, rfl, ⟨kb, rfl⟩, hvb⟩; obtain ⟨ab, cb, rfl⟩ := own_slice' hvb; rw [HNM.o] at hvb ⊢; have HVB : Hid (RowI U _ _ bm) := hh (hvb.low Q.i); clear hvb) | fail)
    go_loopw [66] (fun i wr => ∃ (j : Nat) (F2 : Nat → Value), i = .int .i64 j ∧ j ≤ nM ∧ Hid (Q U wr) ∧ Hid (HB wr U.heap.size (arrF F2 s.bays.length) 4) ∧ Hid (RowI U wr (.slice ab nM cb) bm) ∧ Hid (∀ b, b < s.bays.length → F2 b = .bool (TB k b || (TS za zb b || (bm.take j).any fun x => decide (x = (b : Int)))))) (fun i _ => nM - (intOf i).toNat)
    case atStart => exact ⟨0, F1, rfl, Nat.zero_le _, hh (by repeat' (first | exact Q.refl _ | refine Q.alloc ?_ _ | refine Q.jk ?_ _ | refine Q.drew ?_)), hh (HB1.o.q (by repeat' (first | exact Q.refl _ | refine Q.alloc ?_ _ | refine Q.jk ?_ _ | refine Q.drew ?_))), hh (HVB.o.q (by repeat' (first | exact Q.refl _ | refine Q.alloc ?_ _ | refine Q.jk ?_ _ | refine Q.drew ?_))), hh (fun b hb => by rw [HT1.o b hb]; simp)⟩
    case round =>
     clear HB1 HVB HQ1
     obtain ⟨j, F2, rfl, hj, HQ1, HB2, HV2, HT2⟩ := hrel
     have hq1 := HQ1.o
     obtain ⟨kj, rfl⟩ := hq1
     by_cases hlj : j < nM
     rotate_left
     ·obtain rfl : j = nM := by omega
      have HT3 : Hid (∀ b, b < s.bays.length → F2 b = .bool (TB k b || ((decide (0 < 2) && TS za zb b) || (decide (1 < 2) && TS 1 (of : Int) b)))) := hh fun b hb => by
       have h9 : bm.take j = bm := List.take_of_length_le (by rw [HNM.o]; exact Nat.le_refl _)
       rw [HT2.o b hb, h9, HTS1.o b]
       simp
      clear HT2
      go_wp2_with fail
      go_roundw
      case rel => exact ⟨2, F2, by go_num, by omega, hh Q.i, HB2, HT3⟩
      case measure => simp [intOf] <;> omega
     obtain ⟨kb', ekb, hkb⟩ := HBA1.o j (by rw [HNM.o]; exact hlj)
     obtain ⟨gb, rfl, hgb, hcb⟩ := rowI_win HV2.o HNM.o (by omega)
     have x1 := (hcb.o j hlj).1
     rw [ekb] at x1
     have ogb : Old gb (U.jk kj) := ⟨World.block_lt_of_cell? _ _ x1⟩
     have y1 := HB2.o.cell kb'
     rw [arrF_get _ hkb] at y1
     have y2 := HB2.o.soft kb'
     have ogt : Old U.heap.size (U.jk kj) := HB2.o.old
     have HTJ : Hid (∀ b : Nat, ((bm.take (j + 1)).any fun x => decide (x = (b : Int))) = (((bm.take j).any fun x => decide (x = (b : Int))) || decide ((kb' : Int) = (b : Int)))) := hh fun b => by
      have h9 : bm[j]? = some (kb' : Int) := by
       have hjl : j < bm.length := by rw [HNM.o]; exact hlj
       rw [List.getD_eq_getElem?_getD, List.getElem?_eq_getElem hjl] at ekb
       rw [List.getElem?_eq_getElem hjl]
       exact congrArg some ekb
      exact any_take_succ bm (fun x => decide (x = (b : Int))) j _ h9
     have j0 : (0 : Int) ≤ (j : Int) := by omega
     have j1 : (j : Int) < (nM : Int) := by omega
     have q0 : (0 : Int) ≤ (kb' : Int) := by omega
     have q1 : (kb' : Int) < (s.bays.length : Int) := by omega
     have HNQ : Hid (Q U ((U.jk kj).setCell ⟨U.heap.size, kb', none⟩ (.bool true))) := hh (HQ1.o.setCell (Nat.le_refl _) _)
     have HNB : Hid (HB ((U.jk kj).setCell ⟨U.heap.size, kb', none⟩ (.bool true)) U.heap.size (arrF (updF F2 kb' (.bool true)) s.bays.length) 4) := hh (by rw [← arrF_set]; exact HB2.o.set kb' _)
     have HNV : Hid (RowI U ((U.jk kj).setCell ⟨U.heap.size, kb', none⟩ (.bool true)) (.slice (some ⟨gb, 0, none⟩) nM cb) bm) := hh (kept_hb HB2.o HV2.o (by decide))
     have HNT : Hid (∀ b, b < s.bays.length → updF F2 kb' (.bool true) b = .bool (TB k b || (TS za zb b || (bm.take (j + 1)).any fun x => decide (x = (b : Int))))) := hh fun b hb => by
      rw [HTJ.o b]
      by_cases e : b = kb'
      rotate_left
      ·rw [updF_other _ _ e, HT2.o b hb, decide_eq_false (fun h : (kb' : Int) = (b : Int) => e (by omega)), Bool.or_false]
      subst e
      rw [updF_same]
      simp
     clear hcb ekb HTJ HT2 hgb
     go_wp2_with fail
     go_roundw
     case rel => exact ⟨j + 1, _, by go_num, by omega, HNQ, HNB, HNV, HNT⟩
     case measure => simp [intOf] <;> omega
theorem r29targets_c (s : Sta) (p : Pos) (aF : Option Addr) (cF : Nat) (FL : List Bool) (w : World) (h : GoodAt w s p) (hF : GdAt w aF s.bays.length cF FL) :
  Calls Tryz.prog 26 #[.agg #[Value.string s.nm, Value.slice s.aB s.buses.length s.cB, Value.slice s.aL s.lines.length s.cL, Value.slice s.aS s.srcs.length s.cS, Value.slice s.aY s.bays.length s.cY], .agg #[Value.slice p.aC p.closed.length p.cC, Value.slice p.aK p.rows.length p.cK], .slice aF s.bays.length cF] w (RetTg (tgB s p FL s.bays.length) s.bays.length w) := by
 have hlens := h.lens
 have C5 := hh fun (w' : World) (hq : Q w w') => r5check_c s w' (h.st.q hq)
 have C6 := hh fun (w' : World) (hq : Q w w') => r6check_c s p w' (h.st.q hq) (h.ps.q hq)
 simp only [h.e1, h.e2] at C5 C6
 have RS := hh fun (w' : World) (hq : Q w w') => r6resolve_n p w' (h.ps.q hq) (by omega) (by omega) (good_lens h)
 unfold RetPN at RS
 have GOOD := hh fun (p2 : Pos) (w' : World) (hq : Q w w') (hp : PosAt w' p2) (hc : p2.closed = p.closed) (hr : p2.rows.map Ro.l = p.rows.map fun r => r.l.map rs1) => (⟨h.st.q hq, hp, h.e1, psE_rs h.e2 hc hr⟩ : GoodAt w' s p2)
 have SDC : Hid (∀ (p2 : Pos) (k : Nat) (w' : World) (hq : Q w w') (hp : PosAt w' p2) (hc : p2.closed = p.closed) (hr : p2.rows.map Ro.l = p.rows.map fun r => r.l.map rs1) (hk : k < s.bays.length), Calls Tryz.prog 49 #[.agg #[Value.string s.nm, Value.slice s.aB s.buses.length s.cB, Value.slice s.aL s.lines.length s.cL, Value.slice s.aS s.srcs.length s.cS, Value.slice s.aY s.bays.length s.cY], .agg #[Value.slice p2.aC p2.closed.length p2.cC, Value.slice p2.aK p2.rows.length p2.cK], .int .i64 k] w' fun e w'' => e = .returned (.agg #[.int .i64 (sdZ s (rsP p) (grI s (rsP p)) k).1, .int .i64 (sdZ s (rsP p) (grI s (rsP p)) k).2.1, .int .i64 (sdZ s (rsP p) (grI s (rsP p)) k).2.2.1, .int .i64 (sdZ s (rsP p) (grI s (rsP p)) k).2.2.2]) ∧ Q w' w'') := hh fun p2 k w' hq hp hc hr hk => by
  have := r6Sides_g s p2 k w' (GOOD.o p2 w' hq hp hc hr) hk
  rw [grI_congr (rsP_rows hr), sdZ_congr (rsP_rows hr)] at this
  exact this
 have BDC : Hid (∀ (p2 : Pos) (k : Nat) (w' : World) (hq : Q w w') (hp : PosAt w' p2) (hc : p2.closed = p.closed) (hr : p2.rows.map Ro.l = p.rows.map fun r => r.l.map rs1) (hk : k < s.buses.length), Calls Tryz.prog 50 #[.agg #[Value.string s.nm, Value.slice s.aB s.buses.length s.cB, Value.slice s.aL s.lines.length s.cL, Value.slice s.aS s.srcs.length s.cS, Value.slice s.aY s.bays.length s.cY], .agg #[Value.slice p2.aC p2.closed.length p2.cC, Value.slice p2.aK p2.rows.length p2.cK], .agg #[.int .i64 1, .int .i64 k]] w' (RetI (bdI s (rsP p) (grI s (rsP p)) ((grI s (rsP p)).getD k 0) s.bays.length) w')) := hh fun p2 k w' hq hp hc hr hk => by
  have := r6Boundary_g s p2 k w' (GOOD.o p2 w' hq hp hc hr) hk
  rw [grI_congr (rsP_rows hr), bdI_congr (rsP_rows hr)] at this
  exact this
 unfold RetI at BDC
 have HGR := hh fun k => sdZ_grp h k
 have HBA := hh fun q j => bdI_at s (rsP p) (grI s (rsP p)) q s.bays.length j
 have HBL := hh fun q => bdI_len s (rsP p) (grI s (rsP p)) q s.bays.length
 have HTB : Hid (∀ n b, tgB s p FL (n + 1) b = (tgB s p FL n b || (FL.getD n false && tgK s p (grI s (rsP p)) n b))) := hh fun n b => any_succ _ n
 have HT0 : Hid (∀ b, tgB s p FL 0 b = false) := hh fun b => rfl
 have HTK : Hid (∀ k b, tgK s p (grI s (rsP p)) k b = (tgS s p (grI s (rsP p)) (sdZ s (rsP p) (grI s (rsP p)) k).1 (sdZ s (rsP p) (grI s (rsP p)) k).2.1 b || tgS s p (grI s (rsP p)) (sdZ s (rsP p) (grI s (rsP p)) k).2.2.1 (sdZ s (rsP p) (grI s (rsP p)) k).2.2.2 b)) := hh fun k b => rfl
 have HTS : Hid (∀ kd (of b : Nat), tgS s p (grI s (rsP p)) kd of b = (decide (kd = 1) && (bdI s (rsP p) (grI s (rsP p)) ((grI s (rsP p)).getD of 0) s.bays.length).any fun x => decide (x = (b : Int)))) := hh fun kd of b => rfl
 have HTN : Hid (∀ kd of b, kd ≠ 1 → tgS s p (grI s (rsP p)) kd of b = false) := hh fun kd of b hk => by unfold tgS; rw [decide_eq_false hk, Bool.false_and]
 generalize tgB s p FL = TB at HTB HT0 ⊢
 generalize tgK s p (grI s (rsP p)) = TK at HTB HTK
 generalize tgS s p (grI s (rsP p)) = TS at HTK HTS HTN
 generalize grI s (rsP p) = gl at *
 have hY16 : s.bays.length ≤ 16 := by omega
 have hmk := fun w => make_boolB w s.bays.length (by omega)
 have n0 : (0 : Int) ≤ (s.bays.length : Int) := by omega
 have HF := hh hF
 have HGA := hh h
 have lC : p.closed.length < 1000 := by omega
 have lK : p.rows.length < 1000 := by omega
 clear h hF hlens
 go_enter Tryz.func26, Tryz.ntmps26
 go_upto_region 1 with fail
 obtain ⟨V, eV⟩ : ∃ V, w.alloc (Obj.cells #[Value.string s.nm, Value.slice s.aB s.buses.length s.cB, Value.slice s.aL s.lines.length s.cL, Value.slice s.aS s.srcs.length s.cS, Value.slice s.aY s.bays.length s.cY] 27) = V := ⟨_, rfl⟩
 have hsz : w.heap.size + 1 = V.heap.size := by rw [← eV]; simp
 have hq0 : Q w V := by rw [← eV]; exact Q.i
 have hb : HB V w.heap.size #[Value.string s.nm, Value.slice s.aB s.buses.length s.cB, Value.slice s.aL s.lines.length s.cL, Value.slice s.aS s.srcs.length s.cS, Value.slice s.aY s.bays.length s.cY] 27 := by rw [← eV]; exact HB.new _ _ _ _ rfl
 rw [eV, hsz]
 have HQ0 := hh hq0
 have s0 := hb.cell 0
 have s1 := hb.cell 1
 have s2 := hb.cell 2
 have s3 := hb.cell 3
 have s4 := hb.cell 4
 simp only [List.getElem?_toArray, List.getElem?_cons_zero, List.getElem?_cons_succ] at s0 s1 s2 s3 s4
 have ob := hb.old
 have C5 := hh fun (w' : World) (hq : Q V w') => C5.o w' (HQ0.o.trans hq)
 have C6 := hh fun (w' : World) (hq : Q V w') => C6.o w' (HQ0.o.trans hq)
 have RS := hh fun (w' : World) (hq : Q V w') => RS.o w' (HQ0.o.trans hq)
 clear eV hb hq0 hsz
 generalize w.heap.size = b at s0 s1 s2 s3 s4 ob ⊢
 go_upto_region 4 with (first | (go_at_call 22; (with_reducible refine (C5.o _ Q.i).q ?_); intro k0) | (go_at_call 23; (with_reducible refine (C6.o _ Q.i).q ?_); intro k1) | (go_at_call 48; (with_reducible refine (RS.o _ Q.i).mono ?_); rintro e w' ⟨p2, rfl, ⟨kR, rfl⟩, ho2, hw2, hc2, hr2⟩; have HO2 := hh ho2; have HW2 := hh hw2; have HC2 := hh hc2; have HR2 := hh hr2; clear ho2 hw2 hc2 hr2) | fail)
 refine wp_world ?_
 intro U eU
 have hqU : Q V U := by rw [eU]; exact Q.i
 have hbp : HB U (V.heap.size) #[Value.slice p2.aC p2.closed.length p2.cC, Value.slice p2.aK p2.rows.length p2.cK] 31 := by rw [eU]; exact (HB.new V _ _ _ rfl).q Q.i
 have HP2 : Hid (PosAt U p2) := hh (by
  have l1 : p2.closed.length < 1000 := by rw [HC2.o]; omega
  have l2 : p2.rows.length < 1000 := by rw [← List.length_map (f := Ro.l), HR2.o, List.length_map]; omega
  have h1 := HO2.o
  have h2 := HW2.o
  rw [eU]
  simp only [World.jk_jk] at h1 h2 ⊢
  refine rowsAt_pos (W0 := V.alloc (Obj.cells #[Value.slice p2.aC p2.closed.length p2.cC, Value.slice p2.aK p2.rows.length p2.cK] 31)) (own_swap (W := V.alloc (Obj.cells #[Value.slice p.aC p.closed.length p.cC, Value.slice p.aK p.rows.length p.cK] 31)) (by simp) (World.ownsRow.mono h1 (by simp [World.size_jk] <;> omega))) (RowsAt.swap (W := V.alloc (Obj.cells #[Value.slice p.aC p.closed.length p.cC, Value.slice p.aK p.rows.length p.cK] 31)) (by simp) ?_) rfl rfl l1 l2
  exact ⟨World.ownsRow.mono h2.1 (by simp [World.size_jk] <;> omega), fun r hr => ⟨World.ownsRow.mono (h2.2 r hr).1 (by simp [World.size_jk] <;> omega), (h2.2 r hr).2⟩⟩)
 have HQU := hh (HQ0.o.trans hqU)
 replace s0 := (hqU.below.cell (p := ⟨b, 0, none⟩) ob.lt).trans s0
 replace s1 := (hqU.below.cell (p := ⟨b, 1, none⟩) ob.lt).trans s1
 replace s2 := (hqU.below.cell (p := ⟨b, 2, none⟩) ob.lt).trans s2
 replace s3 := (hqU.below.cell (p := ⟨b, 3, none⟩) ob.lt).trans s3
 replace s4 := (hqU.below.cell (p := ⟨b, 4, none⟩) ob.lt).trans s4
 have obU : Old b U := ⟨Nat.lt_of_lt_of_le ob.lt hqU.below.size⟩
 have r0 := hbp.cell 0
 have r1 := hbp.cell 1
 simp only [List.getElem?_toArray, List.getElem?_cons_zero, List.getElem?_cons_succ] at r0 r1
 have obp := hbp.old
 have HFU : Hid (GdAt U aF s.bays.length cF FL) := hh (HF.o.q HQU.o)
 have SDU := hh fun (k : Nat) (w' : World) (hq : Q U w') (hk : k < s.bays.length) => SDC.o p2 k w' (HQU.o.trans hq) (HP2.o.q hq) HC2.o HR2.o hk
 have BDU := hh fun (k : Nat) (w' : World) (hq : Q U w') (hk : k < s.buses.length) => BDC.o p2 k w' (HQU.o.trans hq) (HP2.o.q hq) HC2.o HR2.o hk
 clear eU hqU hbp ob HQ0 C5 C6 RS GOOD SDC BDC HF HGA
 generalize V.heap.size = bp at r0 r1 obp ⊢
 go_wp2_with fail
 have HSZ : Hid (w.heap.size ≤ U.heap.size) := hh HQU.o.below.size
 go_loopw [39] (fun i wr => ∃ (k : Nat) (F : Nat → Value), i = .int .i64 k ∧ k ≤ s.bays.length ∧ Hid (Q U wr) ∧ Hid (HB wr U.heap.size (arrF F s.bays.length) 4) ∧ Hid (∀ b, b < s.bays.length → F b = .bool (TB k b))) (fun i _ => s.bays.length - (intOf i).toNat)
 case atStart => exact ⟨0, _, rfl, Nat.zero_le _, hh (by repeat' (first | exact Q.refl _ | refine Q.alloc ?_ _ | refine Q.jk ?_ _ | refine Q.drew ?_)), hh (HB.new _ _ _ _ rfl), hh (fun b _ => by rw [HT0.o b])⟩
 case round =>
  obtain ⟨k, F, rfl, hk, HQ1, HB1, HT1⟩ := hrel
  have hq1 := HQ1.o
  obtain ⟨kk, rfl⟩ := hq1
  by_cases hlt : k < s.bays.length
  rotate_left
  ·obtain rfl : k = s.bays.length := by omega
   have HFN : Hid (arrF F s.bays.length = arrF (fun b => .bool (TB s.bays.length b)) s.bays.length) := hh (arrF_congr HT1.o)
   go_wp2_with fail
   go_ret
   exact ⟨_, rfl, HQU.o.trans Q.i, HSZ.o, by rw [← HFN.o]; exact HB1.o.q Q.i⟩
  obtain ⟨g, o, rfl, og, hc⟩ := HFU.o.at_ (by omega)
  have a1 := hc.o k hlt
  have k0 : (0 : Int) ≤ (k : Int) := by omega
  have k1 : (k : Int) < (s.bays.length : Int) := by omega
  have HTB1 := hh (HTB.o k)
  cases hfl : FL.getD k false with
  | false =>
   rw [hfl] at a1
   have HT2 : Hid (∀ b, b < s.bays.length → F b = .bool (TB (k + 1) b)) := hh fun b hb => by rw [HT1.o b hb, HTB1.o b, hfl, Bool.false_and, Bool.or_false]
   clear hfl hc HTB1
   go_wp2_with fail
   go_roundw
   case rel => exact ⟨k + 1, F, by go_num, by omega, hh Q.i, HB1, HT2⟩
   case measure => simp [intOf] <;> omega
  | true =>
   rw [hfl] at a1
   have HTB2 : Hid (∀ b, TB (k + 1) b = (TB k b || TK k b)) := hh fun b => by rw [HTB1.o b, hfl, Bool.true_and]
   have HTK1 := hh (HTK.o k)
   obtain ⟨hg1, hg2⟩ := HGR.o k
   have SD := hh fun (w' : World) (hq : Q U w') => SDU.o k w' hq hlt
   obtain ⟨⟨za, zb, zc, zd⟩, ez⟩ : ∃ z, sdZ s (rsP p) gl k = z := ⟨_, rfl⟩
   rw [ez] at HTK1 hg1 hg2 SD
   dsimp only at HTK1 hg1 hg2 SD
   have HG1 := hh hg1
   have HG2 := hh hg2
   have HLT := hh hlt
   clear hfl hc HTB1 ez hg1 hg2 hlt hk
   go_wp2_with (first | (go_at_call 49; (with_reducible refine (SD.o _ Q.i).q ?_); intro ks) | fail)
   go_loopw [51] (fun i wr => ∃ (q : Nat) (F1 : Nat → Value), i = .int .i64 q ∧ q ≤ 2 ∧ Hid (Q U wr) ∧ Hid (HB wr U.heap.size (arrF F1 s.bays.length) 4) ∧ Hid (∀ b, b < s.bays.length → F1 b = .bool (TB k b || ((decide (0 < q) && TS za zb b) || (decide (1 < q) && TS zc zd b))))) (fun i _ => 2 - (intOf i).toNat)
   case atStart => exact ⟨0, F, rfl, by omega, hh (by repeat' (first | exact Q.refl _ | refine Q.alloc ?_ _ | refine Q.jk ?_ _ | refine Q.drew ?_)), hh (HB1.o.q (by repeat' (first | exact Q.refl _ | refine Q.alloc ?_ _ | refine Q.jk ?_ _ | refine Q.drew ?_))), hh (fun b hb => by rw [HT1.o b hb]; simp)⟩
   case round =>
    clear HB1 HT1 HQ1
    obtain ⟨q, F1, rfl, hq2, HQ1, HB1, HT1⟩ := hrel
    have hq1 := HQ1.o
    obtain ⟨kq, rfl⟩ := hq1
    by_cases hlq : q < 2
    rotate_left
    ·obtain rfl : q = 2 := by omega
     go_wp2_with fail
     go_roundw
     case rel => exact ⟨k + 1, F1, by go_num, by have := HLT.o; omega, hh Q.i, HB1, hh (fun b hb => by rw [HT1.o b hb, HTB2.o b, HTK1.o b]; simp)⟩
     case measure => have := HLT.o; simp [intOf] <;> omega
    have hq01 : q = 0 ∨ q = 1 := by omega
    rcases hq01 with rfl | rfl
    all_goals try rw [show ((0 : Nat) : Int) = 0 from rfl]
    all_goals try rw [show ((1 : Nat) : Int) = 1 from rfl]
    ·by_cases hkd : za = 1
     rotate_left
     ·have e1 : (za != 1) = true := by simpa using hkd
      have HT3 : Hid (∀ b, b < s.bays.length → F1 b = .bool (TB k b || ((decide (0 < 1) && TS za zb b) || (decide (1 < 1) && TS zc zd b)))) := hh fun b hb => by
       rw [HT1.o b hb, HTN.o za zb b hkd]
       simp
      clear hkd HT1
      go_wp2_with fail
      go_roundw
      case rel => exact ⟨1, F1, by go_num, by omega, hh Q.i, hh (HB1.o.q Q.i), HT3⟩
      case measure => simp [intOf] <;> omega
     obtain ⟨of, eof, hof⟩ := HG1.o hkd
     subst hkd
     subst eof
     have BD := hh fun (w' : World) (hq : Q U w') => BDU.o of w' hq hof
     have HBA1 := hh (HBA.o (gl.getD of 0))
     have HBL1 := hh (HBL.o (gl.getD of 0))
     have HTS1 := hh fun b => HTS.o 1 of b
     generalize bdI s (rsP p) gl (gl.getD of 0) s.bays.length = bm at BD HBA1 HBL1 HTS1
     obtain ⟨nM, eM⟩ : ∃ n, bm.length = n := ⟨_, rfl⟩
     have HNM := hh eM
     have nm1 : nM ≤ 16 := by have := HBL1.o; omega
     clear hof eM hlq hq2
     go_wp2_with (first | (go_at_call 50; (with_reducible refine (BD.o _ Q.i).mono ?_); rintro e w' ⟨vb, rfl, ⟨kb, rfl⟩, hvb⟩; obtain ⟨ab, cb, rfl⟩ := own_slice' hvb; rw [HNM.o] at hvb ⊢; have HVB : Hid (RowI U _ _ bm) := hh (hvb.low Q.i); clear hvb) | fail)
     go_loopw [64] (fun i wr => ∃ (j : Nat) (F2 : Nat → Value), i = .int .i64 j ∧ j ≤ nM ∧ Hid (Q U wr) ∧ Hid (HB wr U.heap.size (arrF F2 s.bays.length) 4) ∧ Hid (RowI U wr (.slice ab nM cb) bm) ∧ Hid (∀ b, b < s.bays.length → F2 b = .bool (TB k b || ((bm.take j).any fun x => decide (x = (b : Int)))))) (fun i _ => nM - (intOf i).toNat)
     case atStart => exact ⟨0, F1, rfl, Nat.zero_le _, hh (by repeat' (first | exact Q.refl _ | refine Q.alloc ?_ _ | refine Q.jk ?_ _ | refine Q.drew ?_)), hh (HB1.o.q (by repeat' (first | exact Q.refl _ | refine Q.alloc ?_ _ | refine Q.jk ?_ _ | refine Q.drew ?_))), hh (HVB.o.q (by repeat' (first | exact Q.refl _ | refine Q.alloc ?_ _ | refine Q.jk ?_ _ | refine Q.drew ?_))), hh (fun b hb => by rw [HT1.o b hb]; simp)⟩
     case round =>
      clear HB1 HVB HQ1
      obtain ⟨j, F2, rfl, hj, HQ1, HB2, HV2, HT2⟩ := hrel
      have hq1 := HQ1.o
      obtain ⟨kj, rfl⟩ := hq1
      by_cases hlj : j < nM
      rotate_left
      ·obtain rfl : j = nM := by omega
       have HT3 : Hid (∀ b, b < s.bays.length → F2 b = .bool (TB k b || ((decide (0 < 1) && TS 1 (of : Int) b) || (decide (1 < 1) && TS zc zd b)))) := hh fun b hb => by
        have h9 : bm.take j = bm := List.take_of_length_le (by rw [HNM.o]; exact Nat.le_refl _)
        rw [HT2.o b hb, h9, HTS1.o b]
        simp
       clear HT2
       go_wp2_with fail
       go_roundw
       case rel => exact ⟨1, F2, by go_num, by omega, hh Q.i, HB2, HT3⟩
       case measure => simp [intOf] <;> omega
      obtain ⟨kb', ekb, hkb⟩ := HBA1.o j (by rw [HNM.o]; exact hlj)
      obtain ⟨gb, rfl, hgb, hcb⟩ := rowI_win HV2.o HNM.o (by omega)
      have x1 := (hcb.o j hlj).1
      rw [ekb] at x1
      have ogb : Old gb (U.jk kj) := ⟨World.block_lt_of_cell? _ _ x1⟩
      have y1 := HB2.o.cell kb'
      rw [arrF_get _ hkb] at y1
      have y2 := HB2.o.soft kb'
      have ogt : Old U.heap.size (U.jk kj) := HB2.o.old
      have HTJ : Hid (∀ b : Nat, ((bm.take (j + 1)).any fun x => decide (x = (b : Int))) = (((bm.take j).any fun x => decide (x = (b : Int))) || decide ((kb' : Int) = (b : Int)))) := hh fun b => by
       have h9 : bm[j]? = some (kb' : Int) := by
        have hjl : j < bm.length := by rw [HNM.o]; exact hlj
        rw [List.getD_eq_getElem?_getD, List.getElem?_eq_getElem hjl] at ekb
        rw [List.getElem?_eq_getElem hjl]
        exact congrArg some ekb
       exact any_take_succ bm (fun x => decide (x = (b : Int))) j _ h9
      have j0 : (0 : Int) ≤ (j : Int) := by omega
      have j1 : (j : Int) < (nM : Int) := by omega
      have q0 : (0 : Int) ≤ (kb' : Int) := by omega
      have q1 : (kb' : Int) < (s.bays.length : Int) := by omega
      have HNQ : Hid (Q U ((U.jk kj).setCell ⟨U.heap.size, kb', none⟩ (.bool true))) := hh (HQ1.o.setCell (Nat.le_refl _) _)
      have HNB : Hid (HB ((U.jk kj).setCell ⟨U.heap.size, kb', none⟩ (.bool true)) U.heap.size (arrF (updF F2 kb' (.bool true)) s.bays.length) 4) := hh (by rw [← arrF_set]; exact HB2.o.set kb' _)
      have HNV : Hid (RowI U ((U.jk kj).setCell ⟨U.heap.size, kb', none⟩ (.bool true)) (.slice (some ⟨gb, 0, none⟩) nM cb) bm) := hh (kept_hb HB2.o HV2.o (by decide))
      have HNT : Hid (∀ b, b < s.bays.length → updF F2 kb' (.bool true) b = .bool (TB k b || ((bm.take (j + 1)).any fun x => decide (x = (b : Int))))) := hh fun b hb => by
       rw [HTJ.o b]
       by_cases e : b = kb'
       rotate_left
       ·rw [updF_other _ _ e, HT2.o b hb, decide_eq_false (fun h : (kb' : Int) = (b : Int) => e (by omega)), Bool.or_false]
       subst e
       rw [updF_same]
       simp
      clear hcb ekb HTJ HT2 hgb
      go_wp2_with fail
      go_roundw
      case rel => exact ⟨j + 1, _, by go_num, by omega, HNQ, HNB, HNV, HNT⟩
      case measure => simp [intOf] <;> omega
    by_cases hkd : zc = 1
    rotate_left
    ·have e1 : (zc != 1) = true := by simpa using hkd
     have HT3 : Hid (∀ b, b < s.bays.length → F1 b = .bool (TB k b || ((decide (0 < 2) && TS za zb b) || (decide (1 < 2) && TS zc zd b)))) := hh fun b hb => by
      rw [HT1.o b hb, HTN.o zc zd b hkd]
      simp
     clear hkd HT1
     go_wp2_with fail
     go_roundw
     case rel => exact ⟨2, F1, by go_num, by omega, hh Q.i, hh (HB1.o.q Q.i), HT3⟩
     case measure => simp [intOf] <;> omega
    obtain ⟨of, eof, hof⟩ := HG2.o hkd
    subst hkd
    subst eof
    have BD := hh fun (w' : World) (hq : Q U w') => BDU.o of w' hq hof
    have HBA1 := hh (HBA.o (gl.getD of 0))
    have HBL1 := hh (HBL.o (gl.getD of 0))
    have HTS1 := hh fun b => HTS.o 1 of b
    generalize bdI s (rsP p) gl (gl.getD of 0) s.bays.length = bm at BD HBA1 HBL1 HTS1
    obtain ⟨nM, eM⟩ : ∃ n, bm.length = n := ⟨_, rfl⟩
    have HNM := hh eM
    have nm1 : nM ≤ 16 := by have := HBL1.o; omega
    clear hof eM hlq hq2
    go_wp2_with (first | (go_at_call 50; (with_reducible refine (BD.o _ Q.i).mono ?_); rintro e w' ⟨vb, rfl, ⟨kb, rfl⟩, hvb⟩; obtain ⟨ab, cb, rfl⟩ := own_slice' hvb; rw [HNM.o] at hvb ⊢; have HVB : Hid (RowI U _ _ bm) := hh (hvb.low Q.i); clear hvb) | fail)
    go_loopw [64] (fun i wr => ∃ (j : Nat) (F2 : Nat → Value), i = .int .i64 j ∧ j ≤ nM ∧ Hid (Q U wr) ∧ Hid (HB wr U.heap.size (arrF F2 s.bays.length) 4) ∧ Hid (RowI U wr (.slice ab nM cb) bm) ∧ Hid (∀ b, b < s.bays.length → F2 b = .bool (TB k b || (TS za zb b || (bm.take j).any fun x => decide (x = (b : Int)))))) (fun i _ => nM - (intOf i).toNat)
    case atStart => exact ⟨0, F1, rfl, Nat.zero_le _, hh (by repeat' (first | exact Q.refl _ | refine Q.alloc ?_ _ | refine Q.jk ?_ _ | refine Q.drew ?_)), hh (HB1.o.q (by repeat' (first | exact Q.refl _ | refine Q.alloc ?_ _ | refine Q.jk ?_ _ | refine Q.drew ?_))), hh (HVB.o.q (by repeat' (first | exact Q.refl _ | refine Q.alloc ?_ _ | refine Q.jk ?_ _ | refine Q.drew ?_))), hh (fun b hb => by rw [HT1.o b hb]; simp)⟩
    case round =>
     clear HB1 HVB HQ1
     obtain ⟨j, F2, rfl, hj, HQ1, HB2, HV2, HT2⟩ := hrel
     have hq1 := HQ1.o
     obtain ⟨kj, rfl⟩ := hq1
     by_cases hlj : j < nM
     rotate_left
     ·obtain rfl : j = nM := by omega
      have HT3 : Hid (∀ b, b < s.bays.length → F2 b = .bool (TB k b || ((decide (0 < 2) && TS za zb b) || (decide (1 < 2) && TS 1 (of : Int) b)))) := hh fun b hb => by
       have h9 : bm.take j = bm := List.take_of_length_le (by rw [HNM.o]; exact Nat.le_refl _)
       rw [HT2.o b hb, h9, HTS1.o b]
       simp
      clear HT2
      go_wp2_with fail
      go_roundw
      case rel => exact ⟨2, F2, by go_num, by omega, hh Q.i, HB2, HT3⟩
      case measure => simp [intOf] <;> omega
     obtain ⟨kb', ekb, hkb⟩ := HBA1.o j (by rw [HNM.o]; exact hlj)
     obtain ⟨gb, rfl, hgb, hcb⟩ := rowI_win HV2.o HNM.o (by omega)
     have x1 := (hcb.o j hlj).1
     rw [ekb] at x1
     have ogb : Old gb (U.jk kj) := ⟨World.block_lt_of_cell? _ _ x1⟩
     have y1 := HB2.o.cell kb'
     rw [arrF_get _ hkb] at y1
     have y2 := HB2.o.soft kb'
     have ogt : Old U.heap.size (U.jk kj) := HB2.o.old
     have HTJ : Hid (∀ b : Nat, ((bm.take (j + 1)).any fun x => decide (x = (b : Int))) = (((bm.take j).any fun x => decide (x = (b : Int))) || decide ((kb' : Int) = (b : Int)))) := hh fun b => by
      have h9 : bm[j]? = some (kb' : Int) := by
       have hjl : j < bm.length := by rw [HNM.o]; exact hlj
       rw [List.getD_eq_getElem?_getD, List.getElem?_eq_getElem hjl] at ekb
       rw [List.getElem?_eq_getElem hjl]
       exact congrArg some ekb
      exact any_take_succ bm (fun x => decide (x = (b : Int))) j _ h9
     have j0 : (0 : Int) ≤ (j : Int) := by omega
     have j1 : (j : Int) < (nM : Int) := by omega
     have q0 : (0 : Int) ≤ (kb' : Int) := by omega
     have q1 : (kb' : Int) < (s.bays.length : Int) := by omega
     have HNQ : Hid (Q U ((U.jk kj).setCell ⟨U.heap.size, kb', none⟩ (.bool true))) := hh (HQ1.o.setCell (Nat.le_refl _) _)
     have HNB : Hid (HB ((U.jk kj).setCell ⟨U.heap.size, kb', none⟩ (.bool true)) U.heap.size (arrF (updF F2 kb' (.bool true)) s.bays.length) 4) := hh (by rw [← arrF_set]; exact HB2.o.set kb' _)
     have HNV : Hid (RowI U ((U.jk kj).setCell ⟨U.heap.size, kb', none⟩ (.bool true)) (.slice (some ⟨gb, 0, none⟩) nM cb) bm) := hh (kept_hb HB2.o HV2.o (by decide))
     have HNT : Hid (∀ b, b < s.bays.length → updF F2 kb' (.bool true) b = .bool (TB k b || (TS za zb b || (bm.take (j + 1)).any fun x => decide (x = (b : Int))))) := hh fun b hb => by
      rw [HTJ.o b]
      by_cases e : b = kb'
      rotate_left
      ·rw [updF_other _ _ e, HT2.o b hb, decide_eq_false (fun h : (kb' : Int) = (b : Int) => e (by omega)), Bool.or_false]
      subst e
      rw [updF_same]
      simp
     clear hcb ekb HTJ HT2 hgb
     go_wp2_with fail
     go_roundw
     case rel => exact ⟨j + 1, _, by go_num, by omega, HNQ, HNB, HNV, HNT⟩
     case measure => simp [intOf] <;> omega
end Go.Proofs.YtcjflafjmdfanaaGreatDoor

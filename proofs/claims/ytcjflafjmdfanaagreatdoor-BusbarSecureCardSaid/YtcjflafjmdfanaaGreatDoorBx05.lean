
/- BusbarSecure, walked: it returns true. -/
import Derived.Test.YtcjflafjmdfanaaGreatDoorBx01
import Derived.Test.YtcjflafjmdfanaaGreatDoorBx02
import Derived.Test.YtcjflafjmdfanaaGreatDoorBx03
import Derived.Test.YtcjflafjmdfanaaGreatDoorBx04
import Derived.Test.YtcjflafjmdfanaaGreatDoorBv33
import Derived.Test.YtcjflafjmdfanaaGreatDoorBv35
import Derived.Test.YtcjflafjmdfanaaGreatDoorBv36
import Derived.Test.YtcjflafjmdfanaaGreatDoorBv37
set_option maxHeartbeats 64000000
set_option maxRecDepth 100000
set_option linter.unusedSimpArgs false
set_option linter.unusedVariables false
/- What balanced of the law BusbarSecure returns: samples in which the currents of each section add up to nothing. -/
namespace Go.Proofs.YtcjflafjmdfanaaGreatDoor
open Go.RowKit Go.Sub
attribute [local go_sem ↓] Go.wp_at_zero Go.wp_at_succ
theorem wpList_app_wavesA {ops : Array Oper} {rest : List Oper} {o : Oper} {a : Act} {w : World} {Q' : Exit → Act → World → Prop} (hgd : o.guard = none) (s x : Operand)
  (ho : o.op = .call { callee := .builtin .append, args := #[s, x], argTypes := #[45, 45] }) (W0 : World) (v : Value) (n : Nat) (xs : List Value) (m : Nat) (A : Option Addr) (c : Nat) (news : List Value)
  (hs : a.eval s = v) (hx : a.eval x = .slice A m c) (hown : w.ownsRow W0.heap.size 72 72 v n xs) (hr : RdV w A m c 72 news) (h1 : ∀ u ∈ news, u.oneCell' = true) (hlen : n < 1000) (hm : m < 1000) (hQ : Q W0 w)
  (h : ∀ A' c' kk, (W0.jk kk).ownsRow W0.heap.size 72 72 (.slice A' (n + m) c') (n + m) (xs ++ news) → wpList Tryz.prog ops Q' rest (a.put o.dst (.slice A' (n + m) c')) (W0.jk kk)) : wpList Tryz.prog ops Q' (o :: rest) a w := by
 obtain ⟨i, hi, hz, hs1, hb⟩ := infoWave
 refine wpList_app_any hgd s x 45 ho W0 72 i _ 72 576 Tryz.underlying45 hi hz hs1 hb rfl (by decide) v n xs hs hown A m c news hx hr h1 (by unfold maxLen; omega) (by omega) hQ ?_
 intro v' kk h1 h2
 obtain ⟨A', c', rfl⟩ := own_slice' h1
 exact h A' c' kk h1
theorem buildW0 : ∀ w, (bigBuild 45 0 #[]).run Tryz.prog w = .ok (.slice (some ⟨w.heap.size, 0, none⟩) 0 0) (w.alloc (.cells #[] 72)) := by
 intro w
 obtain ⟨i, hi, hz, hs1, hb⟩ := infoWave
 simp [bigBuild, Instr.buildSlice, run_underlying Tryz.underlying45, sizeOf, typeInfo, hi, newRow, Instr.fill]
 rw [show Array.range 0 = #[] from rfl, Array.map_empty]
theorem own_nilW (V0 : World) : (V0.alloc (.cells #[] 72)).ownsRow V0.heap.size 72 72 (.slice (some ⟨V0.heap.size, 0, none⟩) 0 0) 0 [] := World.ownsRow_lit V0 #[] 0 (Nat.le_refl _) (by decide) rfl
theorem one_intsW (l : List Int) : ∀ u ∈ l.map (Value.int .i64), u.oneCell' = true := fun u hu => by
 obtain ⟨z, _, rfl⟩ := List.mem_map.1 hu
 rfl
structure BalAt (V0 w : World) (nW : Nat) (A : Option Addr) (c : Nat) (W : List Int) (AL : Option Addr) (cL : Nat) (rs : List SecR) : Prop where
 q : Q V0 w
 row : w.ownsRow V0.heap.size 72 72 (.slice A nW c) nW (W.map (Value.int .i64))
 secs : SecsAt V0 w (.slice AL rs.length cL) rs
theorem BalAt.to {V0 w w' : World} {nW : Nat} {A : Option Addr} {c : Nat} {W : List Int} {AL : Option Addr} {cL : Nat} {rs : List SecR} (h : BalAt V0 w nW A c W AL cL rs) (hq : Q w w') : BalAt V0 w' nW A c W AL cL rs := ⟨h.q.trans hq, ownsRow_q h.row hq, h.secs.q hq⟩
theorem BalAt.len {V0 w : World} {nW : Nat} {A : Option Addr} {c : Nat} {W : List Int} {AL : Option Addr} {cL : Nat} {rs : List SecR} (h : BalAt V0 w nW A c W AL cL rs) : W.length = nW * 72 := by have := h.row.1; rwa [List.length_map] at this
theorem kept_set {w : World} {base g n c size i : Nat} {e : TypeId} {xs : List Value} {v : Value} (h : w.ownsRow base e size (.slice (some ⟨g, 0, none⟩) n c) n xs) {base' size' n' : Nat} {e' : TypeId} {u : Value} {ys : List Value} (h' : w.ownsRow base' e' size' u n' ys) (hne : e' ≠ e) : (w.setCell ⟨g, i, none⟩ v).ownsRow base' e' size' u n' ys :=
 h'.kept (h.stored i v).2 (own_other h' h hne)
theorem BalAt.put {V0 w : World} {nW g c : Nat} {W : List Int} {AL : Option Addr} {cL : Nat} {rs : List SecR} (h : BalAt V0 w nW (some ⟨g, 0, none⟩) c W AL cL rs) (i : Nat) (v : Int) : BalAt V0 (w.setCell ⟨g, i, none⟩ (.int .i64 v)) nW (some ⟨g, 0, none⟩) c (W.set i v) AL cL rs :=
 ⟨h.q.setCell (h.row.lt g rfl).1 _, by rw [List.map_set]; exact (h.row.stored i _).1, kept_set h.row h.secs.1 (by decide), fun r hr => ⟨kept_set h.row (h.secs.2 r hr).1 (by decide), kept_set h.row (h.secs.2 r hr).2 (by decide)⟩⟩
theorem BalAt.slice {V0 w : World} {nW : Nat} {A : Option Addr} {c : Nat} {W : List Int} {AL : Option Addr} {cL : Nat} {rs : List SecR} (h : BalAt V0 w nW A c W AL cL rs) (hn : 0 < nW) : ∃ g, A = some ⟨g, 0, none⟩ := by
 obtain ⟨g, c', e⟩ := own_slice h.row hn
 injection e with e1
 exact ⟨g, e1⟩
theorem BalAt.cell {V0 w : World} {nW g c : Nat} {W : List Int} {AL : Option Addr} {cL : Nat} {rs : List SecR} (h : BalAt V0 w nW (some ⟨g, 0, none⟩) c W AL cL rs) {k ph j : Nat} (hk : k < nW) (hp : ph < 6) (hj : j < 12) : w.cell? ⟨g, k * 72 + ph * 12 + j, none⟩ = some (.int .i64 (wvF W k ph j)) ∧ w.frozen? ⟨g, k * 72 + ph * 12 + j, none⟩ = false := by
 have hl := h.len
 refine ⟨?_, h.row.frozenAt _⟩
 rw [h.row.cellAt _ (by omega), List.getElem?_map, List.getElem?_eq_getElem (by omega)]
 unfold wvF
 rw [List.getD_eq_getElem?_getD, List.getElem?_eq_getElem (by omega)]
 rfl
theorem BalAt.wv {V0 w : World} {nW : Nat} {A : Option Addr} {c : Nat} {W : List Int} {AL : Option Addr} {cL : Nat} {rs : List SecR} (h : BalAt V0 w nW A c W AL cL rs) (hn : nW < 1000) : WvAt w A nW c W := by
 obtain ⟨A', c', e, hr⟩ := rdv_of_own h.row h.row.1
 injection e with e1 e2 e3
 subst e1 e3
 exact ⟨hr, by omega⟩
def RetBal (s : Sta) (p : Pos) (nW : Nat) (w : World) (e : Ending) (w' : World) : Prop := ∃ (A : Option Addr) (n c : Nat) (b : Bool), e = .returned (.tuple #[.slice A n c, .bool b]) ∧ Q w w' ∧ (b = true → n = nW ∧ stE s = 0 ∧ psE s p = 0 ∧ nW = s.bays.length ∧ ∃ W, WvAt w' A nW c W ∧ ∀ x ∈ imI s p, ∀ ph j, ph < 3 → j < 12 → seS s W x.mem ph j = 0)
theorem mul_bd {a b m n : Int} (h1 : -m ≤ a) (h2 : a ≤ m) (h3 : -n ≤ b) (h4 : b ≤ n) : -(m * n) ≤ a * b ∧ a * b ≤ m * n := by
 have hm : 0 ≤ m := by omega
 have hn : 0 ≤ n := by omega
 have e1 : 0 ≤ (m - a) * (n - b) := Int.mul_nonneg (by omega) (by omega)
 have e2 : 0 ≤ (m + a) * (n + b) := Int.mul_nonneg (by omega) (by omega)
 have e3 : 0 ≤ (m - a) * (n + b) := Int.mul_nonneg (by omega) (by omega)
 have e4 : 0 ≤ (m + a) * (n - b) := Int.mul_nonneg (by omega) (by omega)
 simp only [Int.sub_mul, Int.add_mul, Int.mul_sub, Int.mul_add] at e1 e2 e3 e4
 omega
theorem RetBal.no {s : Sta} {p : Pos} {nW : Nat} {w w' : World} {e : Ending} (he : e = .returned (.tuple #[.slice none 0 0, .bool false])) (hq : Q w w') : RetBal s p nW w e w' := ⟨none, 0, 0, false, he, hq, fun h => by cases h⟩
theorem RetBal.yes {s : Sta} {p : Pos} {nW : Nat} {w w' : World} {e : Ending} {A : Option Addr} {c : Nat} {W : List Int} (he : e = .returned (.tuple #[.slice A nW c, .bool true])) (hq : Q w w') (h1 : stE s = 0) (h2 : psE s p = 0) (h3 : nW = s.bays.length) (hw : WvAt w' A nW c W) (h : ∀ x ∈ imI s p, ∀ ph j, ph < 3 → j < 12 → seS s W x.mem ph j = 0) : RetBal s p nW w e w' := ⟨A, nW, c, true, he, hq, fun _ => ⟨rfl, h1, h2, h3, W, hw, h⟩⟩
def FstOK (s : Sta) (ml : List (Int × Int)) (f : Int) : Prop := f = -1 ∨ ∃ (k : Nat) (y : Byr), f = (k : Int) ∧ s.bays[k]? = some y ∧ y.kd ≠ 3 ∧ y.ct = 1 ∧ ((k : Int), 1) ∈ ml
theorem bal_c (s : Sta) (p : Pos) (cs : Array Value) (r : Rel) [hR : RelC cs r] (aW : Option Addr) (nW cW : Nat) (W : List Int) (aG : Option Addr) (nG cG : Nat) (w : World) (hst : StAt w s) (hps : PosAt w p) (hwv : WvAt w aW nW cW W) (hnW : nW ≤ 20) :
  Calls Tryz.prog 13 #[.agg (caseC (Value.string s.nm) (Value.slice s.aB s.buses.length s.cB) (Value.slice s.aL s.lines.length s.cL) (Value.slice s.aS s.srcs.length s.cS) (Value.slice s.aY s.bays.length s.cY) (Value.slice p.aC p.closed.length p.cC) (Value.slice p.aK p.rows.length p.cK) cs (Value.slice aW nW cW) (Value.slice aG nG cG))] w (RetBal s p nW w) := by
 have HST := hh hst
 have HPS := hh hps
 have HWV := hh hwv
 have OF0 := hh fun (w' : World) (hq : Q w w') => r33of_c s p w' (hst.q hq) (hps.q hq)
 have hL := hst.lY
 have y0 : (0 : Int) ≤ (s.bays.length : Int) := by omega
 clear hst hps hwv
 by_cases hE : orE (stE s) (psE s p) = 0
 rotate_left
 ·have OF : Hid (∀ (w' : World), Q w w' → Calls Tryz.prog 28 #[.agg #[Value.string s.nm, Value.slice s.aB s.buses.length s.cB, Value.slice s.aL s.lines.length s.cL, Value.slice s.aS s.srcs.length s.cS, Value.slice s.aY s.bays.length s.cY], .agg #[Value.slice p.aC p.closed.length p.cC, Value.slice p.aK p.rows.length p.cK]] w' fun e w'' => e = .returned (.tuple #[.slice none 0 0, .int .i64 (orE (stE s) (psE s p))]) ∧ Q w' w'') := hh fun w' hq => (OF0.o w' hq).mono fun _ _ h => by
   rcases h with ⟨_, h1, h2⟩ | ⟨h, _⟩
   ·exact ⟨h1, h2⟩
   exact absurd h hE
  have z' : (orE (stE s) (psE s p) != 0) = true := by simpa using hE
  generalize orE (stE s) (psE s p) = E at OF z'
  clear OF0 hE
  go_enter Tryz.func13, Tryz.ntmps13
  go_upto_region 1 with fail
  refine wp_world ?_
  intro V0 eV0
  have hb : HB V0 w.heap.size (caseC (Value.string s.nm) (Value.slice s.aB s.buses.length s.cB) (Value.slice s.aL s.lines.length s.cL) (Value.slice s.aS s.srcs.length s.cS) (Value.slice s.aY s.bays.length s.cY) (Value.slice p.aC p.closed.length p.cC) (Value.slice p.aK p.rows.length p.cK) cs (Value.slice aW nW cW) (Value.slice aG nG cG)) 47 := by rw [eV0]; exact HB.new _ _ _ _ rfl
  have hq0 : Q w V0 := by rw [eV0]; exact Q.i
  have HQ0 := hh hq0
  have s0 := hb.cell 0
  have s1 := hb.cell 1
  have s2 := hb.cell 2
  have s3 := hb.cell 3
  have s4 := hb.cell 4
  have s5 := hb.cell 5
  have s6 := hb.cell 6
  have s60 := hb.cell 60
  rw [caseC_0] at s0
  rw [caseC_1] at s1
  rw [caseC_2] at s2
  rw [caseC_3] at s3
  rw [caseC_4] at s4
  rw [caseC_5] at s5
  rw [caseC_6] at s6
  rw [caseC_60] at s60
  have ob := hb.old
  have HWV : Hid (WvAt V0 aW nW cW W) := hh (HWV.o.q hq0)
  have OF := hh fun (w' : World) (hq : Q V0 w') => OF.o w' (HQ0.o.trans hq)
  clear eV0 hb hq0
  generalize w.heap.size = b at s0 s1 s2 s3 s4 s5 s6 s60 ob ⊢
  have hbs := buildW0
  go_wp2_with (first | (at_builtin; go_loud (refine wpList_app_wavesA rfl _ _ rfl V0 (.slice (some ⟨V0.heap.size, 0, none⟩) 0 0) 0 [] nW aW cW (W.map (Value.int .i64)) rfl rfl (own_nilW V0) (HWV.o.1.q Q.i) (one_intsW W) (by omega) (by omega) Q.i ?_); intro A c kB hown; rw [List.nil_append, Nat.zero_add] at hown; rw [Nat.zero_add]; have HOWN := hh hown; clear hown) | (go_at_call 28; (with_reducible refine (OF.o _ Q.i).q ?_); intro kO) | fail)
  go_ret2
  exact RetBal.no rfl (HQ0.o.trans Q.i)
 have hz := orE_zero hE
 have OF : Hid (∀ (w' : World), Q w w' → Calls Tryz.prog 28 #[.agg #[Value.string s.nm, Value.slice s.aB s.buses.length s.cB, Value.slice s.aL s.lines.length s.cL, Value.slice s.aS s.srcs.length s.cS, Value.slice s.aY s.bays.length s.cY], .agg #[Value.slice p.aC p.closed.length p.cC, Value.slice p.aK p.rows.length p.cK]] w' (RetIm (imI s p) w')) := hh fun w' hq => (OF0.o w' hq).mono fun _ _ h => by
  rcases h with ⟨h, _⟩ | ⟨_, h⟩
  ·exact absurd hE h
  exact h
 have OFx := OF
 unfold RetIm at OFx
 clear OF0 OF hE
 have OF := OFx
 clear OFx
 by_cases hn : nW = s.bays.length
 rotate_left
 ·have e1 : ((nW : Int) != (s.bays.length : Int)) = true := by rw [bne_iff_ne]; omega
  obtain ⟨IM, hIM⟩ : ∃ l, imI s p = l := ⟨_, rfl⟩
  rw [hIM] at OF
  clear hIM
  clear hn hz
  go_enter Tryz.func13, Tryz.ntmps13
  go_upto_region 1 with fail
  refine wp_world ?_
  intro V0 eV0
  have hb : HB V0 w.heap.size (caseC (Value.string s.nm) (Value.slice s.aB s.buses.length s.cB) (Value.slice s.aL s.lines.length s.cL) (Value.slice s.aS s.srcs.length s.cS) (Value.slice s.aY s.bays.length s.cY) (Value.slice p.aC p.closed.length p.cC) (Value.slice p.aK p.rows.length p.cK) cs (Value.slice aW nW cW) (Value.slice aG nG cG)) 47 := by rw [eV0]; exact HB.new _ _ _ _ rfl
  have hq0 : Q w V0 := by rw [eV0]; exact Q.i
  have HQ0 := hh hq0
  have s0 := hb.cell 0
  have s1 := hb.cell 1
  have s2 := hb.cell 2
  have s3 := hb.cell 3
  have s4 := hb.cell 4
  have s5 := hb.cell 5
  have s6 := hb.cell 6
  have s60 := hb.cell 60
  rw [caseC_0] at s0
  rw [caseC_1] at s1
  rw [caseC_2] at s2
  rw [caseC_3] at s3
  rw [caseC_4] at s4
  rw [caseC_5] at s5
  rw [caseC_6] at s6
  rw [caseC_60] at s60
  have ob := hb.old
  have HWV : Hid (WvAt V0 aW nW cW W) := hh (HWV.o.q hq0)
  have OF := hh fun (w' : World) (hq : Q V0 w') => OF.o w' (HQ0.o.trans hq)
  clear eV0 hb hq0
  generalize w.heap.size = b at s0 s1 s2 s3 s4 s5 s6 s60 ob ⊢
  have hbs := buildW0
  go_wp2_with (first | (at_builtin; go_loud (refine wpList_app_wavesA rfl _ _ rfl V0 (.slice (some ⟨V0.heap.size, 0, none⟩) 0 0) 0 [] nW aW cW (W.map (Value.int .i64)) rfl rfl (own_nilW V0) (HWV.o.1.q Q.i) (one_intsW W) (by omega) (by omega) Q.i ?_); intro A c kB hown; rw [List.nil_append, Nat.zero_add] at hown; rw [Nat.zero_add]; have HOWN := hh hown; clear hown) | (go_at_call 28; (with_reducible refine (OF.o _ Q.i).mono ?_); rintro e w' ⟨AL, cL, rs, rfl, ⟨kO, rfl⟩, hsec, hd⟩; have HSEC := hh hsec; have HD := hh hd; clear hsec hd) | fail)
  go_ret2
  exact RetBal.no rfl (HQ0.o.trans Q.i)
 have HZ := hh hz
 have HN := hh hn
 have hY := (stE_parts hz.1).1
 have ny : s.bays.length ≤ 16 := by unfold stBad at hY; omega
 have HIM := hh (imF_mem s p (grI s (rsP p)) s.buses.length)
 have HI1 := hh fun (i i' : Nat) (x x' : Sec) => @imF_one s p (grI s (rsP p)) s.buses.length i i' x x'
 have HIP := hh (imF_prop s p (grI s (rsP p)) s.buses.length ny)
 have HIL := hh (imF_len s p (grI s (rsP p)) s.buses.length)
 have HBL : Hid (s.buses.length ≤ 4) := hh (by unfold stBad at hY; omega)
 have HID : Hid (imI s p = imF s p (grI s (rsP p)) s.buses.length) := hh rfl
 have HYS := hh fun k y hy => stE_bay hz.1 k y hy
 rw [← HID.o] at HIM HI1 HIP HIL
 have e1 : ((nW : Int) != (s.bays.length : Int)) = false := by rw [hn]; simp
 obtain ⟨IM, hIM⟩ : ∃ l, imI s p = l := ⟨_, rfl⟩
 rw [hIM] at HIM HI1 HIP HIL OF
 have HIMQ := hh hIM
 clear hz hY HID hn hIM
 go_enter Tryz.func13, Tryz.ntmps13
 go_upto_region 1 with fail
 refine wp_world ?_
 intro V0 eV0
 have hb : HB V0 w.heap.size (caseC (Value.string s.nm) (Value.slice s.aB s.buses.length s.cB) (Value.slice s.aL s.lines.length s.cL) (Value.slice s.aS s.srcs.length s.cS) (Value.slice s.aY s.bays.length s.cY) (Value.slice p.aC p.closed.length p.cC) (Value.slice p.aK p.rows.length p.cK) cs (Value.slice aW nW cW) (Value.slice aG nG cG)) 47 := by rw [eV0]; exact HB.new _ _ _ _ rfl
 have hq0 : Q w V0 := by rw [eV0]; exact Q.i
 have HQ0 := hh hq0
 have s0 := hb.cell 0
 have s1 := hb.cell 1
 have s2 := hb.cell 2
 have s3 := hb.cell 3
 have s4 := hb.cell 4
 have s5 := hb.cell 5
 have s6 := hb.cell 6
 have s60 := hb.cell 60
 rw [caseC_0] at s0
 rw [caseC_1] at s1
 rw [caseC_2] at s2
 rw [caseC_3] at s3
 rw [caseC_4] at s4
 rw [caseC_5] at s5
 rw [caseC_6] at s6
 rw [caseC_60] at s60
 have ob := hb.old
 have HST : Hid (StAt V0 s) := hh (HST.o.q hq0)
 have HWV : Hid (WvAt V0 aW nW cW W) := hh (HWV.o.q hq0)
 have OF := hh fun (w' : World) (hq : Q V0 w') => OF.o w' (HQ0.o.trans hq)
 clear eV0 hb hq0
 generalize w.heap.size = b at s0 s1 s2 s3 s4 s5 s6 s60 ob ⊢
 have hbs := buildW0
 go_upto_region 3 with (first | (at_builtin; go_loud (refine wpList_app_wavesA rfl _ _ rfl V0 (.slice (some ⟨V0.heap.size, 0, none⟩) 0 0) 0 [] nW aW cW (W.map (Value.int .i64)) rfl rfl (own_nilW V0) (HWV.o.1.q Q.i) (one_intsW W) (by omega) (by omega) Q.i ?_); intro A c kB hown; rw [List.nil_append, Nat.zero_add] at hown; rw [Nat.zero_add]; have HOWN := hh hown; clear hown) | (go_at_call 28; (with_reducible refine (OF.o _ Q.i).mono ?_); rintro e w' ⟨AL, cL, rs, rfl, ⟨kO, rfl⟩, hsec, hd⟩; have HSEC := hh hsec; have HD := hh hd; clear hsec hd) | fail)
 refine wp_world ?_
 intro U eU
 have HBA : Hid (BalAt V0 U nW A c W AL cL rs) := hh (by
  have e2 : IM.length = rs.length := by rw [← HD.o, List.length_map]
  rw [e2] at HSEC
  rw [eU]
  exact ⟨Q.i, ownsRow_q HOWN.o Q.i, HSEC.o.low Q.i⟩)
 have hqU : Q V0 U := HBA.o.q
 have e2 : IM.length = rs.length := by rw [← HD.o, List.length_map]
 have hrs4 : rs.length ≤ 4 := by have h1 := HIL.o; have h2 := HBL.o; omega
 rw [e2]
 clear eU HSEC HOWN HWV OF e2
 obtain ⟨kk0, rfl⟩ := hqU
 go_wp2_with fail
 go_loopw [43] (fun i wr => ∃ (t : Nat) (W1 : List Int), i = .int .i64 t ∧ t ≤ rs.length ∧ Hid (BalAt V0 wr nW A c W1 AL cL rs) ∧ Hid (∀ i x, i < t → IM[i]? = some x → ∀ ph j, ph < 3 → j < 12 → seS s W1 x.mem ph j = 0)) (fun i _ => rs.length - (intOf i).toNat)
 case atStart => exact ⟨0, W, rfl, Nat.zero_le _, HBA, hh (fun i x h => absurd h (Nat.not_lt_zero _))⟩
 case round =>
 clear HBA
 obtain ⟨t, W1, rfl, ht, HBT, HT⟩ := hrel
 have hq9 := HBT.o.q
 obtain ⟨kk, rfl⟩ := hq9
 by_cases hlt : t < rs.length
 rotate_left
 ·obtain rfl : t = rs.length := by omega
  have HLI : Hid (IM.length = rs.length) := hh (by rw [← HD.o, List.length_map])
  go_wp2_with fail
  go_ret2
  refine RetBal.yes (A := A) (c := c) (W := W1) rfl (HQ0.o.trans Q.i) HZ.o.1 HZ.o.2 HN.o ((HBT.o.to Q.i).wv (by omega)) (fun x hx => ?_)
  rw [HIMQ.o] at hx
  obtain ⟨i, hi⟩ := List.getElem?_of_mem hx
  exact HT.o i x (by have := (List.getElem?_eq_some_iff.1 hi).1; have := HLI.o; omega) hi
 obtain ⟨rt, hrt⟩ : ∃ r, rs[t]? = some r := ⟨_, List.getElem?_eq_getElem hlt⟩
 obtain ⟨⟨bl, ml, mv⟩, aB, cB, aM, cM⟩ := rt
 have HX : Hid (IM[t]? = some ⟨bl, ml, mv⟩) := hh (by rw [← HD.o, List.getElem?_map, hrt]; rfl)
 have hmem := List.mem_of_getElem? HX.o
 have HND := hh (HIM.o _ hmem).1
 have HMM := hh (HIM.o _ hmem).2
 have hl16 : ml.length ≤ 16 := (HIP.o _ hmem).1
 have HRM := hh (fun r hr => (HBT.o.secs.2 r hr).2)
 have HRT := hh (List.mem_of_getElem? hrt)
 obtain ⟨gL, oL, rfl, ogL, hcL⟩ := sec_at (rdsec_of_row HBT.o.secs rfl) (by omega)
 obtain ⟨z0, z1, z2⟩ := hcL.o t _ hrt
 dsimp only at z0 z1 z2 HND HMM
 have t0 : (0 : Int) ≤ (t : Int) := by omega
 have t1 : (t : Int) < (rs.length : Int) := by omega
 have m0 : (0 : Int) ≤ (ml.length : Int) := by omega
 have m9 : (ml.length : Int) ≤ 16 := by omega
 clear hrt hmem hcL ht
 have HLT := hh hlt
 clear hlt
 go_wp2_with fail
 go_loopw [9, 50] (fun f i wr => ∃ (i' : Nat) (f' : Int), i = .int .i64 i' ∧ i' ≤ ml.length ∧ f = .int .i64 f' ∧ Q ((V0.jk kk).alloc (Obj.cells #[Value.slice aB bl.length cB, Value.slice aM ml.length cM, Value.bool mv] 64)) wr ∧ Hid (FstOK s ml f')) (fun _ i _ => ml.length - (intOf i).toNat)
 case atStart => exact ⟨0, -1, rfl, Nat.zero_le _, rfl, (by repeat' (first | exact Q.refl _ | refine Q.alloc ?_ _ | refine Q.jk ?_ _ | refine Q.drew ?_)), hh (.inl rfl)⟩
 case round =>
 obtain ⟨i', f', rfl, hi', rfl, ⟨k2, rfl⟩, HF⟩ := hrel
 by_cases hli : i' < ml.length
 ·obtain ⟨m, hm⟩ : ∃ m, ml[i']? = some m := ⟨_, List.getElem?_eq_getElem hli⟩
  obtain ⟨gM, oM, rfl, ogM, hcM⟩ := mem_at (rdm_of_row (HRM.o _ HRT.o) rfl) (by first | omega | (dsimp only; omega))
  obtain ⟨y0', y1'⟩ := hcM.o i' m hm
  obtain ⟨k, y, e1, hy, hsg, hk3⟩ := HMM.o m (List.mem_of_getElem? hm)
  have HMI := hh (List.mem_of_getElem? hm)
  obtain ⟨mb, sg⟩ := m
  dsimp only at y0' y1' e1 hsg hk3
  subst e1
  obtain ⟨gY, oY, eAY, ogY, hcY⟩ := HST.o.bayAt hy
  rw [eAY] at s4
  have q1 : V0.cell? ⟨gY, oY + k * 12 + 1, none⟩ = some (Value.int .i64 y.kd) := hcY.o 1 _ rfl
  have q8 : V0.cell? ⟨gY, oY + k * 12 + 8, none⟩ = some (Value.int .i64 y.ct) := hcY.o 8 _ rfl
  have i0 : (0 : Int) ≤ (i' : Int) := by omega
  have i1 : (i' : Int) < (ml.length : Int) := by omega
  have k0 : (0 : Int) ≤ (k : Int) := by omega
  have k1 : (k : Int) < (s.bays.length : Int) := by have := (List.getElem?_eq_some_iff.1 hy).1; omega
  have HY := hh hy
  clear hm hcM hcY eAY hy
  rcases HF.o with rfl | ⟨k9, y9, rfl, hy9⟩
  ·by_cases h3 : y.kd = 3
   ·have e3 : (y.kd != 3) = false := by rw [h3]; rfl
    clear h3
    go_wp2_with fail
    go_roundw
    case rel => exact ⟨i' + 1, -1, by go_num, by omega, rfl, Q.i, HF⟩
    case measure => simp [intOf] <;> omega
   have e3 : (y.kd != 3) = true := by simpa using h3
   by_cases hc : y.ct = 1
   rotate_left
   ·have e4 : (y.ct == 1) = false := by simpa using hc
    clear h3 hc
    go_wp2_with fail
    go_roundw
    case rel => exact ⟨i' + 1, -1, by go_num, by omega, rfl, Q.i, HF⟩
    case measure => simp [intOf] <;> omega
   have e4 : (y.ct == 1) = true := by simpa using hc
   have HFN : Hid (FstOK s ml (k : Int)) := hh (.inr ⟨k, y, rfl, HY.o, h3, hc, by rw [← hk3 h3]; exact HMI.o⟩)
   clear h3 hc
   go_wp2_with fail
   go_roundw
   case rel => exact ⟨i' + 1, k, by go_num, by omega, rfl, Q.i, HFN⟩
   case measure => simp [intOf] <;> omega
  have n9 : ¬ (k9 : Int) < 0 := by omega
  clear hy9
  go_wp2_with fail
  go_roundw
  case rel => exact ⟨i' + 1, k9, by go_num, by omega, rfl, Q.i, HF⟩
  case measure => simp [intOf] <;> omega
 obtain rfl : i' = ml.length := by omega
 rcases HF.o with rfl | ⟨k9, y9, rfl, hy9, h39, hc9, hm9⟩
 ·go_wp2_with fail
  go_ret2
  exact RetBal.no rfl (HQ0.o.trans Q.i)
 have HY9 := hh hy9
 have H39 := hh h39
 have HM9 := hh hm9
 have k9n : k9 < nW := by rw [HN.o]; exact (List.getElem?_eq_some_iff.1 hy9).1
 obtain ⟨g, rfl⟩ := HBT.o.slice (by omega)
 have HC9 : Hid (ctZ s k9 = 1) := hh (by unfold ctZ; rw [Int.toNat_natCast, hy9]; exact hc9)
 have n9 : ¬ (k9 : Int) < 0 := by omega
 have k90 : (0 : Int) ≤ (k9 : Int) := by omega
 have k91 : (k9 : Int) < (nW : Int) := by omega
 have HFAR : Hid (∀ i x, i < t → IM[i]? = some x → (∀ m ∈ x.mem, m.1 ≠ (k9 : Int)) ∧ ∀ m ∈ x.mem, ∃ k : Nat, m.1 = (k : Int)) := hh fun i x hi hx => ⟨fun m hm e => HI1.o i t x _ hx HX.o (by omega) HY9.o H39.o hm HM9.o e rfl, fun m hm => by obtain ⟨k, _, e, _⟩ := (HIM.o x (List.mem_of_getElem? hx)).2 m hm; exact ⟨k, e⟩⟩
 have HMN : Hid (∀ m ∈ ml, ∃ k : Nat, m.1 = (k : Int)) := hh fun m hm => by obtain ⟨k, _, e, _⟩ := HMM.o m hm; exact ⟨k, e⟩
 have hb8 : HB ((V0.jk kk).alloc (Obj.cells #[Value.slice aB bl.length cB, Value.slice aM ml.length cM, Value.bool mv] 64)) (V0.heap.size + kk.os.size) #[Value.slice aB bl.length cB, Value.slice aM ml.length cM, Value.bool mv] 64 := HB.new _ _ _ _ (by simp [World.size_jk])
 have HB8 := hh hb8
 generalize V0.heap.size + kk.os.size = b8 at HB8 ⊢
 clear hy9 h39 hm9 hc9 hb8 hi' hli HF z0 z1 z2
 go_wp2_with fail
 go_loopw [12] (fun i wr => ∃ (n : Nat) (W2 : List Int), i = .int .i64 n ∧ n ≤ 3 ∧ Hid (BalAt V0 wr nW (some ⟨g, 0, none⟩) c W2 (some ⟨gL, oL, none⟩) cL rs) ∧ Hid (HB wr b8 #[Value.slice aB bl.length cB, Value.slice aM ml.length cM, Value.bool mv] 64) ∧ Hid (∀ i x, i < t → IM[i]? = some x → ∀ ph j, ph < 3 → j < 12 → seS s W2 x.mem ph j = 0) ∧ Hid (∀ ph j, ph < n → j < 12 → seS s W2 ml ph j = 0)) (fun i _ => 3 - (intOf i).toNat)
 case atStart => exact ⟨0, W1, rfl, by omega, hh (HBT.o.to (by repeat' (first | exact Q.refl _ | refine Q.alloc ?_ _ | refine Q.jk ?_ _ | refine Q.drew ?_))), hh (HB8.o.q (by repeat' (first | exact Q.refl _ | refine Q.alloc ?_ _ | refine Q.jk ?_ _ | refine Q.drew ?_))), HT, hh (fun ph j h => absurd h (Nat.not_lt_zero _))⟩
 case round =>
 obtain ⟨n, W2, rfl, hn3, HB2, HX8, HT2, HS2⟩ := hrel
 have hq9 := HB2.o.q
 obtain ⟨kn, rfl⟩ := hq9
 by_cases hln : n < 3
 rotate_left
 ·obtain rfl : n = 3 := by omega
  go_wp2_with fail
  go_roundw
  case rel =>
   refine ⟨t + 1, W2, by go_num, by have := HLT.o; omega, HB2, hh fun i x hi hx => ?_⟩
   by_cases e : i = t
   rotate_left
   ·exact HT2.o i x (by omega) hx
   subst e
   rw [HX.o] at hx
   obtain rfl := Option.some.inj hx
   exact HS2.o
  case measure => have := HLT.o; simp [intOf] <;> omega
 have n0 : (0 : Int) ≤ (n : Int) := by omega
 have n1 : (n : Int) < 3 := by omega
 clear HBT HB8 HT hn3
 go_wp2_with fail
 go_loopw [13] (fun i wr => ∃ (k : Nat) (W3 : List Int), i = .int .i64 k ∧ k ≤ 12 ∧ Hid (BalAt V0 wr nW (some ⟨g, 0, none⟩) c W3 (some ⟨gL, oL, none⟩) cL rs) ∧ Hid (HB wr b8 #[Value.slice aB bl.length cB, Value.slice aM ml.length cM, Value.bool mv] 64) ∧ Hid (∀ i x, i < t → IM[i]? = some x → ∀ ph j, ph < 3 → j < 12 → seS s W3 x.mem ph j = 0) ∧ Hid (∀ ph j, ph < n → j < 12 → seS s W3 ml ph j = 0) ∧ Hid (∀ j, j < k → seS s W3 ml n j = 0)) (fun i _ => 12 - (intOf i).toNat)
 case atStart => exact ⟨0, W2, rfl, by omega, HB2, HX8, HT2, HS2, hh (fun j h => absurd h (Nat.not_lt_zero _))⟩
 case round =>
 clear HB2 HX8 HT2 HS2
 obtain ⟨k, W3, rfl, hk12, HB3, HX8, HT3, HS3, HK3⟩ := hrel
 have hq9 := HB3.o.q
 obtain ⟨kn, rfl⟩ := hq9
 by_cases hlk : k < 12
 rotate_left
 ·obtain rfl : k = 12 := by omega
  go_wp2_with fail
  go_roundw
  case rel =>
   refine ⟨n + 1, W3, by go_num, by omega, HB3, HX8, HT3, hh fun ph j hp hj => ?_⟩
   by_cases e : ph = n
   ·subst e; exact HK3.o j hj
   exact HS3.o ph j (by omega) hj
  case measure => simp [intOf] <;> omega
 have k0 : (0 : Int) ≤ (k : Int) := by omega
 have k1 : (k : Int) < 12 := by omega
 have z1 := HX8.o.cell 1
 simp only [List.getElem?_toArray, List.getElem?_cons_zero, List.getElem?_cons_succ] at z1
 have ob8 := HX8.o.old
 have og := World.block_lt_of_cell? _ _ (HB3.o.cell (j := 0) k9n (show 0 < 6 by decide) (by decide)).1
 have ogw : Old g (V0.jk kn) := ⟨og⟩
 have HCL := hh fun (k' : Nat) (hk' : k' < nW) => HB3.o.cell (j := k) hk' (show n < 6 by omega) hlk
 have fz := (HCL.o k9 k9n).2
 have xz := (HCL.o k9 k9n).1
 have HRM3 := hh (HB3.o.secs.2 _ HRT.o).2
 clear og hk12
 go_wp2_with fail
 go_loopw [14, 94] (fun sm i wr => ∃ (i' : Nat) (z : Int), i = .int .i64 i' ∧ i' ≤ ml.length ∧ sm = .int .i64 z ∧ Q (V0.jk kn) wr ∧ Hid (z = exS s W3 k9 (ml.take i') n k) ∧ -10000000 * (i' : Int) ≤ z ∧ z ≤ 10000000 * (i' : Int)) (fun _ i _ => ml.length - (intOf i).toNat)
 case atStart => exact ⟨0, 0, rfl, Nat.zero_le _, rfl, (by repeat' (first | exact Q.refl _ | refine Q.alloc ?_ _ | refine Q.jk ?_ _ | refine Q.drew ?_)), hh rfl, by omega, by omega⟩
 case round =>
 obtain ⟨i', z, rfl, hi', rfl, ⟨k4, rfl⟩, HZ2, hz1, hz2⟩ := hrel
 by_cases hli : i' < ml.length
 rotate_left
 ·obtain rfl : i' = ml.length := by omega
  have HZ3 : Hid (z = exS s W3 k9 ml n k) := hh (by rw [HZ2.o, List.take_length])
  clear HZ2 hli hi'
  by_cases v1 : z < -16383
  ·go_wp2_with fail
   go_ret2
   exact RetBal.no rfl (HQ0.o.trans Q.i)
  by_cases v2 : 16383 < z
  ·go_wp2_with fail
   go_ret2
   exact RetBal.no rfl (HQ0.o.trans Q.i)
  have w1 : IntKind.i64.wrap (-z) = -z := IntWalk.i64_in _ (by omega)
  have HL3 := hh HB3.o.len
  have HPUT : Hid (∀ kz, BalAt V0 ((V0.jk kz).setCell ⟨g, k9 * 72 + n * 12 + k, none⟩ (.int .i64 (-z))) nW (some ⟨g, 0, none⟩) c (stW W3 k9 n k (-z)) (some ⟨gL, oL, none⟩) cL rs ∨ True) := hh fun _ => .inr trivial
  have HNEW : Hid (BalAt V0 (((V0.jk kn).setCell ⟨g, k9 * 72 + n * 12 + k, none⟩ (.int .i64 (-z))).jk k4) nW (some ⟨g, 0, none⟩) c (stW W3 k9 n k (-z)) (some ⟨gL, oL, none⟩) cL rs) := hh (by rw [← World.setCell_jk_lt k4 g _ _ ogw.lt]; exact (HB3.o.to Q.i).put _ _)
  have HXN : Hid (HB (((V0.jk kn).setCell ⟨g, k9 * 72 + n * 12 + k, none⟩ (.int .i64 (-z))).jk k4) b8 #[Value.slice aB bl.length cB, Value.slice aM ml.length cM, Value.bool mv] 64) := hh (by rw [← World.setCell_jk_lt k4 g _ _ ogw.lt]; exact (HX8.o.jk k4).other (fun e => own_hb (HB3.o.to (Q.jk (Q.refl _) k4)).row (HX8.o.jk k4) (by decide) (by rw [← e]; rfl)))
  have HT4 : Hid (∀ i x, i < t → IM[i]? = some x → ∀ ph j, ph < 3 → j < 12 → seS s (stW W3 k9 n k (-z)) x.mem ph j = 0) := hh fun i x hi hx ph j hp hj => by
   rw [seS_put_far (by omega) hlk (by omega) hj (HFAR.o i x hi hx).2 (HFAR.o i x hi hx).1]
   exact HT3.o i x hi hx ph j hp hj
  have HS4 : Hid (∀ ph j, ph < n → j < 12 → seS s (stW W3 k9 n k (-z)) ml ph j = 0) := hh fun ph j hp hj => by
   rw [seS_put_other (by omega) hlk (by omega) hj (by omega)]
   exact HS3.o ph j hp hj
  have HK4 : Hid (∀ j, j < k + 1 → seS s (stW W3 k9 n k (-z)) ml n j = 0) := hh fun j hj => by
   by_cases e : j = k
   rotate_left
   ·rw [seS_put_other (by omega) hlk (by omega) (by omega) (by omega)]
    exact HK3.o j (by omega)
   subst e
   rw [HZ3.o]
   exact seS_put HL3.o k9n (by omega) hlk HND.o HM9.o HC9.o HMN.o
  clear HPUT HZ3 HT3 HS3 HK3
  go_wp2_with fail
  go_roundw
  case rel => exact ⟨k + 1, stW W3 k9 n k (-z), by go_num, by omega, HNEW, HXN, HT4, HS4, HK4⟩
  case measure => simp [intOf] <;> omega
 obtain ⟨m, hm⟩ : ∃ m, ml[i']? = some m := ⟨_, List.getElem?_eq_getElem hli⟩
 obtain ⟨gM, oM, rfl, ogM, hcM⟩ := mem_at (rdm_of_row HRM3.o rfl) (by first | omega | (dsimp only; omega))
 obtain ⟨y0', y1'⟩ := hcM.o i' m hm
 obtain ⟨kb, y, e1, hy, hsg, hk3⟩ := HMM.o m (List.mem_of_getElem? hm)
 have HXT := hh (exS_take (s := s) (W := W3) (fr := (k9 : Int)) (ph := n) (j := k) hm)
 have hct : 1 ≤ y.ct ∧ y.ct ≤ 100 := by
  have hr := (HYS.o kb y hy).rg
  unfold rgB at hr
  simp only [Bool.and_eq_true, winB, decide_eq_true_eq] at hr
  exact ⟨hr.2.1.1.2.1, hr.2.1.1.2.2⟩
 have hkb : kb < nW := by rw [HN.o]; exact (List.getElem?_eq_some_iff.1 hy).1
 have HTM : Hid (tmI s W3 n k m = m.2 * y.ct * wvF W3 kb n k) := hh (by unfold tmI ctZ; rw [e1, Int.toNat_natCast, hy])
 obtain ⟨mb, sg⟩ := m
 dsimp only at y0' y1' e1 hsg hk3 HXT HTM
 subst e1
 have i0 : (0 : Int) ≤ (i' : Int) := by omega
 have i1 : (i' : Int) < (ml.length : Int) := by omega
 have kb0 : (0 : Int) ≤ (kb : Int) := by omega
 have kb1 : (kb : Int) < (nW : Int) := by omega
 have kb2 : (kb : Int) < (s.bays.length : Int) := by have := (List.getElem?_eq_some_iff.1 hy).1; omega
 by_cases hf : kb = k9
 ·subst hf
  have e5 : ((kb : Int) != (kb : Int)) = false := by simp
  have HNX : Hid (z = exS s W3 kb (ml.take (i' + 1)) n k) := hh (by rw [HXT.o, if_pos rfl, ← HZ2.o]; omega)
  clear HXT HTM hm hcM hy hsg hk3 hct
  go_wp2_with fail
  go_roundw
  case rel => exact ⟨i' + 1, z, by go_num, by omega, rfl, Q.i, HNX, by omega, by omega⟩
  case measure => simp [intOf] <;> omega
 have e5 : ((kb : Int) != (k9 : Int)) = true := by rw [bne_iff_ne]; omega
 obtain ⟨gY, oY, eAY, ogY, hcY⟩ := HST.o.bayAt hy
 rw [eAY] at s4
 have q8 : V0.cell? ⟨gY, oY + kb * 12 + 8, none⟩ = some (Value.int .i64 y.ct) := hcY.o 8 _ rfl
 have x0 := (HCL.o kb hkb).1
 have HXN : Hid (exS s W3 k9 (ml.take (i' + 1)) n k = exS s W3 k9 (ml.take i') n k + sg * y.ct * wvF W3 kb n k) := hh (by rw [HXT.o, if_neg (by omega), HTM.o])
 generalize wvF W3 kb n k = v at x0 HXN
 obtain ⟨ct, ect⟩ : ∃ c, y.ct = c := ⟨_, rfl⟩
 rw [ect] at q8 HXN hct
 obtain ⟨hc1, hc2⟩ := hct
 clear HXT HTM hm hcM hy hk3 eAY hcY ect hf
 by_cases v1 : v < -100000
 ·clear hsg
  go_wp2_with fail
  go_ret2
  exact RetBal.no rfl (HQ0.o.trans Q.i)
 by_cases v2 : 100000 < v
 ·clear hsg
  go_wp2_with fail
  go_ret2
  exact RetBal.no rfl (HQ0.o.trans Q.i)
 obtain ⟨P, eP⟩ : ∃ P, sg * ct = P := ⟨_, rfl⟩
 have hP : -100 ≤ P ∧ P ≤ 100 := by rcases hsg with rfl | rfl <;> omega
 obtain ⟨T, eT⟩ : ∃ T, P * v = T := ⟨_, rfl⟩
 have hT : -10000000 ≤ T ∧ T ≤ 10000000 := by
  have h1 := mul_bd (a := P) (b := v) (m := 100) (n := 100000) hP.1 hP.2 (by omega) (by omega)
  omega
 have w1 : IntKind.i64.wrap (sg * ct) = P := by rw [eP]; exact IntWalk.i64_in _ (by omega)
 have w2 : IntKind.i64.wrap (P * v) = T := by rw [eT]; exact IntWalk.i64_in _ (by omega)
 have w3 : IntKind.i64.wrap (z + T) = z + T := IntWalk.i64_in _ (by omega)
 have HNX : Hid (z + T = exS s W3 k9 (ml.take (i' + 1)) n k) := hh (by rw [HXN.o, ← HZ2.o, eP, eT])
 obtain ⟨hT1, hT2⟩ := hT
 clear HXN eP eT hP hsg hc1 hc2
 go_wp2_with fail
 refine wrj (by kernel_rfl) ?_
 repeat (go_big_quiet_step (fail))
 refine wq0 fun kq => ?_
 go_wp2_with fail
 go_roundw
 case rel => exact ⟨i' + 1, z + T, by go_num, by omega, rfl, Q.i, HNX, by omega, by omega⟩
 case measure => simp [intOf] <;> omega
theorem sec_walk (s : Sta) (p : Pos) (cs : Array Value) (r : Rel) [hR : RelC cs r] [h53 : Ones53 cs] (aW : Option Addr) (nW cW : Nat) (W : List Int) (aG : Option Addr) (nG cG : Nat) (G : List Bool) (w : World)
  (hr : RootsOK w) (hst : StAt w s) (hps : PosAt w p) (hwv : WvAt w aW nW cW W) (hgd : GdAt w aG nG cG G) :
  Calls Tryz.prog 4 #[.agg (caseC (Value.string s.nm) (Value.slice s.aB s.buses.length s.cB) (Value.slice s.aL s.lines.length s.cL) (Value.slice s.aS s.srcs.length s.cS) (Value.slice s.aY s.bays.length s.cY) (Value.slice p.aC p.closed.length p.cC) (Value.slice p.aK p.rows.length p.cK) cs (Value.slice aW nW cW) (Value.slice aG nG cG))] w fun e w' => e = .returned (.bool true) ∧ Q w w' := by
 have HST := hh hst
 have HPS := hh hps
 have HWV := hh hwv
 have HGD := hh hgd
 have SM := hh fun w' : World => small_c s p cs r aW nW cW aG nG cG w'
 have TC := hh fun (w' : World) (hq : Q w w') => tpcheck_c s p w' (hst.q hq) (hps.q hq)
 have BA := hh fun (w' : World) (hq : Q w w') (hn : nW ≤ 20) => bal_c s p cs r aW nW cW W aG nG cG w' (hst.q hq) (hps.q hq) (hwv.q hq) hn
 have SEC := hh fun (w' : World) (A : Option Addr) (c : Nat) (W' : List Int) (hq : Q w w') (hw : WvAt w' A nW c W') => secs_u s p cs r A nW c W' aG nG cG G w' (hr.q hq) (hst.q hq) (hps.q hq) hw (hgd.q hq)
 unfold RetBal at BA
 unfold RetU at SEC
 have HR := hh hr
 clear hst hps hwv hgd
 generalize psE s p = EP at TC BA
 go_enter Tryz.func4, Tryz.ntmps4
 go_upto_region 4 with (first
  | (go_at_call 7; (with_reducible refine (SM.o _).mono ?_); rintro e w' ⟨b, rfl, ⟨ks0, rfl⟩, hsm⟩)
  | (go_at_call 12; (with_reducible refine (TC.o _ Q.i).q ?_); intro kt)
  | (go_at_call 8; (with_reducible refine (known34_c _ (hr.q Q.i)).q ?_); intro kz)
  | ((go_at_call 13; have hb1 : b = true := by assumption); (have hn20 : nW ≤ 20 := by have := hsm hb1; omega); (with_reducible refine (BA.o _ Q.i hn20).mono ?_); rintro e w' ⟨A2, n2, c2, b2, rfl, ⟨kB, rfl⟩, hbal⟩)
  | fail)
 all_goals (try (go_ret; exact ⟨rfl, Q.i⟩))
 cases b2 with
 | false =>
  go_wp2_with (first | (go_at_call 8; (with_reducible refine (known34_c _ (hr.q Q.i)).q ?_); intro kz) | fail)
  go_ret
  exact ⟨rfl, Q.i⟩
 | true =>
  obtain ⟨e2, h1, h2, h3, W2, hw2, hz⟩ := hbal rfl
  have e2' := e2.symm
  subst e2'
  obtain ⟨E2, eE2⟩ : ∃ E, seE s p r W2 G nW nG s.bays.length = E := ⟨_, rfl⟩
  have SEC2 := hh fun (w' : World) (hq : Q w w') (hw : WvAt w' A2 nW c2 W2) => SEC.o w' A2 c2 W2 hq hw
  rw [eE2] at SEC2
  have HPN : Hid (E2 = 0 → ∀ x ∈ imI s p, (prS s W2 G r x).tr = false ∧ ∀ i, i < 3 → (prS s W2 G r x).op i = false) := hh fun e x hx => by
   have h5 : orE (orE (stE s) (psE s p)) (ckE r W2 G s.bays.length nW nG s.bays.length) = 0 := eE2.trans e
   have hu := (ckE_zero (orE_zero h5).2).2.1
   exact prS_none hu (fun m hm => by obtain ⟨_, _, _, _, h, _⟩ := (imF_mem s p (grI s (rsP p)) s.buses.length x hx).2 m hm; exact h) (hz x hx)
  have HIL : (imI s p).length ≤ 4 := by
   have h6 := imF_len s p (grI s (rsP p)) s.buses.length
   have hY := (stE_parts h1).1
   unfold stBad at hY
   unfold imI
   omega
  generalize prS s W2 G r = F at SEC2 HPN
  generalize imI s p = IM at SEC2 HPN HIL
  refine wp_world ?_
  intro V2 eV2
  have hq2 : Q w V2 := by rw [eV2]; exact Q.i
  have HW2 : Hid (WvAt V2 A2 nW c2 W2) := hh (by rw [eV2]; exact hw2)
  have hb3 : HB V2 w.heap.size (caseC (Value.string s.nm) (Value.slice s.aB s.buses.length s.cB) (Value.slice s.aL s.lines.length s.cL) (Value.slice s.aS s.srcs.length s.cS) (Value.slice s.aY s.bays.length s.cY) (Value.slice p.aC p.closed.length p.cC) (Value.slice p.aK p.rows.length p.cK) cs (Value.slice aW nW cW) (Value.slice aG nG cG)) 47 := by rw [eV2]; exact (HB.new _ _ _ _ rfl).q Q.i
  have HQ2 := hh hq2
  have HRU : Hid (RootsOK V2) := hh (HR.o.q hq2)
  haveI : Blk V2 w.heap.size (.cells (caseC (Value.string s.nm) (Value.slice s.aB s.buses.length s.cB) (Value.slice s.aL s.lines.length s.cL) (Value.slice s.aS s.srcs.length s.cS) (Value.slice s.aY s.bays.length s.cY) (Value.slice p.aC p.closed.length p.cC) (Value.slice p.aK p.rows.length p.cK) cs (Value.slice aW nW cW) (Value.slice aG nG cG)) 47) := ⟨hb3⟩
  have s0 := hb3.cell 0
  have s1 := hb3.cell 1
  have s2 := hb3.cell 2
  have s3 := hb3.cell 3
  have s4 := hb3.cell 4
  have s5 := hb3.cell 5
  have s6 := hb3.cell 6
  have s61 := hb3.cell 61
  rw [caseC_0] at s0
  rw [caseC_1] at s1
  rw [caseC_2] at s2
  rw [caseC_3] at s3
  rw [caseC_4] at s4
  rw [caseC_5] at s5
  rw [caseC_6] at s6
  rw [caseC_61] at s61
  have oX := hb3.old
  clear eV2 hw2 hz hbal h1 h2 h3 hb3 hq2 eE2 SEC BA TC SM HST HPS HWV HGD e2
  go_upto_region 7 with (first | (go_at_call 14; (with_reducible refine (SEC2.o _ (HQ2.o.trans Q.i) (HW2.o.q Q.i)).mono ?_); rintro e w' ⟨A3, c3, rs, rfl, ⟨kC, rfl⟩, hu⟩) | fail)
  by_cases hE : E2 = 0
  rotate_left
  ·have z' : (E2 != 0) = true := by simpa using hE
   clear hu hE HPN HIL SEC2 HW2
   go_wp2_with (first | (go_at_call 8; (with_reducible refine (known34_c _ (HRU.o.q Q.i)).q ?_); intro kz) | fail)
   go_ret
   exact ⟨rfl, HQ2.o.trans Q.i⟩
  subst hE
  obtain ⟨hd, hpr⟩ := hu rfl
  have hrs : rs.length ≤ 4 := by rw [← hd, List.length_map] at HIL; exact HIL
  have HPX : Hid (∀ a ∈ rs, (F a.d).tr = false ∧ ∀ i, i < 3 → (F a.d).op i = false) := hh fun a ha => HPN.o rfl a.d (by rw [← hd]; exact List.mem_map_of_mem ha)
  have HA := hh hpr
  have n0 : (0 : Int) ≤ (rs.length : Int) := by omega
  clear hu hd hpr HPN HIL SEC2 HW2
  go_wp2_with fail
  go_loopw [47] (fun i wr => ∃ q : Nat, i = .int .i64 q ∧ q ≤ rs.length ∧ Q (V2.jk kC) wr) (fun i _ => rs.length - (intOf i).toNat)
  case atStart => exact ⟨0, rfl, Nat.zero_le _, (by repeat' (first | exact Q.refl _ | refine Q.alloc ?_ _ | refine Q.jk ?_ _ | refine Q.drew ?_))⟩
  case round =>
   obtain ⟨q, rfl, hq, kk, rfl⟩ := hrel
   by_cases hlt : q < rs.length
   rotate_left
   ·obtain rfl : q = rs.length := by omega
    go_wp2_with (first | (go_at_call 8; (with_reducible refine (known34_c _ (HRU.o.q Q.i)).q ?_); intro kz) | fail)
    go_ret
    exact ⟨rfl, HQ2.o.trans Q.i⟩
   obtain ⟨a, ha⟩ : ∃ a, rs[q]? = some a := ⟨_, List.getElem?_eq_getElem hlt⟩
   obtain ⟨htr, hop⟩ := HPX.o a (List.mem_of_getElem? ha)
   obtain ⟨g4, o4, rfl, og4, hc4⟩ := PrAt.at_ HA.o (by omega)
   have hx := fun u u' => hc4.o q a u u' ha
   have p0 := hop 0 (by decide)
   have p1 := hop 1 (by decide)
   have p2 := hop 2 (by decide)
   obtain ⟨t, et⟩ : ∃ t, F a.d = t := ⟨_, rfl⟩
   rw [et] at hx htr p0 p1 p2
   have x0 := hx 0 _ (by decide) rfl
   have x1 := hx 1 _ (by decide) rfl
   have x2 := hx 2 _ (by decide) rfl
   have x3 := hx 3 _ (by decide) rfl
   have x4 := hx 4 _ (by decide) rfl
   have x5 := hx 5 _ (by decide) rfl
   have x6 := hx 6 _ (by decide) rfl
   have x7 := hx 7 _ (by decide) rfl
   have x8 := hx 8 _ (by decide) rfl
   have x9 := hx 9 _ (by decide) rfl
   have x10 := hx 10 _ (by decide) rfl
   rw [Nat.add_zero] at x0
   rw [p0] at x3
   rw [p1] at x4
   rw [p2] at x5
   rw [htr] at x10
   have q0 : (0 : Int) ≤ (q : Int) := by omega
   have q1 : (q : Int) < (rs.length : Int) := by omega
   clear hx hc4 hop p0 p1 p2 htr et ha
   go_wp2_with fail
   go_roundw
   case rel => exact ⟨q + 1, by go_num, by omega, Q.i⟩
   case measure => simp [intOf] <;> omega
end Go.Proofs.YtcjflafjmdfanaaGreatDoor

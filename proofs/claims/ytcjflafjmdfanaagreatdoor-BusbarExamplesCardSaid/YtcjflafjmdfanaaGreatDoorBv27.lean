
/- What object, ranges, links and bay of the reference 05 return. -/
import Derived.Test.YtcjflafjmdfanaaGreatDoorBv26
import Derived.Test.YtcjflafjmdfanaaGreatDoorBv14
set_option maxHeartbeats 64000000
set_option maxRecDepth 100000
set_option linter.unusedSimpArgs false
set_option linter.unusedVariables false
namespace Go.Sub
open Go
def obE (nl ns : Nat) (kd of : Int) : Int := if kd = 1 ∨ kd = 2 ∨ kd = 3 then (if winB of 0 (cntI nl ns kd - 1) = true then 0 else 9) else 10
theorem obE_ways (nl ns : Nat) (kd of : Int) (E : Int) (h : obE nl ns kd of = E) : (kd = 1 ∧ (of < 0) ∧ E = 9) ∨ (kd = 1 ∧ ((¬ of < 0) ∧ (nl : Int) ≤ of) ∧ E = 9) ∨ (kd = 1 ∧ ((¬ of < 0) ∧ ¬ (nl : Int) ≤ of) ∧ E = 0) ∨ (kd = 2 ∧ (of < 0) ∧ E = 9) ∨ (kd = 2 ∧ ((¬ of < 0) ∧ (ns : Int) ≤ of) ∧ E = 9) ∨ (kd = 2 ∧ ((¬ of < 0) ∧ ¬ (ns : Int) ≤ of) ∧ E = 0) ∨ (kd = 3 ∧ (¬ of = 0) ∧ E = 9) ∨ (kd = 3 ∧ of = 0 ∧ E = 0) ∨ (kd ≠ 1 ∧ (kd ≠ 2 ∧ kd ≠ 3) ∧ E = 10) := by
 subst h
 unfold obE cntI winB
 simp only [Bool.and_eq_true, decide_eq_true_eq]
 by_cases k1 : kd = 1
 ·subst k1
  simp
  first | omega | (split <;> omega)
 by_cases k2 : kd = 2
 ·subst k2
  simp
  first | omega | (split <;> omega)
 by_cases k3 : kd = 3
 rotate_left
 ·simp [k1, k2, k3]
 subst k3
 simp
 first | omega | (split <;> omega)
def byX (nb nl ns : Nat) (prev : List Byr) (y : Byr) (lk : List Lk) : Int :=
 if obE nl ns y.kd y.of = 0 then (if rgB y.kd y.en y.zr y.zx y.ct y.vt y.sa y.tr = true then (if cfL prev y = true then 12 else lkE nb y.kd lk) else 2) else obE nl ns y.kd y.of
theorem byE_eq (nb nl ns : Nat) (seen : List ByteArray) (prev : List Byr) (y : Byr) (lk : List Lk) : byE nb nl ns seen prev y lk = if nmE seen y.nm = 0 then byX nb nl ns prev y lk else nmE seen y.nm := by
 unfold byE byX obE
 by_cases hz : nmE seen y.nm = 0 <;> by_cases hk : y.kd = 1 ∨ y.kd = 2 ∨ y.kd = 3 <;> by_cases hw : winB y.of 0 (cntI nl ns y.kd - 1) = true <;> simp [hz, hk, hw]
end Go.Sub
namespace Go.Proofs.YtcjflafjmdfanaaGreatDoor
open Go.RowKit Go.Sub
attribute [local go_sem ↓] Go.wp_at_zero Go.wp_at_succ
theorem r5object_c (s : Sta) (nm : ByteArray) (kd of en zr zx : Int) (la : Option Addr) (ln lc : Nat) (cl : Bool) (ct vt sa tr : Int) (w : World) (hL : s.lines.length < 1000) (hS : s.srcs.length < 1000) :
  Calls Tryz.prog 78 #[.agg #[Value.string s.nm, Value.slice s.aB s.buses.length s.cB, Value.slice s.aL s.lines.length s.cL, Value.slice s.aS s.srcs.length s.cS, Value.slice s.aY s.bays.length s.cY], .agg #[Value.string nm, Value.int .i64 kd, Value.int .i64 of, Value.int .i64 en, Value.int .i64 zr, Value.int .i64 zx, Value.slice la ln lc, Value.bool cl, Value.int .i64 ct, Value.int .i64 vt, Value.int .i64 sa, Value.int .i64 tr]] w fun e w' => e = .returned (.int .i64 (obE s.lines.length s.srcs.length kd of)) ∧ Q w w' := by
 obtain ⟨E, hE⟩ : ∃ E, obE s.lines.length s.srcs.length kd of = E := ⟨_, rfl⟩
 rw [hE]
 have hw := obE_ways _ _ _ _ _ hE
 clear hE
 generalize s.lines.length = nl at hL hw ⊢
 generalize s.srcs.length = ns at hS hw ⊢
 rcases hw with ⟨rfl, h1, rfl⟩ | ⟨rfl, ⟨h1, h2⟩, rfl⟩ | ⟨rfl, ⟨h1, h2⟩, rfl⟩ | ⟨rfl, h1, rfl⟩ | ⟨rfl, ⟨h1, h2⟩, rfl⟩ | ⟨rfl, ⟨h1, h2⟩, rfl⟩ | ⟨rfl, h1, rfl⟩ | ⟨rfl, rfl, rfl⟩ | ⟨h1, ⟨h2, h3⟩, rfl⟩
 all_goals
  go_enter Tryz.func78, Tryz.ntmps78
  go_wp2_with fail
  go_ret
  exact ⟨rfl, Q.i⟩
theorem r5ranges_c (nm : ByteArray) (kd of en zr zx : Int) (la : Option Addr) (ln lc : Nat) (cl : Bool) (ct vt sa tr : Int) (w : World) :
  Calls Tryz.prog 79 #[.agg #[Value.string nm, Value.int .i64 kd, Value.int .i64 of, Value.int .i64 en, Value.int .i64 zr, Value.int .i64 zx, Value.slice la ln lc, Value.bool cl, Value.int .i64 ct, Value.int .i64 vt, Value.int .i64 sa, Value.int .i64 tr]] w fun e w' => e = .returned (.bool (rgB kd en zr zx ct vt sa tr)) ∧ Q w w' := by
 have W1 := hh fun w => r5between_c vt 1 10000 w
 have W2 := hh fun w => r5between_c en 0 1 w
 have W3 := hh fun w => r5between_c ct 1 100 w
 have W4 := hh fun w => r5between_c sa 0 16383 w
 have W5 := hh fun w => r5between_c tr 1 6 w
 have WI := hh fun w => r5ohms_c ⟨zr, zx⟩ w
 have e0 : winB en 0 0 = decide (en = 0) := by
  unfold winB
  by_cases h : en = 0
  ·subst h; rfl
  simp [h]; omega
 unfold rgB
 generalize winB vt 1 10000 = p1 at W1 ⊢
 generalize hp2 : winB en 0 1 = p2 at W2 ⊢
 generalize winB ct 1 100 = p3 at W3 ⊢
 generalize winB sa 0 16383 = p4 at W4 ⊢
 generalize winB tr 1 6 = p5 at W5 ⊢
 generalize ohmB ⟨zr, zx⟩ = p6 at WI ⊢
 by_cases k3 : kd = 3
 ·subst k3
  rw [if_pos rfl, if_neg (by decide), e0]
  clear e0 hp2 W2
  by_cases he : en = 0 <;> by_cases hv : vt = 0 <;> cases p3 <;> cases p6
  all_goals
   simp only [he, hv, decide_true, decide_false, Bool.and_true, Bool.and_false, Bool.true_and, Bool.false_and]
   go_enter Tryz.func79, Tryz.ntmps79
   go_wp2_with fail
   refine wrj (by kernel_rfl) ?_
   repeat (go_big_quiet_step (fail))
   refine wq0 fun kq => ?_
   go_wp2_with (first | (go_at_call 77; (with_reducible refine (W2.o _).p ?_)) | (go_at_call 77; (with_reducible refine (W3.o _).p ?_)) | (go_at_call 77; (with_reducible refine (W4.o _).p ?_)) | (go_at_call 77; (with_reducible refine (W5.o _).p ?_)) | (go_at_call 77; (with_reducible refine (W1.o _).p ?_)) | (go_at_call 45; (with_reducible refine (WI.o _).q ?_); intro kj) | fail)
   all_goals
    go_ret
    refine ⟨by simp_all, ?_⟩
    exact Q.i
 rw [if_neg k3]
 by_cases k1 : kd = 1
 rotate_left
 ·rw [if_neg k1, e0]
  clear e0 hp2 W2
  by_cases hz : zr = 0 <;> by_cases hx : zx = 0 <;> by_cases he : en = 0 <;> cases p1 <;> cases p3
  all_goals
   simp only [hz, hx, he, decide_true, decide_false, Bool.and_true, Bool.and_false, Bool.true_and, Bool.false_and]
   go_enter Tryz.func79, Tryz.ntmps79
   go_wp2_with fail
   refine wrj (by kernel_rfl) ?_
   repeat (go_big_quiet_step (fail))
   refine wq0 fun kq => ?_
   go_wp2_with (first | (go_at_call 77; (with_reducible refine (W2.o _).p ?_)) | (go_at_call 77; (with_reducible refine (W3.o _).p ?_)) | (go_at_call 77; (with_reducible refine (W4.o _).p ?_)) | (go_at_call 77; (with_reducible refine (W5.o _).p ?_)) | (go_at_call 77; (with_reducible refine (W1.o _).p ?_)) | (go_at_call 45; (with_reducible refine (WI.o _).q ?_); intro kj) | fail)
   all_goals
    go_ret
    refine ⟨by simp_all, ?_⟩
    exact Q.i
 subst k1
 rw [if_pos rfl, hp2]
 clear e0 hp2
 by_cases hz : zr = 0 <;> by_cases hx : zx = 0 <;> cases p1 <;> cases p2 <;> cases p3
 all_goals
  simp only [hz, hx, decide_true, decide_false, Bool.and_true, Bool.and_false, Bool.true_and, Bool.false_and]
  go_enter Tryz.func79, Tryz.ntmps79
  go_wp2_with fail
  refine wrj (by kernel_rfl) ?_
  repeat (go_big_quiet_step (fail))
  refine wq0 fun kq => ?_
  go_wp2_with (first | (go_at_call 77; (with_reducible refine (W2.o _).p ?_)) | (go_at_call 77; (with_reducible refine (W3.o _).p ?_)) | (go_at_call 77; (with_reducible refine (W4.o _).p ?_)) | (go_at_call 77; (with_reducible refine (W5.o _).p ?_)) | (go_at_call 77; (with_reducible refine (W1.o _).p ?_)) | (go_at_call 45; (with_reducible refine (WI.o _).q ?_); intro kj) | fail)
  all_goals
   go_ret
   refine ⟨by simp_all, ?_⟩
   exact Q.i
theorem r5links_c (s : Sta) (y : Byr) (lk : List Lk) (w : World) (hk : LkAt w y lk) (hB : s.buses.length < 1000) (hl : lk.length ≤ 9223372036854775807) :
  Calls Tryz.prog 80 #[.agg #[Value.string s.nm, Value.slice s.aB s.buses.length s.cB, Value.slice s.aL s.lines.length s.cL, Value.slice s.aS s.srcs.length s.cS, Value.slice s.aY s.bays.length s.cY], .agg #[Value.string y.nm, Value.int .i64 y.kd, Value.int .i64 y.of, Value.int .i64 y.en, Value.int .i64 y.zr, Value.int .i64 y.zx, Value.slice y.la y.ln y.lc, Value.bool y.cl, Value.int .i64 y.ct, Value.int .i64 y.vt, Value.int .i64 y.sa, Value.int .i64 y.tr]] w fun e w' => e = .returned (.int .i64 (lkE s.buses.length y.kd lk)) ∧ Q w w' := by
 obtain ⟨nm, kd, of, en, zr, zx, la, ln, lc, cl, ct, vt, sa, tr⟩ := y
 have hln := hk.2
 dsimp only at hln ⊢
 generalize s.buses.length = nb at hB ⊢
 have n0 : (0 : Int) ≤ (ln : Int) := by omega
 have n9 : (ln : Int) ≤ 9223372036854775807 := by omega
 by_cases hbad : lk.length < 1 ∨ 2 < lk.length ∨ (kd = 3 ∧ lk.length ≠ 2)
 ·have EE : lkE nb kd lk = 3 := by unfold lkE; rw [if_pos hbad]
  rw [EE]
  clear EE
  have hways : ln = 0 ∨ 2 < ln ∨ (kd = 3 ∧ ln = 1) := by omega
  rcases hways with rfl | h2 | ⟨rfl, rfl⟩
  ·clear hk
   go_enter Tryz.func80, Tryz.ntmps80
   go_wp2_with fail
   go_ret
   exact ⟨rfl, Q.i⟩
  ·have h2' : (2 : Int) < (ln : Int) := by omega
   have h1' : ¬ (ln : Int) < 1 := by omega
   clear hk
   go_enter Tryz.func80, Tryz.ntmps80
   go_wp2_with fail
   go_ret
   exact ⟨rfl, Q.i⟩
  clear hk
  go_enter Tryz.func80, Tryz.ntmps80
  go_wp2_with fail
  go_ret
  exact ⟨rfl, Q.i⟩
 have EE : lkE nb kd lk = fstE (lkA nb kd lk) ln := by unfold lkE; rw [if_neg hbad, hln]
 rw [EE]
 clear EE
 have hh1 : ¬ (ln : Int) < 1 := by omega
 have hh2 : ¬ (2 : Int) < (ln : Int) := by omega
 obtain ⟨g, o, e, og, hc⟩ := hk.at_ (by dsimp only; omega)
 dsimp only at e
 subst e
 have nb0 : (0 : Int) ≤ (nb : Int) := by omega
 have nb1 : (nb : Int) ≤ 1000 := by omega
 by_cases k3 : kd = 3
 ·have l2 : ln = 2 := by omega
  subst k3
  subst l2
  clear hk hbad
  go_enter Tryz.func80, Tryz.ntmps80
  go_wp2_with fail
  go_loopw [6] (fun i wr => ∃ k : Nat, i = .int .i64 k ∧ k ≤ 2 ∧ Hid (∀ j, j < k → lkA nb 3 lk j = 0) ∧ Q ((w.alloc (Obj.cells #[Value.string s.nm, Value.slice s.aB nb s.cB, Value.slice s.aL s.lines.length s.cL, Value.slice s.aS s.srcs.length s.cS, Value.slice s.aY s.bays.length s.cY] 27)).alloc (Obj.cells #[Value.string nm, Value.int .i64 3, Value.int .i64 of, Value.int .i64 en, Value.int .i64 zr, Value.int .i64 zx, Value.slice (some ⟨g, o, none⟩) 2 lc, Value.bool cl, Value.int .i64 ct, Value.int .i64 vt, Value.int .i64 sa, Value.int .i64 tr] 91)) wr) (fun i _ => 2 - (intOf i).toNat)
  case atStart => exact ⟨0, rfl, Nat.zero_le _, hh (fun j hj => absurd hj (Nat.not_lt_zero _)), Q.refl _⟩
  case round =>
   obtain ⟨k, rfl, hkn, HG, kk, rfl⟩ := hrel
   by_cases hlt : k < 2
   rotate_left
   ·have EN : Hid (fstE (lkA nb 3 lk) 2 = 0) := hh (fstE_none (fun j hj => HG.o j (by omega)))
    obtain rfl : 2 = k := by omega
    go_wp2_with fail
    go_ret
    refine ⟨by rw [EN.o]; first | done | rfl, ?_⟩
    exact Q.i
   obtain ⟨l, hl'⟩ : ∃ l, lk[k]? = some l := ⟨_, List.getElem?_eq_getElem (by omega)⟩
   have a12 := hc.o k l hl'
   obtain ⟨a1, a2⟩ := a12
   have AE : Hid (lkA nb 3 lk k = if winB l.bus 0 ((nb : Int) - 1) = true then (if posB 3 l.pos = true then (if 0 < k ∧ (lk[k - 1]?).map Lk.bus = some l.bus then 12 else 0) else 16) else 9) := hh (by unfold lkA; rw [hl'])
   obtain ⟨bus, pos⟩ := l
   dsimp only at AE a1 a2
   have kk0 : (0 : Int) ≤ (k : Int) := by omega
   have kk1 : (k : Int) < (2 : Int) := by omega
   cases hp : winB bus 0 ((nb : Int) - 1) with
   | false =>
    have AE' : Hid (lkA nb 3 lk k = 9) := hh (by rw [AE.o, hp]; rfl)
    have hw : bus < 0 ∨ (¬ bus < 0 ∧ (nb : Int) ≤ bus) := by
     simp [winB] at hp
     omega
    clear hl' hp AE
    rcases hw with d0 | ⟨d0, d1⟩
    all_goals
     go_wp2_with fail
     go_ret
     refine ⟨?_, ?_⟩
     ·rw [fstE_hit (k := k) HG.o (by rw [AE'.o]; decide) (by omega), AE'.o]; first | done | rfl
     exact Q.i
   | true =>
    rw [if_pos hp] at AE
    have hw : ¬ bus < 0 ∧ ¬ (nb : Int) ≤ bus := by
     simp [winB] at hp
     omega
    obtain ⟨d0, d1⟩ := hw
    clear hp
    cases hpos : posB 3 pos with
    | false =>
     have AE' : Hid (lkA nb 3 lk k = 16) := hh (by rw [AE.o, if_neg (by rw [hpos]; decide)])
     have hp : pos ≠ 1 ∧ (pos ≠ 0 ∨ 3 = 3) := by simp [posB] at hpos; exact ⟨hpos, .inr rfl⟩
     obtain ⟨hp1, hp2⟩ := hp
     have hp1' : (pos != 1) = true := by simpa using hp1
     clear hl' AE hpos
     have hp0 : pos = 0 ∨ ¬ pos = 0 := Decidable.em _
     rcases hp0 with rfl | hp0
     all_goals
      first | (have hp0' : (pos != 0) = true := by simpa using hp0) | skip
      clear hp2
      go_wp2_with fail
      go_ret
      refine ⟨?_, ?_⟩
      ·rw [fstE_hit (k := k) HG.o (by rw [AE'.o]; decide) (by omega), AE'.o]; first | done | rfl
      exact Q.i
    | true =>
     rw [if_pos hpos] at AE
     have hp : pos = 1 ∨ (pos = 0 ∧ 3 ≠ 3) := by
      unfold posB at hpos
      simp only [Bool.or_eq_true, Bool.and_eq_true, decide_eq_true_eq, Bool.not_eq_true', decide_eq_false_iff_not] at hpos
      rcases hpos with h | h
      ·exact .inl h
      exact absurd trivial h.2
     clear hpos
     have hk01 : k = 0 ∨ k = 1 := by omega
     rcases hk01 with rfl | rfl
     ·have AE' : Hid (lkA nb 3 lk 0 = 0) := hh (by rw [AE.o]; rfl)
      clear AE hl'
      rw [Nat.zero_mul, Nat.add_zero] at a1 a2
      rcases hp with rfl | ⟨rfl, h3⟩
      ·go_wp2_with fail
       refine wrj (by kernel_rfl) ?_
       repeat (go_big_quiet_step (fail))
       refine wq0 fun kq => ?_
       go_wp2_with fail
       go_roundw
       case rel =>
        refine ⟨0 + 1, by go_num, by omega, hh (fun j hj => ?_), ?_⟩
        ·by_cases e : j = 0
         ·subst e; exact AE'.o
         exact HG.o j (by omega)
        exact Q.i
       case measure => simp [intOf] <;> omega
      exact absurd rfl h3
     obtain ⟨l0, hl0⟩ : ∃ l, lk[0]? = some l := ⟨_, List.getElem?_eq_getElem (by omega)⟩
     obtain ⟨z1, z2⟩ := hc.o 0 l0 hl0
     obtain ⟨bus0, pos0⟩ := l0
     dsimp only at z1 z2
     rw [Nat.zero_mul, Nat.add_zero] at z1 z2
     rw [Nat.one_mul] at a1 a2
     have AX : Hid (lkA nb 3 lk 1 = if bus0 = bus then 12 else 0) := hh (by rw [AE.o]; simp [hl0])
     clear AE hl' hl0
     by_cases hbb : bus0 = bus
     ·have AE' : Hid (lkA nb 3 lk 1 = 12) := hh (by rw [AX.o, if_pos hbb])
      subst hbb
      clear AX
      rcases hp with rfl | ⟨rfl, h3⟩
      ·go_wp2_with fail
       refine wrj (by kernel_rfl) ?_
       repeat (go_big_quiet_step (fail))
       refine wq0 fun kq => ?_
       go_wp2_with fail
       go_ret
       refine ⟨?_, ?_⟩
       ·rw [fstE_hit (k := 1) HG.o (by rw [AE'.o]; decide) (by omega), AE'.o]; first | done | rfl
       exact Q.i
      exact absurd rfl h3
     have AE' : Hid (lkA nb 3 lk 1 = 0) := hh (by rw [AX.o, if_neg hbb])
     have hbb' : (bus == bus0) = false := by simpa using fun e : bus = bus0 => hbb e.symm
     clear AX
     rcases hp with rfl | ⟨rfl, h3⟩
     ·go_wp2_with fail
      refine wrj (by kernel_rfl) ?_
      repeat (go_big_quiet_step (fail))
      refine wq0 fun kq => ?_
      go_wp2_with fail
      go_roundw
      case rel =>
       refine ⟨1 + 1, by go_num, by omega, hh (fun j hj => ?_), ?_⟩
       ·by_cases e : j = 1
        ·subst e; exact AE'.o
        exact HG.o j (by omega)
       exact Q.i
      case measure => simp [intOf] <;> omega
     exact absurd rfl h3
 have k3' : (kd == 3) = false := by simpa using k3
 clear hk
 go_enter Tryz.func80, Tryz.ntmps80
 go_wp2_with fail
 go_loopw [6] (fun i wr => ∃ k : Nat, i = .int .i64 k ∧ k ≤ ln ∧ Hid (∀ j, j < k → lkA nb kd lk j = 0) ∧ Q ((w.alloc (Obj.cells #[Value.string s.nm, Value.slice s.aB nb s.cB, Value.slice s.aL s.lines.length s.cL, Value.slice s.aS s.srcs.length s.cS, Value.slice s.aY s.bays.length s.cY] 27)).alloc (Obj.cells #[Value.string nm, Value.int .i64 kd, Value.int .i64 of, Value.int .i64 en, Value.int .i64 zr, Value.int .i64 zx, Value.slice (some ⟨g, o, none⟩) ln lc, Value.bool cl, Value.int .i64 ct, Value.int .i64 vt, Value.int .i64 sa, Value.int .i64 tr] 91)) wr) (fun i _ => ln - (intOf i).toNat)
 case atStart => exact ⟨0, rfl, Nat.zero_le _, hh (fun j hj => absurd hj (Nat.not_lt_zero _)), Q.refl _⟩
 case round =>
  obtain ⟨k, rfl, hkn, HG, kk, rfl⟩ := hrel
  by_cases hlt : k < ln
  rotate_left
  ·have EN : Hid (fstE (lkA nb kd lk) ln = 0) := hh (fstE_none (fun j hj => HG.o j (by omega)))
   obtain rfl : ln = k := by omega
   go_wp2_with fail
   go_ret
   refine ⟨by rw [EN.o]; first | done | rfl, ?_⟩
   exact Q.i
  obtain ⟨l, hl'⟩ : ∃ l, lk[k]? = some l := ⟨_, List.getElem?_eq_getElem (by omega)⟩
  have a12 := hc.o k l hl'
  obtain ⟨a1, a2⟩ := a12
  have AE : Hid (lkA nb kd lk k = if winB l.bus 0 ((nb : Int) - 1) = true then (if posB kd l.pos = true then (if 0 < k ∧ (lk[k - 1]?).map Lk.bus = some l.bus then 12 else 0) else 16) else 9) := hh (by unfold lkA; rw [hl'])
  obtain ⟨bus, pos⟩ := l
  dsimp only at AE a1 a2
  have kk0 : (0 : Int) ≤ (k : Int) := by omega
  have kk1 : (k : Int) < (ln : Int) := by omega
  cases hp : winB bus 0 ((nb : Int) - 1) with
  | false =>
   have AE' : Hid (lkA nb kd lk k = 9) := hh (by rw [AE.o, hp]; rfl)
   have hw : bus < 0 ∨ (¬ bus < 0 ∧ (nb : Int) ≤ bus) := by
    simp [winB] at hp
    omega
   clear hl' hp AE
   rcases hw with d0 | ⟨d0, d1⟩
   all_goals
    go_wp2_with fail
    go_ret
    refine ⟨?_, ?_⟩
    ·rw [fstE_hit (k := k) HG.o (by rw [AE'.o]; decide) (by omega), AE'.o]; first | done | rfl
    exact Q.i
  | true =>
   rw [if_pos hp] at AE
   have hw : ¬ bus < 0 ∧ ¬ (nb : Int) ≤ bus := by
    simp [winB] at hp
    omega
   obtain ⟨d0, d1⟩ := hw
   clear hp
   cases hpos : posB kd pos with
   | false =>
    have AE' : Hid (lkA nb kd lk k = 16) := hh (by rw [AE.o, if_neg (by rw [hpos]; decide)])
    have hp : pos ≠ 1 ∧ (pos ≠ 0 ∨ kd = 3) := by simp [posB] at hpos; exact ⟨hpos.1, .inl (fun e => k3 (hpos.2 e))⟩
    obtain ⟨hp1, hp2⟩ := hp
    have hp1' : (pos != 1) = true := by simpa using hp1
    clear hl' AE hpos
    have hp0 : ¬ pos = 0 := hp2.resolve_right k3
    all_goals
     first | (have hp0' : (pos != 0) = true := by simpa using hp0) | skip
     clear hp2
     go_wp2_with fail
     go_ret
     refine ⟨?_, ?_⟩
     ·rw [fstE_hit (k := k) HG.o (by rw [AE'.o]; decide) (by omega), AE'.o]; first | done | rfl
     exact Q.i
   | true =>
    rw [if_pos hpos] at AE
    have hp : pos = 1 ∨ (pos = 0 ∧ kd ≠ 3) := by
     unfold posB at hpos
     simp only [Bool.or_eq_true, Bool.and_eq_true, decide_eq_true_eq, Bool.not_eq_true', decide_eq_false_iff_not] at hpos
     rcases hpos with h | h
     ·exact .inl h
     exact .inr h
    clear hpos
    have hk01 : k = 0 ∨ k = 1 := by omega
    rcases hk01 with rfl | rfl
    ·have AE' : Hid (lkA nb kd lk 0 = 0) := hh (by rw [AE.o]; rfl)
     clear AE hl'
     rw [Nat.zero_mul, Nat.add_zero] at a1 a2
     rcases hp with rfl | ⟨rfl, h3⟩
     ·go_wp2_with fail
      refine wrj (by kernel_rfl) ?_
      repeat (go_big_quiet_step (fail))
      refine wq0 fun kq => ?_
      go_wp2_with fail
      go_roundw
      case rel =>
       refine ⟨0 + 1, by go_num, by omega, hh (fun j hj => ?_), ?_⟩
       ·by_cases e : j = 0
        ·subst e; exact AE'.o
        exact HG.o j (by omega)
       exact Q.i
      case measure => simp [intOf] <;> omega
     go_wp2_with fail
     refine wrj (by kernel_rfl) ?_
     repeat (go_big_quiet_step (fail))
     refine wq0 fun kq => ?_
     go_wp2_with fail
     go_roundw
     case rel =>
      refine ⟨0 + 1, by go_num, by omega, hh (fun j hj => ?_), ?_⟩
      ·by_cases e : j = 0
       ·subst e; exact AE'.o
       exact HG.o j (by omega)
      exact Q.i
     case measure => simp [intOf] <;> omega
    obtain ⟨l0, hl0⟩ : ∃ l, lk[0]? = some l := ⟨_, List.getElem?_eq_getElem (by omega)⟩
    obtain ⟨z1, z2⟩ := hc.o 0 l0 hl0
    obtain ⟨bus0, pos0⟩ := l0
    dsimp only at z1 z2
    rw [Nat.zero_mul, Nat.add_zero] at z1 z2
    rw [Nat.one_mul] at a1 a2
    have AX : Hid (lkA nb kd lk 1 = if bus0 = bus then 12 else 0) := hh (by rw [AE.o]; simp [hl0])
    clear AE hl' hl0
    by_cases hbb : bus0 = bus
    ·have AE' : Hid (lkA nb kd lk 1 = 12) := hh (by rw [AX.o, if_pos hbb])
     subst hbb
     clear AX
     rcases hp with rfl | ⟨rfl, h3⟩
     ·go_wp2_with fail
      refine wrj (by kernel_rfl) ?_
      repeat (go_big_quiet_step (fail))
      refine wq0 fun kq => ?_
      go_wp2_with fail
      go_ret
      refine ⟨?_, ?_⟩
      ·rw [fstE_hit (k := 1) HG.o (by rw [AE'.o]; decide) (by omega), AE'.o]; first | done | rfl
      exact Q.i
     go_wp2_with fail
     refine wrj (by kernel_rfl) ?_
     repeat (go_big_quiet_step (fail))
     refine wq0 fun kq => ?_
     go_wp2_with fail
     go_ret
     refine ⟨?_, ?_⟩
     ·rw [fstE_hit (k := 1) HG.o (by rw [AE'.o]; decide) (by omega), AE'.o]; first | done | rfl
     exact Q.i
    have AE' : Hid (lkA nb kd lk 1 = 0) := hh (by rw [AX.o, if_neg hbb])
    have hbb' : (bus == bus0) = false := by simpa using fun e : bus = bus0 => hbb e.symm
    clear AX
    rcases hp with rfl | ⟨rfl, h3⟩
    ·go_wp2_with fail
     refine wrj (by kernel_rfl) ?_
     repeat (go_big_quiet_step (fail))
     refine wq0 fun kq => ?_
     go_wp2_with fail
     go_roundw
     case rel =>
      refine ⟨1 + 1, by go_num, by omega, hh (fun j hj => ?_), ?_⟩
      ·by_cases e : j = 1
       ·subst e; exact AE'.o
       exact HG.o j (by omega)
      exact Q.i
     case measure => simp [intOf] <;> omega
    go_wp2_with fail
    refine wrj (by kernel_rfl) ?_
    repeat (go_big_quiet_step (fail))
    refine wq0 fun kq => ?_
    go_wp2_with fail
    go_roundw
    case rel =>
     refine ⟨1 + 1, by go_num, by omega, hh (fun j hj => ?_), ?_⟩
     ·by_cases e : j = 1
      ·subst e; exact AE'.o
      exact HG.o j (by omega)
     exact Q.i
    case measure => simp [intOf] <;> omega
theorem r5bay_c (s : Sta) (i : Nat) (y : Byr) (w : World) (hst : StAt w s) (hy : s.bays[i]? = some y) (hB : s.buses.length < 1000) (hL : s.lines.length < 1000) (hS : s.srcs.length < 1000) (hY : s.bays.length < 1000) :
  Calls Tryz.prog 47 #[.agg #[Value.string s.nm, Value.slice s.aB s.buses.length s.cB, Value.slice s.aL s.lines.length s.cL, Value.slice s.aS s.srcs.length s.cS, Value.slice s.aY s.bays.length s.cY], .int .i64 i] w fun e w' => e = .returned (.int .i64 (byX s.buses.length s.lines.length s.srcs.length (s.bays.take i) y (s.lks i))) ∧ Q w w' := by
 have HST := hh hst
 have hi := (List.getElem?_eq_some_iff.1 hy).1
 obtain ⟨g, o, eA, og, hc⟩ := hst.bayAt hy
 obtain ⟨q0, q1, q2, q3, q4, q5, q6, q7, q8, q9, q10, q11⟩ := by12 hc
 have hlk := hst.lk i y hy
 have LKS := hh fun (w' : World) (hq : Q w w') => r5links_c s y (s.lks i) w' (hlk.1.q hq) hB hlk.2
 have OB := hh fun w' => r5object_c s y.nm y.kd y.of y.en y.zr y.zx y.la y.ln y.lc y.cl y.ct y.vt y.sa y.tr w' hL hS
 have RG := hh fun w' => r5ranges_c y.nm y.kd y.of y.en y.zr y.zx y.la y.ln y.lc y.cl y.ct y.vt y.sa y.tr w'
 have i0 : (0 : Int) ≤ (i : Int) := by omega
 have i1 : (i : Int) < (s.bays.length : Int) := by omega
 have i9 : (s.bays.length : Int) < 1000 := by omega
 obtain ⟨E, hE⟩ : ∃ E, byX s.buses.length s.lines.length s.srcs.length (s.bays.take i) y (s.lks i) = E := ⟨_, rfl⟩
 rw [hE]
 unfold byX at hE
 have EA := hh eA
 rw [eA] at OB LKS ⊢
 clear eA hc hlk hst
 obtain ⟨eo, heo⟩ : ∃ e, obE s.lines.length s.srcs.length y.kd y.of = e := ⟨_, rfl⟩
 rw [heo] at hE OB
 clear heo
 by_cases hz : eo = 0
 rotate_left
 ·have HE : Hid (E = eo) := hh (by rw [← hE, if_neg hz])
  have z' : (eo != 0) = true := by simpa using hz
  clear hE hy hz
  go_enter Tryz.func47, Tryz.ntmps47
  go_wp2_with (first | (go_at_call 78; (with_reducible refine (OB.o _).q ?_); intro ko) | (go_at_call 79; (with_reducible refine (RG.o _).q ?_); intro kr) | (go_at_call 80; (with_reducible refine (LKS.o _ Q.i).q ?_); intro kl) | fail)
  go_ret
  exact ⟨by rw [HE.o]; first | done | rfl, Q.i⟩
 subst hz
 rw [if_pos rfl] at hE
 generalize rgB y.kd y.en y.zr y.zx y.ct y.vt y.sa y.tr = pR at RG hE
 cases pR with
 | false =>
  have HE : Hid (E = 2) := hh (by rw [← hE]; rfl)
  clear hE hy
  go_enter Tryz.func47, Tryz.ntmps47
  go_wp2_with (first | (go_at_call 78; (with_reducible refine (OB.o _).q ?_); intro ko) | (go_at_call 79; (with_reducible refine (RG.o _).q ?_); intro kr) | (go_at_call 80; (with_reducible refine (LKS.o _ Q.i).q ?_); intro kl) | fail)
  go_ret
  exact ⟨by rw [HE.o]; first | done | rfl, Q.i⟩
 | true =>
  have HE := hh hE
  have HCF : Hid (∀ j p, j < i → s.bays[j]? = some p → cfB y p = true → E = 12) := hh (fun j p hj hp hcf => by
   rw [← hE, if_pos rfl, if_pos (show cfL (s.bays.take i) y = true from List.any_eq_true.2 ⟨p, List.mem_of_getElem? (i := j) (by rw [List.getElem?_take, if_pos hj]; exact hp), hcf⟩)])
  have HLK : Hid ((∀ j p, j < i → s.bays[j]? = some p → cfB y p = false) → E = lkE s.buses.length y.kd (s.lks i)) := hh (fun h => by
   rw [← hE, if_pos rfl, if_neg]
   intro hc
   obtain ⟨p, hp, hcf⟩ := List.any_eq_true.1 hc
   obtain ⟨j, hj⟩ := List.getElem?_of_mem hp
   rw [List.getElem?_take] at hj
   split at hj
   ·rename_i hji
    rw [h j p hji hj] at hcf
    cases hcf
   cases hj)
  clear hE hy HE
  by_cases k3 : y.kd = 3
  ·have k3b : (y.kd != 3) = false := by simpa using k3
   have HE2 : Hid (E = lkE s.buses.length y.kd (s.lks i)) := hh (HLK.o fun j p _ _ => by simp [cfB, k3])
   rw [← HE2.o] at LKS
   clear k3 HCF HLK
   go_enter Tryz.func47, Tryz.ntmps47
   go_wp2_with (first | (go_at_call 78; (with_reducible refine (OB.o _).q ?_); intro ko) | (go_at_call 79; (with_reducible refine (RG.o _).q ?_); intro kr) | (go_at_call 80; (with_reducible refine (LKS.o _ Q.i).q ?_); intro kl) | fail)
   go_loopw [7] (fun i' wr => i' = .int .i64 0 ∧ Q ((w.alloc (Obj.cells #[Value.string s.nm, Value.slice s.aB s.buses.length s.cB, Value.slice s.aL s.lines.length s.cL, Value.slice s.aS s.srcs.length s.cS, Value.slice (some ⟨g, o, none⟩) s.bays.length s.cY] 27)).alloc (Obj.cells #[Value.string y.nm, Value.int .i64 y.kd, Value.int .i64 y.of, Value.int .i64 y.en, Value.int .i64 y.zr, Value.int .i64 y.zx, Value.slice y.la y.ln y.lc, Value.bool y.cl, Value.int .i64 y.ct, Value.int .i64 y.vt, Value.int .i64 y.sa, Value.int .i64 y.tr] 91)) wr) (fun _ _ => 0)
   case atStart => exact ⟨rfl, (by repeat' (first | exact Q.refl _ | refine Q.alloc ?_ _ | refine Q.jk ?_ _ | refine Q.drew ?_))⟩
   case round =>
   obtain ⟨rfl, kk, rfl⟩ := hrel
   by_cases hi0 : (0 : Int) < (i : Int)
   all_goals
    go_wp2_with (first | (go_at_call 78; (with_reducible refine (OB.o _).q ?_); intro ko) | (go_at_call 79; (with_reducible refine (RG.o _).q ?_); intro kr) | (go_at_call 80; (with_reducible refine (LKS.o _ Q.i).q ?_); intro kl) | fail)
    go_ret
    exact ⟨rfl, Q.i⟩
  have k3b : (y.kd != 3) = true := by simpa using k3
  go_enter Tryz.func47, Tryz.ntmps47
  go_wp2_with (first | (go_at_call 78; (with_reducible refine (OB.o _).q ?_); intro ko) | (go_at_call 79; (with_reducible refine (RG.o _).q ?_); intro kr) | (go_at_call 80; (with_reducible refine (LKS.o _ Q.i).q ?_); intro kl) | fail)
  go_loopw [7] (fun i' wr => ∃ k : Nat, i' = .int .i64 k ∧ k ≤ i ∧ Hid (∀ j p, j < k → s.bays[j]? = some p → cfB y p = false) ∧ Q ((w.alloc (Obj.cells #[Value.string s.nm, Value.slice s.aB s.buses.length s.cB, Value.slice s.aL s.lines.length s.cL, Value.slice s.aS s.srcs.length s.cS, Value.slice (some ⟨g, o, none⟩) s.bays.length s.cY] 27)).alloc (Obj.cells #[Value.string y.nm, Value.int .i64 y.kd, Value.int .i64 y.of, Value.int .i64 y.en, Value.int .i64 y.zr, Value.int .i64 y.zx, Value.slice y.la y.ln y.lc, Value.bool y.cl, Value.int .i64 y.ct, Value.int .i64 y.vt, Value.int .i64 y.sa, Value.int .i64 y.tr] 91)) wr) (fun i' _ => i - (intOf i').toNat)
  case atStart => exact ⟨0, rfl, Nat.zero_le _, hh (fun j p hj => absurd hj (Nat.not_lt_zero _)), (by repeat' (first | exact Q.refl _ | refine Q.alloc ?_ _ | refine Q.jk ?_ _ | refine Q.drew ?_))⟩
  case round =>
  obtain ⟨k, rfl, hk, HG, kk, rfl⟩ := hrel
  by_cases hlt : k < i
  rotate_left
  ·obtain rfl : i = k := by omega
   have HE2 : Hid (E = lkE s.buses.length y.kd (s.lks i)) := hh (HLK.o HG.o)
   rw [← HE2.o] at LKS
   clear HCF HLK
   go_wp2_with (first | (go_at_call 78; (with_reducible refine (OB.o _).q ?_); intro ko) | (go_at_call 79; (with_reducible refine (RG.o _).q ?_); intro kr) | (go_at_call 80; (with_reducible refine (LKS.o _ Q.i).q ?_); intro kl) | fail)
   go_ret
   exact ⟨rfl, Q.i⟩
  obtain ⟨p, hp⟩ : ∃ p, s.bays[k]? = some p := ⟨_, List.getElem?_eq_getElem (by omega)⟩
  obtain ⟨g', o', eA', og', hc⟩ := HST.o.bayAt hp
  rw [EA.o] at eA'
  injection eA' with e2
  injection e2 with e3 e4 e5
  subst e3
  subst e4
  have p1 : w.cell? ⟨g, o + k * 12 + 1, none⟩ = some (Value.int .i64 p.kd) := hc.o 1 _ rfl
  have p2 : w.cell? ⟨g, o + k * 12 + 2, none⟩ = some (Value.int .i64 p.of) := hc.o 2 _ rfl
  have p3 : w.cell? ⟨g, o + k * 12 + 3, none⟩ = some (Value.int .i64 p.en) := hc.o 3 _ rfl
  have k0 : (0 : Int) ≤ (k : Int) := by omega
  have k1 : (k : Int) < (i : Int) := by omega
  have k2 : (k : Int) < (s.bays.length : Int) := by omega
  have HP := hh hp
  clear hc e5
  cases hcf : cfB y p with
  | true =>
   have HE0 : Hid (E = 12) := hh (HCF.o k p hlt hp hcf)
   have hcf' : y.kd = p.kd ∧ y.of = p.of ∧ y.en = p.en := by
    unfold cfB at hcf
    simp only [Bool.and_eq_true, decide_eq_true_eq] at hcf
    exact ⟨hcf.1.1.2, hcf.1.2, hcf.2⟩
   obtain ⟨d1, d2, d3⟩ := hcf'
   have b1 : (p.kd == y.kd) = true := by simpa using d1.symm
   have b2 : (p.of == y.of) = true := by simpa using d2.symm
   have b3 : (p.en == y.en) = true := by simpa using d3.symm
   clear hp hcf d1 d2 d3
   go_wp2_with fail
   refine wrj (by kernel_rfl) ?_
   repeat (go_big_quiet_step (fail))
   refine wq0 fun kq => ?_
   go_wp2_with fail
   go_ret
   exact ⟨by rw [HE0.o]; first | done | rfl, Q.i⟩
  | false =>
   have HC := hh hcf
   have hw : (y.kd ≠ p.kd) ∨ (y.kd = p.kd ∧ y.of ≠ p.of) ∨ (y.kd = p.kd ∧ y.of = p.of ∧ y.en ≠ p.en) := by
    unfold cfB at hcf
    by_cases a1 : y.kd = p.kd
    rotate_left
    ·exact .inl a1
    by_cases a2 : y.of = p.of
    rotate_left
    ·exact .inr (.inl ⟨a1, a2⟩)
    by_cases a3 : y.en = p.en
    rotate_left
    ·exact .inr (.inr ⟨a1, a2, a3⟩)
    simp [a1, a2, a3] at hcf
    exact absurd (a1.trans hcf) k3
   clear hcf
   rcases hw with d1 | ⟨d1, d2⟩ | ⟨d1, d2, d3⟩
   ·have b1 : (p.kd == y.kd) = false := by simpa using fun e : p.kd = y.kd => d1 e.symm
    clear hp d1
    go_wp2_with fail
    refine wrj (by kernel_rfl) ?_
    repeat (go_big_quiet_step (fail))
    refine wq0 fun kq => ?_
    go_wp2_with fail
    go_roundw
    case rel =>
     refine ⟨k + 1, by go_num, by omega, hh (fun j q hj hq => ?_), Q.i⟩
     by_cases e : j = k
     rotate_left
     ·exact HG.o j q (by omega) hq
     subst e
     rw [HP.o] at hq
     obtain rfl := Option.some.inj hq
     exact HC.o
    case measure => simp [intOf] <;> omega
   ·have b1 : (p.kd == y.kd) = true := by simpa using d1.symm
    have b2 : (p.of == y.of) = false := by simpa using fun e : p.of = y.of => d2 e.symm
    clear hp d1 d2
    go_wp2_with fail
    refine wrj (by kernel_rfl) ?_
    repeat (go_big_quiet_step (fail))
    refine wq0 fun kq => ?_
    go_wp2_with fail
    go_roundw
    case rel =>
     refine ⟨k + 1, by go_num, by omega, hh (fun j q hj hq => ?_), Q.i⟩
     by_cases e : j = k
     rotate_left
     ·exact HG.o j q (by omega) hq
     subst e
     rw [HP.o] at hq
     obtain rfl := Option.some.inj hq
     exact HC.o
    case measure => simp [intOf] <;> omega
   have b1 : (p.kd == y.kd) = true := by simpa using d1.symm
   have b2 : (p.of == y.of) = true := by simpa using d2.symm
   have b3 : (p.en == y.en) = false := by simpa using fun e : p.en = y.en => d3 e.symm
   clear hp d1 d2 d3
   go_wp2_with fail
   refine wrj (by kernel_rfl) ?_
   repeat (go_big_quiet_step (fail))
   refine wq0 fun kq => ?_
   go_wp2_with fail
   go_roundw
   case rel =>
    refine ⟨k + 1, by go_num, by omega, hh (fun j q hj hq => ?_), Q.i⟩
    by_cases e : j = k
    rotate_left
    ·exact HG.o j q (by omega) hq
    subst e
    rw [HP.o] at hq
    obtain rfl := Option.some.inj hq
    exact HC.o
   case measure => simp [intOf] <;> omega
end Go.Proofs.YtcjflafjmdfanaaGreatDoor

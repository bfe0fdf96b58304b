
/- What object, ranges, links and bay of the reference 05 return. -/
import Derived.Test.YtcjflafjmdfanaaGreatDoorBr11
import Derived.Test.YtcjflafjmdfanaaGreatDoorBr04
set_option linter.unusedSimpArgs false
set_option linter.unusedVariables false
set_option linter.unusedVariables false
set_option linter.unusedSimpArgs false
namespace Go.Sub
open Go
/-- The error of a bay's kind and object. -/
def obE (nl ns : Nat) (kd of : Int) : Int := if kd = 1 ∨ kd = 2 ∨ kd = 3 then (if winB of 0 (cntI nl ns kd - 1) = true then 0 else 9) else 10
theorem obE_ways (nl ns : Nat) (kd of : Int) (E : Int) (h : obE nl ns kd of = E) : (kd = 1 ∧ (of < 0) ∧ E = 9) ∨ (kd = 1 ∧ ((¬ of < 0) ∧ (nl : Int) ≤ of) ∧ E = 9) ∨ (kd = 1 ∧ ((¬ of < 0) ∧ ¬ (nl : Int) ≤ of) ∧ E = 0) ∨ (kd = 2 ∧ (of < 0) ∧ E = 9) ∨ (kd = 2 ∧ ((¬ of < 0) ∧ (ns : Int) ≤ of) ∧ E = 9) ∨ (kd = 2 ∧ ((¬ of < 0) ∧ ¬ (ns : Int) ≤ of) ∧ E = 0) ∨ (kd = 3 ∧ (¬ of = 0) ∧ E = 9) ∨ (kd = 3 ∧ of = 0 ∧ E = 0) ∨ (kd ≠ 1 ∧ (kd ≠ 2 ∧ kd ≠ 3) ∧ E = 10) := by
 subst h
 unfold obE cntI winB
 simp only [Bool.and_eq_true, decide_eq_true_eq]
 by_cases k1 : kd = 1
 ·subst k1
  simp
  first | omega | (split <;> omega)
 ·by_cases k2 : kd = 2
  ·subst k2
   simp
   first | omega | (split <;> omega)
  ·by_cases k3 : kd = 3
   ·subst k3
    simp
    first | omega | (split <;> omega)
   ·simp [k1, k2, k3]
/-- The error of a bay without its name. -/
def byX (nb nl ns : Nat) (prev : List Byr) (y : Byr) (lk : List Lk) : Int :=
 if obE nl ns y.kd y.of = 0 then (if rgB y.kd y.en y.zr y.zx y.ct y.vt y.sa y.tr = true then (if cfL prev y = true then 12 else lkE nb y.kd lk) else 2) else obE nl ns y.kd y.of
theorem byE_eq (nb nl ns : Nat) (seen : List ByteArray) (prev : List Byr) (y : Byr) (lk : List Lk) : byE nb nl ns seen prev y lk = if nmE seen y.nm = 0 then byX nb nl ns prev y lk else nmE seen y.nm := by
 unfold byE byX obE
 by_cases hz : nmE seen y.nm = 0 <;> by_cases hk : y.kd = 1 ∨ y.kd = 2 ∨ y.kd = 3 <;> by_cases hw : winB y.of 0 (cntI nl ns y.kd - 1) = true <;> simp [hz, hk, hw]
end Go.Sub
namespace Go.Proofs.YtcjflafjmdfanaaGreatDoor
open Go.RowKit Go.Sub
attribute [local go_sem ↓] Go.wp_at_zero Go.wp_at_succ
set_option maxRecDepth 100000 in
set_option maxHeartbeats 4000000 in
theorem r5object_c (s : Sta) (nm : ByteArray) (kd of en zr zx : Int) (la : Option Addr) (ln lc : Nat) (cl : Bool) (ct vt sa tr : Int) (w : World) (hL : s.lines.length < 1000) (hS : s.srcs.length < 1000) :
  Calls Tryz.prog 78 #[.agg #[Value.string s.nm, Value.slice s.aB s.buses.length s.cB, Value.slice s.aL s.lines.length s.cL, Value.slice s.aS s.srcs.length s.cS, Value.slice s.aY s.bays.length s.cY], .agg #[Value.string nm, Value.int .i64 kd, Value.int .i64 of, Value.int .i64 en, Value.int .i64 zr, Value.int .i64 zx, Value.slice la ln lc, Value.bool cl, Value.int .i64 ct, Value.int .i64 vt, Value.int .i64 sa, Value.int .i64 tr]] w fun e w' => e = .returned (.int .i64 (obE s.lines.length s.srcs.length kd of)) ∧ Q w w' := by
 obtain ⟨E, hE⟩ : ∃ E, obE s.lines.length s.srcs.length kd of = E := ⟨_, rfl⟩
 rw [hE]
 have hw := obE_ways _ _ _ _ _ hE
 clear hE
 generalize s.lines.length = nl at hL hw ⊢
 generalize s.srcs.length = ns at hS hw ⊢
 rcases hw with ⟨rfl, h1, rfl⟩ | ⟨rfl, ⟨h1, h2⟩, rfl⟩ | ⟨rfl, ⟨h1, h2⟩, rfl⟩ | ⟨rfl, h1, rfl⟩ | ⟨rfl, ⟨h1, h2⟩, rfl⟩ | ⟨rfl, ⟨h1, h2⟩, rfl⟩ | ⟨rfl, h1, rfl⟩ | ⟨rfl, rfl, rfl⟩ | ⟨h1, ⟨h2, h3⟩, rfl⟩
 all_goals
  go_enter Tryz.func78, Tryz.ntmps78
  go_wp2_with fail
  go_ret
  exact ⟨rfl, (by repeat' (first | exact Q.refl _ | refine Q.alloc ?_ _ | refine Q.jk ?_ _ | refine Q.drew ?_))⟩
set_option maxRecDepth 100000 in
set_option maxHeartbeats 4000000 in
theorem r5ranges_c (nm : ByteArray) (kd of en zr zx : Int) (la : Option Addr) (ln lc : Nat) (cl : Bool) (ct vt sa tr : Int) (w : World) :
  Calls Tryz.prog 79 #[.agg #[Value.string nm, Value.int .i64 kd, Value.int .i64 of, Value.int .i64 en, Value.int .i64 zr, Value.int .i64 zx, Value.slice la ln lc, Value.bool cl, Value.int .i64 ct, Value.int .i64 vt, Value.int .i64 sa, Value.int .i64 tr]] w fun e w' => e = .returned (.bool (rgB kd en zr zx ct vt sa tr)) ∧ Q w w' := by
 have W1 := Lib.hid fun w => r5between_c vt 1 10000 w
 have W2 := Lib.hid fun w => r5between_c en 0 1 w
 have W3 := Lib.hid fun w => r5between_c ct 1 100 w
 have W4 := Lib.hid fun w => r5between_c sa 0 16383 w
 have W5 := Lib.hid fun w => r5between_c tr 1 6 w
 have WI := Lib.hid fun w => r5ohms_c ⟨zr, zx⟩ w
 have e0 : winB en 0 0 = decide (en = 0) := by
  unfold winB
  by_cases h : en = 0
  ·subst h; rfl
  ·simp [h]; omega
 unfold rgB
 generalize winB vt 1 10000 = p1 at W1 ⊢
 generalize hp2 : winB en 0 1 = p2 at W2 ⊢
 generalize winB ct 1 100 = p3 at W3 ⊢
 generalize winB sa 0 16383 = p4 at W4 ⊢
 generalize winB tr 1 6 = p5 at W5 ⊢
 generalize ohmB ⟨zr, zx⟩ = p6 at WI ⊢
 by_cases k3 : kd = 3
 ·subst k3
  rw [if_pos rfl, if_neg (by decide), e0]
  clear e0 hp2 W2
  by_cases he : en = 0 <;> by_cases hv : vt = 0 <;> cases p3 <;> cases p6
  all_goals
   simp only [he, hv, decide_true, decide_false, Bool.and_true, Bool.and_false, Bool.true_and, Bool.false_and]
   go_enter Tryz.func79, Tryz.ntmps79
   go_wp2_with fail
   refine wp_region_jk (by kernel_rfl) (by kernel_rfl) ?_
   repeat (go_big_quiet_step (fail))
   refine wpQuiet_nil ?_
   intro _ hw'
   obtain ⟨kq, rfl⟩ := hw'
   go_wp2_with (first
    | (go_at_call 77; (with_reducible refine (W2.out _).mono ?_); rintro e w' ⟨rfl, rfl⟩)
    | (go_at_call 77; (with_reducible refine (W3.out _).mono ?_); rintro e w' ⟨rfl, rfl⟩)
    | (go_at_call 77; (with_reducible refine (W4.out _).mono ?_); rintro e w' ⟨rfl, rfl⟩)
    | (go_at_call 77; (with_reducible refine (W5.out _).mono ?_); rintro e w' ⟨rfl, rfl⟩)
    | (go_at_call 77; (with_reducible refine (W1.out _).mono ?_); rintro e w' ⟨rfl, rfl⟩)
    | (go_at_call 45; (with_reducible refine (WI.out _).mono ?_); rintro e w' ⟨rfl, kj, rfl⟩)
    | fail)
   all_goals
    go_ret
    refine ⟨by simp_all, ?_⟩
    repeat' (first | exact Q.refl _ | refine Q.alloc ?_ _ | refine Q.jk ?_ _ | refine Q.drew ?_)
 ·rw [if_neg k3]
  by_cases k1 : kd = 1
  ·subst k1
   rw [if_pos rfl, hp2]
   clear e0 hp2
   by_cases hz : zr = 0 <;> by_cases hx : zx = 0 <;> cases p1 <;> cases p2 <;> cases p3
   all_goals
    simp only [hz, hx, decide_true, decide_false, Bool.and_true, Bool.and_false, Bool.true_and, Bool.false_and]
    go_enter Tryz.func79, Tryz.ntmps79
    go_wp2_with fail
    refine wp_region_jk (by kernel_rfl) (by kernel_rfl) ?_
    repeat (go_big_quiet_step (fail))
    refine wpQuiet_nil ?_
    intro _ hw'
    obtain ⟨kq, rfl⟩ := hw'
    go_wp2_with (first
     | (go_at_call 77; (with_reducible refine (W2.out _).mono ?_); rintro e w' ⟨rfl, rfl⟩)
     | (go_at_call 77; (with_reducible refine (W3.out _).mono ?_); rintro e w' ⟨rfl, rfl⟩)
     | (go_at_call 77; (with_reducible refine (W4.out _).mono ?_); rintro e w' ⟨rfl, rfl⟩)
     | (go_at_call 77; (with_reducible refine (W5.out _).mono ?_); rintro e w' ⟨rfl, rfl⟩)
     | (go_at_call 77; (with_reducible refine (W1.out _).mono ?_); rintro e w' ⟨rfl, rfl⟩)
     | (go_at_call 45; (with_reducible refine (WI.out _).mono ?_); rintro e w' ⟨rfl, kj, rfl⟩)
     | fail)
    all_goals
     go_ret
     refine ⟨by simp_all, ?_⟩
     repeat' (first | exact Q.refl _ | refine Q.alloc ?_ _ | refine Q.jk ?_ _ | refine Q.drew ?_)
  ·rw [if_neg k1, e0]
   clear e0 hp2 W2
   by_cases hz : zr = 0 <;> by_cases hx : zx = 0 <;> by_cases he : en = 0 <;> cases p1 <;> cases p3
   all_goals
    simp only [hz, hx, he, decide_true, decide_false, Bool.and_true, Bool.and_false, Bool.true_and, Bool.false_and]
    go_enter Tryz.func79, Tryz.ntmps79
    go_wp2_with fail
    refine wp_region_jk (by kernel_rfl) (by kernel_rfl) ?_
    repeat (go_big_quiet_step (fail))
    refine wpQuiet_nil ?_
    intro _ hw'
    obtain ⟨kq, rfl⟩ := hw'
    go_wp2_with (first
     | (go_at_call 77; (with_reducible refine (W2.out _).mono ?_); rintro e w' ⟨rfl, rfl⟩)
     | (go_at_call 77; (with_reducible refine (W3.out _).mono ?_); rintro e w' ⟨rfl, rfl⟩)
     | (go_at_call 77; (with_reducible refine (W4.out _).mono ?_); rintro e w' ⟨rfl, rfl⟩)
     | (go_at_call 77; (with_reducible refine (W5.out _).mono ?_); rintro e w' ⟨rfl, rfl⟩)
     | (go_at_call 77; (with_reducible refine (W1.out _).mono ?_); rintro e w' ⟨rfl, rfl⟩)
     | (go_at_call 45; (with_reducible refine (WI.out _).mono ?_); rintro e w' ⟨rfl, kj, rfl⟩)
     | fail)
    all_goals
     go_ret
     refine ⟨by simp_all, ?_⟩
     repeat' (first | exact Q.refl _ | refine Q.alloc ?_ _ | refine Q.jk ?_ _ | refine Q.drew ?_)
set_option maxRecDepth 100000 in
set_option maxHeartbeats 8000000 in
theorem r5links_c (s : Sta) (y : Byr) (lk : List Lk) (w : World) (hk : LkAt w y lk) (hB : s.buses.length < 1000) (hl : lk.length ≤ 9223372036854775807) :
  Calls Tryz.prog 80 #[.agg #[Value.string s.nm, Value.slice s.aB s.buses.length s.cB, Value.slice s.aL s.lines.length s.cL, Value.slice s.aS s.srcs.length s.cS, Value.slice s.aY s.bays.length s.cY], .agg #[Value.string y.nm, Value.int .i64 y.kd, Value.int .i64 y.of, Value.int .i64 y.en, Value.int .i64 y.zr, Value.int .i64 y.zx, Value.slice y.la y.ln y.lc, Value.bool y.cl, Value.int .i64 y.ct, Value.int .i64 y.vt, Value.int .i64 y.sa, Value.int .i64 y.tr]] w fun e w' => e = .returned (.int .i64 (lkE s.buses.length y.kd lk)) ∧ Q w w' := by
 obtain ⟨nm, kd, of, en, zr, zx, la, ln, lc, cl, ct, vt, sa, tr⟩ := y
 have hln := hk.2
 dsimp only at hln ⊢
 generalize s.buses.length = nb at hB ⊢
 have n0 : (0 : Int) ≤ (ln : Int) := by omega
 have n9 : (ln : Int) ≤ 9223372036854775807 := by omega
 by_cases hbad : lk.length < 1 ∨ 2 < lk.length ∨ (kd = 3 ∧ lk.length ≠ 2)
 ·have EE : lkE nb kd lk = 3 := by unfold lkE; rw [if_pos hbad]
  rw [EE]
  clear EE
  have hways : ln = 0 ∨ 2 < ln ∨ (kd = 3 ∧ ln = 1) := by omega
  rcases hways with rfl | h2 | ⟨rfl, rfl⟩
  ·clear hk
   go_enter Tryz.func80, Tryz.ntmps80
   go_wp2_with fail
   go_ret
   exact ⟨rfl, (by repeat' (first | exact Q.refl _ | refine Q.alloc ?_ _ | refine Q.jk ?_ _ | refine Q.drew ?_))⟩
  ·have h2' : (2 : Int) < (ln : Int) := by omega
   have h1' : ¬ (ln : Int) < 1 := by omega
   clear hk
   go_enter Tryz.func80, Tryz.ntmps80
   go_wp2_with fail
   go_ret
   exact ⟨rfl, (by repeat' (first | exact Q.refl _ | refine Q.alloc ?_ _ | refine Q.jk ?_ _ | refine Q.drew ?_))⟩
  ·clear hk
   go_enter Tryz.func80, Tryz.ntmps80
   go_wp2_with fail
   go_ret
   exact ⟨rfl, (by repeat' (first | exact Q.refl _ | refine Q.alloc ?_ _ | refine Q.jk ?_ _ | refine Q.drew ?_))⟩
 ·have EE : lkE nb kd lk = fstE (lkA nb kd lk) ln := by unfold lkE; rw [if_neg hbad, hln]
  rw [EE]
  clear EE
  have hh1 : ¬ (ln : Int) < 1 := by omega
  have hh2 : ¬ (2 : Int) < (ln : Int) := by omega
  obtain ⟨g, o, e, og, hc⟩ := hk.at_ (by dsimp only; omega)
  dsimp only at e
  subst e
  have nb0 : (0 : Int) ≤ (nb : Int) := by omega
  have nb1 : (nb : Int) ≤ 1000 := by omega
  by_cases k3 : kd = 3
  ·have l2 : ln = 2 := by omega
   subst k3
   subst l2
   clear hk hbad
   go_enter Tryz.func80, Tryz.ntmps80
   go_wp2_with fail
   go_loopw [6] (fun i wr => ∃ k : Nat, i = .int .i64 k ∧ k ≤ 2 ∧ Hid (∀ j, j < k → lkA nb 3 lk j = 0) ∧ Q ((w.alloc (Obj.cells #[Value.string s.nm, Value.slice s.aB nb s.cB, Value.slice s.aL s.lines.length s.cL, Value.slice s.aS s.srcs.length s.cS, Value.slice s.aY s.bays.length s.cY] 27)).alloc (Obj.cells #[Value.string nm, Value.int .i64 3, Value.int .i64 of, Value.int .i64 en, Value.int .i64 zr, Value.int .i64 zx, Value.slice (some ⟨g, o, none⟩) 2 lc, Value.bool cl, Value.int .i64 ct, Value.int .i64 vt, Value.int .i64 sa, Value.int .i64 tr] 91)) wr) (fun i _ => 2 - (intOf i).toNat)
   case atStart => exact ⟨0, rfl, Nat.zero_le _, Lib.hid (fun j hj => absurd hj (Nat.not_lt_zero _)), Q.refl _⟩
   case round =>
    obtain ⟨k, rfl, hkn, HG, kk, rfl⟩ := hrel
    by_cases hlt : k < 2
    ·obtain ⟨l, hl'⟩ : ∃ l, lk[k]? = some l := ⟨_, List.getElem?_eq_getElem (by omega)⟩
     have a12 := hc.out k l hl'
     obtain ⟨a1, a2⟩ := a12
     have AE : Hid (lkA nb 3 lk k = if winB l.bus 0 ((nb : Int) - 1) = true then (if posB 3 l.pos = true then (if 0 < k ∧ (lk[k - 1]?).map Lk.bus = some l.bus then 12 else 0) else 16) else 9) := Lib.hid (by unfold lkA; rw [hl'])
     obtain ⟨bus, pos⟩ := l
     dsimp only at AE a1 a2
     have kk0 : (0 : Int) ≤ (k : Int) := by omega
     have kk1 : (k : Int) < (2 : Int) := by omega
     cases hp : winB bus 0 ((nb : Int) - 1) with
     | false =>
      have AE' : Hid (lkA nb 3 lk k = 9) := Lib.hid (by rw [AE.out, hp]; rfl)
      have hw : bus < 0 ∨ (¬ bus < 0 ∧ (nb : Int) ≤ bus) := by
       simp [winB] at hp
       omega
      clear hl' hp AE
      rcases hw with d0 | ⟨d0, d1⟩
      all_goals
       go_wp2_with fail
       go_ret
       refine ⟨?_, ?_⟩
       ·rw [fstE_hit (k := k) HG.out (by rw [AE'.out]; decide) (by omega), AE'.out]; first | done | rfl
       ·repeat' (first | exact Q.refl _ | refine Q.alloc ?_ _ | refine Q.jk ?_ _ | refine Q.drew ?_)
     | true =>
      rw [if_pos hp] at AE
      have hw : ¬ bus < 0 ∧ ¬ (nb : Int) ≤ bus := by
       simp [winB] at hp
       omega
      obtain ⟨d0, d1⟩ := hw
      clear hp
      cases hpos : posB 3 pos with
      | false =>
       have AE' : Hid (lkA nb 3 lk k = 16) := Lib.hid (by rw [AE.out, if_neg (by rw [hpos]; decide)])
       have hp : pos ≠ 1 ∧ (pos ≠ 0 ∨ 3 = 3) := by simp [posB] at hpos; exact ⟨hpos, .inr rfl⟩
       obtain ⟨hp1, hp2⟩ := hp
       have hp1' : (pos != 1) = true := by simpa using hp1
       clear hl' AE hpos
       have hp0 : pos = 0 ∨ ¬ pos = 0 := Decidable.em _
       rcases hp0 with rfl | hp0
       all_goals
        first | (have hp0' : (pos != 0) = true := by simpa using hp0) | skip
        clear hp2
        go_wp2_with fail
        go_ret
        refine ⟨?_, ?_⟩
        ·rw [fstE_hit (k := k) HG.out (by rw [AE'.out]; decide) (by omega), AE'.out]; first | done | rfl
        ·repeat' (first | exact Q.refl _ | refine Q.alloc ?_ _ | refine Q.jk ?_ _ | refine Q.drew ?_)
      | true =>
       rw [if_pos hpos] at AE
       have hp : pos = 1 ∨ (pos = 0 ∧ 3 ≠ 3) := by
        unfold posB at hpos
        simp only [Bool.or_eq_true, Bool.and_eq_true, decide_eq_true_eq, Bool.not_eq_true', decide_eq_false_iff_not] at hpos
        rcases hpos with h | h
        ·exact .inl h
        ·exact absurd trivial h.2
       clear hpos
       have hk01 : k = 0 ∨ k = 1 := by omega
       rcases hk01 with rfl | rfl
       ·have AE' : Hid (lkA nb 3 lk 0 = 0) := Lib.hid (by rw [AE.out]; rfl)
        clear AE hl'
        rw [Nat.zero_mul, Nat.add_zero] at a1 a2
        rcases hp with rfl | ⟨rfl, h3⟩
        ·go_wp2_with fail
         refine wp_region_jk (by kernel_rfl) (by kernel_rfl) ?_
         repeat (go_big_quiet_step (fail))
         refine wpQuiet_nil ?_
         intro _ hw'
         obtain ⟨kq, rfl⟩ := hw'
         go_wp2_with fail
         go_roundw
         case rel =>
          refine ⟨0 + 1, by go_num, by omega, Lib.hid (fun j hj => ?_), ?_⟩
          ·by_cases e : j = 0
           ·subst e; exact AE'.out
           ·exact HG.out j (by omega)
          ·repeat' (first | exact Q.refl _ | refine Q.alloc ?_ _ | refine Q.jk ?_ _ | refine Q.drew ?_)
         case measure => simp [intOf] <;> omega
        ·exact absurd rfl h3
       ·obtain ⟨l0, hl0⟩ : ∃ l, lk[0]? = some l := ⟨_, List.getElem?_eq_getElem (by omega)⟩
        obtain ⟨z1, z2⟩ := hc.out 0 l0 hl0
        obtain ⟨bus0, pos0⟩ := l0
        dsimp only at z1 z2
        rw [Nat.zero_mul, Nat.add_zero] at z1 z2
        rw [Nat.one_mul] at a1 a2
        have AX : Hid (lkA nb 3 lk 1 = if bus0 = bus then 12 else 0) := Lib.hid (by rw [AE.out]; simp [hl0])
        clear AE hl' hl0
        by_cases hbb : bus0 = bus
        ·have AE' : Hid (lkA nb 3 lk 1 = 12) := Lib.hid (by rw [AX.out, if_pos hbb])
         subst hbb
         clear AX
         rcases hp with rfl | ⟨rfl, h3⟩
         ·go_wp2_with fail
          refine wp_region_jk (by kernel_rfl) (by kernel_rfl) ?_
          repeat (go_big_quiet_step (fail))
          refine wpQuiet_nil ?_
          intro _ hw'
          obtain ⟨kq, rfl⟩ := hw'
          go_wp2_with fail
          go_ret
          refine ⟨?_, ?_⟩
          ·rw [fstE_hit (k := 1) HG.out (by rw [AE'.out]; decide) (by omega), AE'.out]; first | done | rfl
          ·repeat' (first | exact Q.refl _ | refine Q.alloc ?_ _ | refine Q.jk ?_ _ | refine Q.drew ?_)
         ·exact absurd rfl h3
        ·have AE' : Hid (lkA nb 3 lk 1 = 0) := Lib.hid (by rw [AX.out, if_neg hbb])
         have hbb' : (bus == bus0) = false := by simpa using fun e : bus = bus0 => hbb e.symm
         clear AX
         rcases hp with rfl | ⟨rfl, h3⟩
         ·go_wp2_with fail
          refine wp_region_jk (by kernel_rfl) (by kernel_rfl) ?_
          repeat (go_big_quiet_step (fail))
          refine wpQuiet_nil ?_
          intro _ hw'
          obtain ⟨kq, rfl⟩ := hw'
          go_wp2_with fail
          go_roundw
          case rel =>
           refine ⟨1 + 1, by go_num, by omega, Lib.hid (fun j hj => ?_), ?_⟩
           ·by_cases e : j = 1
            ·subst e; exact AE'.out
            ·exact HG.out j (by omega)
           ·repeat' (first | exact Q.refl _ | refine Q.alloc ?_ _ | refine Q.jk ?_ _ | refine Q.drew ?_)
          case measure => simp [intOf] <;> omega
         ·exact absurd rfl h3
    ·have EN : Hid (fstE (lkA nb 3 lk) 2 = 0) := Lib.hid (fstE_none (fun j hj => HG.out j (by omega)))
     obtain rfl : 2 = k := by omega
     go_wp2_with fail
     go_ret
     refine ⟨by rw [EN.out]; first | done | rfl, ?_⟩
     repeat' (first | exact Q.refl _ | refine Q.alloc ?_ _ | refine Q.jk ?_ _ | refine Q.drew ?_)

  ·have k3' : (kd == 3) = false := by simpa using k3
   clear hk
   go_enter Tryz.func80, Tryz.ntmps80
   go_wp2_with fail
   go_loopw [6] (fun i wr => ∃ k : Nat, i = .int .i64 k ∧ k ≤ ln ∧ Hid (∀ j, j < k → lkA nb kd lk j = 0) ∧ Q ((w.alloc (Obj.cells #[Value.string s.nm, Value.slice s.aB nb s.cB, Value.slice s.aL s.lines.length s.cL, Value.slice s.aS s.srcs.length s.cS, Value.slice s.aY s.bays.length s.cY] 27)).alloc (Obj.cells #[Value.string nm, Value.int .i64 kd, Value.int .i64 of, Value.int .i64 en, Value.int .i64 zr, Value.int .i64 zx, Value.slice (some ⟨g, o, none⟩) ln lc, Value.bool cl, Value.int .i64 ct, Value.int .i64 vt, Value.int .i64 sa, Value.int .i64 tr] 91)) wr) (fun i _ => ln - (intOf i).toNat)
   case atStart => exact ⟨0, rfl, Nat.zero_le _, Lib.hid (fun j hj => absurd hj (Nat.not_lt_zero _)), Q.refl _⟩
   case round =>
    obtain ⟨k, rfl, hkn, HG, kk, rfl⟩ := hrel
    by_cases hlt : k < ln
    ·obtain ⟨l, hl'⟩ : ∃ l, lk[k]? = some l := ⟨_, List.getElem?_eq_getElem (by omega)⟩
     have a12 := hc.out k l hl'
     obtain ⟨a1, a2⟩ := a12
     have AE : Hid (lkA nb kd lk k = if winB l.bus 0 ((nb : Int) - 1) = true then (if posB kd l.pos = true then (if 0 < k ∧ (lk[k - 1]?).map Lk.bus = some l.bus then 12 else 0) else 16) else 9) := Lib.hid (by unfold lkA; rw [hl'])
     obtain ⟨bus, pos⟩ := l
     dsimp only at AE a1 a2
     have kk0 : (0 : Int) ≤ (k : Int) := by omega
     have kk1 : (k : Int) < (ln : Int) := by omega
     cases hp : winB bus 0 ((nb : Int) - 1) with
     | false =>
      have AE' : Hid (lkA nb kd lk k = 9) := Lib.hid (by rw [AE.out, hp]; rfl)
      have hw : bus < 0 ∨ (¬ bus < 0 ∧ (nb : Int) ≤ bus) := by
       simp [winB] at hp
       omega
      clear hl' hp AE
      rcases hw with d0 | ⟨d0, d1⟩
      all_goals
       go_wp2_with fail
       go_ret
       refine ⟨?_, ?_⟩
       ·rw [fstE_hit (k := k) HG.out (by rw [AE'.out]; decide) (by omega), AE'.out]; first | done | rfl
       ·repeat' (first | exact Q.refl _ | refine Q.alloc ?_ _ | refine Q.jk ?_ _ | refine Q.drew ?_)
     | true =>
      rw [if_pos hp] at AE
      have hw : ¬ bus < 0 ∧ ¬ (nb : Int) ≤ bus := by
       simp [winB] at hp
       omega
      obtain ⟨d0, d1⟩ := hw
      clear hp
      cases hpos : posB kd pos with
      | false =>
       have AE' : Hid (lkA nb kd lk k = 16) := Lib.hid (by rw [AE.out, if_neg (by rw [hpos]; decide)])
       have hp : pos ≠ 1 ∧ (pos ≠ 0 ∨ kd = 3) := by simp [posB] at hpos; exact ⟨hpos.1, .inl (fun e => k3 (hpos.2 e))⟩
       obtain ⟨hp1, hp2⟩ := hp
       have hp1' : (pos != 1) = true := by simpa using hp1
       clear hl' AE hpos
       have hp0 : ¬ pos = 0 := hp2.resolve_right k3
       all_goals
        first | (have hp0' : (pos != 0) = true := by simpa using hp0) | skip
        clear hp2
        go_wp2_with fail
        go_ret
        refine ⟨?_, ?_⟩
        ·rw [fstE_hit (k := k) HG.out (by rw [AE'.out]; decide) (by omega), AE'.out]; first | done | rfl
        ·repeat' (first | exact Q.refl _ | refine Q.alloc ?_ _ | refine Q.jk ?_ _ | refine Q.drew ?_)
      | true =>
       rw [if_pos hpos] at AE
       have hp : pos = 1 ∨ (pos = 0 ∧ kd ≠ 3) := by
        unfold posB at hpos
        simp only [Bool.or_eq_true, Bool.and_eq_true, decide_eq_true_eq, Bool.not_eq_true', decide_eq_false_iff_not] at hpos
        rcases hpos with h | h
        ·exact .inl h
        ·exact .inr h
       clear hpos
       have hk01 : k = 0 ∨ k = 1 := by omega
       rcases hk01 with rfl | rfl
       ·have AE' : Hid (lkA nb kd lk 0 = 0) := Lib.hid (by rw [AE.out]; rfl)
        clear AE hl'
        rw [Nat.zero_mul, Nat.add_zero] at a1 a2
        rcases hp with rfl | ⟨rfl, h3⟩
        ·go_wp2_with fail
         refine wp_region_jk (by kernel_rfl) (by kernel_rfl) ?_
         repeat (go_big_quiet_step (fail))
         refine wpQuiet_nil ?_
         intro _ hw'
         obtain ⟨kq, rfl⟩ := hw'
         go_wp2_with fail
         go_roundw
         case rel =>
          refine ⟨0 + 1, by go_num, by omega, Lib.hid (fun j hj => ?_), ?_⟩
          ·by_cases e : j = 0
           ·subst e; exact AE'.out
           ·exact HG.out j (by omega)
          ·repeat' (first | exact Q.refl _ | refine Q.alloc ?_ _ | refine Q.jk ?_ _ | refine Q.drew ?_)
         case measure => simp [intOf] <;> omega
        ·go_wp2_with fail
         refine wp_region_jk (by kernel_rfl) (by kernel_rfl) ?_
         repeat (go_big_quiet_step (fail))
         refine wpQuiet_nil ?_
         intro _ hw'
         obtain ⟨kq, rfl⟩ := hw'
         go_wp2_with fail
         go_roundw
         case rel =>
          refine ⟨0 + 1, by go_num, by omega, Lib.hid (fun j hj => ?_), ?_⟩
          ·by_cases e : j = 0
           ·subst e; exact AE'.out
           ·exact HG.out j (by omega)
          ·repeat' (first | exact Q.refl _ | refine Q.alloc ?_ _ | refine Q.jk ?_ _ | refine Q.drew ?_)
         case measure => simp [intOf] <;> omega
       ·obtain ⟨l0, hl0⟩ : ∃ l, lk[0]? = some l := ⟨_, List.getElem?_eq_getElem (by omega)⟩
        obtain ⟨z1, z2⟩ := hc.out 0 l0 hl0
        obtain ⟨bus0, pos0⟩ := l0
        dsimp only at z1 z2
        rw [Nat.zero_mul, Nat.add_zero] at z1 z2
        rw [Nat.one_mul] at a1 a2
        have AX : Hid (lkA nb kd lk 1 = if bus0 = bus then 12 else 0) := Lib.hid (by rw [AE.out]; simp [hl0])
        clear AE hl' hl0
        by_cases hbb : bus0 = bus
        ·have AE' : Hid (lkA nb kd lk 1 = 12) := Lib.hid (by rw [AX.out, if_pos hbb])
         subst hbb
         clear AX
         rcases hp with rfl | ⟨rfl, h3⟩
         ·go_wp2_with fail
          refine wp_region_jk (by kernel_rfl) (by kernel_rfl) ?_
          repeat (go_big_quiet_step (fail))
          refine wpQuiet_nil ?_
          intro _ hw'
          obtain ⟨kq, rfl⟩ := hw'
          go_wp2_with fail
          go_ret
          refine ⟨?_, ?_⟩
          ·rw [fstE_hit (k := 1) HG.out (by rw [AE'.out]; decide) (by omega), AE'.out]; first | done | rfl
          ·repeat' (first | exact Q.refl _ | refine Q.alloc ?_ _ | refine Q.jk ?_ _ | refine Q.drew ?_)
         ·go_wp2_with fail
          refine wp_region_jk (by kernel_rfl) (by kernel_rfl) ?_
          repeat (go_big_quiet_step (fail))
          refine wpQuiet_nil ?_
          intro _ hw'
          obtain ⟨kq, rfl⟩ := hw'
          go_wp2_with fail
          go_ret
          refine ⟨?_, ?_⟩
          ·rw [fstE_hit (k := 1) HG.out (by rw [AE'.out]; decide) (by omega), AE'.out]; first | done | rfl
          ·repeat' (first | exact Q.refl _ | refine Q.alloc ?_ _ | refine Q.jk ?_ _ | refine Q.drew ?_)
        ·have AE' : Hid (lkA nb kd lk 1 = 0) := Lib.hid (by rw [AX.out, if_neg hbb])
         have hbb' : (bus == bus0) = false := by simpa using fun e : bus = bus0 => hbb e.symm
         clear AX
         rcases hp with rfl | ⟨rfl, h3⟩
         ·go_wp2_with fail
          refine wp_region_jk (by kernel_rfl) (by kernel_rfl) ?_
          repeat (go_big_quiet_step (fail))
          refine wpQuiet_nil ?_
          intro _ hw'
          obtain ⟨kq, rfl⟩ := hw'
          go_wp2_with fail
          go_roundw
          case rel =>
           refine ⟨1 + 1, by go_num, by omega, Lib.hid (fun j hj => ?_), ?_⟩
           ·by_cases e : j = 1
            ·subst e; exact AE'.out
            ·exact HG.out j (by omega)
           ·repeat' (first | exact Q.refl _ | refine Q.alloc ?_ _ | refine Q.jk ?_ _ | refine Q.drew ?_)
          case measure => simp [intOf] <;> omega
         ·go_wp2_with fail
          refine wp_region_jk (by kernel_rfl) (by kernel_rfl) ?_
          repeat (go_big_quiet_step (fail))
          refine wpQuiet_nil ?_
          intro _ hw'
          obtain ⟨kq, rfl⟩ := hw'
          go_wp2_with fail
          go_roundw
          case rel =>
           refine ⟨1 + 1, by go_num, by omega, Lib.hid (fun j hj => ?_), ?_⟩
           ·by_cases e : j = 1
            ·subst e; exact AE'.out
            ·exact HG.out j (by omega)
           ·repeat' (first | exact Q.refl _ | refine Q.alloc ?_ _ | refine Q.jk ?_ _ | refine Q.drew ?_)
          case measure => simp [intOf] <;> omega
    ·have EN : Hid (fstE (lkA nb kd lk) ln = 0) := Lib.hid (fstE_none (fun j hj => HG.out j (by omega)))
     obtain rfl : ln = k := by omega
     go_wp2_with fail
     go_ret
     refine ⟨by rw [EN.out]; first | done | rfl, ?_⟩
     repeat' (first | exact Q.refl _ | refine Q.alloc ?_ _ | refine Q.jk ?_ _ | refine Q.drew ?_)

set_option maxRecDepth 100000 in
set_option maxHeartbeats 16000000 in
theorem r5bay_c (s : Sta) (i : Nat) (y : Byr) (w : World) (hst : StAt w s) (hy : s.bays[i]? = some y) (hB : s.buses.length < 1000) (hL : s.lines.length < 1000) (hS : s.srcs.length < 1000) (hY : s.bays.length < 1000) :
  Calls Tryz.prog 47 #[.agg #[Value.string s.nm, Value.slice s.aB s.buses.length s.cB, Value.slice s.aL s.lines.length s.cL, Value.slice s.aS s.srcs.length s.cS, Value.slice s.aY s.bays.length s.cY], .int .i64 i] w fun e w' => e = .returned (.int .i64 (byX s.buses.length s.lines.length s.srcs.length (s.bays.take i) y (s.lks i))) ∧ Q w w' := by
 have HST := Lib.hid hst
 have hi := (List.getElem?_eq_some_iff.1 hy).1
 obtain ⟨g, o, eA, og, hc⟩ := hst.bayAt hy
 have q0 : w.cell? ⟨g, o + i * 12, none⟩ = some (Value.string y.nm) := hc.out 0 _ rfl
 have q1 : w.cell? ⟨g, o + i * 12 + 1, none⟩ = some (Value.int .i64 y.kd) := hc.out 1 _ rfl
 have q2 : w.cell? ⟨g, o + i * 12 + 2, none⟩ = some (Value.int .i64 y.of) := hc.out 2 _ rfl
 have q3 : w.cell? ⟨g, o + i * 12 + 3, none⟩ = some (Value.int .i64 y.en) := hc.out 3 _ rfl
 have q4 : w.cell? ⟨g, o + i * 12 + 4, none⟩ = some (Value.int .i64 y.zr) := hc.out 4 _ rfl
 have q5 : w.cell? ⟨g, o + i * 12 + 5, none⟩ = some (Value.int .i64 y.zx) := hc.out 5 _ rfl
 have q6 : w.cell? ⟨g, o + i * 12 + 6, none⟩ = some (Value.slice y.la y.ln y.lc) := hc.out 6 _ rfl
 have q7 : w.cell? ⟨g, o + i * 12 + 7, none⟩ = some (Value.bool y.cl) := hc.out 7 _ rfl
 have q8 : w.cell? ⟨g, o + i * 12 + 8, none⟩ = some (Value.int .i64 y.ct) := hc.out 8 _ rfl
 have q9 : w.cell? ⟨g, o + i * 12 + 9, none⟩ = some (Value.int .i64 y.vt) := hc.out 9 _ rfl
 have q10 : w.cell? ⟨g, o + i * 12 + 10, none⟩ = some (Value.int .i64 y.sa) := hc.out 10 _ rfl
 have q11 : w.cell? ⟨g, o + i * 12 + 11, none⟩ = some (Value.int .i64 y.tr) := hc.out 11 _ rfl
 have hlk := hst.lk i y hy
 have LKS := Lib.hid fun (w' : World) (hq : Q w w') => r5links_c s y (s.lks i) w' (hlk.1.q hq) hB hlk.2
 have OB := Lib.hid fun w' => r5object_c s y.nm y.kd y.of y.en y.zr y.zx y.la y.ln y.lc y.cl y.ct y.vt y.sa y.tr w' hL hS
 have RG := Lib.hid fun w' => r5ranges_c y.nm y.kd y.of y.en y.zr y.zx y.la y.ln y.lc y.cl y.ct y.vt y.sa y.tr w'
 have i0 : (0 : Int) ≤ (i : Int) := by omega
 have i1 : (i : Int) < (s.bays.length : Int) := by omega
 have i9 : (s.bays.length : Int) < 1000 := by omega
 obtain ⟨E, hE⟩ : ∃ E, byX s.buses.length s.lines.length s.srcs.length (s.bays.take i) y (s.lks i) = E := ⟨_, rfl⟩
 rw [hE]
 unfold byX at hE
 have EA := Lib.hid eA
 rw [eA] at OB LKS ⊢
 clear eA hc hlk hst
 obtain ⟨eo, heo⟩ : ∃ e, obE s.lines.length s.srcs.length y.kd y.of = e := ⟨_, rfl⟩
 rw [heo] at hE OB
 clear heo
 by_cases hz : eo = 0
 ·subst hz
  rw [if_pos rfl] at hE
  generalize rgB y.kd y.en y.zr y.zx y.ct y.vt y.sa y.tr = pR at RG hE
  cases pR with
  | false =>
   have HE : Hid (E = 2) := Lib.hid (by rw [← hE]; rfl)
   clear hE hy
   go_enter Tryz.func47, Tryz.ntmps47
   go_wp2_with (first
    | (go_at_call 78; (with_reducible refine (OB.out _).mono ?_); rintro e w' ⟨rfl, ko, rfl⟩)
    | (go_at_call 79; (with_reducible refine (RG.out _).mono ?_); rintro e w' ⟨rfl, kr, rfl⟩)
    | (go_at_call 80; (with_reducible refine (LKS.out _ (by repeat' (first | exact Q.refl _ | refine Q.alloc ?_ _ | refine Q.jk ?_ _ | refine Q.drew ?_))).mono ?_); rintro e w' ⟨rfl, kl, rfl⟩)
    | fail)
   go_ret
   exact ⟨by rw [HE.out]; first | done | rfl, (by repeat' (first | exact Q.refl _ | refine Q.alloc ?_ _ | refine Q.jk ?_ _ | refine Q.drew ?_))⟩
  | true =>
   have HE := Lib.hid hE
   have HCF : Hid (∀ j p, j < i → s.bays[j]? = some p → cfB y p = true → E = 12) := Lib.hid (fun j p hj hp hcf => by
    rw [← hE, if_pos rfl, if_pos (show cfL (s.bays.take i) y = true from List.any_eq_true.2 ⟨p, List.mem_of_getElem? (i := j) (by rw [List.getElem?_take, if_pos hj]; exact hp), hcf⟩)])
   have HLK : Hid ((∀ j p, j < i → s.bays[j]? = some p → cfB y p = false) → E = lkE s.buses.length y.kd (s.lks i)) := Lib.hid (fun h => by
    rw [← hE, if_pos rfl, if_neg]
    intro hc
    obtain ⟨p, hp, hcf⟩ := List.any_eq_true.1 hc
    obtain ⟨j, hj⟩ := List.getElem?_of_mem hp
    rw [List.getElem?_take] at hj
    split at hj
    ·rename_i hji
     rw [h j p hji hj] at hcf
     cases hcf
    ·cases hj)
   clear hE hy HE
   by_cases k3 : y.kd = 3
   ·have k3b : (y.kd != 3) = false := by simpa using k3
    have HE2 : Hid (E = lkE s.buses.length y.kd (s.lks i)) := Lib.hid (HLK.out fun j p _ _ => by simp [cfB, k3])
    rw [← HE2.out] at LKS
    clear k3 HCF HLK
    go_enter Tryz.func47, Tryz.ntmps47
    go_wp2_with (first
     | (go_at_call 78; (with_reducible refine (OB.out _).mono ?_); rintro e w' ⟨rfl, ko, rfl⟩)
     | (go_at_call 79; (with_reducible refine (RG.out _).mono ?_); rintro e w' ⟨rfl, kr, rfl⟩)
     | (go_at_call 80; (with_reducible refine (LKS.out _ (by repeat' (first | exact Q.refl _ | refine Q.alloc ?_ _ | refine Q.jk ?_ _ | refine Q.drew ?_))).mono ?_); rintro e w' ⟨rfl, kl, rfl⟩)
     | fail)
    go_loopw [7] (fun i' wr => i' = .int .i64 0 ∧ Q ((w.alloc (Obj.cells #[Value.string s.nm, Value.slice s.aB s.buses.length s.cB, Value.slice s.aL s.lines.length s.cL, Value.slice s.aS s.srcs.length s.cS, Value.slice (some ⟨g, o, none⟩) s.bays.length s.cY] 27)).alloc (Obj.cells #[Value.string y.nm, Value.int .i64 y.kd, Value.int .i64 y.of, Value.int .i64 y.en, Value.int .i64 y.zr, Value.int .i64 y.zx, Value.slice y.la y.ln y.lc, Value.bool y.cl, Value.int .i64 y.ct, Value.int .i64 y.vt, Value.int .i64 y.sa, Value.int .i64 y.tr] 91)) wr) (fun _ _ => 0)
    case atStart => exact ⟨rfl, (by repeat' (first | exact Q.refl _ | refine Q.alloc ?_ _ | refine Q.jk ?_ _ | refine Q.drew ?_))⟩
    case round =>
    obtain ⟨rfl, kk, rfl⟩ := hrel
    by_cases hi0 : (0 : Int) < (i : Int)
    all_goals
     go_wp2_with (first
      | (go_at_call 78; (with_reducible refine (OB.out _).mono ?_); rintro e w' ⟨rfl, ko, rfl⟩)
      | (go_at_call 79; (with_reducible refine (RG.out _).mono ?_); rintro e w' ⟨rfl, kr, rfl⟩)
      | (go_at_call 80; (with_reducible refine (LKS.out _ (by repeat' (first | exact Q.refl _ | refine Q.alloc ?_ _ | refine Q.jk ?_ _ | refine Q.drew ?_))).mono ?_); rintro e w' ⟨rfl, kl, rfl⟩)
      | fail)
     go_ret
     exact ⟨rfl, (by repeat' (first | exact Q.refl _ | refine Q.alloc ?_ _ | refine Q.jk ?_ _ | refine Q.drew ?_))⟩
   ·have k3b : (y.kd != 3) = true := by simpa using k3
    go_enter Tryz.func47, Tryz.ntmps47
    go_wp2_with (first
     | (go_at_call 78; (with_reducible refine (OB.out _).mono ?_); rintro e w' ⟨rfl, ko, rfl⟩)
     | (go_at_call 79; (with_reducible refine (RG.out _).mono ?_); rintro e w' ⟨rfl, kr, rfl⟩)
     | (go_at_call 80; (with_reducible refine (LKS.out _ (by repeat' (first | exact Q.refl _ | refine Q.alloc ?_ _ | refine Q.jk ?_ _ | refine Q.drew ?_))).mono ?_); rintro e w' ⟨rfl, kl, rfl⟩)
     | fail)
    go_loopw [7] (fun i' wr => ∃ k : Nat, i' = .int .i64 k ∧ k ≤ i ∧ Hid (∀ j p, j < k → s.bays[j]? = some p → cfB y p = false) ∧ Q ((w.alloc (Obj.cells #[Value.string s.nm, Value.slice s.aB s.buses.length s.cB, Value.slice s.aL s.lines.length s.cL, Value.slice s.aS s.srcs.length s.cS, Value.slice (some ⟨g, o, none⟩) s.bays.length s.cY] 27)).alloc (Obj.cells #[Value.string y.nm, Value.int .i64 y.kd, Value.int .i64 y.of, Value.int .i64 y.en, Value.int .i64 y.zr, Value.int .i64 y.zx, Value.slice y.la y.ln y.lc, Value.bool y.cl, Value.int .i64 y.ct, Value.int .i64 y.vt, Value.int .i64 y.sa, Value.int .i64 y.tr] 91)) wr) (fun i' _ => i - (intOf i').toNat)
    case atStart => exact ⟨0, rfl, Nat.zero_le _, Lib.hid (fun j p hj => absurd hj (Nat.not_lt_zero _)), (by repeat' (first | exact Q.refl _ | refine Q.alloc ?_ _ | refine Q.jk ?_ _ | refine Q.drew ?_))⟩
    case round =>
    obtain ⟨k, rfl, hk, HG, kk, rfl⟩ := hrel
    by_cases hlt : k < i
    ·obtain ⟨p, hp⟩ : ∃ p, s.bays[k]? = some p := ⟨_, List.getElem?_eq_getElem (by omega)⟩
     obtain ⟨g', o', eA', og', hc⟩ := HST.out.bayAt hp
     rw [EA.out] at eA'
     injection eA' with e2
     injection e2 with e3 e4 e5
     subst e3
     subst e4
     have p1 : w.cell? ⟨g, o + k * 12 + 1, none⟩ = some (Value.int .i64 p.kd) := hc.out 1 _ rfl
     have p2 : w.cell? ⟨g, o + k * 12 + 2, none⟩ = some (Value.int .i64 p.of) := hc.out 2 _ rfl
     have p3 : w.cell? ⟨g, o + k * 12 + 3, none⟩ = some (Value.int .i64 p.en) := hc.out 3 _ rfl
     have k0 : (0 : Int) ≤ (k : Int) := by omega
     have k1 : (k : Int) < (i : Int) := by omega
     have k2 : (k : Int) < (s.bays.length : Int) := by omega
     have HP := Lib.hid hp
     clear hc e5
     cases hcf : cfB y p with
     | true =>
      have HE0 : Hid (E = 12) := Lib.hid (HCF.out k p hlt hp hcf)
      have hcf' : y.kd = p.kd ∧ y.of = p.of ∧ y.en = p.en := by
       unfold cfB at hcf
       simp only [Bool.and_eq_true, decide_eq_true_eq] at hcf
       exact ⟨hcf.1.1.2, hcf.1.2, hcf.2⟩
      obtain ⟨d1, d2, d3⟩ := hcf'
      have b1 : (p.kd == y.kd) = true := by simpa using d1.symm
      have b2 : (p.of == y.of) = true := by simpa using d2.symm
      have b3 : (p.en == y.en) = true := by simpa using d3.symm
      clear hp hcf d1 d2 d3
      go_wp2_with fail
      refine wp_region_jk (by kernel_rfl) (by kernel_rfl) ?_
      repeat (go_big_quiet_step (fail))
      refine wpQuiet_nil ?_
      intro _ hw'
      obtain ⟨kq, rfl⟩ := hw'
      go_wp2_with fail
      go_ret
      exact ⟨by rw [HE0.out]; first | done | rfl, (by repeat' (first | exact Q.refl _ | refine Q.alloc ?_ _ | refine Q.jk ?_ _ | refine Q.drew ?_))⟩
     | false =>
      have HC := Lib.hid hcf
      have hw : (y.kd ≠ p.kd) ∨ (y.kd = p.kd ∧ y.of ≠ p.of) ∨ (y.kd = p.kd ∧ y.of = p.of ∧ y.en ≠ p.en) := by
       unfold cfB at hcf
       by_cases a1 : y.kd = p.kd
       ·by_cases a2 : y.of = p.of
        ·by_cases a3 : y.en = p.en
         ·simp [a1, a2, a3] at hcf
          exact absurd (a1.trans hcf) k3
         ·exact .inr (.inr ⟨a1, a2, a3⟩)
        ·exact .inr (.inl ⟨a1, a2⟩)
       ·exact .inl a1
      clear hcf
      rcases hw with d1 | ⟨d1, d2⟩ | ⟨d1, d2, d3⟩
      ·have b1 : (p.kd == y.kd) = false := by simpa using fun e : p.kd = y.kd => d1 e.symm
       clear hp d1
       go_wp2_with fail
       refine wp_region_jk (by kernel_rfl) (by kernel_rfl) ?_
       repeat (go_big_quiet_step (fail))
       refine wpQuiet_nil ?_
       intro _ hw'
       obtain ⟨kq, rfl⟩ := hw'
       go_wp2_with fail
       go_roundw
       case rel =>
        refine ⟨k + 1, by go_num, by omega, Lib.hid (fun j q hj hq => ?_), (by repeat' (first | exact Q.refl _ | refine Q.alloc ?_ _ | refine Q.jk ?_ _ | refine Q.drew ?_))⟩
        by_cases e : j = k
        ·subst e
         rw [HP.out] at hq
         obtain rfl := Option.some.inj hq
         exact HC.out
        ·exact HG.out j q (by omega) hq
       case measure => simp [intOf] <;> omega
      ·have b1 : (p.kd == y.kd) = true := by simpa using d1.symm
       have b2 : (p.of == y.of) = false := by simpa using fun e : p.of = y.of => d2 e.symm
       clear hp d1 d2
       go_wp2_with fail
       refine wp_region_jk (by kernel_rfl) (by kernel_rfl) ?_
       repeat (go_big_quiet_step (fail))
       refine wpQuiet_nil ?_
       intro _ hw'
       obtain ⟨kq, rfl⟩ := hw'
       go_wp2_with fail
       go_roundw
       case rel =>
        refine ⟨k + 1, by go_num, by omega, Lib.hid (fun j q hj hq => ?_), (by repeat' (first | exact Q.refl _ | refine Q.alloc ?_ _ | refine Q.jk ?_ _ | refine Q.drew ?_))⟩
        by_cases e : j = k
        ·subst e
         rw [HP.out] at hq
         obtain rfl := Option.some.inj hq
         exact HC.out
        ·exact HG.out j q (by omega) hq
       case measure => simp [intOf] <;> omega
      ·have b1 : (p.kd == y.kd) = true := by simpa using d1.symm
       have b2 : (p.of == y.of) = true := by simpa using d2.symm
       have b3 : (p.en == y.en) = false := by simpa using fun e : p.en = y.en => d3 e.symm
       clear hp d1 d2 d3
       go_wp2_with fail
       refine wp_region_jk (by kernel_rfl) (by kernel_rfl) ?_
       repeat (go_big_quiet_step (fail))
       refine wpQuiet_nil ?_
       intro _ hw'
       obtain ⟨kq, rfl⟩ := hw'
       go_wp2_with fail
       go_roundw
       case rel =>
        refine ⟨k + 1, by go_num, by omega, Lib.hid (fun j q hj hq => ?_), (by repeat' (first | exact Q.refl _ | refine Q.alloc ?_ _ | refine Q.jk ?_ _ | refine Q.drew ?_))⟩
        by_cases e : j = k
        ·subst e
         rw [HP.out] at hq
         obtain rfl := Option.some.inj hq
         exact HC.out
        ·exact HG.out j q (by omega) hq
       case measure => simp [intOf] <;> omega
    ·obtain rfl : i = k := by omega
     have HE2 : Hid (E = lkE s.buses.length y.kd (s.lks i)) := Lib.hid (HLK.out HG.out)
     rw [← HE2.out] at LKS
     clear HCF HLK
     go_wp2_with (first
      | (go_at_call 78; (with_reducible refine (OB.out _).mono ?_); rintro e w' ⟨rfl, ko, rfl⟩)
      | (go_at_call 79; (with_reducible refine (RG.out _).mono ?_); rintro e w' ⟨rfl, kr, rfl⟩)
      | (go_at_call 80; (with_reducible refine (LKS.out _ (by repeat' (first | exact Q.refl _ | refine Q.alloc ?_ _ | refine Q.jk ?_ _ | refine Q.drew ?_))).mono ?_); rintro e w' ⟨rfl, kl, rfl⟩)
      | fail)
     go_ret
     exact ⟨rfl, (by repeat' (first | exact Q.refl _ | refine Q.alloc ?_ _ | refine Q.jk ?_ _ | refine Q.drew ?_))⟩
 ·have HE : Hid (E = eo) := Lib.hid (by rw [← hE, if_neg hz])
  have z' : (eo != 0) = true := by simpa using hz
  clear hE hy hz
  go_enter Tryz.func47, Tryz.ntmps47
  go_wp2_with (first
   | (go_at_call 78; (with_reducible refine (OB.out _).mono ?_); rintro e w' ⟨rfl, ko, rfl⟩)
   | (go_at_call 79; (with_reducible refine (RG.out _).mono ?_); rintro e w' ⟨rfl, kr, rfl⟩)
   | (go_at_call 80; (with_reducible refine (LKS.out _ (by repeat' (first | exact Q.refl _ | refine Q.alloc ?_ _ | refine Q.jk ?_ _ | refine Q.drew ?_))).mono ?_); rintro e w' ⟨rfl, kl, rfl⟩)
   | fail)
  go_ret
  exact ⟨by rw [HE.out]; first | done | rfl, (by repeat' (first | exact Q.refl _ | refine Q.alloc ?_ _ | refine Q.jk ?_ _ | refine Q.drew ?_))⟩
end Go.Proofs.YtcjflafjmdfanaaGreatDoor

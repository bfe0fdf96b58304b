
/- What the helpers of the laws of differential return. -/
import Derived.Test.YtlhapbajllpcnaaDfB
import Derived.Test.YtlhapbajllpcnaaDfC
import Derived.Test.YtlhapbajllpcnaaSuN
import Derived.IntWalk
namespace Go.Sub
def fineC (c : Cur) : Cur := ⟨⟨c.i.a.tmod 16384, c.i.b.tmod 16384, c.i.c.tmod 16384, c.i.d.tmod 16384⟩, 1 + c.r % 100, c.v⟩
def fineL (l : List Cur) : List Cur := (l.take 15).map fineC
theorem fineC_in (c : Cur) : (fineC c).i.In 16383 := by
  have h1 := tmod_in c.i.a (show (0 : Int) < 16384 by decide)
  have h2 := tmod_in c.i.b (show (0 : Int) < 16384 by decide)
  have h3 := tmod_in c.i.c (show (0 : Int) < 16384 by decide)
  have h4 := tmod_in c.i.d (show (0 : Int) < 16384 by decide)
  unfold Cy.In fineC
  dsimp only
  omega
theorem fineC_ok (c : Cur) : (fineC c).OK := ⟨(fineC_in c).mono (by decide), by unfold fineC; dsimp only; omega, by unfold fineC; dsimp only; omega⟩
theorem fineL_ok (l : List Cur) : ∀ c ∈ fineL l, c.OK := by
  intro c hc
  obtain ⟨d, _, rfl⟩ := List.mem_map.1 hc
  exact fineC_ok d
theorem fineL_len (l : List Cur) : (fineL l).length ≤ 15 := by unfold fineL; rw [List.length_map, List.length_take]; omega
end Go.Sub
namespace Go.Proofs.Ytlhapbajllpcnaa
open Go.RowKit Go.Sub
set_option maxHeartbeats 1000000 in
theorem within23_any (n m : Int) (w : World) (h0 : 0 < m) (h1 : m ≤ 1000000000000000000) :
    Calls Try.prog 35 #[.int .i64 n, .int .i64 m] w fun e w' => e = .returned (.int .i64 (n % m)) ∧ w = w' := by
  have hb := tmod_in n h0
  obtain ⟨hb1, hb2⟩ := hb
  obtain ⟨k1, k2⟩ := tmod_mod n m h0
  have K1 := Lib.hid k1
  have K2 := Lib.hid k2
  clear k1 k2
  by_cases hn : n.tmod m < 0
  · go_enter Try.func35, Try.ntmps35
    go_wp2
    go_ret
    exact ⟨by rw [← K1.out hn]; rfl, rfl⟩
  · go_enter Try.func35, Try.ntmps35
    go_wp2
    go_ret
    exact ⟨by rw [← K2.out (by omega)]; rfl, rfl⟩
set_option maxHeartbeats 1000000 in
theorem settings23_any (a b c : Int) (w : World) :
    Calls Try.prog 34 #[.agg #[.int .i64 a, .int .i64 b, .int .i64 c]] w fun e w' => e = .returned (.tuple #[.int .i64 (1 + a % 100000), .int .i64 (b % (1 + c % 100 + 1)), .int .i64 (1 + c % 100)]) ∧ Q w w' := by
  have E1 : IntKind.i64.wrap (1 + a % 100000) = 1 + a % 100000 := IntWalk.i64_in _ (by omega)
  have E2 : IntKind.i64.wrap (1 + c % 100) = 1 + c % 100 := IntWalk.i64_in _ (by omega)
  have E3 : IntKind.i64.wrap (1 + c % 100 + 1) = 1 + c % 100 + 1 := IntWalk.i64_in _ (by omega)
  go_enter Try.func34, Try.ntmps34
  go_wp2_with (go_at_call 35; refine (within23_any _ _ _ (by omega) (by omega)).mono ?_; rintro e w' ⟨rfl, rfl⟩)
  try simp only [List.append]
  refine wp_region_jk (by kernel_rfl) (by kernel_rfl) ?_
  repeat (go_big_quiet_step ((go_at_call 35; exact Calls.jk_of_same (within23_any _ _ _ (by omega) (by omega)))))
  refine wpQuiet_nil ?_
  intro _ hw'
  obtain ⟨kq, rfl⟩ := hw'
  go_wp2
  go_ret3
  refine ⟨rfl, ?_⟩
  repeat' (first | exact Q.refl _ | refine Q.alloc ?_ _ | refine Q.jk ?_ _ | refine Q.drew ?_)
/-- The slice with the base A reads as the list l. -/
def CurArg (w : World) (A : Option Addr) (l : List Cur) : Prop := l ≠ [] → ∃ g o, A = some ⟨g, o, none⟩ ∧ RdC w g o l
def RetRow (l : List Cur) (w : World) (e : Ending) (w' : World) : Prop := ∃ v k, e = .returned v ∧ w' = w.jk k ∧ RowC w (w.jk k) v l
set_option maxRecDepth 100000 in
set_option maxHeartbeats 4000000 in
theorem fine23_c (A : Option Addr) (n cap : Nat) (l : List Cur) (w : World) (hn : l.length = n) (hA : CurArg w A l) (hw : n ≤ 9223372036854775807) :
    Calls Try.prog 33 #[.slice A n cap] w (RetRow (fineL l) w) := by
  have HN := Lib.hid hn
  have HA := Lib.hid hA
  clear hn hA
  go_enter Try.func33, Try.ntmps33
  go_wp2
  go_loopw [3, 4] (fun v i wr => ∃ k : Nat, k ≤ 15 ∧ k ≤ n ∧ i = .int .i64 k ∧ Q w wr ∧ RowC w wr v ((l.take k).map fineC)) (fun _ i _ => 15 - (intOf i).toNat)
  case atStart => exact ⟨0, by omega, by omega, rfl, Q.refl _, RowC.nil _ _⟩
  case round =>
    obtain ⟨k, hk, hkn, rfl, ⟨kw, rfl⟩, hrow⟩ := hrel
    obtain ⟨M, hM⟩ : ∃ M, (l.take k).map fineC = M := ⟨_, rfl⟩
    rw [hM] at hrow
    have HR := Lib.hid hrow
    have HM := Lib.hid hM
    clear hrow hM
    by_cases h1 : k < n
    · by_cases h2 : k < 15
      · have hkl : k < l.length := by rw [HN.out]; exact h1
        obtain ⟨c, hc⟩ : ∃ c, l[k]? = some c := ⟨_, List.getElem?_eq_getElem hkl⟩
        obtain ⟨g, o, rfl, hrd⟩ := HA.out (by intro e; rw [e] at hkl; simp at hkl)
        haveI := hrd.old (by intro e; rw [e] at hkl; simp at hkl)
        obtain ⟨c1, c2, c3, c4, c5, c6⟩ := hrd k c hc
        have EK : Hid ((l.take (k + 1)).map fineC = M ++ [fineC c]) := Lib.hid (by rw [← HM.out, List.take_add_one, hc, List.map_append]; rfl)
        have EL : Hid (M.length = k) := Lib.hid (by rw [← HM.out, List.length_map, List.length_take]; omega)
        clear hc hkl hrd
        go_wp2
        refine wp_loop_rounds 5 ?_
        repeat (rw [rounds_succ]; go_wp2_with (first | (go_at_call 35; refine (within23_any _ _ _ (by omega) (by omega)).mono ?_; rintro e w' ⟨rfl, rfl⟩) | (at_builtin; refine wpList_app_cur rfl _ _ rfl w _ _ [fineC c] _ 0 _ (by rfl) (by rfl) (HR.out.q ?c1) ?c2 ?c3 ?c4 ?_)))
        case c1 => repeat' (first | exact Q.refl _ | refine Q.alloc ?_ _ | refine Q.jk ?_ _ | refine Q.drew ?_)
        case c2 => exact rdc_one (by simp [go_sem, fineC]) (by simp [go_sem, fineC]) (by simp [go_sem, fineC]) (by simp [go_sem, fineC]) (by simp [go_sem, fineC]) (by simp [go_sem, fineC])
        case c3 => rw [EL.out]; simp only [List.length_cons, List.length_nil]; omega
        case c4 => repeat' (first | exact Q.refl _ | refine Q.alloc ?_ _ | refine Q.jk ?_ _ | refine Q.drew ?_)
        intro v' k1 hr'
        rw [← EK.out] at hr'
        have HR' := Lib.hid hr'
        clear hr'
        go_wp2
        go_roundw
        case rel => exact ⟨k + 1, by omega, by omega, by go_num, ⟨k1, rfl⟩, HR'.out⟩
        case measure => simp [intOf]; omega
      · obtain rfl : k = 15 := by omega
        rw [show ((15 : Nat) : Int) = 15 from rfl]
        go_wp2
        go_ret
        exact ⟨_, _, rfl, rfl, by have h := HR.out; rw [← HM.out] at h; exact h⟩
    · obtain rfl : k = n := by omega
      have EE : Hid ((l.take k).map fineC = fineL l) := Lib.hid (by unfold fineL; rw [List.take_of_length_le (by rw [HN.out]; omega), List.take_of_length_le (by rw [HN.out]; omega)])
      go_wp2
      go_ret
      exact ⟨_, _, rfl, rfl, by have h := HR.out; rw [← HM.out, EE.out] at h; exact h⟩
/-- What fine returns: nothing, or a slice with a block of its own. -/
def RetNil (w : World) (e : Ending) (w' : World) : Prop := ∃ A c k, e = .returned (.slice A 0 c) ∧ w' = w.jk k
def RetCons (l : List Cur) (w : World) (e : Ending) (w' : World) : Prop := ∃ g c k, e = .returned (.slice (some ⟨g, 0, none⟩) l.length c) ∧ w' = w.jk k ∧ w.heap.size ≤ g ∧ l.length ≤ c ∧ c ≤ maxLen ∧ RdC (w.jk k) g 0 l ∧ RowC w (w.jk k) (.slice (some ⟨g, 0, none⟩) l.length c) l
theorem fine23_nil (A : Option Addr) (n cap : Nat) (l : List Cur) (w : World) (hn : l.length = n) (hA : CurArg w A l) (hw : n ≤ 9223372036854775807) (hx : fineL l = []) :
    Calls Try.prog 33 #[.slice A n cap] w (RetNil w) := by
  refine (fine23_c A n cap l w hn hA hw).mono fun e w' h => ?_
  obtain ⟨v, k, rfl, rfl, hrow⟩ := h
  rw [hx] at hrow
  rcases hrow.2 with ⟨rfl, _⟩ | ⟨g, cap, cur, rfl, _⟩
  · exact ⟨none, 0, k, rfl, rfl⟩
  · exact ⟨_, cap, k, rfl, rfl⟩
theorem fine23_cons (A : Option Addr) (n cap : Nat) (l : List Cur) (w : World) (hn : l.length = n) (hA : CurArg w A l) (hw : n ≤ 9223372036854775807) (hx : fineL l ≠ []) :
    Calls Try.prog 33 #[.slice A n cap] w (RetCons (fineL l) w) := by
  refine (fine23_c A n cap l w hn hA hw).mono fun e w' h => ?_
  obtain ⟨v, k, rfl, rfl, hrow⟩ := h
  obtain ⟨g, c, rfl, h1, h2, h3, h4⟩ := hrow.rd hx
  exact ⟨g, c, k, rfl, rfl, h1, h2, h3, h4, hrow⟩
set_option maxRecDepth 100000 in
set_option maxHeartbeats 4000000 in
theorem known23 (w : World) :
    Calls Try.prog 32 #[] w fun e w' => e = .returned (.bool true) ∧ Q w w' := by
  have o1 : (Cur.mk ⟨6, 0, 0, 0⟩ 1 false).OK := ⟨by unfold Cy.In; decide, by decide, by decide⟩
  have o2 : (Cur.mk ⟨6, 0, 0, 0⟩ 1 true).OK := ⟨by unfold Cy.In; decide, by decide, by decide⟩
  have h1 := fun g cap w hr => doperate_c g 0 cap [(Cur.mk ⟨6, 0, 0, 0⟩ 1 false)] 1 1 2 w (by decide) (by decide) hr (by intro c hc; simp only [List.mem_cons, List.mem_nil_iff, or_false] at hc; subst hc; exact o1) (by decide) (by decide) (by decide) (by decide) (by decide) (by decide)
  have h2 := fun g cap w hr => doperate_c g 0 cap [(Cur.mk ⟨6, 0, 0, 0⟩ 1 false), (Cur.mk ⟨6, 0, 0, 0⟩ 1 true)] 1 1 2 w (by decide) (by decide) hr (by intro c hc; simp only [List.mem_cons, List.mem_nil_iff, or_false] at hc; rcases hc with rfl | rfl; exact o1; exact o2) (by decide) (by decide) (by decide) (by decide) (by decide) (by decide)
  rw [show opB [(Cur.mk ⟨6, 0, 0, 0⟩ 1 false)] 1 1 2 = true by decide] at h1
  rw [show opB [(Cur.mk ⟨6, 0, 0, 0⟩ 1 false), (Cur.mk ⟨6, 0, 0, 0⟩ 1 true)] 1 1 2 = false by decide] at h2
  have H1 := Lib.hid h1
  have H2 := Lib.hid h2
  clear h1 h2 o1 o2
  go_enter Try.func32, Try.ntmps32
  go_wp2_with (go_at_call 36; (with_reducible show Calls _ _ #[.slice _ 1 _, _, _, _] _ _); refine (H1.out _ _ _ ?r1).mono ?_; rotate_left; rintro e w' ⟨rfl, kj, rfl⟩)
  case r1 => exact rdc_one (by simp [go_sem]) (by simp [go_sem]) (by simp [go_sem]) (by simp [go_sem]) (by simp [go_sem]) (by simp [go_sem])
  refine (H2.out _ _ _ ?r2).mono ?_
  case r2 => exact rdc_two (by simp [go_sem]) (by simp [go_sem]) (by simp [go_sem]) (by simp [go_sem]) (by simp [go_sem]) (by simp [go_sem]) (by simp [go_sem]) (by simp [go_sem]) (by simp [go_sem]) (by simp [go_sem]) (by simp [go_sem]) (by simp [go_sem])
  rintro e w' ⟨rfl, kj, rfl⟩
  go_wp2
  go_ret
  refine ⟨rfl, ?_⟩
  repeat' (first | exact Q.refl _ | refine Q.alloc ?_ _ | refine Q.jk ?_ _ | refine Q.drew ?_)
end Go.Proofs.Ytlhapbajllpcnaa

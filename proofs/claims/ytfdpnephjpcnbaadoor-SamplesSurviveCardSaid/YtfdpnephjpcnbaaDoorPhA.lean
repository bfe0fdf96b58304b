
/- What Check, Harmonic, All and Energy of package phasor return for windows that are in their range. -/
import Derived.Test.YtfdpnephjpcnbaaDoorPhPlain
import Derived.Test.YtfdpnephjpcnbaaDoorCyRoots
import Derived.Outline
import Derived.Test.YtfdpnephjpcnbaaDoorBlk
namespace Go.Proofs.YtfdpnephjpcnbaaDoor
open Go.RowKit Go.Sub
theorem old_at {w : World} {b i : Nat} {v : Value} (h : w.cell? ⟨b, i, none⟩ = some v) : Old b w := ⟨World.block_lt_of_cell? w ⟨b, i, none⟩ h⟩
/-- The window x lies in block b from o on. -/
def Win (w : World) (b o : Nat) (x : Nat → Int) : Prop := ∀ k, k < 12 → w.cell? ⟨b, o + k, none⟩ = some (.int .i64 (x k))
theorem Win.old {w : World} {b o : Nat} {x : Nat → Int} (h : Win w b o x) : Old b w := old_at (h 0 (by omega))
theorem Win.q {w w' : World} {b o : Nat} {x : Nat → Int} (h : Win w b o x) (hq : Q w w') : Win w' b o x := by
  intro k hk
  haveI := h.old
  obtain ⟨kk, rfl⟩ := hq
  rw [World.cell?_jk]
  exact h k hk

set_option maxHeartbeats 1000000 in
theorem phcheck_c (b o c : Nat) (x : Nat → Int) (w : World) (hw : Win w b o x) (hx : WinOK x 16383) :
    Calls Tryd.prog 39 #[.slice (some ⟨b, o, none⟩) 12 c] w fun e w' => e = .returned (.int .i64 0) ∧ w = w' := by
  go_enter Tryd.func39, Tryd.ntmps39
  go_wp2
  go_loop [10] (fun i => ∃ k : Nat, k ≤ 12 ∧ i = .int .i64 k) (fun i => 12 - (intOf i).toNat)
  case atStart => exact ⟨0, by omega, rfl⟩
  case round =>
    obtain ⟨k, hk, rfl⟩ := hrel
    by_cases hlt : k < 12
    · have hc := hw k hlt
      obtain ⟨h1, h2⟩ := hx k hlt
      clear hw hx
      go_wp2
      go_round
      case rel => exact ⟨k + 1, by omega, by go_num⟩
      case measure => simp [intOf]; omega
    · clear hw hx
      go_wp2
      go_ret
      exact ⟨rfl, rfl⟩

/-- A term of a sum: what the function value gives for k. -/
def Term (F : FuncId) (cap : Array Value) (y : Nat → Cy) (w : World) : Prop :=
  ∀ (k : Nat) (w' : World), k < 12 → Q w w' → Calls Tryd.prog F (#[.int .i64 (k : Int)] ++ cap) w' fun e w'' => e = .returned (.tuple #[.agg #[.int .i64 (y k).a, .int .i64 (y k).b, .int .i64 (y k).c, .int .i64 (y k).d], .int .i64 0]) ∧ Q w' w''
set_option maxHeartbeats 2000000 in
theorem phsum_c (F : FuncId) (cap : Array Value) (y : Nat → Cy) (w : World) (hF : ∀ (args : Array Value) (w : World), (callFunc F args).run Tryd.prog w = .ok (.enter F args) w) (ht : Term F cap y w) (hy : ∀ k, k < 12 → (y k).In 1000000000000000) :
    Calls Tryd.prog 40 #[.func (.func F) #[] cap] w fun e w' => e = .returned (.tuple #[.agg #[.int .i64 (sumC y 12).a, .int .i64 (sumC y 12).b, .int .i64 (sumC y 12).c, .int .i64 (sumC y 12).d], .int .i64 0]) ∧ Q w w' := by
  go_enter Tryd.func40, Tryd.ntmps40
  go_wp2
  go_loopw [8] (fun i wr => ∃ k : Nat, k ≤ 12 ∧ i = .int .i64 k ∧ Q ((w.alloc (.cells #[.int .i64 0, .int .i64 0, .int .i64 0, .int .i64 0] 41)).alloc (.cells #[.int .i64 (sumC y k).a, .int .i64 (sumC y k).b, .int .i64 (sumC y k).c, .int .i64 (sumC y k).d] 41)) wr) (fun i _ => 12 - (intOf i).toNat)
  case atStart => exact ⟨0, by omega, rfl, Q.refl _⟩
  case round =>
    obtain ⟨k, hk, rfl, kw, rfl⟩ := hrel
    by_cases hlt : k < 12
    · have hyk := hy k hlt
      have hsk := sumC_in (l := 1000000000000000) k fun j hj => hy j (by omega)
      have hs2 := hsk.mono (show (k : Int) * 1000000000000000 ≤ 50000000000000000 by omega)
      clear hsk
      have HT := fun w' => ht k w' hlt
      have HH := Lib.hid HT
      clear HT hy ht
      go_wp2_with (first | (refine (HH.out _ (by repeat' (first | exact Q.refl _ | refine Q.alloc ?_ _ | refine Q.jk ?_ _ | refine Q.drew ?_))).mono ?_; rintro e w' ⟨rfl, kj, rfl⟩) | (go_at_call 38; refine (add_c _ _ _ (Cy.In.mono (by assumption) (by decide)) (Cy.In.mono (by assumption) (by decide))).mono ?_; rintro e w' ⟨rfl, kj, rfl⟩))
      go_roundw
      case rel =>
        refine ⟨k + 1, by omega, by go_num, ?_⟩
        repeat' (first | exact Q.refl _ | refine Q.alloc ?_ _ | refine Q.jk ?_ _ | refine Q.drew ?_)
      case measure => simp [intOf]; omega
    · obtain rfl : k = 12 := by omega
      clear hy ht
      go_wp2
      refine bodyPost_ret (v := .tuple #[.agg #[.int .i64 (sumC y 12).a, .int .i64 (sumC y 12).b, .int .i64 (sumC y 12).c, .int .i64 (sumC y 12).d], .int .i64 0]) (by simp [results, Tryd.results40, go_sem]) rfl ⟨rfl, ?_⟩
      repeat' (first | exact Q.refl _ | refine Q.alloc ?_ _ | refine Q.jk ?_ _ | refine Q.drew ?_)

theorem scale_c (x : Cy) (k : Int) (w : World) (hx : x.In 1000000) (hk : -1000000000 ≤ k ∧ k ≤ 1000000000) :
    Calls Tryd.prog 42 #[.agg #[.int .i64 x.a, .int .i64 x.b, .int .i64 x.c, .int .i64 x.d], .int .i64 k] w fun e w' => e = .returned (.tuple #[.agg #[.int .i64 (x.scl k).a, .int .i64 (x.scl k).b, .int .i64 (x.scl k).c, .int .i64 (x.scl k).d], .int .i64 0]) ∧ Q w w' := by
  have h := scale_any x.a x.b x.c x.d k w
  rw [scaleR_ok hx hk] at h
  exact h

set_option maxHeartbeats 2000000 in
theorem phterm_c (k : Nat) (h : Int) (bh bx b o c : Nat) (x : Nat → Int) (w : World) (hr : RootsOK w) (hk : k < 12) (ch : w.cell? ⟨bh, 0, none⟩ = some (.int .i64 h)) (cx : w.cell? ⟨bx, 0, none⟩ = some (.slice (some ⟨b, o, none⟩) 12 c))
    (ck : w.cell? ⟨b, o + k, none⟩ = some (.int .i64 (x k))) (h1 : -16383 ≤ x k) (h2 : x k ≤ 16383) (hh1 : -12 ≤ h) (hh2 : h ≤ 12) :
    Calls Tryd.prog 41 #[.int .i64 (k : Int), .pointer (some ⟨bh, 0, none⟩), .pointer (some ⟨bx, 0, none⟩)] w fun e w' => e = .returned (.tuple #[.agg #[.int .i64 (hterm x h k).a, .int .i64 (hterm x h k).b, .int .i64 (hterm x h k).c, .int .i64 (hterm x h k).d], .int .i64 0]) ∧ Q w w' := by
  haveI := old_at ch
  haveI := old_at cx
  haveI := old_at ck
  have kk : (0 : Int) ≤ (k : Int) := by omega
  have kk2 : (k : Int) < 12 := by omega
  have hm := bd_mul hh1 hh2 (show -12 ≤ (k : Int) by omega) (show (k : Int) ≤ 12 by omega)
  have hm1 : -1000 ≤ -h * (k : Int) := by rw [Int.neg_mul]; omega
  have hm2 : -h * (k : Int) ≤ 1000 := by rw [Int.neg_mul]; omega
  clear hm
  have hri := rootC_in (-h * k)
  go_enter Tryd.func41, Tryd.ntmps41
  go_wp2
  try simp only [List.append]
  refine wp_region_tail 12 (by kernel_rfl) (by kernel_rfl) ?_
  simp only [List.take_succ_cons, List.take_zero, List.drop_succ_cons, List.drop_zero]
  repeat (go_big_quiet_step ((first | (go_at_call 43; exact Calls.jk_of (root_any _ _ (by repeat' (first | with_reducible exact hr | refine RootsOK.alloc ?_ _ | refine RootsOK.jk ?_ _ | refine RootsOK.drew ?_)))) | (go_at_call 42; exact Calls.jk_of (scale_c _ _ _ (Cy.In.mono (by assumption) (by decide)) (by omega))))))
  refine wpQuiet_nil ?_
  intro _ hw'
  obtain ⟨kq, rfl⟩ := hw'
  go_wp2
  refine bodyPost_ret (v := .tuple #[.agg #[.int .i64 (hterm x h k).a, .int .i64 (hterm x h k).b, .int .i64 (hterm x h k).c, .int .i64 (hterm x h k).d], .int .i64 0]) (by simp [results, Tryd.results41, go_sem, hterm]) rfl ⟨rfl, ?_⟩
  repeat' (first | exact Q.refl _ | refine Q.alloc ?_ _ | refine Q.jk ?_ _ | refine Q.drew ?_)

set_option maxHeartbeats 2000000 in
theorem phharm_c (h : Int) (b o c : Nat) (x : Nat → Int) (w : World) (hr : RootsOK w) (hw : Win w b o x) (hx : WinOK x 16383) :
    Calls Tryd.prog 16 #[.slice (some ⟨b, o, none⟩) 12 c, .int .i64 h] w fun e w' => e = .returned (.tuple #[.agg #[.int .i64 (harm x h).a, .int .i64 (harm x h).b, .int .i64 (harm x h).c, .int .i64 (harm x h).d], .int .i64 0]) ∧ Q w w' := by
  rw [← harm_tmod]
  have tb := tmod_bd h 12 (by decide)
  haveI := hw.old
  have HW := Lib.hid hw
  have HX := Lib.hid hx
  have hty : ∀ k, k < 12 → (hterm x (h.tmod 12) k).In 1000000000000000 := fun k hk => (hterm_in (hx k hk).1 (hx k hk).2).mono (by decide)
  have HT := Lib.hid hty
  clear hw hx hty
  go_enter Tryd.func16, Tryd.ntmps16
  go_wp2_with (go_at_call 39; refine (phcheck_c _ _ _ x _ (HW.out.q (by repeat' (first | exact Q.refl _ | refine Q.alloc ?_ _ | refine Q.jk ?_ _ | refine Q.drew ?_))) HX.out).mono ?_; rintro e w' ⟨rfl, rfl⟩)
  go_at_call 40
  refine (phsum_c _ _ (hterm x (h.tmod 12)) _ (fun _ _ => by kernel_rfl) ?_ HT.out).mono ?_
  · rintro k w' hk ⟨kw, rfl⟩
    refine phterm_c k (h.tmod 12) _ _ b o c x _ (by repeat' (first | with_reducible exact hr | refine RootsOK.alloc ?_ _ | refine RootsOK.jk ?_ _ | refine RootsOK.drew ?_)) hk (by simp [go_sem]) (by simp [go_sem]) ?_ (HX.out k hk).1 (HX.out k hk).2 (by omega) (by omega)
    have := HW.out k hk
    simp only [World.cell?_jk, World.cell?_alloc_old']
    exact this
  · rintro e w' ⟨rfl, kj, rfl⟩
    go_wp2
    refine bodyPost_ret (v := .tuple #[.agg #[.int .i64 (harm x (h.tmod 12)).a, .int .i64 (harm x (h.tmod 12)).b, .int .i64 (harm x (h.tmod 12)).c, .int .i64 (harm x (h.tmod 12)).d], .int .i64 0]) (by simp [results, Tryd.results16, go_sem, harm]) rfl ⟨rfl, ?_⟩
    repeat' (first | exact Q.refl _ | refine Q.alloc ?_ _ | refine Q.jk ?_ _ | refine Q.drew ?_)

/-- The cells of twelve numbers of which k are there. -/
def cells48 (y : Nat → Cy) (k : Nat) : Array Value :=
  ((List.range 12).flatMap fun h => if h < k then [.int .i64 (y h).a, .int .i64 (y h).b, .int .i64 (y h).c, .int .i64 (y h).d] else [.int .i64 0, .int .i64 0, .int .i64 0, .int .i64 0]).toArray
theorem cells48_at (y : Nat → Cy) (k : Nat) (hk : k < 12) : (cells48 y k)[k * 4]? = some (.int .i64 0) ∧ (cells48 y k)[k * 4 + 1]? = some (.int .i64 0) ∧ (cells48 y k)[k * 4 + 2]? = some (.int .i64 0) ∧ (cells48 y k)[k * 4 + 3]? = some (.int .i64 0) := by
  have hk' : k = 0 ∨ k = 1 ∨ k = 2 ∨ k = 3 ∨ k = 4 ∨ k = 5 ∨ k = 6 ∨ k = 7 ∨ k = 8 ∨ k = 9 ∨ k = 10 ∨ k = 11 := by omega
  rcases hk' with rfl | rfl | rfl | rfl | rfl | rfl | rfl | rfl | rfl | rfl | rfl | rfl <;> exact ⟨rfl, rfl, rfl, rfl⟩
theorem cells48_set (y : Nat → Cy) (k : Nat) (hk : k < 12) :
    (((((cells48 y k).setIfInBounds (k * 4) (.int .i64 (y k).a)).setIfInBounds (k * 4 + 1) (.int .i64 (y k).b)).setIfInBounds (k * 4 + 2) (.int .i64 (y k).c)).setIfInBounds (k * 4 + 3) (.int .i64 (y k).d)) = cells48 y (k + 1) := by
  have hk' : k = 0 ∨ k = 1 ∨ k = 2 ∨ k = 3 ∨ k = 4 ∨ k = 5 ∨ k = 6 ∨ k = 7 ∨ k = 8 ∨ k = 9 ∨ k = 10 ∨ k = 11 := by omega
  rcases hk' with rfl | rfl | rfl | rfl | rfl | rfl | rfl | rfl | rfl | rfl | rfl | rfl <;> rfl
@[go_sem] theorem cells48_size (y : Nat → Cy) (k : Nat) : (cells48 y k).size = 48 := by
  unfold cells48
  simp only [List.range_succ, List.range_zero, List.nil_append, List.flatMap_append, List.flatMap_cons, List.flatMap_nil, List.append_nil, List.size_toArray, List.length_append]
  have e : ∀ h : Nat, (if h < k then [Value.int .i64 (y h).a, .int .i64 (y h).b, .int .i64 (y h).c, .int .i64 (y h).d] else [.int .i64 0, .int .i64 0, .int .i64 0, .int .i64 0]).length = 4 := by
    intro h; split <;> rfl
  simp only [e]
instance cells48_one (y : Nat → Cy) (k : Nat) : Ones (cells48 y k) := by
  refine ⟨?_⟩
  apply Array.all_eq_true_iff_forall_mem.2
  intro v hv
  unfold cells48 at hv
  simp only [List.mem_toArray, List.mem_flatMap] at hv
  obtain ⟨h, _, hv⟩ := hv
  split at hv <;> simp at hv <;> rcases hv with rfl | rfl | rfl | rfl <;> rfl
@[go_sem ↓ high] theorem lv48 (a : Addr) : loadVar 42 a = bigLoad 42 a := rfl
@[go_sem ↓ high] theorem sv48 (a : Addr) (v : Value) : storeVar 42 a v = bigStore 42 a v := rfl
theorem info48 : (Tryd.prog.info? 42).map (·.size) = some 48 := by kernel_rfl
@[go_sem] theorem run_load48 {w : World} {n : Nat} {cs : Array Value} {t : TypeId} {fr : Nat × Nat} [h : Blk w n (.cells cs t fr)] (hs : cs.size = 48) :
    (bigLoad 42 ⟨n, 0, none⟩).run Tryd.prog w = .ok (.agg cs) w := run_bigLoad Tryd.underlying42 rfl (by rw [hs]; exact info48)
@[go_sem] theorem run_store48 {w : World} {n : Nat} {cs cs' : Array Value} {t : TypeId} [h : Blk w n (.cells cs t (0, 0))] (hs : cs.size = 48) (hs' : cs'.size = 48) [h1 : Ones cs'] :
    (bigStore 42 ⟨n, 0, none⟩ (.agg cs')).run Tryd.prog w = .ok () (w.setBlk n (.cells cs' t)) := run_bigStore (by rw [hs']; exact info48) (by rw [hs, hs'])
set_option maxRecDepth 100000 in
set_option maxHeartbeats 8000000 in
theorem phall_c (b o c : Nat) (x : Nat → Int) (w : World) (hr : RootsOK w) (hw : Win w b o x) (hx : WinOK x 16383) :
    Calls Tryd.prog 11 #[.slice (some ⟨b, o, none⟩) 12 c] w fun e w' => e = .returned (.tuple #[.agg (cells48 (fun h => harm x (h : Int)) 12), .int .i64 0]) ∧ Q w w' := by
  haveI := hw.old
  have HW := Lib.hid hw
  have HX := Lib.hid hx
  clear hw hx
  go_enter Tryd.func11, Tryd.ntmps11
  go_wp2
  go_loopw [8] (fun i wr => ∃ k : Nat, k ≤ 12 ∧ i = .int .i64 k ∧ Q ((w.alloc (.cells #[.int .i64 0, .int .i64 0, .int .i64 0, .int .i64 0, .int .i64 0, .int .i64 0, .int .i64 0, .int .i64 0, .int .i64 0, .int .i64 0, .int .i64 0, .int .i64 0, .int .i64 0, .int .i64 0, .int .i64 0, .int .i64 0, .int .i64 0, .int .i64 0, .int .i64 0, .int .i64 0, .int .i64 0, .int .i64 0, .int .i64 0, .int .i64 0, .int .i64 0, .int .i64 0, .int .i64 0, .int .i64 0, .int .i64 0, .int .i64 0, .int .i64 0, .int .i64 0, .int .i64 0, .int .i64 0, .int .i64 0, .int .i64 0, .int .i64 0, .int .i64 0, .int .i64 0, .int .i64 0, .int .i64 0, .int .i64 0, .int .i64 0, .int .i64 0, .int .i64 0, .int .i64 0, .int .i64 0, .int .i64 0] 42)).alloc (.cells (cells48 (fun h => harm x (h : Int)) k) 42)) wr) (fun i _ => 12 - (intOf i).toNat)
  case atStart => exact ⟨0, by omega, rfl, Q.refl _⟩
  case round =>
    obtain ⟨k, hk, rfl, kw, rfl⟩ := hrel
    by_cases hlt : k < 12
    · obtain ⟨a0, a1, a2, a3⟩ := cells48_at (fun h => harm x (h : Int)) k hlt
      have HS := Lib.hid (cells48_set (fun h => harm x (h : Int)) k hlt)
      go_wp2_with (go_at_call 16; refine (phharm_c _ _ _ _ x _ (by repeat' (first | with_reducible exact hr | refine RootsOK.alloc ?_ _ | refine RootsOK.jk ?_ _ | refine RootsOK.drew ?_)) (HW.out.q (by repeat' (first | exact Q.refl _ | refine Q.alloc ?_ _ | refine Q.jk ?_ _ | refine Q.drew ?_))) HX.out).mono ?_; rintro e w' ⟨rfl, kj, rfl⟩)
      go_roundw
      case rel =>
        refine ⟨k + 1, by omega, by go_num, ?_⟩
        rw [← HS.out]
        repeat' (first | exact Q.refl _ | refine Q.alloc ?_ _ | refine Q.jk ?_ _ | refine Q.drew ?_)
      case measure => simp [intOf]; omega
    · obtain rfl : k = 12 := by omega
      go_wp2
      refine bodyPost_ret (v := .tuple #[.agg (cells48 (fun h => harm x (h : Int)) 12), .int .i64 0]) (results_blk2 Tryd.results11 rfl rfl Tryd.underlying42 rfl (by rw [cells48_size]; exact info48)) rfl ⟨rfl, ?_⟩
      repeat' (first | exact Q.refl _ | refine Q.alloc ?_ _ | refine Q.jk ?_ _ | refine Q.drew ?_)

end Go.Proofs.YtfdpnephjpcnbaaDoor


/- What good and pick return for the frames of a step. -/
import Derived.Test.YtfdpnephjpcnbaaDoorBz06
import Derived.Test.YtfdpnephjpcnbaaDoorBz01
set_option linter.unusedSimpArgs false
set_option linter.unusedVariables false
set_option linter.unusedVariables false
set_option linter.unusedSimpArgs false
namespace Go.Sub
open Go
theorem frA_zero (u : Int) (n : Nat) : #[Value.int .i64 0, Value.int .i64 0, Value.bool false, Value.slice none 0 0, Value.slice none 0 0, Value.int .i64 0, Value.int .i64 0, Value.bool false, Value.slice none 0 0, Value.slice none 0 0, Value.int .i64 0, Value.int .i64 0, Value.bool false, Value.slice none 0 0, Value.slice none 0 0, Value.int .i64 0, Value.int .i64 0, Value.bool false, Value.slice none 0 0, Value.slice none 0 0, Value.int .i64 0, Value.int .i64 0, Value.bool false, Value.slice none 0 0, Value.slice none 0 0, Value.int .i64 0, Value.int .i64 0, Value.bool false, Value.slice none 0 0, Value.slice none 0 0, Value.int .i64 0, Value.int .i64 0, Value.bool false, Value.slice none 0 0, Value.slice none 0 0, Value.int .i64 0, Value.int .i64 0, Value.bool false, Value.slice none 0 0, Value.slice none 0 0, Value.int .i64 0, Value.int .i64 0, Value.bool false, Value.slice none 0 0, Value.slice none 0 0, Value.int .i64 0, Value.int .i64 0, Value.bool false, Value.slice none 0 0, Value.slice none 0 0, Value.int .i64 0, Value.int .i64 0, Value.bool false, Value.slice none 0 0, Value.slice none 0 0, Value.int .i64 0, Value.int .i64 0, Value.bool false, Value.slice none 0 0, Value.slice none 0 0] = frA u n [] := by kernel_rfl
instance frA_one (u : Int) (n : Nat) (l : List Fm) : Ones (frA u n l) := by
  refine ⟨?_⟩
  apply Array.all_eq_true_iff_forall_mem.2
  intro x hx
  unfold frA at hx
  rw [List.mem_toArray, List.mem_append] at hx
  rcases hx with hx | hx
  · obtain ⟨f, _, hx⟩ := List.mem_flatMap.1 hx
    simp only [fmC, List.mem_cons, List.mem_nil_iff, or_false] at hx
    rcases hx with rfl | rfl | rfl | rfl | rfl <;> rfl
  · unfold zfs at hx
    obtain ⟨y, hy, hx⟩ := List.mem_flatten.1 hx
    obtain ⟨_, rfl⟩ := List.mem_replicate.1 hy
    simp only [List.mem_cons, List.mem_nil_iff, or_false] at hx
    rcases hx with rfl | rfl | rfl | rfl | rfl <;> rfl
end Go.Sub
namespace Go.Proofs.YtfdpnephjpcnbaaDoor
open Go.RowKit Go.Sub
@[go_sem ↓ high] theorem lv91 (a : Addr) : loadVar 91 a = bigLoad 91 a := rfl
@[go_sem ↓ high] theorem sv91 (a : Addr) (v : Value) : storeVar 91 a v = bigStore 91 a v := rfl
theorem info91 : (Tryd.prog.info? 91).map (·.size) = some 60 := by kernel_rfl
@[go_sem] theorem run_load91 {w : World} {n : Nat} {cs : Array Value} {t : TypeId} {fr : Nat × Nat} [h : Blk w n (.cells cs t fr)] (hs : cs.size = 60) :
    (bigLoad 91 ⟨n, 0, none⟩).run Tryd.prog w = .ok (.agg cs) w := run_bigLoad Tryd.underlying91 rfl (by rw [hs]; exact info91)
@[go_sem] theorem run_store91 {w : World} {n : Nat} {cs cs' : Array Value} {t : TypeId} [h : Blk w n (.cells cs t (0, 0))] (hs : cs.size = 60) (hs' : cs'.size = 60) [h1 : Ones cs'] :
    (bigStore 91 ⟨n, 0, none⟩ (.agg cs')).run Tryd.prog w = .ok () (w.setBlk n (.cells cs' t)) := run_bigStore (by rw [hs']; exact info91) (by rw [hs, hs'])
set_option maxHeartbeats 1000000 in
theorem good_c (u : Int) (n : Nat) (f : Fm) (w : World) (h : FmAt w n f) (hz : ∀ j, j < n → f.qs.getD j 0 = 0) (n1 : n ≤ 8) :
    Calls Tryd.prog 30 #[.agg #[Value.int .i64 u, Value.int .i64 f.c, Value.bool true, Value.slice (some ⟨f.a, 0, none⟩) n n, Value.slice (some ⟨f.b, 0, none⟩) n n]] w fun e w' => e = .returned (.bool true) ∧ Q w w' := by
  have HB1 := Lib.hid h.2.1
  have HQL := Lib.hid h.2.2.2
  have HZ := Lib.hid hz
  have ho := h.2.1.old
  clear h hz
  go_enter Tryd.func30, Tryd.ntmps30
  go_wp2_with fail
  go_loop [11] (fun i => ∃ k : Nat, k ≤ n ∧ i = .int .i64 k) (fun i => n - (intOf i).toNat)
  case atStart => exact ⟨0, Nat.zero_le _, rfl⟩
  case round =>
    obtain ⟨k, hk, rfl⟩ := hrel
    by_cases hlt : k < n
    · have hc : w.cell? ⟨f.b, k, none⟩ = some (.int .i64 0) := (HB1.out.cell k).trans (by rw [cellsN_at (by rw [HQL.out]; exact hlt), HZ.out k hlt])
      go_wp2_with fail
      go_round
      case rel => exact ⟨k + 1, by omega, by go_num⟩
      case measure => simp [intOf]; omega
    · obtain rfl : n = k := by omega
      go_wp2_with fail
      go_ret
      refine ⟨rfl, ?_⟩
      repeat' (first | exact Q.refl _ | refine Q.alloc ?_ _ | refine Q.jk ?_ _ | refine Q.drew ?_)
set_option maxRecDepth 100000 in
set_option maxHeartbeats 4000000 in
theorem pick_c (u step : Int) (g n cap : Nat) (l : List Fm) (w : World) (h : FrAt w g u n l) (hl : l.length = 12) (n0 : 1 ≤ n) (n1 : n ≤ 8) (u0 : 0 ≤ u) (u1 : u ≤ 999) (s0 : 0 ≤ step) (s1 : step ≤ 1099511627776)
    (hc : ∀ (k : Nat) (f : Fm), l[k]? = some f → f.c = (12 * step + (k : Int)) % 600) (bx : ∀ f ∈ l, InB (-16383) 16383 f.xs) (bq : ∀ f ∈ l, InB 0 255 f.qs) :
    Calls Tryd.prog 29 #[.slice (some ⟨g, 0, none⟩) 12 cap, .int .i64 u, .int .i64 step] w fun e w' => e = .returned (.tuple #[.agg (frA u n l), .bool false]) ∧ Q w w' := by
  have H := Lib.hid h
  have HL := Lib.hid hl
  have HC := Lib.hid hc
  have BX := Lib.hid bx
  have BQ := Lib.hid bq
  have ho : Old g w := ⟨h.1⟩
  clear h hl hc bx bq
  have hz := frA_zero u n
  obtain ⟨c0, e0⟩ : ∃ c0, (12 * step + (0 : Int)) % 600 = c0 := ⟨_, rfl⟩
  have E0 := Lib.hid e0
  have b0 : 0 ≤ c0 := by omega
  have b1 : c0 ≤ 599 := by omega
  clear e0
  go_enter Tryd.func29, Tryd.ntmps29
  go_wp2_with (go_at_call 20; (with_reducible refine (count_c _ _ _ s0 s1 (by omega) (by omega)).mono ?_); rintro e w' ⟨rfl, rfl⟩; rw [E0.out])
  clear hz
  go_loopw [7, 16] (fun s7 i wr => ∃ (k : Nat) (kx : Jk), s7 = .bool false ∧ i = .int .i64 k ∧ k ≤ 12 ∧ wr = (w.alloc (.cells (frA u n (l.take k)) 91)).jk kx) (fun _ i _ => 12 - (intOf i).toNat)
  case atStart =>
    obtain ⟨kx, ek⟩ := Q.refl (w.alloc (.cells (frA u n (l.take 0)) 91))
    exact ⟨0, kx, rfl, rfl, by omega, ek⟩
  case round =>
    obtain ⟨k, kx, rfl, rfl, hk, rfl⟩ := hrel
    by_cases hlt : k < 12
    · obtain ⟨f, hf⟩ : ∃ f, l[k]? = some f := ⟨_, List.getElem?_eq_getElem (by rw [HL.out]; exact hlt)⟩
      have hfm := List.mem_of_getElem? hf
      have LT : Hid ((l.take k).length = k) := Lib.hid (by rw [List.length_take, HL.out]; omega)
      have HT : Hid (l.take (k + 1) = l.take k ++ [f]) := Lib.hid (by rw [List.take_add_one, hf]; rfl)
      obtain ⟨f0, f1, f2, f3, f4⟩ := H.out.cells k f hf
      have HFA := Lib.hid (H.out.2.2 f hfm)
      have hcf := HC.out k f hf
      have BXF := Lib.hid (BX.out f hfm)
      have BQF := Lib.hid (BQ.out f hfm)
      have d0 : 0 ≤ f.c := by rw [hcf]; omega
      have d1 : f.c ≤ 599 := by rw [hcf]; omega
      have dE : f.c - c0 = (k : Int) := by rw [hcf, ← E0.out]; omega
      obtain ⟨lk, elk⟩ : ∃ lk, l.take k = lk := ⟨_, rfl⟩
      rw [elk] at LT HT ⊢
      obtain ⟨a0, a1, a2, a3, a4⟩ := frA_at u n lk (by rw [LT.out]; exact hlt)
      rw [LT.out] at a0 a1 a2 a3 a4
      clear hf hfm hcf elk
      have k0 : (0 : Int) ≤ (k : Int) := by omega
      have k1 : (k : Int) < 12 := by omega
      have k2 : (k : Int) ≤ 11 := by omega
      go_wp2_with (first
        | (go_at_call 21; (with_reducible refine (scheck_c _ _ _ _ _ _ _ _ f.xs f.qs _ (HFA.out.rx.q (by repeat' (first | exact Q.refl _ | refine Q.alloc ?_ _ | refine Q.jk ?_ _ | refine Q.drew ?_))) (HFA.out.rq.q (by repeat' (first | exact Q.refl _ | refine Q.alloc ?_ _ | refine Q.jk ?_ _ | refine Q.drew ?_))) u0 u1 d0 d1 n0 n1 BXF.out BQF.out).mono ?_); rintro e w' ⟨rfl, kj, rfl⟩)
        | (go_at_call 19; (with_reducible refine (sbetween_ok _ _ _ _ (by omega) (by omega)).mono ?_); rintro e w' ⟨rfl, rfl⟩)
        | fail)
      go_roundw
      case rel =>
        have hset := frA_set u n lk f (by rw [LT.out]; exact hlt) _ _ _ _ _ rfl
        rw [LT.out] at hset
        rw [hset, World.jk_alloc, World.jk_jk]
        exact ⟨k + 1, _, rfl, by go_num, by omega, by rw [HT.out]⟩
      case measure => simp [intOf]; omega
    · obtain rfl : k = 12 := by omega
      have HT : l.take 12 = l := List.take_of_length_le (by rw [HL.out]; exact Nat.le_refl _)
      have hsz := frA_size u n l (by rw [HL.out]; exact Nat.le_refl _)
      rw [HT]
      clear HT
      go_wp2_with fail
      refine bodyPost_ret (v := .tuple #[.agg (frA u n l), .bool false]) (results_blk2 Tryd.results29 rfl rfl Tryd.underlying91 rfl (by rw [hsz]; exact info91)) rfl ⟨rfl, ?_⟩
      repeat' (first | exact Q.refl _ | refine Q.alloc ?_ _ | refine Q.jk ?_ _ | refine Q.drew ?_)
end Go.Proofs.YtfdpnephjpcnbaaDoor


/- What Decode returns for the bytes of a frame. -/
import Derived.Test.YtfdpnephjpcnbaaDoorBz02
import Derived.Test.YtfdpnephjpcnbaaDoorBz03
set_option linter.unusedSimpArgs false
set_option linter.unusedVariables false
set_option linter.unusedVariables false
set_option linter.unusedSimpArgs false
namespace Go.Proofs.YtfdpnephjpcnbaaDoor
open Go.RowKit Go.Sub
theorem cmp_same (n n' : Int) (w : World) (h : n = n') : Calls Tryd.prog 55 #[.int .i64 n, .int .i64 n'] w fun e w' => e = .returned (.int .i64 0) ∧ w = w' := by
  subst h
  go_enter Tryd.func55, Tryd.ntmps55
  go_wp2
  go_ret
  exact ⟨rfl, rfl⟩
theorem encBody_at (xs qs : List Int) (k : Nat) (h : xs.length = qs.length) (hk : k < xs.length) : (encBody xs qs).getD (3 * k) 0 = xs.getD k 0 / 256 % 256 ∧ (encBody xs qs).getD (3 * k + 1) 0 = xs.getD k 0 % 256 ∧ (encBody xs qs).getD (3 * k + 2) 0 = qs.getD k 0 % 256 := by
  induction k generalizing xs qs with
  | zero =>
    cases xs with
    | nil => simp at hk
    | cons x xs =>
      cases qs with
      | nil => simp at h
      | cons q qs => simp [encBody, enc1]
  | succ k ih =>
    cases xs with
    | nil => simp at hk
    | cons x xs =>
      cases qs with
      | nil => simp at h
      | cons q qs =>
        have := ih xs qs (by simpa using h) (by simpa using hk)
        simp only [encBody, enc1, List.cons_append, List.nil_append, List.getD_cons_succ, show 3 * (k + 1) = 3 * k + 1 + 1 + 1 from rfl, show 3 * k + 1 + 1 + 1 + 1 = (3 * k + 1) + 1 + 1 + 1 from rfl, show 3 * k + 1 + 1 + 1 + 2 = (3 * k + 2) + 1 + 1 + 1 from rfl]
        exact this
theorem encL_at (u c : Int) (xs qs : List Int) (k : Nat) (h : xs.length = qs.length) (hk : k < xs.length) : (encL u c xs qs).getD (8 + 3 * k) 0 = xs.getD k 0 / 256 % 256 ∧ (encL u c xs qs).getD (8 + 3 * k + 1) 0 = xs.getD k 0 % 256 ∧ (encL u c xs qs).getD (8 + 3 * k + 2) 0 = qs.getD k 0 % 256 := by
  have e : ∀ j, (encL u c xs qs).getD (8 + j) 0 = (encBody xs qs).getD j 0 := by
    intro j
    unfold encL
    rw [List.getD_eq_getElem?_getD, List.getD_eq_getElem?_getD, List.getElem?_append_right (by simp [encHead])]
    simp [encHead]
  rw [Nat.add_assoc, Nat.add_assoc, e, e, e]
  exact encBody_at xs qs k h hk
/-- The numbers behind k rounds. -/
def fillS (xs : List Int) (k : Nat) : List Int := xs.take k ++ List.replicate (xs.length - k) 0
theorem fillS_len (xs : List Int) (k : Nat) (h : k ≤ xs.length) : (fillS xs k).length = xs.length := by simp [fillS]; omega
theorem fillS_zero (xs : List Int) : fillS xs 0 = List.replicate xs.length 0 := by simp [fillS]
theorem fillS_all (xs : List Int) : fillS xs xs.length = xs := by simp [fillS]
theorem fillS_step (xs : List Int) (k : Nat) (h : k < xs.length) : (fillS xs k).set k (xs.getD k 0) = fillS xs (k + 1) := by
  unfold fillS
  rw [List.set_append_right _ _ (by rw [List.length_take]; omega), List.length_take, Nat.min_eq_left (by omega), Nat.sub_self, show xs.length - k = (xs.length - (k + 1)) + 1 by omega, List.replicate_succ, List.set_cons_zero, List.take_succ_eq_append_getElem h, List.append_assoc]
  simp [List.getD, h]
/-- A frame that has been read: its numbers, and two slices. -/
def RetF (u c : Int) (xs qs : List Int) (w : World) (e : Ending) (w' : World) : Prop := ∃ a b n, e = .returned (.tuple #[.agg #[.int .i64 u, .int .i64 c, .bool true, .slice (some ⟨a, 0, none⟩) n n, .slice (some ⟨b, 0, none⟩) n n], .int .i64 0]) ∧ Q w w' ∧ n = xs.length ∧ HB w' a (cellsN .i64 xs) 3 ∧ HB w' b (cellsN .i64 qs) 3
theorem encL_head (u c : Int) (xs qs : List Int) : (encL u c xs qs).getD 0 0 = 136 ∧ (encL u c xs qs).getD 1 0 = 186 ∧ (encL u c xs qs).getD 2 0 = u / 256 ∧ (encL u c xs qs).getD 3 0 = u % 256 ∧ (encL u c xs qs).getD 4 0 = c / 256 ∧ (encL u c xs qs).getD 5 0 = c % 256 ∧ (encL u c xs qs).getD 6 0 = 1 ∧ (encL u c xs qs).getD 7 0 = xs.length :=
  ⟨rfl, rfl, rfl, rfl, rfl, rfl, rfl, rfl⟩
attribute [local go_sem ↓] Go.wp_at_zero Go.wp_at_succ
set_option maxRecDepth 100000 in
set_option maxHeartbeats 2000000 in
theorem dec_c (u c : Int) (n : Nat) (A : Option Addr) (m ca : Nat) (xs qs : List Int) (w : World) (h : RdN w A m ca .u8 (encL u c xs qs)) (hn : xs.length = n) (hn' : qs.length = n)
    (u0 : 0 ≤ u) (u1 : u ≤ 999) (c0 : 0 ≤ c) (c1 : c ≤ 599) (n0 : 1 ≤ n) (n1 : n ≤ 8) (bx : InB (-16383) 16383 xs) (bq : InB 0 255 qs) :
    Calls Tryd.prog 28 #[Value.slice A m ca] w (RetF u c xs qs w) := by
  have HM : m = 8 + 3 * n := by rw [← h.len, encL_len u c xs qs (by omega), hn]
  have HC' := Lib.hid h.2.1
  obtain ⟨g, o, rfl, ho, hc⟩ := h.at_ (by omega)
  obtain ⟨e0, e1, e2, e3, e4, e5, e6, e7⟩ := encL_head u c xs qs
  have hb0 := hc.out 0 (by omega)
  have hb1 := hc.out 1 (by omega)
  have hb2 := hc.out 2 (by omega)
  have hb3 := hc.out 3 (by omega)
  have hb4 := hc.out 4 (by omega)
  have hb5 := hc.out 5 (by omega)
  have hb6 := hc.out 6 (by omega)
  have hb7 := hc.out 7 (by omega)
  rw [e0, Nat.add_zero] at hb0
  rw [e1] at hb1
  rw [e2] at hb2
  rw [e3] at hb3
  rw [e4] at hb4
  rw [e5] at hb5
  rw [e6] at hb6
  rw [e7, hn] at hb7
  clear e0 e1 e2 e3 e4 e5 e6 e7 h
  have i0 : (0 : Int) < (m : Int) := by omega
  have i1 : (1 : Int) < (m : Int) := by omega
  have i2 : (2 : Int) < (m : Int) := by omega
  have i3 : (3 : Int) < (m : Int) := by omega
  have i4 : (4 : Int) < (m : Int) := by omega
  have i5 : (5 : Int) < (m : Int) := by omega
  have i6 : (6 : Int) < (m : Int) := by omega
  have i7 : (7 : Int) < (m : Int) := by omega
  have i8 : ¬ (m : Int) < 8 := by omega
  have HN := Lib.hid hn
  have HN' := Lib.hid hn'
  have HM' := Lib.hid HM
  clear hn hn' HM
  have hmk := fun w' => make_int w' (n : Int) n rfl (by omega)
  have U := be_split u u0 (by omega)
  have W1 : IntKind.i64.wrap (u / 256) = u / 256 := IntWalk.i64_in _ (by omega)
  have W2 : IntKind.i64.wrap (u / 256 * 256) = u / 256 * 256 := IntWalk.i64_in _ (by omega)
  have W3 : IntKind.i64.wrap (u % 256) = u % 256 := IntWalk.i64_in _ (by omega)
  have W4 : IntKind.i64.wrap (c / 256) = c / 256 := IntWalk.i64_in _ (by omega)
  have W5 : IntKind.i64.wrap (c / 256 * 256) = c / 256 * 256 := IntWalk.i64_in _ (by omega)
  have W6 : IntKind.i64.wrap (c % 256) = c % 256 := IntWalk.i64_in _ (by omega)
  have C := be_split c c0 (by omega)
  go_enter Tryd.func28, Tryd.ntmps28
  go_upto_region 13 with (go_at_call 55; (with_reducible refine (cmp_same _ _ _ (by have := HM'.out; omega)).mono ?_); rintro e w' ⟨rfl, rfl⟩)
  go_cut [5] (fun s5 wx => ∃ sa sb p, s5 = .pointer (some ⟨p, 0, none⟩) ∧ Q (w.alloc (.cells #[Value.int .i64 0, Value.int .i64 0, Value.bool false, Value.slice none 0 0, Value.slice none 0 0] 63)) wx ∧ HB wx sa (cellsN .i64 (List.replicate n 0)) 3 ∧ HB wx sb (cellsN .i64 (List.replicate n 0)) 3 ∧ HB wx p #[.int .i64 u, .int .i64 c, .bool true, .slice (some ⟨sa, 0, none⟩) n n, .slice (some ⟨sb, 0, none⟩) n n] 63 ∧ w.heap.size < sa ∧ w.heap.size < sb ∧ w.heap.size < p ∧ sa ≠ sb ∧ sa ≠ p ∧ sb ≠ p)
  case first =>
    go_region_held3 (fun w' => w'.cell? ⟨g, o + 2, none⟩ = some (.int .u8 (u / 256)) ∧ w'.cell? ⟨g, o + 3, none⟩ = some (.int .u8 (u % 256)) ∧ w'.cell? ⟨g, o + 4, none⟩ = some (.int .u8 (c / 256)) ∧ w'.cell? ⟨g, o + 5, none⟩ = some (.int .u8 (c % 256)) ∧ w'.cell? ⟨g, o + 6, none⟩ = some (.int .u8 1)) (simp [go_sem, *]) (fail)
    all_goals (go_wp2_with fail)
    all_goals go_meet
    all_goals clear W1 W2 W3 W4 W5 W6 U C hmk i0 i1 i2 i3 i4 i5 i6 i7
    all_goals (first
      | (refine ⟨w.heap.size + 1, w.heap.size + 1 + 1, w.heap.size + 1 + 1 + 1, rfl, ?_, ?_, ?_, ?_, by omega, by omega, by omega, by omega, by omega, by omega⟩ <;> (first | ((repeat' (first | (with_reducible exact Q.refl _) | (with_reducible refine Q.alloc ?_ _) | (with_reducible refine Q.jk ?_ _) | (with_reducible refine Q.drew ?_))); done) | ((repeat' (first | (with_reducible refine HB.drew ?_) | (with_reducible refine HB.jk ?_ _) | ((with_reducible refine HB.new _ _ _ _ ?_); first | (with_reducible rfl) | (simp only [World.size_jk, World.size_alloc, World.size_drew]; done)) | (with_reducible refine HB.alloc ?_ _))); done)))
      | (refine ⟨w.heap.size + 1, w.heap.size + 1 + 1 + 1, w.heap.size + 1 + 1, rfl, ?_, ?_, ?_, ?_, by omega, by omega, by omega, by omega, by omega, by omega⟩ <;> (first | ((repeat' (first | (with_reducible exact Q.refl _) | (with_reducible refine Q.alloc ?_ _) | (with_reducible refine Q.jk ?_ _) | (with_reducible refine Q.drew ?_))); done) | ((repeat' (first | (with_reducible refine HB.drew ?_) | (with_reducible refine HB.jk ?_ _) | ((with_reducible refine HB.new _ _ _ _ ?_); first | (with_reducible rfl) | (simp only [World.size_jk, World.size_alloc, World.size_drew]; done)) | (with_reducible refine HB.alloc ?_ _))); done)))
      | (refine ⟨w.heap.size + 1 + 1, w.heap.size + 1, w.heap.size + 1 + 1 + 1, rfl, ?_, ?_, ?_, ?_, by omega, by omega, by omega, by omega, by omega, by omega⟩ <;> (first | ((repeat' (first | (with_reducible exact Q.refl _) | (with_reducible refine Q.alloc ?_ _) | (with_reducible refine Q.jk ?_ _) | (with_reducible refine Q.drew ?_))); done) | ((repeat' (first | (with_reducible refine HB.drew ?_) | (with_reducible refine HB.jk ?_ _) | ((with_reducible refine HB.new _ _ _ _ ?_); first | (with_reducible rfl) | (simp only [World.size_jk, World.size_alloc, World.size_drew]; done)) | (with_reducible refine HB.alloc ?_ _))); done)))
      | (refine ⟨w.heap.size + 1 + 1, w.heap.size + 1 + 1 + 1, w.heap.size + 1, rfl, ?_, ?_, ?_, ?_, by omega, by omega, by omega, by omega, by omega, by omega⟩ <;> (first | ((repeat' (first | (with_reducible exact Q.refl _) | (with_reducible refine Q.alloc ?_ _) | (with_reducible refine Q.jk ?_ _) | (with_reducible refine Q.drew ?_))); done) | ((repeat' (first | (with_reducible refine HB.drew ?_) | (with_reducible refine HB.jk ?_ _) | ((with_reducible refine HB.new _ _ _ _ ?_); first | (with_reducible rfl) | (simp only [World.size_jk, World.size_alloc, World.size_drew]; done)) | (with_reducible refine HB.alloc ?_ _))); done)))
      | (refine ⟨w.heap.size + 1 + 1 + 1, w.heap.size + 1, w.heap.size + 1 + 1, rfl, ?_, ?_, ?_, ?_, by omega, by omega, by omega, by omega, by omega, by omega⟩ <;> (first | ((repeat' (first | (with_reducible exact Q.refl _) | (with_reducible refine Q.alloc ?_ _) | (with_reducible refine Q.jk ?_ _) | (with_reducible refine Q.drew ?_))); done) | ((repeat' (first | (with_reducible refine HB.drew ?_) | (with_reducible refine HB.jk ?_ _) | ((with_reducible refine HB.new _ _ _ _ ?_); first | (with_reducible rfl) | (simp only [World.size_jk, World.size_alloc, World.size_drew]; done)) | (with_reducible refine HB.alloc ?_ _))); done)))
      | (refine ⟨w.heap.size + 1 + 1 + 1, w.heap.size + 1 + 1, w.heap.size + 1, rfl, ?_, ?_, ?_, ?_, by omega, by omega, by omega, by omega, by omega, by omega⟩ <;> (first | ((repeat' (first | (with_reducible exact Q.refl _) | (with_reducible refine Q.alloc ?_ _) | (with_reducible refine Q.jk ?_ _) | (with_reducible refine Q.drew ?_))); done) | ((repeat' (first | (with_reducible refine HB.drew ?_) | (with_reducible refine HB.jk ?_ _) | ((with_reducible refine HB.new _ _ _ _ ?_); first | (with_reducible rfl) | (simp only [World.size_jk, World.size_alloc, World.size_drew]; done)) | (with_reducible refine HB.alloc ?_ _))); done))))
  case rest =>
    obtain ⟨sa, sb, p, rfl, hq, ha, hb, hp, g1, g2, g3, g4, g5, g6⟩ := hcut
    clear hb0 hb1 hb2 hb3 hb4 hb5 hb6 hb7 hmk U C W1 W2 W3 W4 W5 W6 i0 i1 i2 i3 i4 i5 i6 i7 i8
    rw [← HN.out, ← fillS_zero] at ha
    rw [← HN'.out, ← fillS_zero] at hb
    have HQ := Lib.hid hq
    have HA := Lib.hid ha
    have HB' := Lib.hid hb
    have HP := Lib.hid hp
    clear hq ha hb hp
    go_wp2_with fail
    go_loopw [75] (fun i wr => ∃ k : Nat, i = Value.int .i64 k ∧ k ≤ n ∧ Hid (Q (w.alloc (.cells #[Value.int .i64 0, Value.int .i64 0, Value.bool false, Value.slice none 0 0, Value.slice none 0 0] 63)) wr) ∧ Hid (HB wr sa (cellsN .i64 (fillS xs k)) 3) ∧ Hid (HB wr sb (cellsN .i64 (fillS qs k)) 3) ∧ Hid (HB wr p #[.int .i64 u, .int .i64 c, .bool true, .slice (some ⟨sa, 0, none⟩) n n, .slice (some ⟨sb, 0, none⟩) n n] 63)) (fun i _ => n - (intOf i).toNat)
    case atStart => exact ⟨0, rfl, Nat.zero_le _, HQ, HA, HB', HP⟩
    case round =>
      clear HQ HA HB' HP
      obtain ⟨k, rfl, hk, HQ, HA, HB', HP⟩ := hrel
      by_cases hlt : k < n
      · obtain ⟨e1, e2, e3⟩ := encL_at u c xs qs k (by rw [HN.out, HN'.out]) (by rw [HN.out]; exact hlt)
        have hm := HM'.out
        have h1 := hc.out (8 + 3 * k) (by omega)
        have h2 := hc.out (8 + 3 * k + 1) (by omega)
        have h3 := hc.out (8 + 3 * k + 2) (by omega)
        clear hm
        rw [e1] at h1
        rw [e2, ← Nat.add_assoc] at h2
        rw [e3, ← Nat.add_assoc] at h3
        clear e1 e2 e3
        have hs1 := Lib.hid (fillS_step xs k (by rw [HN.out]; exact hlt))
        have hs2 := Lib.hid (fillS_step qs k (by rw [HN'.out]; exact hlt))
        have l1 := Lib.hid (fillS_len xs k (by rw [HN.out]; exact hk))
        have l2 := Lib.hid (fillS_len qs k (by rw [HN'.out]; exact hk))
        obtain ⟨x, ex⟩ : ∃ x, xs.getD k 0 = x := ⟨_, rfl⟩
        obtain ⟨q, eq⟩ : ∃ q, qs.getD k 0 = q := ⟨_, rfl⟩
        have bx' := bx k (by rw [HN.out]; exact hlt)
        have bq' := bq k (by rw [HN'.out]; exact hlt)
        rw [ex] at h1 h2 hs1 bx'
        rw [eq] at h3 hs2 bq'
        clear ex eq
        obtain ⟨bx1, bx2⟩ := bx'
        obtain ⟨bq1, bq2⟩ := bq'
        have F1 := i16_back x (by omega) (by omega)
        have F2 : q % 256 = q := by omega
        rw [F2] at h3
        obtain ⟨a, ea⟩ : ∃ a, x / 256 % 256 = a := ⟨_, rfl⟩
        obtain ⟨b, eb⟩ : ∃ b, x % 256 = b := ⟨_, rfl⟩
        have a0 : 0 ≤ a := by omega
        have a1 : a < 256 := by omega
        have b0 : 0 ≤ b := by omega
        have b1 : b < 256 := by omega
        rw [ea, eb] at F1
        rw [ea] at h1
        rw [eb] at h2
        clear ea eb F2
        have F3 := be_u16 a b a0 a1 b0 b1
        have F4 : IntKind.u16.wrap a = a := by simp only [IntKind.wrap, IntKind.bits, IntKind.signed, Bool.false_and, Bool.false_eq_true, if_false]; omega
        have F5 : IntKind.u16.wrap b = b := by simp only [IntKind.wrap, IntKind.bits, IntKind.signed, Bool.false_and, Bool.false_eq_true, if_false]; omega
        have F6 : IntKind.u16.wrap (a * 256) = a * 256 := by simp only [IntKind.wrap, IntKind.bits, IntKind.signed, Bool.false_and, Bool.false_eq_true, if_false]; omega
        have F7 : IntKind.i64.wrap x = x := IntWalk.i64_in _ (by omega)
        have F8 : IntKind.i64.wrap q = q := IntWalk.i64_in _ (by omega)
        have hmc := HC'.out
        have hmm := HM'.out
        have hne : ¬ ca = 8 + 3 * k := by omega
        have j1 : 8 + 3 * (k : Int) ≤ (m : Int) := by omega
        have j2 : (0 : Int) < (m : Int) - (8 + 3 * (k : Int)) := by omega
        have j3 : (1 : Int) < (m : Int) - (8 + 3 * (k : Int)) := by omega
        have j4 : (2 : Int) < (m : Int) - (8 + 3 * (k : Int)) := by omega
        have j5 : 8 + 3 * k ≤ m := by omega
        clear hmc hmm
        have o1 := ho
        have o2 := HA.out.old
        have o3 := HB'.out.old
        have o4 := HP.out.old
        have G1 : wr.cell? ⟨g, o + (8 + 3 * k), none⟩ = some (.int .u8 a) := (((Q.alloc (Q.refl w) _).trans HQ.out).below.cell (p := ⟨g, o + (8 + 3 * k), none⟩) ho.lt).trans h1
        have G2 : wr.cell? ⟨g, o + (8 + 3 * k) + 1, none⟩ = some (.int .u8 b) := (((Q.alloc (Q.refl w) _).trans HQ.out).below.cell (p := ⟨g, o + (8 + 3 * k) + 1, none⟩) ho.lt).trans h2
        have G3 : wr.cell? ⟨g, o + (8 + 3 * k) + 2, none⟩ = some (.int .u8 q) := (((Q.alloc (Q.refl w) _).trans HQ.out).below.cell (p := ⟨g, o + (8 + 3 * k) + 2, none⟩) ho.lt).trans h3
        have G4 : wr.cell? ⟨p, 3, none⟩ = some (.slice (some ⟨sa, 0, none⟩) n n) := HP.out.cell 3
        have G5 : wr.cell? ⟨p, 4, none⟩ = some (.slice (some ⟨sb, 0, none⟩) n n) := HP.out.cell 4
        have G6 : wr.cell? ⟨sa, k, none⟩ = some (.int .i64 ((fillS xs k).getD k 0)) := (HA.out.cell k).trans (cellsN_at (by rw [l1.out, HN.out]; exact hlt))
        have G7 : wr.cell? ⟨sb, k, none⟩ = some (.int .i64 ((fillS qs k).getD k 0)) := (HB'.out.cell k).trans (cellsN_at (by rw [l2.out, HN'.out]; exact hlt))
        have G8 : wr.frozen? ⟨sa, k, none⟩ = false := HA.out.soft k
        have G9 : wr.frozen? ⟨sb, k, none⟩ = false := HB'.out.soft k
        have og : Old g wr := ⟨Nat.lt_of_lt_of_le ho.lt (by have := HQ.out.below.size; simp at this; omega)⟩
        clear h1 h2 h3
        have g7 : sa ≠ g := by have := ho.lt; omega
        have g8 : sb ≠ g := by have := ho.lt; omega
        go_wp2_with fail
        refine wp_region_tail 15 (by kernel_rfl) (by kernel_rfl) ?_
        simp only [List.take_succ_cons, List.take_zero, List.drop_succ_cons, List.drop_zero]
        repeat (go_big_quiet_step (fail))
        refine wpQuiet_nil ?_
        intro _ hw'
        obtain ⟨kq, rfl⟩ := hw'
        go_wp2_with fail
        refine wp_region_tail 7 (by kernel_rfl) (by kernel_rfl) ?_
        simp only [List.take_succ_cons, List.take_zero, List.drop_succ_cons, List.drop_zero]
        repeat (go_big_quiet_step (fail))
        refine wpQuiet_nil ?_
        intro _ hw'
        obtain ⟨kr, rfl⟩ := hw'
        go_wp2_with fail
        go_roundw
        case rel =>
          refine ⟨k + 1, by go_num, by omega, Lib.hid ?_, Lib.hid ?_, Lib.hid ?_, Lib.hid ?_⟩
          · exact (((HQ.out.setCell (by simp; omega) _).setCell (by simp; omega) _).jk kq).jk kr
          · rw [← hs1.out, ← cellsN_set]
            exact (((HA.out.set k _).other (Ne.symm g4)).jk kq).jk kr
          · rw [← hs2.out, ← cellsN_set]
            exact (((HB'.out.other g4).set k _).jk kq).jk kr
          · exact (((HP.out.other g5).other g6).jk kq).jk kr
        case measure => simp [intOf]; omega
      · obtain rfl : k = n := by omega
        obtain ⟨k2, ek⟩ := HQ.out
        have F1 := fillS_all xs
        have F2 := fillS_all qs
        rw [HN.out] at F1
        rw [HN'.out] at F2
        have B1 : HB wr sa (cellsN .i64 xs) 3 := by have := HA.out; rw [F1] at this; exact this
        have B2 : HB wr sb (cellsN .i64 qs) 3 := by have := HB'.out; rw [F2] at this; exact this
        have R1 : RdN wr (some ⟨sa, 0, none⟩) k k .i64 xs := rdn_of_hb B1 _ HN.out.symm _ (Nat.le_refl _)
        have R2 : RdN wr (some ⟨sb, 0, none⟩) k k .i64 qs := rdn_of_hb B2 _ HN'.out.symm _ (Nat.le_refl _)
        have hp' := HP.out
        subst ek
        have R1' := Lib.hid R1
        have R2' := Lib.hid R2
        have B1' := Lib.hid B1
        have B2' := Lib.hid B2
        clear F1 F2 R1 R2 B1 B2 HA HB' HP HQ
        have G0 := hp'.cell 0
        have G1 := hp'.cell 1
        have G2 := hp'.cell 2
        have G3 := hp'.cell 3
        have G4 := hp'.cell 4
        have op := hp'.old
        have HP := Lib.hid hp'
        clear hp'
        simp only [List.getElem?_toArray, List.getElem?_cons_zero, List.getElem?_cons_succ] at G0 G1 G2 G3 G4
        go_wp2_with (go_at_call 21; (with_reducible refine (scheck_c _ _ _ _ _ _ _ _ xs qs _ R1'.out R2'.out u0 u1 c0 c1 n0 n1 bx bq).mono ?_); rintro e w' ⟨rfl, kj, rfl⟩)
        refine bodyPost_ret (v := .tuple #[.agg #[.int .i64 u, .int .i64 c, .bool true, .slice (some ⟨sa, 0, none⟩) k k, .slice (some ⟨sb, 0, none⟩) k k], .int .i64 0]) (by simp [results, Tryd.results28, go_sem]) rfl ?_
        refine ⟨_, _, _, rfl, ?_, HN.out.symm, (hb_swap B1'.out (by omega)).jk kj, (hb_swap B2'.out (by omega)).jk kj⟩
        repeat' (first | exact Q.refl _ | refine Q.alloc ?_ _ | refine Q.jk ?_ _ | refine Q.drew ?_)
end Go.Proofs.YtfdpnephjpcnbaaDoor

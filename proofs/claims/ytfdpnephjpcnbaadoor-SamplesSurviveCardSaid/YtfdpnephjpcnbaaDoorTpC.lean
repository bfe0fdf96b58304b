
/- What Encode of a frame in its ranges returns. -/
import Derived.Test.YtfdpnephjpcnbaaDoorCn
set_option linter.unusedVariables false
set_option linter.unusedSimpArgs false
namespace Go.Sub
/-- The three bytes of a sample and its quality. -/
def enc1 (x q : Int) : List Int := [x / 256 % 256, x % 256, q % 256]
def encBody : List Int → List Int → List Int
  | x :: xs, q :: qs => enc1 x q ++ encBody xs qs
  | _, _ => []
def encHead (u c : Int) (n : Nat) : List Int := [136, 186, u / 256, u % 256, c / 256, c % 256, 1, n]
def encL (u c : Int) (xs qs : List Int) : List Int := encHead u c xs.length ++ encBody xs qs
theorem encBody_len (xs qs : List Int) (h : xs.length = qs.length) : (encBody xs qs).length = 3 * xs.length := by
  induction xs generalizing qs with
  | nil => simp [encBody]
  | cons x xs ih =>
    cases qs with
    | nil => simp at h
    | cons q qs =>
      have := ih qs (by simpa using h)
      simp only [encBody, enc1, List.length_append, List.length_cons, List.length_nil, this]
      omega
theorem encL_len (u c : Int) (xs qs : List Int) (h : xs.length = qs.length) : (encL u c xs qs).length = 8 + 3 * xs.length := by
  simp [encL, encHead, encBody_len xs qs h]
  omega
theorem encBody_snoc (xs qs : List Int) (k : Nat) (h : xs.length = qs.length) (hk : k < xs.length) : encBody (xs.take (k + 1)) (qs.take (k + 1)) = encBody (xs.take k) (qs.take k) ++ enc1 (xs.getD k 0) (qs.getD k 0) := by
  induction k generalizing xs qs with
  | zero =>
    cases xs with
    | nil => simp at hk
    | cons x xs =>
      cases qs with
      | nil => simp at h
      | cons q qs => simp [encBody]
  | succ k ih =>
    cases xs with
    | nil => simp at hk
    | cons x xs =>
      cases qs with
      | nil => simp at h
      | cons q qs =>
        have := ih xs qs (by simpa using h) (by simpa using hk)
        simp only [List.take_succ_cons, encBody, this, List.getD_cons_succ, List.append_assoc]
/-- The bytes behind k samples. -/
def encS (u c : Int) (xs qs : List Int) (k : Nat) : List Int := encHead u c xs.length ++ encBody (xs.take k) (qs.take k) ++ List.replicate (3 * (xs.length - k)) 0
theorem encS_len (u c : Int) (xs qs : List Int) (k : Nat) (h : xs.length = qs.length) (hk : k ≤ xs.length) : (encS u c xs qs k).length = 8 + 3 * xs.length := by
  have := encBody_len (xs.take k) (qs.take k) (by simp [h])
  simp only [encS, List.length_append, this, List.length_take, List.length_replicate, encHead, List.length_cons, List.length_nil]
  omega
theorem encS_step (u c : Int) (xs qs : List Int) (k : Nat) (h : xs.length = qs.length) (hk : k < xs.length) : splice (encS u c xs qs k) (8 + 3 * k) (enc1 (xs.getD k 0) (qs.getD k 0)) = encS u c xs qs (k + 1) := by
  have hl : (encHead u c xs.length ++ encBody (xs.take k) (qs.take k)).length = 8 + 3 * k := by
    rw [List.length_append, encBody_len _ _ (by simp [h]), List.length_take]
    simp only [encHead, List.length_cons, List.length_nil]
    omega
  unfold splice encS
  rw [List.take_append_of_le_length (by omega), List.take_of_length_le (by omega), List.drop_append, hl, List.drop_of_length_le (by rw [hl]; omega), List.nil_append, List.drop_replicate, encBody_snoc xs qs k h hk]
  simp only [List.append_assoc]
  congr 4
  simp [enc1]
  omega
theorem encS_last (u c : Int) (xs qs : List Int) (h : xs.length = qs.length) : encS u c xs qs xs.length = encL u c xs qs := by
  unfold encS encL
  rw [List.take_length, h, List.take_length]
  simp
end Go.Sub
namespace Go.Proofs.YtfdpnephjpcnbaaDoor
open Go.RowKit Go.Sub
/-- A slice of bytes of the call's own, and no error. -/
def RetB (l : List Int) (w : World) (e : Ending) (w' : World) : Prop := ∃ g n, e = .returned (.tuple #[Value.slice (some ⟨g, 0, none⟩) n n, Value.int .i64 0]) ∧ Q w w' ∧ RdN w' (some ⟨g, 0, none⟩) n n .u8 l
theorem copy6 (W : World) (m g b : Nat) (s0 s1 s2 s3 s4 s5 : Int) (hg : g = W.heap.size) (hb : b = W.heap.size + 1) :
    (Builtin.copy_ #[73, 73] 3 #[.slice (some ⟨g, 0, none⟩) (8 + m) (8 + m), .slice (some ⟨b, 0, none⟩) 6 6]).run Tryd.prog ((W.alloc (.cells (cellsN .u8 (List.replicate (8 + m) 0)) 5)).alloc (.cells #[.int .u8 s0, .int .u8 s1, .int .u8 s2, .int .u8 s3, .int .u8 s4, .int .u8 s5] 5))
      = .ok (goInt 6) ((W.alloc (.cells (cellsN .u8 ([s0, s1, s2, s3, s4, s5, 0, 0] ++ List.replicate m 0)) 5)).alloc (.cells #[.int .u8 s0, .int .u8 s1, .int .u8 s2, .int .u8 s3, .int .u8 s4, .int .u8 s5] 5)) := by
  have := run_copy_al (P := Tryd.prog) W (.cells (cellsN .u8 [s0, s1, s2, s3, s4, s5]) 5) 73 73 3 5 5 .u8 g 0 (8 + m) (8 + m) 6 6 ⟨b, 0, none⟩ (List.replicate (8 + m) 0) [s0, s1, s2, s3, s4, s5] (by kernel_rfl) (by kernel_rfl) hg (by simp [Nat.min_def]; omega)
    (fun j v h => lit_cell _ _ _ _ _ (by simp [hb]) j v h) (by simp; omega)
  have e : splice (List.replicate (8 + m) 0) 0 [s0, s1, s2, s3, s4, s5] = [s0, s1, s2, s3, s4, s5, 0, 0] ++ List.replicate m 0 := by
    rw [Nat.add_comm]
    simp [splice, List.replicate_succ]
  rw [e] at this
  exact this
theorem copy3 (W : World) (kx : Jk) (cur : List Int) (g b lo d e : Nat) (s0 s1 s2 : Int) (hg : g = W.heap.size) (hb : b = W.heap.size + 1 + kx.os.size) (hd : 3 ≤ d) (hf : lo + 3 ≤ cur.length) :
    (Builtin.copy_ #[73, 73] 3 #[.slice (some ⟨g, lo, none⟩) d e, .slice (some ⟨b, 0, none⟩) 3 3]).run Tryd.prog (((W.alloc (.cells (cellsN .u8 cur) 5)).jk kx).alloc (.cells #[.int .u8 s0, .int .u8 s1, .int .u8 s2] 5))
      = .ok (goInt 3) (((W.alloc (.cells (cellsN .u8 (splice cur lo [s0, s1, s2])) 5)).jk kx).alloc (.cells #[.int .u8 s0, .int .u8 s1, .int .u8 s2] 5)) :=
  run_copy_jk (P := Tryd.prog) W kx (.cells (cellsN .u8 [s0, s1, s2]) 5) 73 73 3 5 5 .u8 g lo d e 3 3 ⟨b, 0, none⟩ cur [s0, s1, s2] (by kernel_rfl) (by kernel_rfl) hg (by simp [Nat.min_def]; omega)
    (fun j v h => lit_cell _ _ _ _ _ (by simp [hb, World.size_jk]) j v h) (by simpa using hf)
set_option maxRecDepth 100000 in
set_option maxHeartbeats 2000000 in
theorem enc_c (u c : Int) (A : Option Addr) (n ca : Nat) (B : Option Addr) (cb : Nat) (xs qs : List Int) (w : World) (hx : RdN w A n ca .i64 xs) (hq : RdN w B n cb .i64 qs)
    (u0 : 0 ≤ u) (u1 : u ≤ 999) (c0 : 0 ≤ c) (c1 : c ≤ 599) (n0 : 1 ≤ n) (n1 : n ≤ 8) (bx : InB (-16383) 16383 xs) (bq : InB 0 255 qs) :
    Calls Tryd.prog 23 #[Value.agg #[Value.int .i64 u, Value.int .i64 c, Value.bool true, Value.slice A n ca, Value.slice B n cb]] w (RetB (encL u c xs qs) w) := by
  have CK : Hid (∀ w' : World, Q w w' → Calls Tryd.prog 21 #[Value.agg #[Value.int .i64 u, Value.int .i64 c, Value.bool true, Value.slice A n ca, Value.slice B n cb]] w' fun e w'' => e = .returned (Value.int .i64 0) ∧ Q w' w'') :=
    Lib.hid fun w' h => scheck_c u c true A n ca B cb xs qs w' (hx.q h) (hq.q h) u0 u1 c0 c1 n0 n1 bx bq
  obtain ⟨ga, oa, rfl, hoa, hca⟩ := hx.at_ (by omega)
  obtain ⟨gb, ob, rfl, hob, hcb⟩ := hq.at_ (by omega)
  have lx := Lib.hid hx.len
  have lq := Lib.hid hq.len
  clear hx hq bx bq
  have hmk := fun w' => make_u8 w' (8 + 3 * (n : Int)) (8 + 3 * (n : Int)) (8 + 3 * n) (8 + 3 * n) (by omega) (by omega) (by omega) (by omega)
  have HC6 := fun W g b s0 s1 s2 s3 s4 s5 => copy6 W (3 * n) g b s0 s1 s2 s3 s4 s5
  go_enter Tryd.func23, Tryd.ntmps23
  go_wp2_with (go_at_call 21; (with_reducible refine (CK.out _ (by repeat' (first | exact Q.refl _ | refine Q.alloc ?_ _ | refine Q.jk ?_ _ | refine Q.drew ?_))).mono ?_); rintro e w' ⟨rfl, kj, rfl⟩)
  clear hmk HC6
  go_loopw [49] (fun i wr => ∃ (k : Nat) (kx : Jk), i = .int .i64 k ∧ k ≤ n ∧ wr = (((w.alloc (.cells #[Value.int .i64 u, Value.int .i64 c, Value.bool true, Value.slice (some ⟨ga, oa, none⟩) n ca, Value.slice (some ⟨gb, ob, none⟩) n cb] 63)).jk kj).alloc (.cells (cellsN .u8 (encS u c xs qs k)) 5)).jk kx) (fun i _ => n - (intOf i).toNat)
  case atStart =>
    have e : ((136 :: 186 :: u / 256 :: u % 256 :: c / 256 :: c % 256 :: 0 :: 0 :: List.replicate (3 * n) (0 : Int)).set 6 1).set 7 (n : Int) = encS u c xs qs 0 := by simp [encS, encHead, encBody, lx.out]
    rw [cellsN_set, cellsN_set, e, World.alloc_as_jk (((w.alloc _).jk _).alloc _)]
    exact ⟨0, _, rfl, Nat.zero_le _, rfl⟩
  case round =>
    obtain ⟨k, kx, rfl, hk, rfl⟩ := hrel
    by_cases hlt : k < n
    · have hax := hca.out k hlt
      have hbq := hcb.out k hlt
      have HS := Lib.hid (encS_step u c xs qs k (by rw [lx.out, lq.out]) (by rw [lx.out]; exact hlt))
      have hl := encS_len u c xs qs k (by rw [lx.out, lq.out]) (by rw [lx.out]; exact hk)
      obtain ⟨x, ex⟩ : ∃ x, xs.getD k 0 = x := ⟨_, rfl⟩
      obtain ⟨q, eq⟩ : ∃ q, qs.getD k 0 = q := ⟨_, rfl⟩
      rw [ex] at hax
      rw [eq] at hbq
      rw [ex, eq] at HS
      rw [lx.out] at hl
      have HL := Lib.hid hl
      obtain ⟨cur, ec⟩ : ∃ cur, encS u c xs qs k = cur := ⟨_, rfl⟩
      rw [ec] at HS HL ⊢
      clear ex eq hl ec
      have E1 : IntKind.i64.wrap (3 * (k : Int)) = 3 * (k : Int) := IntWalk.i64_in _ (by omega)
      have E2 : IntKind.i64.wrap (8 + 3 * (k : Int)) = 8 + 3 * (k : Int) := IntWalk.i64_in _ (by omega)
      have E3 : (8 + 3 * (k : Int)).toNat = 8 + 3 * k := by omega
      have E4 : (0 : Int) ≤ 8 + 3 * (k : Int) := by omega
      have E5 : 8 + 3 * (k : Int) ≤ 8 + 3 * (n : Int) := by omega
      have E6 : 8 + 3 * (k : Int) < 8 + 3 * (n : Int) := by omega
      have E7 : ¬ 3 * n = 3 * k := by omega
      go_wp2_with fail
      go_region_law (refine step_copy rfl _ _ rfl rfl rfl (copy3 _ _ cur _ _ (8 + 3 * k) (8 + 3 * n - (8 + 3 * k)) (8 + 3 * n - (8 + 3 * k)) _ _ _ (by simp only [World.size_jk, World.size_alloc]) (by simp only [World.size_jk, World.size_alloc]) (by omega) (by rw [HL.out]; omega)) ?_)
      clear E1 E2 E3 E4 E5 E6 E7
      go_wp2_with fail
      go_roundw
      case rel =>
        have e : splice cur (8 + 3 * k) [x / 256 % 256, x % 256, q % 256] = encS u c xs qs (k + 1) := HS.out
        rw [e, World.jk_alloc]
        exact ⟨k + 1, _, by go_num, by omega, rfl⟩
      case measure => simp [intOf]; omega
    · obtain rfl : k = n := by omega
      have HE := encS_last u c xs qs (by rw [lx.out, lq.out])
      rw [lx.out] at HE
      have HL := encL_len u c xs qs (by rw [lx.out, lq.out])
      rw [lx.out] at HL
      rw [HE]
      have HL' := Lib.hid HL
      clear HE HL
      go_wp2_with fail
      go_ret2
      refine ⟨w.heap.size + 1 + kj.os.size, 8 + 3 * k, rfl, ?_, rdn_row _ _ _ _ _ _ ?_ _ HL'.out.symm _ (Nat.le_refl _)⟩
      · repeat' (first | exact Q.refl _ | refine Q.alloc ?_ _ | refine Q.jk ?_ _ | refine Q.drew ?_)
      · simp [World.size_jk]
end Go.Proofs.YtfdpnephjpcnbaaDoor

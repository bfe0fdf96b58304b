
/- What the functions of package differential return for currents in their range. -/
import Derived.Test.YtlhapbajllpcnaaDfPlain
import Derived.Test.YtlhapbajllpcnaaVs
import Derived.WalkMore
namespace Go.Proofs.Ytlhapbajllpcnaa
open Go.RowKit Go.Sub
/-- The list l lies in block g from cell o on. -/
def RdC (w : World) (g o : Nat) (l : List Cur) : Prop := ∀ k c, l[k]? = some c → w.cell? ⟨g, o + k * 6, none⟩ = some (.int .i64 c.i.a) ∧ w.cell? ⟨g, o + k * 6 + 1, none⟩ = some (.int .i64 c.i.b) ∧ w.cell? ⟨g, o + k * 6 + 2, none⟩ = some (.int .i64 c.i.c) ∧ w.cell? ⟨g, o + k * 6 + 3, none⟩ = some (.int .i64 c.i.d) ∧ w.cell? ⟨g, o + k * 6 + 4, none⟩ = some (.int .i64 c.r) ∧ w.cell? ⟨g, o + k * 6 + 5, none⟩ = some (.bool c.v)
theorem RdC.old {w : World} {g o : Nat} {l : List Cur} (h : RdC w g o l) (hl : l ≠ []) : Old g w := by
  cases l with
  | nil => exact absurd rfl hl
  | cons c l => exact ⟨World.block_lt_of_cell? w ⟨g, o + 0 * 6, none⟩ (h 0 c rfl).1⟩
theorem RdC.q {w w' : World} {g o : Nat} {l : List Cur} (h : RdC w g o l) (hq : Q w w') : RdC w' g o l := by
  intro k c hk
  haveI := h.old (by intro e; rw [e] at hk; simp at hk)
  obtain ⟨kk, rfl⟩ := hq
  simp only [World.cell?_jk]
  exact h k c hk
set_option maxHeartbeats 2000000 in
theorem dvalid_c (c : Cur) (w : World) (hc : c.OK) :
    Calls Try.prog 81 #[.agg #[.int .i64 c.i.a, .int .i64 c.i.b, .int .i64 c.i.c, .int .i64 c.i.d, .int .i64 c.r, .bool c.v]] w fun e w' => e = .returned (.bool true) ∧ Q w w' := by
  obtain ⟨⟨h1, h2, h3, h4, h5, h6, h7, h8⟩, h9, h10⟩ := hc
  go_enter Try.func81, Try.ntmps81
  go_wp2
  refine wp_loop_rounds 5 ?_
  repeat (rw [rounds_succ]; go_wp2)
  go_ret
  refine ⟨rfl, ?_⟩
  repeat' (first | exact Q.refl _ | refine Q.alloc ?_ _ | refine Q.jk ?_ _ | refine Q.drew ?_)
set_option maxHeartbeats 1000000 in
theorem dsum1_c (x y : Cy) (w : World) (hx : x.In 1000000000) (hy : y.In 1000000000) :
    Calls Try.prog 61 #[.agg #[.int .i64 x.a, .int .i64 x.b, .int .i64 x.c, .int .i64 x.d], .agg #[.int .i64 y.a, .int .i64 y.b, .int .i64 y.c, .int .i64 y.d]] w fun e w' => e = .returned (.tuple #[.agg #[.int .i64 (x.add y).a, .int .i64 (x.add y).b, .int .i64 (x.add y).c, .int .i64 (x.add y).d], .int .i64 0]) ∧ Q w w' := by
  go_enter Try.func61, Try.ntmps61
  go_wp2_with (go_at_call 62; refine (add_c x y _ (hx.mono (by decide)) (hy.mono (by decide))).mono ?_; rintro e w' ⟨rfl, kj, rfl⟩)
  refine bodyPost_ret (v := .tuple #[.agg #[.int .i64 (x.add y).a, .int .i64 (x.add y).b, .int .i64 (x.add y).c, .int .i64 (x.add y).d], .int .i64 0]) (by simp [results, Try.results61, go_sem]) rfl ⟨rfl, ?_⟩
  repeat' (first | exact Q.refl _ | refine Q.alloc ?_ _ | refine Q.jk ?_ _ | refine Q.drew ?_)
set_option maxHeartbeats 1000000 in
theorem drestr1_c (s : Su) (y : Cy) (w : World) (hs : s.In 10000000000000000) (hy : y.In 6553600) :
    Calls Try.prog 64 #[.agg #[.int .i64 s.a, .int .i64 s.b], .agg #[.int .i64 y.a, .int .i64 y.b, .int .i64 y.c, .int .i64 y.d]] w fun e w' => e = .returned (.tuple #[.agg #[.int .i64 (s.add y.norm).a, .int .i64 (s.add y.norm).b], .int .i64 0]) ∧ Q w w' := by
  have hn : y.norm.In 100000000000000000 := (norm_in hy).mono (by decide)
  go_enter Try.func64, Try.ntmps64
  go_wp2_with (first | (go_at_call 29; refine (norm_c y _ (hy.mono (by decide))).mono ?_; rintro e w' ⟨rfl, kj, rfl⟩) | (go_at_call 39; refine (sadd_c s y.norm _ (hs.mono (by decide)) hn).mono ?_; rintro e w' ⟨rfl, kj, rfl⟩))
  refine bodyPost_ret (v := .tuple #[.agg #[.int .i64 (s.add y.norm).a, .int .i64 (s.add y.norm).b], .int .i64 0]) (by simp [results, Try.results64, go_sem]) rfl ⟨rfl, ?_⟩
  repeat' (first | exact Q.refl _ | refine Q.alloc ?_ _ | refine Q.jk ?_ _ | refine Q.drew ?_)
set_option maxHeartbeats 4000000 in
theorem dgatherC_c (g o cap : Nat) (l : List Cur) (w : World) (hl : 1 ≤ l.length) (hl' : l.length ≤ 16) (hr : RdC w g o l) (hok : ∀ c ∈ l, c.OK) :
    Calls Try.prog 60 #[.slice (some ⟨g, o, none⟩) l.length cap, .func (.func 61) #[] #[]] w fun e w' => e = .returned (.tuple #[.agg #[.int .i64 (sumW l).a, .int .i64 (sumW l).b, .int .i64 (sumW l).c, .int .i64 (sumW l).d], .int .i64 0]) ∧ Q w w' := by
  haveI := hr.old (by intro e; rw [e] at hl; simp at hl)
  obtain ⟨n, hn⟩ : ∃ n, l.length = n := ⟨_, rfl⟩
  rw [hn] at hl hl' ⊢
  have HN := Lib.hid hn
  have HR := Lib.hid hr
  have HOK := Lib.hid hok
  clear hn hr hok
  go_enter Try.func60, Try.ntmps60
  go_wp2
  go_loopw [26] (fun i wr => ∃ k : Nat, k ≤ n ∧ i = .int .i64 k ∧ Q ((w.alloc (.cells #[.int .i64 0, .int .i64 0, .int .i64 0, .int .i64 0] 23)).alloc (.cells #[.int .i64 0, .int .i64 0, .int .i64 0, .int .i64 0] 23)) wr) (fun i _ => n - (intOf i).toNat)
  case atStart => exact ⟨0, by omega, rfl, Q.refl _⟩
  case round =>
    obtain ⟨k, hk, rfl, kw, rfl⟩ := hrel
    by_cases hlt : k < n
    · obtain ⟨c, hc⟩ : ∃ c, l[k]? = some c := ⟨_, List.getElem?_eq_getElem (by rw [HN.out]; exact hlt)⟩
      obtain ⟨c1, c2, c3, c4, c5, c6⟩ := HR.out k c hc
      have hcok := HOK.out c (List.mem_of_getElem? hc)
      clear hc
      go_wp2_with (go_at_call 81; refine (dvalid_c c _ hcok).mono ?_; rintro e w' ⟨rfl, kj, rfl⟩)
      go_roundw
      case rel =>
        refine ⟨k + 1, by omega, by go_num, ?_⟩
        repeat' (first | exact Q.refl _ | refine Q.alloc ?_ _ | refine Q.jk ?_ _ | refine Q.drew ?_)
      case measure => simp [intOf]; omega
    · obtain rfl : k = n := by omega
      clear hlt hk
      go_wp2
      go_loopw [38] (fun i wr => ∃ m : Nat, m ≤ k ∧ i = .int .i64 m ∧ Q ((((w.alloc (.cells #[.int .i64 0, .int .i64 0, .int .i64 0, .int .i64 0] 23)).alloc (.cells #[.int .i64 0, .int .i64 0, .int .i64 0, .int .i64 0] 23)).jk kw).alloc (.cells #[.int .i64 (sumW (l.take m)).a, .int .i64 (sumW (l.take m)).b, .int .i64 (sumW (l.take m)).c, .int .i64 (sumW (l.take m)).d] 23)) wr) (fun i _ => k - (intOf i).toNat)
      case atStart => exact ⟨0, by omega, rfl, Q.refl _⟩
      case round =>
        obtain ⟨m, hm, rfl, kx, rfl⟩ := hrel
        by_cases hlt : m < k
        · have hml : m < l.length := by rw [HN.out]; exact hlt
          obtain ⟨c, hc⟩ : ∃ c, l[m]? = some c := ⟨_, List.getElem?_eq_getElem hml⟩
          have hce : l[m] = c := by rw [List.getElem?_eq_getElem hml] at hc; exact Option.some.inj hc
          obtain ⟨c1, c2, c3, c4, c5, c6⟩ := HR.out m c hc
          have hcok := HOK.out c (List.mem_of_getElem? hc)
          have hkb := hcok.k_bd
          have EK := Lib.hid (sumW_take hml)
          rw [hce] at EK
          have hs := sumW_bd (ok_take HOK.out m) (by rw [List.length_take]; omega)
          clear hc hce hml
          have SC := Lib.hid fun w => scale_fit c.i c.k 65536 100 w hcok.1 hkb.1 hkb.2 (by decide) (by decide) (by decide)
          have AD := Lib.hid fun w => dsum1_c (sumW (l.take m)) (c.i.sc c.k) w (hs.mono (by decide)) (hcok.wt_in.mono (by decide))
          obtain ⟨ci, cr, cv⟩ := c
          obtain ⟨_, r1, r2⟩ := hcok
          dsimp only at c1 c2 c3 c4 c5 c6 r1 r2
          unfold Cur.k at SC
          dsimp only at SC
          cases cv
          all_goals
            simp only [if_true, if_false, Bool.false_eq_true] at SC
            go_wp2_with (first | (go_at_call 28; (with_reducible refine (SC.out _).mono ?_); rintro e w' ⟨rfl, kj, rfl⟩) | (go_at_call 61; refine (AD.out _).mono ?_; rintro e w' ⟨rfl, kj, rfl⟩))
            go_roundw
            case rel =>
              refine ⟨m + 1, by omega, by go_num, ?_⟩
              rw [EK.out]
              repeat' (first | exact Q.refl _ | refine Q.alloc ?_ _ | refine Q.jk ?_ _ | refine Q.drew ?_)
            case measure => simp [intOf]; omega
        · obtain rfl : m = k := by omega
          have EL : Hid (l.take m = l) := Lib.hid (List.take_of_length_le (by rw [HN.out]; omega))
          go_wp2
          refine bodyPost_ret (v := .tuple #[.agg #[.int .i64 (sumW l).a, .int .i64 (sumW l).b, .int .i64 (sumW l).c, .int .i64 (sumW l).d], .int .i64 0]) (by rw [EL.out]; simp [results, Try.results60, go_sem]) rfl ⟨rfl, ?_⟩
          repeat' (first | exact Q.refl _ | refine Q.alloc ?_ _ | refine Q.jk ?_ _ | refine Q.drew ?_)
set_option maxHeartbeats 4000000 in
theorem dgatherS_c (g o cap : Nat) (l : List Cur) (w : World) (hl : 1 ≤ l.length) (hl' : l.length ≤ 16) (hr : RdC w g o l) (hok : ∀ c ∈ l, c.OK) :
    Calls Try.prog 63 #[.slice (some ⟨g, o, none⟩) l.length cap, .func (.func 64) #[] #[]] w fun e w' => e = .returned (.tuple #[.agg #[.int .i64 (resW l).a, .int .i64 (resW l).b], .int .i64 0]) ∧ Q w w' := by
  haveI := hr.old (by intro e; rw [e] at hl; simp at hl)
  obtain ⟨n, hn⟩ : ∃ n, l.length = n := ⟨_, rfl⟩
  rw [hn] at hl hl' ⊢
  have HN := Lib.hid hn
  have HR := Lib.hid hr
  have HOK := Lib.hid hok
  clear hn hr hok
  go_enter Try.func63, Try.ntmps63
  go_wp2
  go_loopw [26] (fun i wr => ∃ k : Nat, k ≤ n ∧ i = .int .i64 k ∧ Q ((w.alloc (.cells #[.int .i64 0, .int .i64 0] 27)).alloc (.cells #[.int .i64 0, .int .i64 0] 27)) wr) (fun i _ => n - (intOf i).toNat)
  case atStart => exact ⟨0, by omega, rfl, Q.refl _⟩
  case round =>
    obtain ⟨k, hk, rfl, kw, rfl⟩ := hrel
    by_cases hlt : k < n
    · obtain ⟨c, hc⟩ : ∃ c, l[k]? = some c := ⟨_, List.getElem?_eq_getElem (by rw [HN.out]; exact hlt)⟩
      obtain ⟨c1, c2, c3, c4, c5, c6⟩ := HR.out k c hc
      have hcok := HOK.out c (List.mem_of_getElem? hc)
      clear hc
      go_wp2_with (go_at_call 81; refine (dvalid_c c _ hcok).mono ?_; rintro e w' ⟨rfl, kj, rfl⟩)
      go_roundw
      case rel =>
        refine ⟨k + 1, by omega, by go_num, ?_⟩
        repeat' (first | exact Q.refl _ | refine Q.alloc ?_ _ | refine Q.jk ?_ _ | refine Q.drew ?_)
      case measure => simp [intOf]; omega
    · obtain rfl : k = n := by omega
      clear hlt hk
      go_wp2
      go_loopw [38] (fun i wr => ∃ m : Nat, m ≤ k ∧ i = .int .i64 m ∧ Q ((((w.alloc (.cells #[.int .i64 0, .int .i64 0] 27)).alloc (.cells #[.int .i64 0, .int .i64 0] 27)).jk kw).alloc (.cells #[.int .i64 (resW (l.take m)).a, .int .i64 (resW (l.take m)).b] 27)) wr) (fun i _ => k - (intOf i).toNat)
      case atStart => exact ⟨0, by omega, rfl, Q.refl _⟩
      case round =>
        obtain ⟨m, hm, rfl, kx, rfl⟩ := hrel
        by_cases hlt : m < k
        · have hml : m < l.length := by rw [HN.out]; exact hlt
          obtain ⟨c, hc⟩ : ∃ c, l[m]? = some c := ⟨_, List.getElem?_eq_getElem hml⟩
          have hce : l[m] = c := by rw [List.getElem?_eq_getElem hml] at hc; exact Option.some.inj hc
          obtain ⟨c1, c2, c3, c4, c5, c6⟩ := HR.out m c hc
          have hcok := HOK.out c (List.mem_of_getElem? hc)
          have hkb := hcok.k_bd
          have EK := Lib.hid (resW_take hml)
          rw [hce] at EK
          have hs := resW_bd (ok_take HOK.out m) (by rw [List.length_take]; omega)
          clear hc hce hml
          have SC := Lib.hid fun w => scale_fit c.i c.k 65536 100 w hcok.1 hkb.1 hkb.2 (by decide) (by decide) (by decide)
          have AD := Lib.hid fun w => drestr1_c (resW (l.take m)) (c.i.sc c.k) w (hs.mono (by decide)) hcok.wt_in
          obtain ⟨ci, cr, cv⟩ := c
          obtain ⟨_, r1, r2⟩ := hcok
          dsimp only at c1 c2 c3 c4 c5 c6 r1 r2
          unfold Cur.k at SC
          dsimp only at SC
          cases cv
          all_goals
            simp only [if_true, if_false, Bool.false_eq_true] at SC
            go_wp2_with (first | (go_at_call 28; (with_reducible refine (SC.out _).mono ?_); rintro e w' ⟨rfl, kj, rfl⟩) | (go_at_call 64; refine (AD.out _).mono ?_; rintro e w' ⟨rfl, kj, rfl⟩))
            go_roundw
            case rel =>
              refine ⟨m + 1, by omega, by go_num, ?_⟩
              rw [EK.out]
              repeat' (first | exact Q.refl _ | refine Q.alloc ?_ _ | refine Q.jk ?_ _ | refine Q.drew ?_)
            case measure => simp [intOf]; omega
        · obtain rfl : m = k := by omega
          have EL : Hid (l.take m = l) := Lib.hid (List.take_of_length_le (by rw [HN.out]; omega))
          go_wp2
          refine bodyPost_ret (v := .tuple #[.agg #[.int .i64 (resW l).a, .int .i64 (resW l).b], .int .i64 0]) (by rw [EL.out]; simp [results, Try.results63, go_sem]) rfl ⟨rfl, ?_⟩
          repeat' (first | exact Q.refl _ | refine Q.alloc ?_ _ | refine Q.jk ?_ _ | refine Q.drew ?_)
end Go.Proofs.Ytlhapbajllpcnaa

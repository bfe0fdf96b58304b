
/- What plus and minus of package substationref01 return. -/
import Derived.Test.YtkkjifgcjfbcaaaBgC
namespace Go.Proofs.Ytkkjifgcjfbcaaa
open Go.RowKit Go.Sub
set_option maxHeartbeats 2000000 in
theorem r1plus_any (A : Option Addr) (n c : Nat) (l : List Int) (B : Option Addr) (m d : Nat) (r : List Int) (w : World) (h1 : Rd w A n c l) (h2 : Rd w B m d r) (dl : Dg l) (dr : Dg r) (hn : n < 10000) (hm : m < 10000) :
    Calls Try.prog 126 #[.slice A n c, .slice B m d] w (RetV (dval l + dval r) (n + m + 1) w) := by
  have L1 := Lib.hid h1.1
  have L2 := Lib.hid h2.1
  have H1 := Lib.hid h1
  have H2 := Lib.hid h2
  clear h1 h2
  go_enter Try.func126, Try.ntmps126
  go_wp2
  go_loopw [5, 6, 7] (fun v s6 s7 wr => ∃ (o : List Int) (i : Nat) (q : Int) (Ao : Option Addr) (co : Nat), v = .slice Ao i co ∧ s6 = .int .u64 q ∧ s7 = .int .i64 i ∧ Hid (AddInv l r o i q) ∧ Hid (RowU w wr (.slice Ao i co) o) ∧ Q w wr ∧ Hid (i ≤ max n m + 1 ∧ (max n m < i → q = 0))) (fun _ _ s7 _ => max n m + 2 - (intOf s7).toNat)
  case atStart => exact ⟨[], 0, 0, none, 0, rfl, rfl, rfl, Lib.hid (AddInv.start l r), Lib.hid (RowU.nil w w), Q.refl _, Lib.hid ⟨by omega, fun h => rfl⟩⟩
  case round =>
    obtain ⟨o, i, q, Ao, co, rfl, rfl, rfl, HI, HROW, ⟨kw, rfl⟩, HM⟩ := hrel
    have hq0 := HI.out.c0
    have hq1 := HI.out.c1
    have HLO : Hid (o.length = i) := Lib.hid HI.out.len
    have hi : i ≤ 30000 := by have := HM.out.1; omega
    obtain ⟨x, ex⟩ : ∃ x, l.getD i 0 = x := ⟨_, rfl⟩
    obtain ⟨y, ey⟩ : ∃ y, r.getD i 0 = y := ⟨_, rfl⟩
    have hx : 0 ≤ x ∧ x < 4294967296 := ex ▸ dl.getD i
    have hy : 0 ≤ y ∧ y < 4294967296 := ey ▸ dr.getD i
    obtain ⟨hx0, hx1⟩ := hx
    obtain ⟨hy0, hy1⟩ := hy
    have EX := Lib.hid ex
    have EY := Lib.hid ey
    clear ex ey
    have hm1 : max n m < i → q = 0 := HM.out.2
    have HM1 := Lib.hid hm1
    clear hm1
    by_cases hin : i < n
    · have HMX : Hid (i < max n m) := Lib.hid (by omega)
      by_cases him : i < m
      · obtain ⟨ST, t0, t1⟩ := HI.out.step (t := q + x + y) dl dr (by rw [EX.out, EY.out]; try omega)
        have HS := Lib.hid ST
        clear ST
        obtain ⟨g, rfl, hOld, hc⟩ := H1.out.at_ (by omega)
        have hcx := hc.out i hin
        rw [EX.out] at hcx
        clear hc
        obtain ⟨g', rfl, hOld', hc'⟩ := H2.out.at_ (by omega)
        have hcy := hc'.out i him
        rw [EY.out] at hcy
        clear hc'
        go_wp2_with (at_builtin; refine wpList_app_u32 rfl _ _ rfl w _ o [(q + x + y) % 4294967296] i 1 (some ⟨w.heap.size + kw.os.size, 0, none⟩) 1 (by rfl) (by rfl) (HROW.out.q (by repeat' (first | exact Q.refl _ | refine Q.alloc ?_ _ | refine Q.jk ?_ _ | refine Q.drew ?_))) HLO.out (Rd.one' _ _ _ _ (by simp [World.size_jk])) (by omega) (by repeat' (first | exact Q.refl _ | refine Q.alloc ?_ _ | refine Q.jk ?_ _ | refine Q.drew ?_)) ?_; intro A' c' kk hrow)
        go_roundw
        case rel => exact ⟨_, i + 1, _, A', c', rfl, rfl, by go_num, HS, Lib.hid hrow, ⟨kk, rfl⟩, Lib.hid ⟨by have := HMX.out; omega, fun h => by have := HMX.out; first | omega | (have := HQ.out; omega)⟩⟩
        case measure => have := HMX.out; simp [intOf]; omega
      · have hy' : y = 0 := by rw [← EY.out]; exact getD_ge (by rw [L2.out]; omega)
        obtain ⟨ST, t0, t1⟩ := HI.out.step (t := q + x) dl dr (by rw [EX.out, EY.out]; try omega)
        have HS := Lib.hid ST
        clear ST
        clear hy'
        obtain ⟨g, rfl, hOld, hc⟩ := H1.out.at_ (by omega)
        have hcx := hc.out i hin
        rw [EX.out] at hcx
        clear hc
        go_wp2_with (at_builtin; refine wpList_app_u32 rfl _ _ rfl w _ o [(q + x) % 4294967296] i 1 (some ⟨w.heap.size + kw.os.size, 0, none⟩) 1 (by rfl) (by rfl) (HROW.out.q (by repeat' (first | exact Q.refl _ | refine Q.alloc ?_ _ | refine Q.jk ?_ _ | refine Q.drew ?_))) HLO.out (Rd.one' _ _ _ _ (by simp [World.size_jk])) (by omega) (by repeat' (first | exact Q.refl _ | refine Q.alloc ?_ _ | refine Q.jk ?_ _ | refine Q.drew ?_)) ?_; intro A' c' kk hrow)
        go_roundw
        case rel => exact ⟨_, i + 1, _, A', c', rfl, rfl, by go_num, HS, Lib.hid hrow, ⟨kk, rfl⟩, Lib.hid ⟨by have := HMX.out; omega, fun h => by have := HMX.out; first | omega | (have := HQ.out; omega)⟩⟩
        case measure => have := HMX.out; simp [intOf]; omega
    · by_cases him : i < m
      · have HMX : Hid (i < max n m) := Lib.hid (by omega)
        have hx' : x = 0 := by rw [← EX.out]; exact getD_ge (by rw [L1.out]; omega)
        obtain ⟨ST, t0, t1⟩ := HI.out.step (t := q + y) dl dr (by rw [EX.out, EY.out]; try omega)
        have HS := Lib.hid ST
        clear ST
        clear hx'
        obtain ⟨g', rfl, hOld', hc'⟩ := H2.out.at_ (by omega)
        have hcy := hc'.out i him
        rw [EY.out] at hcy
        clear hc'
        go_wp2_with (at_builtin; refine wpList_app_u32 rfl _ _ rfl w _ o [(q + y) % 4294967296] i 1 (some ⟨w.heap.size + kw.os.size, 0, none⟩) 1 (by rfl) (by rfl) (HROW.out.q (by repeat' (first | exact Q.refl _ | refine Q.alloc ?_ _ | refine Q.jk ?_ _ | refine Q.drew ?_))) HLO.out (Rd.one' _ _ _ _ (by simp [World.size_jk])) (by omega) (by repeat' (first | exact Q.refl _ | refine Q.alloc ?_ _ | refine Q.jk ?_ _ | refine Q.drew ?_)) ?_; intro A' c' kk hrow)
        go_roundw
        case rel => exact ⟨_, i + 1, _, A', c', rfl, rfl, by go_num, HS, Lib.hid hrow, ⟨kk, rfl⟩, Lib.hid ⟨by have := HMX.out; omega, fun h => by have := HMX.out; first | omega | (have := HQ.out; omega)⟩⟩
        case measure => have := HMX.out; simp [intOf]; omega
      · by_cases hz : q = 0
        · subst hz
          have HV := Lib.hid (HI.out.done (by rw [L1.out]; omega) (by rw [L2.out]; omega))
          have HN : Hid (i ≤ n + m + 1) := Lib.hid (by have := HM.out.1; omega)
          go_wp2
          go_ret
          exact RetV.of (l := o) (A := Ao) (n := i) (c := co) rfl ((Q.refl _).jk _) HROW.out.rd' HROW.out.fr HI.out.dg HV.out HN.out
        · have hq : 0 < q := by omega
          have HMX : Hid (i ≤ max n m) := Lib.hid (by
            rcases Nat.lt_or_ge (max n m) i with h | h
            · exact absurd (HM1.out h) hz
            · exact h)
          have HQ : Hid (q / 4294967296 = 0) := Lib.hid (by omega)
          clear hz
          have hx' : x = 0 := by rw [← EX.out]; exact getD_ge (by rw [L1.out]; omega)
          have hy' : y = 0 := by rw [← EY.out]; exact getD_ge (by rw [L2.out]; omega)
          obtain ⟨ST, t0, t1⟩ := HI.out.step (t := q) dl dr (by rw [EX.out, EY.out]; try omega)
          rw [show q % 4294967296 = q by omega] at ST
          have HS := Lib.hid ST
          clear ST
          clear hx'
          clear hy'
          go_wp2_with (at_builtin; refine wpList_app_u32 rfl _ _ rfl w _ o [q] i 1 (some ⟨w.heap.size + kw.os.size, 0, none⟩) 1 (by rfl) (by rfl) (HROW.out.q (by repeat' (first | exact Q.refl _ | refine Q.alloc ?_ _ | refine Q.jk ?_ _ | refine Q.drew ?_))) HLO.out (Rd.one' _ _ _ _ (by simp [World.size_jk])) (by omega) (by repeat' (first | exact Q.refl _ | refine Q.alloc ?_ _ | refine Q.jk ?_ _ | refine Q.drew ?_)) ?_; intro A' c' kk hrow)
          go_roundw
          case rel => exact ⟨_, i + 1, _, A', c', rfl, rfl, by go_num, HS, Lib.hid hrow, ⟨kk, rfl⟩, Lib.hid ⟨by have := HMX.out; omega, fun h => by have := HMX.out; first | omega | (have := HQ.out; omega)⟩⟩
          case measure => have := HMX.out; simp [intOf]; omega

set_option maxHeartbeats 2000000 in
theorem r1minus_any (A : Option Addr) (n c : Nat) (l : List Int) (B : Option Addr) (m d : Nat) (r : List Int) (w : World) (h1 : Rd w A n c l) (h2 : Rd w B m d r) (dl : Dg l) (dr : Dg r) (tr : Tr r) (hle : dval r ≤ dval l) (hn : n < 10000) :
    Calls Try.prog 127 #[.slice A n c, .slice B m d] w (RetS (dig (dval l - dval r).toNat) w) := by
  have hml : m ≤ n := by rw [← h1.1, ← h2.1]; exact len_le_of_dval dl dr tr hle
  have L1 := Lib.hid h1.1
  have L2 := Lib.hid h2.1
  have H1 := Lib.hid h1
  have H2 := Lib.hid h2
  have HLE := Lib.hid hle
  clear h1 h2 hle
  go_enter Try.func127, Try.ntmps127
  go_wp2
  go_loopw [5, 6, 7] (fun v s6 s7 wr => ∃ (o : List Int) (i : Nat) (q : Int) (Ao : Option Addr) (co : Nat), v = .slice Ao i co ∧ s6 = .int .u64 q ∧ s7 = .int .i64 i ∧ Hid (SubInv l r o i q) ∧ Hid (RowU w wr (.slice Ao i co) o) ∧ Q w wr ∧ i ≤ n) (fun _ _ s7 _ => n - (intOf s7).toNat)
  case atStart => exact ⟨[], 0, 0, none, 0, rfl, rfl, rfl, Lib.hid (SubInv.start l r), Lib.hid (RowU.nil w w), Q.refl _, by omega⟩
  case round =>
    obtain ⟨o, i, q, Ao, co, rfl, rfl, rfl, HI, HROW, ⟨kw, rfl⟩, hi⟩ := hrel
    have hq0 := HI.out.c0
    have hq1 := HI.out.c1
    have HLO : Hid (o.length = i) := Lib.hid HI.out.len
    obtain ⟨x, ex⟩ : ∃ x, l.getD i 0 = x := ⟨_, rfl⟩
    obtain ⟨y, ey⟩ : ∃ y, r.getD i 0 = y := ⟨_, rfl⟩
    have hx : 0 ≤ x ∧ x < 4294967296 := ex ▸ dl.getD i
    have hy : 0 ≤ y ∧ y < 4294967296 := ey ▸ dr.getD i
    obtain ⟨hx0, hx1⟩ := hx
    obtain ⟨hy0, hy1⟩ := hy
    have EX := Lib.hid ex
    have EY := Lib.hid ey
    clear ex ey
    by_cases hin : i < n
    · by_cases him : i < m
      · obtain ⟨ST, t0, t1⟩ := HI.out.step (t := (x - q - y) % 18446744073709551616) dl dr (by rw [EX.out, EY.out])
        have HS := Lib.hid ST
        clear ST
        obtain ⟨g, rfl, hOld, hc⟩ := H1.out.at_ (by omega)
        have hcx := hc.out i hin
        rw [EX.out] at hcx
        clear hc
        obtain ⟨g', rfl, hOld', hc'⟩ := H2.out.at_ (by omega)
        have hcy := hc'.out i him
        rw [EY.out] at hcy
        clear hc'
        obtain ⟨tt, htt⟩ : ∃ tt, tt = (x - q - y) % 18446744073709551616 := ⟨_, rfl⟩
        have E1 : Hid (IntKind.u64.wrap (IntKind.u64.wrap (x - q) - y) = tt) := Lib.hid (by rw [htt, IntKind.wrap_u64, IntKind.wrap_u64]; omega)
        rw [← htt] at HS t0 t1
        clear htt
        go_upto_region 9 with (fail)
        rw [E1.out]
        go_wp2_with (at_builtin; refine wpList_app_u32 rfl _ _ rfl w _ o [tt % 4294967296] i 1 (some ⟨w.heap.size + kw.os.size, 0, none⟩) 1 (by rfl) (by rfl) (HROW.out.q (by repeat' (first | exact Q.refl _ | refine Q.alloc ?_ _ | refine Q.jk ?_ _ | refine Q.drew ?_))) HLO.out (Rd.one' _ _ _ _ (by simp [World.size_jk])) (by omega) (by repeat' (first | exact Q.refl _ | refine Q.alloc ?_ _ | refine Q.jk ?_ _ | refine Q.drew ?_)) ?_; intro A' c' kk hrow)
        go_roundw
        case rel => exact ⟨_, i + 1, _, A', c', rfl, rfl, by go_num, HS, Lib.hid hrow, ⟨kk, rfl⟩, by omega⟩
        case measure => simp [intOf]; omega
      · have hy' : y = 0 := by rw [← EY.out]; exact getD_ge (by rw [L2.out]; omega)
        obtain ⟨ST, t0, t1⟩ := HI.out.step (t := (x - q) % 18446744073709551616) dl dr (by rw [EX.out, EY.out]; rw [hy', Int.sub_zero])
        have HS := Lib.hid ST
        clear ST
        clear hy'
        obtain ⟨g, rfl, hOld, hc⟩ := H1.out.at_ (by omega)
        have hcx := hc.out i hin
        rw [EX.out] at hcx
        clear hc
        obtain ⟨tt, htt⟩ : ∃ tt, tt = (x - q) % 18446744073709551616 := ⟨_, rfl⟩
        have E1 : Hid (IntKind.u64.wrap (x - q) = tt) := Lib.hid (by rw [htt, IntKind.wrap_u64])
        rw [← htt] at HS t0 t1
        clear htt
        go_upto_region 9 with (fail)
        rw [E1.out]
        go_wp2_with (at_builtin; refine wpList_app_u32 rfl _ _ rfl w _ o [tt % 4294967296] i 1 (some ⟨w.heap.size + kw.os.size, 0, none⟩) 1 (by rfl) (by rfl) (HROW.out.q (by repeat' (first | exact Q.refl _ | refine Q.alloc ?_ _ | refine Q.jk ?_ _ | refine Q.drew ?_))) HLO.out (Rd.one' _ _ _ _ (by simp [World.size_jk])) (by omega) (by repeat' (first | exact Q.refl _ | refine Q.alloc ?_ _ | refine Q.jk ?_ _ | refine Q.drew ?_)) ?_; intro A' c' kk hrow)
        go_roundw
        case rel => exact ⟨_, i + 1, _, A', c', rfl, rfl, by go_num, HS, Lib.hid hrow, ⟨kk, rfl⟩, by omega⟩
        case measure => simp [intOf]; omega
    · obtain rfl : i = n := by omega
      have HV : Hid (dval o = dval l - dval r) := Lib.hid (by
        have := HI.out
        rw [← L1.out] at this
        exact this.done (by rw [L1.out, L2.out]; exact hml) HLE.out)
      go_wp2_with (go_at_call 109; refine (r1trim_any _ _ _ o _ (HROW.out.rd') HI.out.dg (by omega)).mono ?_; rintro e w' ⟨A2, n2, c2, k2, rfl, rfl, hr2, hf2⟩)
      go_ret
      refine RetS.of (A := A2) (n := n2) (c := c2) rfl (((Q.refl _).jk _).jk _) ?_ (hf2.q ((Q.refl _).jk _))
      rw [← HV.out]
      exact hr2
end Go.Proofs.Ytkkjifgcjfbcaaa

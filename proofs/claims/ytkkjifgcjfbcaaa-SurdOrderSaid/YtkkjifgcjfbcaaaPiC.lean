
/- What addMag and subMag of package integer return. -/
import Derived.Test.YtkkjifgcjfbcaaaPiB
import Derived.Test.YtkkjifgcjfbcaaaBgF
namespace Go.Sub
theorem take_set_succ (o : List Int) (i : Nat) (d : Int) (h : i < o.length) : (o.set i d).take (i + 1) = o.take i ++ [d] := by
  rw [List.take_succ_eq_append_getElem (by simpa using h), List.getElem_set_self, List.take_set_of_le (Nat.le_refl _)]
theorem Dg.drop0 {o : List Int} {i : Nat} (h1 : Dg (o.take i)) (h2 : Dg (o.drop i)) : Dg o := by
  have := h1.append h2
  rwa [List.take_append_drop] at this
end Go.Sub
namespace Go.Proofs.Ytkkjifgcjfbcaaa
open Go.RowKit Go.Sub
set_option maxRecDepth 100000 in
set_option maxHeartbeats 2000000 in
theorem iaddMag_ge (A : Option Addr) (n c : Nat) (l : List Int) (B : Option Addr) (m d : Nat) (r : List Int) (w : World) (h1 : Rd w A n c l) (h2 : Rd w B m d r) (dl : Dg l) (dr : Dg r) (hn : n < 10000) (hmn : m ≤ n) :
    Calls Try.prog 124 #[.slice A n c, .slice B m d] w (RetS (dig (dval l + dval r).toNat) w) := by
  have L1 := Lib.hid h1.1
  have L2 := Lib.hid h2.1
  have H1 := Lib.hid h1
  have H2 := Lib.hid h2
  clear h1 h2
  have hmk := make_u32 w (n + 1) (n + 1) (by omega) (by omega)
  go_enter Try.func124, Try.ntmps124
  go_wp2
  clear hmk
  go_loopw [6, 22] (fun s6 i wr => ∃ (q : Int) (i' : Nat) (o : List Int) (kx : Jk), s6 = .int .u64 q ∧ i = .int .i64 i' ∧ i' ≤ n ∧ Hid (AddInv l r (o.take i') i' q) ∧ Hid (o.length = n + 1) ∧ Hid (Dg o) ∧ wr = (w.alloc (.cells (cellsU o) 105)).jk kx) (fun _ i _ => n - (intOf i).toNat)
  case atStart =>
    obtain ⟨k0, hk0⟩ := Q.refl (w.alloc (.cells (cellsU (List.replicate (n + 1) 0)) 105))
    exact ⟨0, 0, List.replicate (n + 1) 0, k0, rfl, rfl, Nat.zero_le _, Lib.hid (AddInv.start l r), Lib.hid (by simp), Lib.hid (fun d hd => by have := List.eq_of_mem_replicate hd; omega), hk0⟩
  case round =>
    obtain ⟨q, i, o, kx, rfl, rfl, hi, HI, HO, DR, rfl⟩ := hrel
    have hq0 := HI.out.c0
    have hq1 := HI.out.c1
    obtain ⟨x, ex⟩ : ∃ x, l.getD i 0 = x := ⟨_, rfl⟩
    obtain ⟨y, ey⟩ : ∃ y, r.getD i 0 = y := ⟨_, rfl⟩
    have hx : 0 ≤ x ∧ x < 4294967296 := ex ▸ dl.getD i
    have hy : 0 ≤ y ∧ y < 4294967296 := ey ▸ dr.getD i
    obtain ⟨hx0, hx1⟩ := hx
    obtain ⟨hy0, hy1⟩ := hy
    have EX := Lib.hid ex
    have EY := Lib.hid ey
    clear ex ey
    by_cases hin : i < n
    · by_cases him : i < m
      · obtain ⟨ST, t0, t1⟩ := HI.out.step (t := x + q + y) dl dr (by rw [EX.out, EY.out]; omega)
        rw [← take_set_succ o i _ (by rw [HO.out]; omega)] at ST
        have HS := Lib.hid ST
        clear ST
        obtain ⟨g, rfl, hOld, hc⟩ := H1.out.at_ (by omega)
        have hcx := hc.out i hin
        rw [EX.out] at hcx
        clear hc
        obtain ⟨g', rfl, hOld', hc'⟩ := H2.out.at_ (by omega)
        have hcy := hc'.out i him
        rw [EY.out] at hcy
        clear hc'
        have hcz := cellsU_at (o := o) (j := i) (by rw [HO.out]; omega)
        obtain ⟨z, ez⟩ : ∃ z, o.getD i 0 = z := ⟨_, rfl⟩
        rw [ez] at hcz
        clear ez
        have HC := Lib.hid (cellsU_set o i ((x + q + y) % 4294967296))
        have hi1 : i < n + 1 := by omega
        go_wp2
        go_roundw
        case rel => exact ⟨_, i + 1, _, kx, rfl, by go_num, by omega, HS, Lib.hid (by rw [List.length_set]; exact HO.out), Lib.hid (DR.out.set i (by omega) (by omega)), by rw [HC.out]⟩
        case measure => simp [intOf]; omega
      · have hy' : y = 0 := by rw [← EY.out]; exact getD_ge (by rw [L2.out]; omega)
        obtain ⟨ST, t0, t1⟩ := HI.out.step (t := x + q) dl dr (by rw [EX.out, EY.out]; omega)
        rw [← take_set_succ o i _ (by rw [HO.out]; omega)] at ST
        have HS := Lib.hid ST
        clear ST
        clear hy'
        obtain ⟨g, rfl, hOld, hc⟩ := H1.out.at_ (by omega)
        have hcx := hc.out i hin
        rw [EX.out] at hcx
        clear hc
        have hcz := cellsU_at (o := o) (j := i) (by rw [HO.out]; omega)
        obtain ⟨z, ez⟩ : ∃ z, o.getD i 0 = z := ⟨_, rfl⟩
        rw [ez] at hcz
        clear ez
        have HC := Lib.hid (cellsU_set o i ((x + q) % 4294967296))
        have hi1 : i < n + 1 := by omega
        go_wp2
        go_roundw
        case rel => exact ⟨_, i + 1, _, kx, rfl, by go_num, by omega, HS, Lib.hid (by rw [List.length_set]; exact HO.out), Lib.hid (DR.out.set i (by omega) (by omega)), by rw [HC.out]⟩
        case measure => simp [intOf]; omega
    · obtain rfl : i = n := by omega
      have hcz := cellsU_at (o := o) (j := i) (by rw [HO.out]; omega)
      obtain ⟨z, ez⟩ : ∃ z, o.getD i 0 = z := ⟨_, rfl⟩
      rw [ez] at hcz
      clear ez
      have HC := Lib.hid (cellsU_set o i q)
      have HD : Hid (Dg (o.set i q)) := Lib.hid (DR.out.set i (by omega) (by omega))
      have HV : Hid (dval (o.set i q) = dval l + dval r) := Lib.hid (by
        have hv := HI.out.val
        rw [List.take_of_length_le (l := l) (by rw [L1.out]; exact Nat.le_refl _), List.take_of_length_le (l := r) (by rw [L2.out]; omega)] at hv
        have e1 : (o.set i q).take (i + 1) = o.set i q := List.take_of_length_le (by rw [List.length_set, HO.out]; exact Nat.le_refl _)
        rw [← e1, take_set_succ o i q (by rw [HO.out]; omega), dval_snoc, List.length_take, HO.out, Nat.min_eq_left (by omega)]
        omega)
      have hrd : ∀ k, Rd ((w.alloc (.cells (cellsU (o.set i q)) 105)).jk k) (some ⟨w.heap.size, 0, none⟩) (i + 1) (i + 1) (o.set i q) := fun k => by
        have hol : (o.set i q).length = i + 1 := by rw [List.length_set, HO.out]
        refine ⟨hol, Nat.le_refl _, fun _ => ⟨_, rfl, by simp [World.size_jk]; omega, fun j hj => ?_⟩, fun h => by cases h⟩
        rw [World.cell?_jk, cell_of_row _ _ _ (cellsU (o.set i q)) _ (0, 0) (heap_alloc_new w _)]
        exact cellsU_at (by omega)
      have HRD := Lib.hid hrd
      clear hrd
      have hi1 : i < i + 1 := by omega
      go_wp2_with (go_at_call 115; rw [HC.out]; refine (itrim_any _ _ _ (o.set i q) _ (HRD.out _) HD.out (by omega)).mono ?_; rintro e w' ⟨A', n', rfl, rfl, hr0, hf'⟩; have hr' := hr0 _ (HRD.out kx); clear hr0)
      go_ret
      refine RetS.of (A := A') (n := n') (c := n') rfl (((Q.refl _).alloc _).jk _) ?_ (hf' w (fun ad e => by cases e; exact Nat.le_refl _))
      rw [← HV.out]
      exact hr'
set_option maxRecDepth 100000 in
set_option maxHeartbeats 2000000 in
theorem iaddMag_lt (A : Option Addr) (n c : Nat) (l : List Int) (B : Option Addr) (m d : Nat) (r : List Int) (w : World) (h1 : Rd w A n c l) (h2 : Rd w B m d r) (dl : Dg l) (dr : Dg r) (hn : n < 10000) (hmn : m < n) :
    Calls Try.prog 124 #[.slice B m d, .slice A n c] w (RetS (dig (dval l + dval r).toNat) w) := by
  have L1 := Lib.hid h1.1
  have L2 := Lib.hid h2.1
  have H1 := Lib.hid h1
  have H2 := Lib.hid h2
  clear h1 h2
  have hmk := make_u32 w (n + 1) (n + 1) (by omega) (by omega)
  go_enter Try.func124, Try.ntmps124
  go_wp2
  clear hmk
  go_loopw [6, 22] (fun s6 i wr => ∃ (q : Int) (i' : Nat) (o : List Int) (kx : Jk), s6 = .int .u64 q ∧ i = .int .i64 i' ∧ i' ≤ n ∧ Hid (AddInv l r (o.take i') i' q) ∧ Hid (o.length = n + 1) ∧ Hid (Dg o) ∧ wr = (w.alloc (.cells (cellsU o) 105)).jk kx) (fun _ i _ => n - (intOf i).toNat)
  case atStart =>
    obtain ⟨k0, hk0⟩ := Q.refl (w.alloc (.cells (cellsU (List.replicate (n + 1) 0)) 105))
    exact ⟨0, 0, List.replicate (n + 1) 0, k0, rfl, rfl, Nat.zero_le _, Lib.hid (AddInv.start l r), Lib.hid (by simp), Lib.hid (fun d hd => by have := List.eq_of_mem_replicate hd; omega), hk0⟩
  case round =>
    obtain ⟨q, i, o, kx, rfl, rfl, hi, HI, HO, DR, rfl⟩ := hrel
    have hq0 := HI.out.c0
    have hq1 := HI.out.c1
    obtain ⟨x, ex⟩ : ∃ x, l.getD i 0 = x := ⟨_, rfl⟩
    obtain ⟨y, ey⟩ : ∃ y, r.getD i 0 = y := ⟨_, rfl⟩
    have hx : 0 ≤ x ∧ x < 4294967296 := ex ▸ dl.getD i
    have hy : 0 ≤ y ∧ y < 4294967296 := ey ▸ dr.getD i
    obtain ⟨hx0, hx1⟩ := hx
    obtain ⟨hy0, hy1⟩ := hy
    have EX := Lib.hid ex
    have EY := Lib.hid ey
    clear ex ey
    by_cases hin : i < n
    · by_cases him : i < m
      · obtain ⟨ST, t0, t1⟩ := HI.out.step (t := x + q + y) dl dr (by rw [EX.out, EY.out]; omega)
        rw [← take_set_succ o i _ (by rw [HO.out]; omega)] at ST
        have HS := Lib.hid ST
        clear ST
        obtain ⟨g, rfl, hOld, hc⟩ := H1.out.at_ (by omega)
        have hcx := hc.out i hin
        rw [EX.out] at hcx
        clear hc
        obtain ⟨g', rfl, hOld', hc'⟩ := H2.out.at_ (by omega)
        have hcy := hc'.out i him
        rw [EY.out] at hcy
        clear hc'
        have hcz := cellsU_at (o := o) (j := i) (by rw [HO.out]; omega)
        obtain ⟨z, ez⟩ : ∃ z, o.getD i 0 = z := ⟨_, rfl⟩
        rw [ez] at hcz
        clear ez
        have HC := Lib.hid (cellsU_set o i ((x + q + y) % 4294967296))
        have hi1 : i < n + 1 := by omega
        go_wp2
        go_roundw
        case rel => exact ⟨_, i + 1, _, kx, rfl, by go_num, by omega, HS, Lib.hid (by rw [List.length_set]; exact HO.out), Lib.hid (DR.out.set i (by omega) (by omega)), by rw [HC.out]⟩
        case measure => simp [intOf]; omega
      · have hy' : y = 0 := by rw [← EY.out]; exact getD_ge (by rw [L2.out]; omega)
        obtain ⟨ST, t0, t1⟩ := HI.out.step (t := x + q) dl dr (by rw [EX.out, EY.out]; omega)
        rw [← take_set_succ o i _ (by rw [HO.out]; omega)] at ST
        have HS := Lib.hid ST
        clear ST
        clear hy'
        obtain ⟨g, rfl, hOld, hc⟩ := H1.out.at_ (by omega)
        have hcx := hc.out i hin
        rw [EX.out] at hcx
        clear hc
        have hcz := cellsU_at (o := o) (j := i) (by rw [HO.out]; omega)
        obtain ⟨z, ez⟩ : ∃ z, o.getD i 0 = z := ⟨_, rfl⟩
        rw [ez] at hcz
        clear ez
        have HC := Lib.hid (cellsU_set o i ((x + q) % 4294967296))
        have hi1 : i < n + 1 := by omega
        go_wp2
        go_roundw
        case rel => exact ⟨_, i + 1, _, kx, rfl, by go_num, by omega, HS, Lib.hid (by rw [List.length_set]; exact HO.out), Lib.hid (DR.out.set i (by omega) (by omega)), by rw [HC.out]⟩
        case measure => simp [intOf]; omega
    · obtain rfl : i = n := by omega
      have hcz := cellsU_at (o := o) (j := i) (by rw [HO.out]; omega)
      obtain ⟨z, ez⟩ : ∃ z, o.getD i 0 = z := ⟨_, rfl⟩
      rw [ez] at hcz
      clear ez
      have HC := Lib.hid (cellsU_set o i q)
      have HD : Hid (Dg (o.set i q)) := Lib.hid (DR.out.set i (by omega) (by omega))
      have HV : Hid (dval (o.set i q) = dval l + dval r) := Lib.hid (by
        have hv := HI.out.val
        rw [List.take_of_length_le (l := l) (by rw [L1.out]; exact Nat.le_refl _), List.take_of_length_le (l := r) (by rw [L2.out]; omega)] at hv
        have e1 : (o.set i q).take (i + 1) = o.set i q := List.take_of_length_le (by rw [List.length_set, HO.out]; exact Nat.le_refl _)
        rw [← e1, take_set_succ o i q (by rw [HO.out]; omega), dval_snoc, List.length_take, HO.out, Nat.min_eq_left (by omega)]
        omega)
      have hrd : ∀ k, Rd ((w.alloc (.cells (cellsU (o.set i q)) 105)).jk k) (some ⟨w.heap.size, 0, none⟩) (i + 1) (i + 1) (o.set i q) := fun k => by
        have hol : (o.set i q).length = i + 1 := by rw [List.length_set, HO.out]
        refine ⟨hol, Nat.le_refl _, fun _ => ⟨_, rfl, by simp [World.size_jk]; omega, fun j hj => ?_⟩, fun h => by cases h⟩
        rw [World.cell?_jk, cell_of_row _ _ _ (cellsU (o.set i q)) _ (0, 0) (heap_alloc_new w _)]
        exact cellsU_at (by omega)
      have HRD := Lib.hid hrd
      clear hrd
      have hi1 : i < i + 1 := by omega
      go_wp2_with (go_at_call 115; rw [HC.out]; refine (itrim_any _ _ _ (o.set i q) _ (HRD.out _) HD.out (by omega)).mono ?_; rintro e w' ⟨A', n', rfl, rfl, hr0, hf'⟩; have hr' := hr0 _ (HRD.out kx); clear hr0)
      go_ret
      refine RetS.of (A := A') (n := n') (c := n') rfl (((Q.refl _).alloc _).jk _) ?_ (hf' w (fun ad e => by cases e; exact Nat.le_refl _))
      rw [← HV.out]
      exact hr'
theorem iaddMag_any (A : Option Addr) (n c : Nat) (l : List Int) (B : Option Addr) (m d : Nat) (r : List Int) (w : World) (h1 : Rd w A n c l) (h2 : Rd w B m d r) (dl : Dg l) (dr : Dg r) (hn : n < 10000) (hm : m < 10000) :
    Calls Try.prog 124 #[.slice A n c, .slice B m d] w (RetS (dig (dval l + dval r).toNat) w) := by
  rcases Nat.lt_or_ge n m with h | h
  · rw [Int.add_comm]
    exact iaddMag_lt B m d r A n c l w h2 h1 dr dl hm h
  · exact iaddMag_ge A n c l B m d r w h1 h2 dl dr hn h
set_option maxRecDepth 100000 in
set_option maxHeartbeats 2000000 in
theorem isubMag_any (A : Option Addr) (n c : Nat) (l : List Int) (B : Option Addr) (m d : Nat) (r : List Int) (w : World) (h1 : Rd w A n c l) (h2 : Rd w B m d r) (dl : Dg l) (dr : Dg r) (tr : Tr r) (hle : dval r ≤ dval l) (hn : n < 10000) :
    Calls Try.prog 125 #[.slice A n c, .slice B m d] w (RetS (dig (dval l - dval r).toNat) w) := by
  have hml : m ≤ n := by rw [← h1.1, ← h2.1]; exact len_le_of_dval dl dr tr hle
  have L1 := Lib.hid h1.1
  have L2 := Lib.hid h2.1
  have H1 := Lib.hid h1
  have H2 := Lib.hid h2
  have HLE := Lib.hid hle
  clear h1 h2 hle
  have hmk := make_u32 w n n (by omega) (by omega)
  go_enter Try.func125, Try.ntmps125
  go_wp2
  clear hmk
  go_loopw [6, 14] (fun s6 i wr => ∃ (q : Int) (i' : Nat) (o : List Int) (kx : Jk), s6 = .int .u64 q ∧ i = .int .i64 i' ∧ i' ≤ n ∧ Hid (SubInv l r (o.take i') i' q) ∧ Hid (o.length = n) ∧ Hid (Dg o) ∧ wr = (w.alloc (.cells (cellsU o) 105)).jk kx) (fun _ i _ => n - (intOf i).toNat)
  case atStart =>
    obtain ⟨k0, hk0⟩ := Q.refl (w.alloc (.cells (cellsU (List.replicate n 0)) 105))
    exact ⟨0, 0, List.replicate n 0, k0, rfl, rfl, Nat.zero_le _, Lib.hid (SubInv.start l r), Lib.hid (by simp), Lib.hid (fun d hd => by have := List.eq_of_mem_replicate hd; omega), hk0⟩
  case round =>
    obtain ⟨q, i, o, kx, rfl, rfl, hi, HI, HO, DR, rfl⟩ := hrel
    have hq0 := HI.out.c0
    have hq1 := HI.out.c1
    obtain ⟨x, ex⟩ : ∃ x, l.getD i 0 = x := ⟨_, rfl⟩
    obtain ⟨y, ey⟩ : ∃ y, r.getD i 0 = y := ⟨_, rfl⟩
    have hx : 0 ≤ x ∧ x < 4294967296 := ex ▸ dl.getD i
    have hy : 0 ≤ y ∧ y < 4294967296 := ey ▸ dr.getD i
    obtain ⟨hx0, hx1⟩ := hx
    obtain ⟨hy0, hy1⟩ := hy
    have EX := Lib.hid ex
    have EY := Lib.hid ey
    clear ex ey
    by_cases hin : i < n
    · by_cases him : i < m
      · obtain ⟨ST, t0, t1⟩ := HI.out.step (t := (x - q - y) % 18446744073709551616) dl dr (by rw [EX.out, EY.out])
        rw [← take_set_succ o i _ (by rw [HO.out]; omega)] at ST
        have HS := Lib.hid ST
        clear ST
        obtain ⟨g, rfl, hOld, hc⟩ := H1.out.at_ (by omega)
        have hcx := hc.out i hin
        rw [EX.out] at hcx
        clear hc
        obtain ⟨g', rfl, hOld', hc'⟩ := H2.out.at_ (by omega)
        have hcy := hc'.out i him
        rw [EY.out] at hcy
        clear hc'
        obtain ⟨tt, htt⟩ : ∃ tt, tt = (x - q - y) % 18446744073709551616 := ⟨_, rfl⟩
        have E1 : Hid (IntKind.u64.wrap (IntKind.u64.wrap (x - q) - y) = tt) := Lib.hid (by rw [htt, IntKind.wrap_u64, IntKind.wrap_u64]; omega)
        rw [← htt] at HS t0 t1
        clear htt
        have hcz := cellsU_at (o := o) (j := i) (by rw [HO.out]; omega)
        obtain ⟨z, ez⟩ : ∃ z, o.getD i 0 = z := ⟨_, rfl⟩
        rw [ez] at hcz
        clear ez
        have HC := Lib.hid (cellsU_set o i (tt % 4294967296))
        go_upto_region 9 with (fail)
        rw [E1.out]
        go_wp2
        go_roundw
        case rel => exact ⟨_, i + 1, _, kx, rfl, by go_num, by omega, HS, Lib.hid (by rw [List.length_set]; exact HO.out), Lib.hid (DR.out.set i (by omega) (by omega)), by rw [HC.out]⟩
        case measure => simp [intOf]; omega
      · have hy' : y = 0 := by rw [← EY.out]; exact getD_ge (by rw [L2.out]; omega)
        obtain ⟨ST, t0, t1⟩ := HI.out.step (t := (x - q) % 18446744073709551616) dl dr (by rw [EX.out, EY.out]; rw [hy', Int.sub_zero])
        rw [← take_set_succ o i _ (by rw [HO.out]; omega)] at ST
        have HS := Lib.hid ST
        clear ST
        clear hy'
        obtain ⟨g, rfl, hOld, hc⟩ := H1.out.at_ (by omega)
        have hcx := hc.out i hin
        rw [EX.out] at hcx
        clear hc
        obtain ⟨tt, htt⟩ : ∃ tt, tt = (x - q) % 18446744073709551616 := ⟨_, rfl⟩
        have E1 : Hid (IntKind.u64.wrap (x - q) = tt) := Lib.hid (by rw [htt, IntKind.wrap_u64])
        rw [← htt] at HS t0 t1
        clear htt
        have hcz := cellsU_at (o := o) (j := i) (by rw [HO.out]; omega)
        obtain ⟨z, ez⟩ : ∃ z, o.getD i 0 = z := ⟨_, rfl⟩
        rw [ez] at hcz
        clear ez
        have HC := Lib.hid (cellsU_set o i (tt % 4294967296))
        go_upto_region 9 with (fail)
        rw [E1.out]
        go_wp2
        go_roundw
        case rel => exact ⟨_, i + 1, _, kx, rfl, by go_num, by omega, HS, Lib.hid (by rw [List.length_set]; exact HO.out), Lib.hid (DR.out.set i (by omega) (by omega)), by rw [HC.out]⟩
        case measure => simp [intOf]; omega
    · obtain rfl : i = n := by omega
      have HV : Hid (dval o = dval l - dval r) := Lib.hid (by
        have hI := HI.out
        rw [List.take_of_length_le (by rw [HO.out]; exact Nat.le_refl _), ← L1.out] at hI
        exact hI.done (by rw [L1.out, L2.out]; exact hml) HLE.out)
      have hrd : Rd ((w.alloc (.cells (cellsU o) 105)).jk kx) (some ⟨w.heap.size, 0, none⟩) i i o := by
        refine ⟨HO.out, Nat.le_refl _, fun _ => ⟨_, rfl, by simp [World.size_jk]; omega, fun j hj => ?_⟩, fun h => by cases h⟩
        rw [World.cell?_jk, cell_of_row _ _ _ (cellsU o) _ (0, 0) (heap_alloc_new w _)]
        exact cellsU_at (by rw [HO.out]; exact hj)
      have HRD := Lib.hid hrd
      clear hrd
      go_wp2_with (go_at_call 115; refine (itrim_any _ _ _ o _ HRD.out DR.out (by omega)).mono ?_; rintro e w' ⟨A', n', rfl, rfl, hr0, hf'⟩; have hr' := hr0 _ HRD.out; clear hr0)
      go_ret
      refine RetS.of (A := A') (n := n') (c := n') rfl (((Q.refl _).alloc _).jk _) ?_ (hf' w (fun ad e => by cases e; exact Nat.le_refl _))
      rw [← HV.out]
      exact hr'
end Go.Proofs.Ytkkjifgcjfbcaaa

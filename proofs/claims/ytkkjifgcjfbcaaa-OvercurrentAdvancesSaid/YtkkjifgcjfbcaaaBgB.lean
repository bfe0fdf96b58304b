
/- What times of package substationref01 returns. -/
import Derived.Test.YtkkjifgcjfbcaaaBgA
import Derived.Laws.MakeOwn
import Derived.IntWalk
namespace Go.Sub
/-- The cells of digits. -/
def cellsU (o : List Int) : Array Value := (o.map (Value.int .u32)).toArray
theorem cellsU_at {o : List Int} {j : Nat} (h : j < o.length) : (cellsU o)[j]? = some (.int .u32 (o.getD j 0)) := by
  simp [cellsU, List.getD, h]
theorem cellsU_set (o : List Int) (j : Nat) (d : Int) : (cellsU o).setIfInBounds j (.int .u32 d) = cellsU (o.set j d) := by
  simp [cellsU, List.map_set]
theorem madeCells_u32 (n : Nat) : madeCells (Value.int .u32 0).cells n = cellsU (List.replicate n 0) := by
  unfold madeCells cellsU
  apply Array.ext
  · simp
  · intro i h1 h2
    have e : i % 1 = 0 := Nat.mod_one i
    simp [Value.cells, e]
end Go.Sub
namespace Go.Proofs.Ytkkjifgcjfbcaaa
open Go.RowKit Go.Sub
theorem make_u32 (w : World) (k : Int) (n : Nat) (hk : k = n) (hn : n < 1000000) :
    (Instr.makeSlice 69 (.int .i64 k) (.int .i64 k)).run Try.prog w = .ok (.slice (some ⟨w.heap.size, 0, none⟩) n n) (w.alloc (.cells (cellsU (List.replicate n 0)) 105)) := by
  obtain ⟨i, hi, hz, hs1, hb⟩ := infoU32
  subst hk
  have := run_make (P := Try.prog) w 69 105 i (.int .u32 0) Try.underlying69 hi hz .i64 .i64 n n (by omega) (Int.le_refl _) (by rw [hb]; omega) (by omega)
  rw [this, hs1]
  simp only [Int.toNat_natCast, Nat.mul_one]
  rw [madeCells_u32]
set_option maxHeartbeats 2000000 in
theorem r1times_any (A : Option Addr) (n c : Nat) (l : List Int) (B : Option Addr) (m d : Nat) (r : List Int) (w : World) (h1 : Rd w A n c l) (h2 : Rd w B m d r) (dl : Dg l) (dr : Dg r) (hn : n < 10000) (hm : m < 10000) :
    Calls Try.prog 122 #[.slice A n c, .slice B m d] w (RetS (dig (dval l * dval r).toNat) w) := by
  have L1 := Lib.hid h1.1
  have L2 := Lib.hid h2.1
  have H1 := Lib.hid h1
  have H2 := Lib.hid h2
  clear h1 h2
  have hmk := make_u32 w (n + m) (n + m) (by omega) (by omega)
  go_enter Try.func122, Try.ntmps122
  go_wp2
  clear hmk
  go_loopw [6] (fun i wr => ∃ (k : Nat) (o : List Int) (kx : Jk), i = .int .i64 k ∧ k ≤ n ∧ Hid (MulInv l r o k 0 0) ∧ wr = (w.alloc (.cells (cellsU o) 105)).jk kx) (fun i _ => n - (intOf i).toNat)
  case atStart =>
    obtain ⟨k0, hk0⟩ := Q.refl (w.alloc (.cells (cellsU (List.replicate (n + m) 0)) 105))
    exact ⟨0, List.replicate (n + m) 0, k0, rfl, Nat.zero_le _, Lib.hid (by have := MulInv.start l r; rwa [L1.out, L2.out] at this), hk0⟩
  case round =>
    obtain ⟨k, o, kx, rfl, hk, HI, rfl⟩ := hrel
    rcases Nat.lt_or_ge k n with hlt | hge
    · obtain ⟨g, rfl, hOld, hc⟩ := H1.out.at_ (by omega)
      have hcx := hc.out k hlt
      obtain ⟨x, ex⟩ : ∃ x, l.getD k 0 = x := ⟨_, rfl⟩
      rw [ex] at hcx
      have EX := Lib.hid ex
      have hx : 0 ≤ x ∧ x < 4294967296 := ex ▸ dl.getD k
      obtain ⟨hx0, hx1⟩ := hx
      clear ex hc
      go_upto_block 2 with (fail)
      go_cut [7] (fun s7 wx => ∃ (q : Int) (o : List Int) (kx : Jk), s7 = .int .u64 q ∧ 0 ≤ q ∧ q < 4294967296 ∧ Hid (MulInv l r o k m q) ∧ wx = (w.alloc (.cells (cellsU o) 105)).jk kx)
      case first =>
        go_wp2_with fail
        go_loopw [7, 8] (fun s7 s8 wr => ∃ (q : Int) (j : Nat) (o : List Int) (kx : Jk), s7 = .int .u64 q ∧ s8 = .int .i64 j ∧ j ≤ m ∧ 0 ≤ q ∧ q < 4294967296 ∧ Hid (MulInv l r o k j q) ∧ wr = (w.alloc (.cells (cellsU o) 105)).jk kx) (fun _ s8 _ => m - (intOf s8).toNat)
        case atStart => exact ⟨0, 0, o, kx, rfl, rfl, Nat.zero_le _, by decide, by decide, HI, rfl⟩
        case round =>
          clear HI
          obtain ⟨q, j, o, kx, rfl, rfl, hj, hq0, hq1, HI, rfl⟩ := hrel
          rcases Nat.lt_or_ge j m with hjl | hjg
          · obtain ⟨g', rfl, hOld', hc'⟩ := H2.out.at_ (by omega)
            have hcy := hc'.out j hjl
            obtain ⟨y, ey⟩ : ∃ y, r.getD j 0 = y := ⟨_, rfl⟩
            rw [ey] at hcy
            have EY := Lib.hid ey
            have hy : 0 ≤ y ∧ y < 4294967296 := ey ▸ dr.getD j
            obtain ⟨hy0, hy1⟩ := hy
            clear ey hc'
            have hol : o.length = n + m := by rw [HI.out.len, L1.out, L2.out]
            have hcz := cellsU_at (o := o) (j := k + j) (by omega)
            obtain ⟨z, ez⟩ : ∃ z, o.getD (k + j) 0 = z := ⟨_, rfl⟩
            rw [ez] at hcz
            have EZ := Lib.hid ez
            have hz : 0 ≤ z ∧ z < 4294967296 := ez ▸ HI.out.dg.getD (k + j)
            obtain ⟨hz0, hz1⟩ := hz
            clear ez hol
            obtain ⟨ST, t0, t1⟩ := HI.out.step (t := x * y + z + q) dl dr (by rw [L1.out]; exact hlt) (by rw [L2.out]; exact hjl) (by rw [EX.out, EY.out, EZ.out])
            have HS := Lib.hid ST
            clear ST
            have hb := mul_bd ⟨hx0, hx1⟩ ⟨hy0, hy1⟩
            have HC := Lib.hid (cellsU_set o (k + j) ((x * y + z + q) % 4294967296))
            have E1 : IntKind.u64.wrap (x * y) = x * y := IntWalk.u64_in _ (by omega)
            have E2 : IntKind.u64.wrap (x * y + z) = x * y + z := IntWalk.u64_in _ (by omega)
            have E3 : IntKind.u64.wrap (x * y + z + q) = x * y + z + q := IntWalk.u64_in _ (by omega)
            have E4 : IntKind.i64.wrap ((k : Int) + (j : Int)) = (k : Int) + (j : Int) := IntWalk.i64_in _ (by omega)
            have E5 : ((k : Int) + (j : Int)).toNat = k + j := by omega
            have hkj : k + j < n + m := by omega
            go_wp2
            refine wp_region_jk (by kernel_rfl) (by kernel_rfl) ?_
            repeat (go_big_quiet_step (fail))
            refine wpQuiet_nil ?_
            intro _ hw'
            obtain ⟨kq, rfl⟩ := hw'
            clear E1 E2 E3 E4 E5
            go_wp2
            go_roundw
            case rel => exact ⟨_, j + 1, _, _, rfl, by go_num, by omega, HS.out.c0, HS.out.c1, HS, by rw [HC.out, World.jk_jk]⟩
            case measure => simp [intOf]; omega
          · obtain rfl : j = m := by omega
            go_wp2
            go_meet
            exact ⟨q, o, kx, rfl, hq0, hq1, HI, rfl⟩
      case rest =>
        clear HI
        obtain ⟨q, o, kx, rfl, hq0, hq1, HI, rfl⟩ := hcut
        have HR : Hid (MulInv l r (o.set (k + m) q) (k + 1) 0 0) := Lib.hid (by
          have := HI.out
          rw [← L2.out] at this ⊢
          exact this.row (by rw [L1.out]; exact hlt))
        have HC := Lib.hid (cellsU_set o (k + m) q)
        have hkm : k + m < n + m := by omega
        have hcz := cellsU_at (o := o) (j := k + m) (by rw [HI.out.len, L1.out, L2.out]; omega)
        go_wp2
        go_roundw
        case rel => exact ⟨k + 1, _, kx, by go_num, by omega, HR, by rw [HC.out]⟩
        case measure => simp [intOf]; omega
    · obtain rfl : k = n := by omega
      have HD : Hid (dval o = dval l * dval r) := Lib.hid (by
        have := HI.out
        rw [← L1.out] at this
        exact this.done)
      have hrd : Rd ((w.alloc (.cells (cellsU o) 105)).jk kx) (some ⟨w.heap.size, 0, none⟩) (k + m) (k + m) o := by
        have hol : o.length = k + m := by rw [HI.out.len, L1.out, L2.out]
        refine ⟨hol, Nat.le_refl _, fun _ => ⟨_, rfl, by simp [World.size_jk]; omega, fun i hi => ?_⟩, fun h => by cases h⟩
        rw [World.cell?_jk, cell_of_row _ _ _ (cellsU o) _ (0, 0) (heap_alloc_new w _)]
        exact cellsU_at (by omega)
      have HRD := Lib.hid hrd
      clear hrd
      go_wp2_with (go_at_call 109; refine (r1trim_any _ _ _ o _ HRD.out HI.out.dg (by omega)).mono ?_; rintro e w' ⟨A', n', c', k', rfl, rfl, hr', hf'⟩)
      go_ret
      refine RetS.of (A := A') (n := n') (c := c') rfl ((((Q.refl _).alloc _).jk _).jk _) ?_ (hf'.q (((Q.refl _).alloc _).jk _))
      rw [← HD.out]
      exact hr'
end Go.Proofs.Ytkkjifgcjfbcaaa

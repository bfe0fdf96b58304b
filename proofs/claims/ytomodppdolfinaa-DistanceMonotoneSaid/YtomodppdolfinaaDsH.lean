
/- What Pickup of package distance returns for arguments in their range. -/
import Derived.Test.YtomodppdolfinaaDsG
namespace Go.Sub
theorem pick_zero (V I P : Nat → Cy) (S : Nat → Bool) (z : Zn) : pickB V I P S z 0 = false := by simp [pickB]
theorem pick_succ (V I P : Nat → Cy) (S : Nat → Bool) (z : Zn) (n : Nat) : pickB V I P S z (n + 1) = (pickB V I P S z n || (z.on && (S n && seesB (V n) (I n) (P n) z))) := by
  unfold pickB
  rw [List.range_succ, List.any_append]
  cases z.on <;> simp
theorem pick_off (V I P : Nat → Cy) (S : Nat → Bool) (f : Bool) (x r l d : Int) (n : Nat) : pickB V I P S ⟨false, f, x, r, l, d⟩ n = false := by simp [pickB]
theorem pick_weak (V I P : Nat → Cy) (S : Nat → Bool) (z : Zn) (n : Nat) (h : S n = false) : pickB V I P S z (n + 1) = pickB V I P S z n := by rw [pick_succ, h]; simp
theorem pick_step (V I P : Nat → Cy) (S : Nat → Bool) (z : Zn) (n : Nat) {g b : Bool} (h0 : z.on = true) (h : S n = true) (hg : pickB V I P S z n = g) (hb : seesB (V n) (I n) (P n) z = b) : pickB V I P S z (n + 1) = (g || b) := by
  rw [pick_succ, h, hg, hb, h0]; simp
end Go.Sub
namespace Go.Proofs.Ytomodppdolfinaa
open Go.RowKit Go.Sub
@[go_sem high] theorem c24_size2 (f : Nat → Cy) : (c24 f).size = 24 := by rw [c24_size]
/-- What is picked up when k zones are done. -/
def pk3 (V I P : Nat → Cy) (S : Nat → Bool) (a b c : Zn) : Nat → Array Value
  | 0 => #[.bool false, .bool false, .bool false]
  | 1 => #[.bool (pickB V I P S a 6), .bool false, .bool false]
  | 2 => #[.bool (pickB V I P S a 6), .bool (pickB V I P S b 6), .bool false]
  | _ => #[.bool (pickB V I P S a 6), .bool (pickB V I P S b 6), .bool (pickB V I P S c 6)]
/-- The settings of a line relay with three zones. -/
def rl53 (a b c : Zn) (m r i : Int) : Array Value := #[.string ⟨#[]⟩, .int .i64 1, .int .i64 0, .bool a.on, .bool a.fwd, .int .i64 a.x, .int .i64 a.r, .int .i64 a.l, .int .i64 a.d, .bool b.on, .bool b.fwd, .int .i64 b.x, .int .i64 b.r, .int .i64 b.l, .int .i64 b.d, .bool c.on, .bool c.fwd, .int .i64 c.x, .int .i64 c.r, .int .i64 c.l, .int .i64 c.d, .int .i64 m, .int .i64 r, .int .i64 i, .int .i64 0, .int .i64 0, .int .i64 0, .bool false, .int .i64 0, .int .i64 0, .bool false, .int .i64 0, .int .i64 0, .bool false, .int .i64 0, .int .i64 0, .int .i64 0, .int .i64 0, .int .i64 0, .bool false, .int .i64 0, .int .i64 0, .bool false, .int .i64 0, .int .i64 0, .int .i64 0, .int .i64 0, .int .i64 0, .int .i64 0, .slice none 0 0, .slice none 0 0, .slice none 0 0, .slice none 0 0]
@[go_sem] theorem rl53_size (a b c : Zn) (m r i : Int) : (rl53 a b c m r i).size = 53 := by simp [rl53]
instance rl53_one (a b c : Zn) (m r i : Int) : Ones (rl53 a b c m r i) := by unfold rl53; infer_instance
@[go_sem] theorem rl53_g3 (on1 fw1 : Bool) (zx1 zr1 zl1 zd1 : Int) (on2 fw2 : Bool) (zx2 zr2 zl2 zd2 : Int) (on3 fw3 : Bool) (zx3 zr3 zl3 zd3 : Int) (m r i : Int) (h : 3 < (rl53 ⟨on1, fw1, zx1, zr1, zl1, zd1⟩ ⟨on2, fw2, zx2, zr2, zl2, zd2⟩ ⟨on3, fw3, zx3, zr3, zl3, zd3⟩ m r i).size) : (rl53 ⟨on1, fw1, zx1, zr1, zl1, zd1⟩ ⟨on2, fw2, zx2, zr2, zl2, zd2⟩ ⟨on3, fw3, zx3, zr3, zl3, zd3⟩ m r i)[3]'h = .bool on1 := rfl
@[go_sem] theorem rl53_q3 (on1 fw1 : Bool) (zx1 zr1 zl1 zd1 : Int) (on2 fw2 : Bool) (zx2 zr2 zl2 zd2 : Int) (on3 fw3 : Bool) (zx3 zr3 zl3 zd3 : Int) (m r i : Int) : (rl53 ⟨on1, fw1, zx1, zr1, zl1, zd1⟩ ⟨on2, fw2, zx2, zr2, zl2, zd2⟩ ⟨on3, fw3, zx3, zr3, zl3, zd3⟩ m r i)[3]? = some (.bool on1) := rfl
@[go_sem] theorem rl53_g4 (on1 fw1 : Bool) (zx1 zr1 zl1 zd1 : Int) (on2 fw2 : Bool) (zx2 zr2 zl2 zd2 : Int) (on3 fw3 : Bool) (zx3 zr3 zl3 zd3 : Int) (m r i : Int) (h : 4 < (rl53 ⟨on1, fw1, zx1, zr1, zl1, zd1⟩ ⟨on2, fw2, zx2, zr2, zl2, zd2⟩ ⟨on3, fw3, zx3, zr3, zl3, zd3⟩ m r i).size) : (rl53 ⟨on1, fw1, zx1, zr1, zl1, zd1⟩ ⟨on2, fw2, zx2, zr2, zl2, zd2⟩ ⟨on3, fw3, zx3, zr3, zl3, zd3⟩ m r i)[4]'h = .bool fw1 := rfl
@[go_sem] theorem rl53_q4 (on1 fw1 : Bool) (zx1 zr1 zl1 zd1 : Int) (on2 fw2 : Bool) (zx2 zr2 zl2 zd2 : Int) (on3 fw3 : Bool) (zx3 zr3 zl3 zd3 : Int) (m r i : Int) : (rl53 ⟨on1, fw1, zx1, zr1, zl1, zd1⟩ ⟨on2, fw2, zx2, zr2, zl2, zd2⟩ ⟨on3, fw3, zx3, zr3, zl3, zd3⟩ m r i)[4]? = some (.bool fw1) := rfl
@[go_sem] theorem rl53_g5 (on1 fw1 : Bool) (zx1 zr1 zl1 zd1 : Int) (on2 fw2 : Bool) (zx2 zr2 zl2 zd2 : Int) (on3 fw3 : Bool) (zx3 zr3 zl3 zd3 : Int) (m r i : Int) (h : 5 < (rl53 ⟨on1, fw1, zx1, zr1, zl1, zd1⟩ ⟨on2, fw2, zx2, zr2, zl2, zd2⟩ ⟨on3, fw3, zx3, zr3, zl3, zd3⟩ m r i).size) : (rl53 ⟨on1, fw1, zx1, zr1, zl1, zd1⟩ ⟨on2, fw2, zx2, zr2, zl2, zd2⟩ ⟨on3, fw3, zx3, zr3, zl3, zd3⟩ m r i)[5]'h = .int .i64 zx1 := rfl
@[go_sem] theorem rl53_q5 (on1 fw1 : Bool) (zx1 zr1 zl1 zd1 : Int) (on2 fw2 : Bool) (zx2 zr2 zl2 zd2 : Int) (on3 fw3 : Bool) (zx3 zr3 zl3 zd3 : Int) (m r i : Int) : (rl53 ⟨on1, fw1, zx1, zr1, zl1, zd1⟩ ⟨on2, fw2, zx2, zr2, zl2, zd2⟩ ⟨on3, fw3, zx3, zr3, zl3, zd3⟩ m r i)[5]? = some (.int .i64 zx1) := rfl
@[go_sem] theorem rl53_g6 (on1 fw1 : Bool) (zx1 zr1 zl1 zd1 : Int) (on2 fw2 : Bool) (zx2 zr2 zl2 zd2 : Int) (on3 fw3 : Bool) (zx3 zr3 zl3 zd3 : Int) (m r i : Int) (h : 6 < (rl53 ⟨on1, fw1, zx1, zr1, zl1, zd1⟩ ⟨on2, fw2, zx2, zr2, zl2, zd2⟩ ⟨on3, fw3, zx3, zr3, zl3, zd3⟩ m r i).size) : (rl53 ⟨on1, fw1, zx1, zr1, zl1, zd1⟩ ⟨on2, fw2, zx2, zr2, zl2, zd2⟩ ⟨on3, fw3, zx3, zr3, zl3, zd3⟩ m r i)[6]'h = .int .i64 zr1 := rfl
@[go_sem] theorem rl53_q6 (on1 fw1 : Bool) (zx1 zr1 zl1 zd1 : Int) (on2 fw2 : Bool) (zx2 zr2 zl2 zd2 : Int) (on3 fw3 : Bool) (zx3 zr3 zl3 zd3 : Int) (m r i : Int) : (rl53 ⟨on1, fw1, zx1, zr1, zl1, zd1⟩ ⟨on2, fw2, zx2, zr2, zl2, zd2⟩ ⟨on3, fw3, zx3, zr3, zl3, zd3⟩ m r i)[6]? = some (.int .i64 zr1) := rfl
@[go_sem] theorem rl53_g7 (on1 fw1 : Bool) (zx1 zr1 zl1 zd1 : Int) (on2 fw2 : Bool) (zx2 zr2 zl2 zd2 : Int) (on3 fw3 : Bool) (zx3 zr3 zl3 zd3 : Int) (m r i : Int) (h : 7 < (rl53 ⟨on1, fw1, zx1, zr1, zl1, zd1⟩ ⟨on2, fw2, zx2, zr2, zl2, zd2⟩ ⟨on3, fw3, zx3, zr3, zl3, zd3⟩ m r i).size) : (rl53 ⟨on1, fw1, zx1, zr1, zl1, zd1⟩ ⟨on2, fw2, zx2, zr2, zl2, zd2⟩ ⟨on3, fw3, zx3, zr3, zl3, zd3⟩ m r i)[7]'h = .int .i64 zl1 := rfl
@[go_sem] theorem rl53_q7 (on1 fw1 : Bool) (zx1 zr1 zl1 zd1 : Int) (on2 fw2 : Bool) (zx2 zr2 zl2 zd2 : Int) (on3 fw3 : Bool) (zx3 zr3 zl3 zd3 : Int) (m r i : Int) : (rl53 ⟨on1, fw1, zx1, zr1, zl1, zd1⟩ ⟨on2, fw2, zx2, zr2, zl2, zd2⟩ ⟨on3, fw3, zx3, zr3, zl3, zd3⟩ m r i)[7]? = some (.int .i64 zl1) := rfl
@[go_sem] theorem rl53_g8 (on1 fw1 : Bool) (zx1 zr1 zl1 zd1 : Int) (on2 fw2 : Bool) (zx2 zr2 zl2 zd2 : Int) (on3 fw3 : Bool) (zx3 zr3 zl3 zd3 : Int) (m r i : Int) (h : 8 < (rl53 ⟨on1, fw1, zx1, zr1, zl1, zd1⟩ ⟨on2, fw2, zx2, zr2, zl2, zd2⟩ ⟨on3, fw3, zx3, zr3, zl3, zd3⟩ m r i).size) : (rl53 ⟨on1, fw1, zx1, zr1, zl1, zd1⟩ ⟨on2, fw2, zx2, zr2, zl2, zd2⟩ ⟨on3, fw3, zx3, zr3, zl3, zd3⟩ m r i)[8]'h = .int .i64 zd1 := rfl
@[go_sem] theorem rl53_q8 (on1 fw1 : Bool) (zx1 zr1 zl1 zd1 : Int) (on2 fw2 : Bool) (zx2 zr2 zl2 zd2 : Int) (on3 fw3 : Bool) (zx3 zr3 zl3 zd3 : Int) (m r i : Int) : (rl53 ⟨on1, fw1, zx1, zr1, zl1, zd1⟩ ⟨on2, fw2, zx2, zr2, zl2, zd2⟩ ⟨on3, fw3, zx3, zr3, zl3, zd3⟩ m r i)[8]? = some (.int .i64 zd1) := rfl
@[go_sem] theorem rl53_g9 (on1 fw1 : Bool) (zx1 zr1 zl1 zd1 : Int) (on2 fw2 : Bool) (zx2 zr2 zl2 zd2 : Int) (on3 fw3 : Bool) (zx3 zr3 zl3 zd3 : Int) (m r i : Int) (h : 9 < (rl53 ⟨on1, fw1, zx1, zr1, zl1, zd1⟩ ⟨on2, fw2, zx2, zr2, zl2, zd2⟩ ⟨on3, fw3, zx3, zr3, zl3, zd3⟩ m r i).size) : (rl53 ⟨on1, fw1, zx1, zr1, zl1, zd1⟩ ⟨on2, fw2, zx2, zr2, zl2, zd2⟩ ⟨on3, fw3, zx3, zr3, zl3, zd3⟩ m r i)[9]'h = .bool on2 := rfl
@[go_sem] theorem rl53_q9 (on1 fw1 : Bool) (zx1 zr1 zl1 zd1 : Int) (on2 fw2 : Bool) (zx2 zr2 zl2 zd2 : Int) (on3 fw3 : Bool) (zx3 zr3 zl3 zd3 : Int) (m r i : Int) : (rl53 ⟨on1, fw1, zx1, zr1, zl1, zd1⟩ ⟨on2, fw2, zx2, zr2, zl2, zd2⟩ ⟨on3, fw3, zx3, zr3, zl3, zd3⟩ m r i)[9]? = some (.bool on2) := rfl
@[go_sem] theorem rl53_g10 (on1 fw1 : Bool) (zx1 zr1 zl1 zd1 : Int) (on2 fw2 : Bool) (zx2 zr2 zl2 zd2 : Int) (on3 fw3 : Bool) (zx3 zr3 zl3 zd3 : Int) (m r i : Int) (h : 10 < (rl53 ⟨on1, fw1, zx1, zr1, zl1, zd1⟩ ⟨on2, fw2, zx2, zr2, zl2, zd2⟩ ⟨on3, fw3, zx3, zr3, zl3, zd3⟩ m r i).size) : (rl53 ⟨on1, fw1, zx1, zr1, zl1, zd1⟩ ⟨on2, fw2, zx2, zr2, zl2, zd2⟩ ⟨on3, fw3, zx3, zr3, zl3, zd3⟩ m r i)[10]'h = .bool fw2 := rfl
@[go_sem] theorem rl53_q10 (on1 fw1 : Bool) (zx1 zr1 zl1 zd1 : Int) (on2 fw2 : Bool) (zx2 zr2 zl2 zd2 : Int) (on3 fw3 : Bool) (zx3 zr3 zl3 zd3 : Int) (m r i : Int) : (rl53 ⟨on1, fw1, zx1, zr1, zl1, zd1⟩ ⟨on2, fw2, zx2, zr2, zl2, zd2⟩ ⟨on3, fw3, zx3, zr3, zl3, zd3⟩ m r i)[10]? = some (.bool fw2) := rfl
@[go_sem] theorem rl53_g11 (on1 fw1 : Bool) (zx1 zr1 zl1 zd1 : Int) (on2 fw2 : Bool) (zx2 zr2 zl2 zd2 : Int) (on3 fw3 : Bool) (zx3 zr3 zl3 zd3 : Int) (m r i : Int) (h : 11 < (rl53 ⟨on1, fw1, zx1, zr1, zl1, zd1⟩ ⟨on2, fw2, zx2, zr2, zl2, zd2⟩ ⟨on3, fw3, zx3, zr3, zl3, zd3⟩ m r i).size) : (rl53 ⟨on1, fw1, zx1, zr1, zl1, zd1⟩ ⟨on2, fw2, zx2, zr2, zl2, zd2⟩ ⟨on3, fw3, zx3, zr3, zl3, zd3⟩ m r i)[11]'h = .int .i64 zx2 := rfl
@[go_sem] theorem rl53_q11 (on1 fw1 : Bool) (zx1 zr1 zl1 zd1 : Int) (on2 fw2 : Bool) (zx2 zr2 zl2 zd2 : Int) (on3 fw3 : Bool) (zx3 zr3 zl3 zd3 : Int) (m r i : Int) : (rl53 ⟨on1, fw1, zx1, zr1, zl1, zd1⟩ ⟨on2, fw2, zx2, zr2, zl2, zd2⟩ ⟨on3, fw3, zx3, zr3, zl3, zd3⟩ m r i)[11]? = some (.int .i64 zx2) := rfl
@[go_sem] theorem rl53_g12 (on1 fw1 : Bool) (zx1 zr1 zl1 zd1 : Int) (on2 fw2 : Bool) (zx2 zr2 zl2 zd2 : Int) (on3 fw3 : Bool) (zx3 zr3 zl3 zd3 : Int) (m r i : Int) (h : 12 < (rl53 ⟨on1, fw1, zx1, zr1, zl1, zd1⟩ ⟨on2, fw2, zx2, zr2, zl2, zd2⟩ ⟨on3, fw3, zx3, zr3, zl3, zd3⟩ m r i).size) : (rl53 ⟨on1, fw1, zx1, zr1, zl1, zd1⟩ ⟨on2, fw2, zx2, zr2, zl2, zd2⟩ ⟨on3, fw3, zx3, zr3, zl3, zd3⟩ m r i)[12]'h = .int .i64 zr2 := rfl
@[go_sem] theorem rl53_q12 (on1 fw1 : Bool) (zx1 zr1 zl1 zd1 : Int) (on2 fw2 : Bool) (zx2 zr2 zl2 zd2 : Int) (on3 fw3 : Bool) (zx3 zr3 zl3 zd3 : Int) (m r i : Int) : (rl53 ⟨on1, fw1, zx1, zr1, zl1, zd1⟩ ⟨on2, fw2, zx2, zr2, zl2, zd2⟩ ⟨on3, fw3, zx3, zr3, zl3, zd3⟩ m r i)[12]? = some (.int .i64 zr2) := rfl
@[go_sem] theorem rl53_g13 (on1 fw1 : Bool) (zx1 zr1 zl1 zd1 : Int) (on2 fw2 : Bool) (zx2 zr2 zl2 zd2 : Int) (on3 fw3 : Bool) (zx3 zr3 zl3 zd3 : Int) (m r i : Int) (h : 13 < (rl53 ⟨on1, fw1, zx1, zr1, zl1, zd1⟩ ⟨on2, fw2, zx2, zr2, zl2, zd2⟩ ⟨on3, fw3, zx3, zr3, zl3, zd3⟩ m r i).size) : (rl53 ⟨on1, fw1, zx1, zr1, zl1, zd1⟩ ⟨on2, fw2, zx2, zr2, zl2, zd2⟩ ⟨on3, fw3, zx3, zr3, zl3, zd3⟩ m r i)[13]'h = .int .i64 zl2 := rfl
@[go_sem] theorem rl53_q13 (on1 fw1 : Bool) (zx1 zr1 zl1 zd1 : Int) (on2 fw2 : Bool) (zx2 zr2 zl2 zd2 : Int) (on3 fw3 : Bool) (zx3 zr3 zl3 zd3 : Int) (m r i : Int) : (rl53 ⟨on1, fw1, zx1, zr1, zl1, zd1⟩ ⟨on2, fw2, zx2, zr2, zl2, zd2⟩ ⟨on3, fw3, zx3, zr3, zl3, zd3⟩ m r i)[13]? = some (.int .i64 zl2) := rfl
@[go_sem] theorem rl53_g14 (on1 fw1 : Bool) (zx1 zr1 zl1 zd1 : Int) (on2 fw2 : Bool) (zx2 zr2 zl2 zd2 : Int) (on3 fw3 : Bool) (zx3 zr3 zl3 zd3 : Int) (m r i : Int) (h : 14 < (rl53 ⟨on1, fw1, zx1, zr1, zl1, zd1⟩ ⟨on2, fw2, zx2, zr2, zl2, zd2⟩ ⟨on3, fw3, zx3, zr3, zl3, zd3⟩ m r i).size) : (rl53 ⟨on1, fw1, zx1, zr1, zl1, zd1⟩ ⟨on2, fw2, zx2, zr2, zl2, zd2⟩ ⟨on3, fw3, zx3, zr3, zl3, zd3⟩ m r i)[14]'h = .int .i64 zd2 := rfl
@[go_sem] theorem rl53_q14 (on1 fw1 : Bool) (zx1 zr1 zl1 zd1 : Int) (on2 fw2 : Bool) (zx2 zr2 zl2 zd2 : Int) (on3 fw3 : Bool) (zx3 zr3 zl3 zd3 : Int) (m r i : Int) : (rl53 ⟨on1, fw1, zx1, zr1, zl1, zd1⟩ ⟨on2, fw2, zx2, zr2, zl2, zd2⟩ ⟨on3, fw3, zx3, zr3, zl3, zd3⟩ m r i)[14]? = some (.int .i64 zd2) := rfl
@[go_sem] theorem rl53_g15 (on1 fw1 : Bool) (zx1 zr1 zl1 zd1 : Int) (on2 fw2 : Bool) (zx2 zr2 zl2 zd2 : Int) (on3 fw3 : Bool) (zx3 zr3 zl3 zd3 : Int) (m r i : Int) (h : 15 < (rl53 ⟨on1, fw1, zx1, zr1, zl1, zd1⟩ ⟨on2, fw2, zx2, zr2, zl2, zd2⟩ ⟨on3, fw3, zx3, zr3, zl3, zd3⟩ m r i).size) : (rl53 ⟨on1, fw1, zx1, zr1, zl1, zd1⟩ ⟨on2, fw2, zx2, zr2, zl2, zd2⟩ ⟨on3, fw3, zx3, zr3, zl3, zd3⟩ m r i)[15]'h = .bool on3 := rfl
@[go_sem] theorem rl53_q15 (on1 fw1 : Bool) (zx1 zr1 zl1 zd1 : Int) (on2 fw2 : Bool) (zx2 zr2 zl2 zd2 : Int) (on3 fw3 : Bool) (zx3 zr3 zl3 zd3 : Int) (m r i : Int) : (rl53 ⟨on1, fw1, zx1, zr1, zl1, zd1⟩ ⟨on2, fw2, zx2, zr2, zl2, zd2⟩ ⟨on3, fw3, zx3, zr3, zl3, zd3⟩ m r i)[15]? = some (.bool on3) := rfl
@[go_sem] theorem rl53_g16 (on1 fw1 : Bool) (zx1 zr1 zl1 zd1 : Int) (on2 fw2 : Bool) (zx2 zr2 zl2 zd2 : Int) (on3 fw3 : Bool) (zx3 zr3 zl3 zd3 : Int) (m r i : Int) (h : 16 < (rl53 ⟨on1, fw1, zx1, zr1, zl1, zd1⟩ ⟨on2, fw2, zx2, zr2, zl2, zd2⟩ ⟨on3, fw3, zx3, zr3, zl3, zd3⟩ m r i).size) : (rl53 ⟨on1, fw1, zx1, zr1, zl1, zd1⟩ ⟨on2, fw2, zx2, zr2, zl2, zd2⟩ ⟨on3, fw3, zx3, zr3, zl3, zd3⟩ m r i)[16]'h = .bool fw3 := rfl
@[go_sem] theorem rl53_q16 (on1 fw1 : Bool) (zx1 zr1 zl1 zd1 : Int) (on2 fw2 : Bool) (zx2 zr2 zl2 zd2 : Int) (on3 fw3 : Bool) (zx3 zr3 zl3 zd3 : Int) (m r i : Int) : (rl53 ⟨on1, fw1, zx1, zr1, zl1, zd1⟩ ⟨on2, fw2, zx2, zr2, zl2, zd2⟩ ⟨on3, fw3, zx3, zr3, zl3, zd3⟩ m r i)[16]? = some (.bool fw3) := rfl
@[go_sem] theorem rl53_g17 (on1 fw1 : Bool) (zx1 zr1 zl1 zd1 : Int) (on2 fw2 : Bool) (zx2 zr2 zl2 zd2 : Int) (on3 fw3 : Bool) (zx3 zr3 zl3 zd3 : Int) (m r i : Int) (h : 17 < (rl53 ⟨on1, fw1, zx1, zr1, zl1, zd1⟩ ⟨on2, fw2, zx2, zr2, zl2, zd2⟩ ⟨on3, fw3, zx3, zr3, zl3, zd3⟩ m r i).size) : (rl53 ⟨on1, fw1, zx1, zr1, zl1, zd1⟩ ⟨on2, fw2, zx2, zr2, zl2, zd2⟩ ⟨on3, fw3, zx3, zr3, zl3, zd3⟩ m r i)[17]'h = .int .i64 zx3 := rfl
@[go_sem] theorem rl53_q17 (on1 fw1 : Bool) (zx1 zr1 zl1 zd1 : Int) (on2 fw2 : Bool) (zx2 zr2 zl2 zd2 : Int) (on3 fw3 : Bool) (zx3 zr3 zl3 zd3 : Int) (m r i : Int) : (rl53 ⟨on1, fw1, zx1, zr1, zl1, zd1⟩ ⟨on2, fw2, zx2, zr2, zl2, zd2⟩ ⟨on3, fw3, zx3, zr3, zl3, zd3⟩ m r i)[17]? = some (.int .i64 zx3) := rfl
@[go_sem] theorem rl53_g18 (on1 fw1 : Bool) (zx1 zr1 zl1 zd1 : Int) (on2 fw2 : Bool) (zx2 zr2 zl2 zd2 : Int) (on3 fw3 : Bool) (zx3 zr3 zl3 zd3 : Int) (m r i : Int) (h : 18 < (rl53 ⟨on1, fw1, zx1, zr1, zl1, zd1⟩ ⟨on2, fw2, zx2, zr2, zl2, zd2⟩ ⟨on3, fw3, zx3, zr3, zl3, zd3⟩ m r i).size) : (rl53 ⟨on1, fw1, zx1, zr1, zl1, zd1⟩ ⟨on2, fw2, zx2, zr2, zl2, zd2⟩ ⟨on3, fw3, zx3, zr3, zl3, zd3⟩ m r i)[18]'h = .int .i64 zr3 := rfl
@[go_sem] theorem rl53_q18 (on1 fw1 : Bool) (zx1 zr1 zl1 zd1 : Int) (on2 fw2 : Bool) (zx2 zr2 zl2 zd2 : Int) (on3 fw3 : Bool) (zx3 zr3 zl3 zd3 : Int) (m r i : Int) : (rl53 ⟨on1, fw1, zx1, zr1, zl1, zd1⟩ ⟨on2, fw2, zx2, zr2, zl2, zd2⟩ ⟨on3, fw3, zx3, zr3, zl3, zd3⟩ m r i)[18]? = some (.int .i64 zr3) := rfl
@[go_sem] theorem rl53_g19 (on1 fw1 : Bool) (zx1 zr1 zl1 zd1 : Int) (on2 fw2 : Bool) (zx2 zr2 zl2 zd2 : Int) (on3 fw3 : Bool) (zx3 zr3 zl3 zd3 : Int) (m r i : Int) (h : 19 < (rl53 ⟨on1, fw1, zx1, zr1, zl1, zd1⟩ ⟨on2, fw2, zx2, zr2, zl2, zd2⟩ ⟨on3, fw3, zx3, zr3, zl3, zd3⟩ m r i).size) : (rl53 ⟨on1, fw1, zx1, zr1, zl1, zd1⟩ ⟨on2, fw2, zx2, zr2, zl2, zd2⟩ ⟨on3, fw3, zx3, zr3, zl3, zd3⟩ m r i)[19]'h = .int .i64 zl3 := rfl
@[go_sem] theorem rl53_q19 (on1 fw1 : Bool) (zx1 zr1 zl1 zd1 : Int) (on2 fw2 : Bool) (zx2 zr2 zl2 zd2 : Int) (on3 fw3 : Bool) (zx3 zr3 zl3 zd3 : Int) (m r i : Int) : (rl53 ⟨on1, fw1, zx1, zr1, zl1, zd1⟩ ⟨on2, fw2, zx2, zr2, zl2, zd2⟩ ⟨on3, fw3, zx3, zr3, zl3, zd3⟩ m r i)[19]? = some (.int .i64 zl3) := rfl
@[go_sem] theorem rl53_g20 (on1 fw1 : Bool) (zx1 zr1 zl1 zd1 : Int) (on2 fw2 : Bool) (zx2 zr2 zl2 zd2 : Int) (on3 fw3 : Bool) (zx3 zr3 zl3 zd3 : Int) (m r i : Int) (h : 20 < (rl53 ⟨on1, fw1, zx1, zr1, zl1, zd1⟩ ⟨on2, fw2, zx2, zr2, zl2, zd2⟩ ⟨on3, fw3, zx3, zr3, zl3, zd3⟩ m r i).size) : (rl53 ⟨on1, fw1, zx1, zr1, zl1, zd1⟩ ⟨on2, fw2, zx2, zr2, zl2, zd2⟩ ⟨on3, fw3, zx3, zr3, zl3, zd3⟩ m r i)[20]'h = .int .i64 zd3 := rfl
@[go_sem] theorem rl53_q20 (on1 fw1 : Bool) (zx1 zr1 zl1 zd1 : Int) (on2 fw2 : Bool) (zx2 zr2 zl2 zd2 : Int) (on3 fw3 : Bool) (zx3 zr3 zl3 zd3 : Int) (m r i : Int) : (rl53 ⟨on1, fw1, zx1, zr1, zl1, zd1⟩ ⟨on2, fw2, zx2, zr2, zl2, zd2⟩ ⟨on3, fw3, zx3, zr3, zl3, zd3⟩ m r i)[20]? = some (.int .i64 zd3) := rfl
@[go_sem] theorem rl53_g21 (on1 fw1 : Bool) (zx1 zr1 zl1 zd1 : Int) (on2 fw2 : Bool) (zx2 zr2 zl2 zd2 : Int) (on3 fw3 : Bool) (zx3 zr3 zl3 zd3 : Int) (m r i : Int) (h : 21 < (rl53 ⟨on1, fw1, zx1, zr1, zl1, zd1⟩ ⟨on2, fw2, zx2, zr2, zl2, zd2⟩ ⟨on3, fw3, zx3, zr3, zl3, zd3⟩ m r i).size) : (rl53 ⟨on1, fw1, zx1, zr1, zl1, zd1⟩ ⟨on2, fw2, zx2, zr2, zl2, zd2⟩ ⟨on3, fw3, zx3, zr3, zl3, zd3⟩ m r i)[21]'h = .int .i64 m := rfl
@[go_sem] theorem rl53_q21 (on1 fw1 : Bool) (zx1 zr1 zl1 zd1 : Int) (on2 fw2 : Bool) (zx2 zr2 zl2 zd2 : Int) (on3 fw3 : Bool) (zx3 zr3 zl3 zd3 : Int) (m r i : Int) : (rl53 ⟨on1, fw1, zx1, zr1, zl1, zd1⟩ ⟨on2, fw2, zx2, zr2, zl2, zd2⟩ ⟨on3, fw3, zx3, zr3, zl3, zd3⟩ m r i)[21]? = some (.int .i64 m) := rfl
@[go_sem] theorem rl53_g22 (on1 fw1 : Bool) (zx1 zr1 zl1 zd1 : Int) (on2 fw2 : Bool) (zx2 zr2 zl2 zd2 : Int) (on3 fw3 : Bool) (zx3 zr3 zl3 zd3 : Int) (m r i : Int) (h : 22 < (rl53 ⟨on1, fw1, zx1, zr1, zl1, zd1⟩ ⟨on2, fw2, zx2, zr2, zl2, zd2⟩ ⟨on3, fw3, zx3, zr3, zl3, zd3⟩ m r i).size) : (rl53 ⟨on1, fw1, zx1, zr1, zl1, zd1⟩ ⟨on2, fw2, zx2, zr2, zl2, zd2⟩ ⟨on3, fw3, zx3, zr3, zl3, zd3⟩ m r i)[22]'h = .int .i64 r := rfl
@[go_sem] theorem rl53_q22 (on1 fw1 : Bool) (zx1 zr1 zl1 zd1 : Int) (on2 fw2 : Bool) (zx2 zr2 zl2 zd2 : Int) (on3 fw3 : Bool) (zx3 zr3 zl3 zd3 : Int) (m r i : Int) : (rl53 ⟨on1, fw1, zx1, zr1, zl1, zd1⟩ ⟨on2, fw2, zx2, zr2, zl2, zd2⟩ ⟨on3, fw3, zx3, zr3, zl3, zd3⟩ m r i)[22]? = some (.int .i64 r) := rfl
@[go_sem] theorem rl53_g23 (on1 fw1 : Bool) (zx1 zr1 zl1 zd1 : Int) (on2 fw2 : Bool) (zx2 zr2 zl2 zd2 : Int) (on3 fw3 : Bool) (zx3 zr3 zl3 zd3 : Int) (m r i : Int) (h : 23 < (rl53 ⟨on1, fw1, zx1, zr1, zl1, zd1⟩ ⟨on2, fw2, zx2, zr2, zl2, zd2⟩ ⟨on3, fw3, zx3, zr3, zl3, zd3⟩ m r i).size) : (rl53 ⟨on1, fw1, zx1, zr1, zl1, zd1⟩ ⟨on2, fw2, zx2, zr2, zl2, zd2⟩ ⟨on3, fw3, zx3, zr3, zl3, zd3⟩ m r i)[23]'h = .int .i64 i := rfl
@[go_sem] theorem rl53_q23 (on1 fw1 : Bool) (zx1 zr1 zl1 zd1 : Int) (on2 fw2 : Bool) (zx2 zr2 zl2 zd2 : Int) (on3 fw3 : Bool) (zx3 zr3 zl3 zd3 : Int) (m r i : Int) : (rl53 ⟨on1, fw1, zx1, zr1, zl1, zd1⟩ ⟨on2, fw2, zx2, zr2, zl2, zd2⟩ ⟨on3, fw3, zx3, zr3, zl3, zd3⟩ m r i)[23]? = some (.int .i64 i) := rfl
@[go_sem] theorem ix18_0 (x0 x1 x2 x3 x4 x5 x6 x7 x8 x9 x10 x11 x12 x13 x14 x15 x16 x17 : Value) (w : World) : (Instr.index 53 (.agg #[x0, x1, x2, x3, x4, x5, x6, x7, x8, x9, x10, x11, x12, x13, x14, x15, x16, x17]) (.int .i64 0)).run Try.prog w = .ok (.agg #[x0, x1, x2, x3, x4, x5]) w := by kernel_rfl
@[go_sem] theorem ix18_1 (x0 x1 x2 x3 x4 x5 x6 x7 x8 x9 x10 x11 x12 x13 x14 x15 x16 x17 : Value) (w : World) : (Instr.index 53 (.agg #[x0, x1, x2, x3, x4, x5, x6, x7, x8, x9, x10, x11, x12, x13, x14, x15, x16, x17]) (.int .i64 1)).run Try.prog w = .ok (.agg #[x6, x7, x8, x9, x10, x11]) w := by kernel_rfl
@[go_sem] theorem ix18_2 (x0 x1 x2 x3 x4 x5 x6 x7 x8 x9 x10 x11 x12 x13 x14 x15 x16 x17 : Value) (w : World) : (Instr.index 53 (.agg #[x0, x1, x2, x3, x4, x5, x6, x7, x8, x9, x10, x11, x12, x13, x14, x15, x16, x17]) (.int .i64 2)).run Try.prog w = .ok (.agg #[x12, x13, x14, x15, x16, x17]) w := by kernel_rfl
@[go_sem ↓ high] theorem lv24c (a : Addr) : loadVar 24 a = bigLoad 24 a := rfl
@[go_sem ↓ high] theorem sv24c (a : Addr) (v : Value) : storeVar 24 a v = bigStore 24 a v := rfl
theorem info24c : (Try.prog.info? 24).map (·.size) = some 12 := by kernel_rfl
@[go_sem] theorem run_load24c {w : World} {n : Nat} {cs : Array Value} {t : TypeId} {fr : Nat × Nat} [h : Blk w n (.cells cs t fr)] (hs : cs.size = 12) :
    (bigLoad 24 ⟨n, 0, none⟩).run Try.prog w = .ok (.agg cs) w := run_bigLoad Try.underlying24 rfl (by rw [hs]; exact info24c)
@[go_sem] theorem run_store24c {w : World} {n : Nat} {cs cs' : Array Value} {t : TypeId} [h : Blk w n (.cells cs t (0, 0))] (hs : cs.size = 12) (hs' : cs'.size = 12) [h1 : Ones cs'] :
    (bigStore 24 ⟨n, 0, none⟩ (.agg cs')).run Try.prog w = .ok () (w.setBlk n (.cells cs' t)) := run_bigStore (by rw [hs']; exact info24c) (by rw [hs, hs'])
@[go_sem ↓ high] theorem lv53 (a : Addr) : loadVar 53 a = bigLoad 53 a := rfl
theorem info53 : (Try.prog.info? 53).map (·.size) = some 18 := by kernel_rfl
@[go_sem] theorem run_load53 {w : World} {n : Nat} {t : TypeId} {fr : Nat × Nat} (on1 fw1 : Bool) (zx1 zr1 zl1 zd1 : Int) (on2 fw2 : Bool) (zx2 zr2 zl2 zd2 : Int) (on3 fw3 : Bool) (zx3 zr3 zl3 zd3 : Int) (m r i : Int) [h : Blk w n (.cells (rl53 ⟨on1, fw1, zx1, zr1, zl1, zd1⟩ ⟨on2, fw2, zx2, zr2, zl2, zd2⟩ ⟨on3, fw3, zx3, zr3, zl3, zd3⟩ m r i) t fr)] :
    (bigLoad 53 ⟨n, 3, none⟩).run Try.prog w = .ok (.agg #[.bool on1, .bool fw1, .int .i64 zx1, .int .i64 zr1, .int .i64 zl1, .int .i64 zd1, .bool on2, .bool fw2, .int .i64 zx2, .int .i64 zr2, .int .i64 zl2, .int .i64 zd2, .bool on3, .bool fw3, .int .i64 zx3, .int .i64 zr3, .int .i64 zl3, .int .i64 zd3]) w := by
  have hr := World.rangeAt_of_block h.eq 3 18
  rw [show ((rl53 ⟨on1, fw1, zx1, zr1, zl1, zd1⟩ ⟨on2, fw2, zx2, zr2, zl2, zd2⟩ ⟨on3, fw3, zx3, zr3, zl3, zd3⟩ m r i).extract 3 (3 + 18)).toList = [.bool on1, .bool fw1, .int .i64 zx1, .int .i64 zr1, .int .i64 zl1, .int .i64 zd1, .bool on2, .bool fw2, .int .i64 zx2, .int .i64 zr2, .int .i64 zl2, .int .i64 zd2, .bool on3, .bool fw3, .int .i64 zx3, .int .i64 zr3, .int .i64 zl3, .int .i64 zd3] by kernel_rfl] at hr
  exact run_loadVar_mid w n 3 53 [.bool on1, .bool fw1, .int .i64 zx1, .int .i64 zr1, .int .i64 zl1, .int .i64 zd1, .bool on2, .bool fw2, .int .i64 zx2, .int .i64 zr2, .int .i64 zl2, .int .i64 zd2, .bool on3, .bool fw3, .int .i64 zx3, .int .i64 zr3, .int .i64 zl3, .int .i64 zd3] _ hr Try.underlying53 rfl info53
set_option maxRecDepth 100000 in
set_option maxHeartbeats 8000000 in
theorem pickup_core (u v t x y z p q s : Cy) (on1 fw1 : Bool) (zx1 zr1 zl1 zd1 : Int) (on2 fw2 : Bool) (zx2 zr2 zl2 zd2 : Int) (on3 fw3 : Bool) (zx3 zr3 zl3 zd3 : Int) (m r i : Int) (VV II PP : Nat → Cy) (SS : Nat → Bool) (s0 s1 s2 s3 s4 s5 : Bool) (w : World)
    (LP : Hid (∀ w, Calls Try.prog 23 #[.agg #[.int .i64 u.a, .int .i64 u.b, .int .i64 u.c, .int .i64 u.d, .int .i64 v.a, .int .i64 v.b, .int .i64 v.c, .int .i64 v.d, .int .i64 t.a, .int .i64 t.b, .int .i64 t.c, .int .i64 t.d], .agg #[.int .i64 x.a, .int .i64 x.b, .int .i64 x.c, .int .i64 x.d, .int .i64 y.a, .int .i64 y.b, .int .i64 y.c, .int .i64 y.d, .int .i64 z.a, .int .i64 z.b, .int .i64 z.c, .int .i64 z.d], .int .i64 r, .int .i64 i] w fun e w' => e = .returned (.tuple #[.agg (c48L VV II 6), .int .i64 0]) ∧ Q w w'))
    (ST : Hid (∀ w, Calls Try.prog 61 #[.agg #[.int .i64 x.a, .int .i64 x.b, .int .i64 x.c, .int .i64 x.d, .int .i64 y.a, .int .i64 y.b, .int .i64 y.c, .int .i64 y.d, .int .i64 z.a, .int .i64 z.b, .int .i64 z.c, .int .i64 z.d], .int .i64 m] w fun e w' => e = .returned (.tuple #[.agg #[.bool s0, .bool s1, .bool s2, .bool s3, .bool s4, .bool s5], .int .i64 0]) ∧ Q w w'))
    (SX : Hid (∀ b w, Calc w b → Calls Try.prog 59 #[.pointer (some ⟨b, 0, none⟩), .agg #[.int .i64 p.a, .int .i64 p.b, .int .i64 p.c, .int .i64 p.d, .int .i64 q.a, .int .i64 q.b, .int .i64 q.c, .int .i64 q.d, .int .i64 s.a, .int .i64 s.b, .int .i64 s.c, .int .i64 s.d]] w fun e w' => e = .returned (.agg (c24 PP)) ∧ Q w w'))
    (PH : ph3 p q s = true) (RE1 : Hid (∀ w : World, Calls Try.prog 41 #[.agg #[.bool on1, .bool fw1, .int .i64 zx1, .int .i64 zr1, .int .i64 zl1, .int .i64 zd1]] w fun e w' => e = .returned (.bool true) ∧ Q w w')) (RE2 : Hid (∀ w : World, Calls Try.prog 41 #[.agg #[.bool on2, .bool fw2, .int .i64 zx2, .int .i64 zr2, .int .i64 zl2, .int .i64 zd2]] w fun e w' => e = .returned (.bool true) ∧ Q w w')) (RE3 : Hid (∀ w : World, Calls Try.prog 41 #[.agg #[.bool on3, .bool fw3, .int .i64 zx3, .int .i64 zr3, .int .i64 zl3, .int .i64 zd3]] w fun e w' => e = .returned (.bool true) ∧ Q w w')) (SE1 : Hid (∀ (j : Nat) (w : World), j < 6 → Calls Try.prog 62 #[.agg #[.bool on1, .bool fw1, .int .i64 zx1, .int .i64 zr1, .int .i64 zl1, .int .i64 zd1], .agg #[.int .i64 (VV j).a, .int .i64 (VV j).b, .int .i64 (VV j).c, .int .i64 (VV j).d, .int .i64 (II j).a, .int .i64 (II j).b, .int .i64 (II j).c, .int .i64 (II j).d], .agg #[.int .i64 (PP j).a, .int .i64 (PP j).b, .int .i64 (PP j).c, .int .i64 (PP j).d]] w fun e w' => e = .returned (.tuple #[.bool (seesB (VV j) (II j) (PP j) ⟨on1, fw1, zx1, zr1, zl1, zd1⟩), .int .i64 0]) ∧ Q w w')) (SE2 : Hid (∀ (j : Nat) (w : World), j < 6 → Calls Try.prog 62 #[.agg #[.bool on2, .bool fw2, .int .i64 zx2, .int .i64 zr2, .int .i64 zl2, .int .i64 zd2], .agg #[.int .i64 (VV j).a, .int .i64 (VV j).b, .int .i64 (VV j).c, .int .i64 (VV j).d, .int .i64 (II j).a, .int .i64 (II j).b, .int .i64 (II j).c, .int .i64 (II j).d], .agg #[.int .i64 (PP j).a, .int .i64 (PP j).b, .int .i64 (PP j).c, .int .i64 (PP j).d]] w fun e w' => e = .returned (.tuple #[.bool (seesB (VV j) (II j) (PP j) ⟨on2, fw2, zx2, zr2, zl2, zd2⟩), .int .i64 0]) ∧ Q w w')) (SE3 : Hid (∀ (j : Nat) (w : World), j < 6 → Calls Try.prog 62 #[.agg #[.bool on3, .bool fw3, .int .i64 zx3, .int .i64 zr3, .int .i64 zl3, .int .i64 zd3], .agg #[.int .i64 (VV j).a, .int .i64 (VV j).b, .int .i64 (VV j).c, .int .i64 (VV j).d, .int .i64 (II j).a, .int .i64 (II j).b, .int .i64 (II j).c, .int .i64 (II j).d], .agg #[.int .i64 (PP j).a, .int .i64 (PP j).b, .int .i64 (PP j).c, .int .i64 (PP j).d]] w fun e w' => e = .returned (.tuple #[.bool (seesB (VV j) (II j) (PP j) ⟨on3, fw3, zx3, zr3, zl3, zd3⟩), .int .i64 0]) ∧ Q w w'))
    (ES : Hid (SS 0 = s0 ∧ SS 1 = s1 ∧ SS 2 = s2 ∧ SS 3 = s3 ∧ SS 4 = s4 ∧ SS 5 = s5))
    (HON : Hid (on1 = true ∨ (on1 = false ∧ on2 = true) ∨ (on1 = false ∧ on2 = false ∧ on3 = true))) :
    Calls Try.prog 27 #[.agg #[.int .i64 u.a, .int .i64 u.b, .int .i64 u.c, .int .i64 u.d, .int .i64 v.a, .int .i64 v.b, .int .i64 v.c, .int .i64 v.d, .int .i64 t.a, .int .i64 t.b, .int .i64 t.c, .int .i64 t.d], .agg #[.int .i64 x.a, .int .i64 x.b, .int .i64 x.c, .int .i64 x.d, .int .i64 y.a, .int .i64 y.b, .int .i64 y.c, .int .i64 y.d, .int .i64 z.a, .int .i64 z.b, .int .i64 z.c, .int .i64 z.d], .agg #[.int .i64 p.a, .int .i64 p.b, .int .i64 p.c, .int .i64 p.d, .int .i64 q.a, .int .i64 q.b, .int .i64 q.c, .int .i64 q.d, .int .i64 s.a, .int .i64 s.b, .int .i64 s.c, .int .i64 s.d], .agg (rl53 ⟨on1, fw1, zx1, zr1, zl1, zd1⟩ ⟨on2, fw2, zx2, zr2, zl2, zd2⟩ ⟨on3, fw3, zx3, zr3, zl3, zd3⟩ m r i)] w fun e w' => e = .returned (.tuple #[.agg #[.bool (pickB VV II PP SS ⟨on1, fw1, zx1, zr1, zl1, zd1⟩ 6), .bool (pickB VV II PP SS ⟨on2, fw2, zx2, zr2, zl2, zd2⟩ 6), .bool (pickB VV II PP SS ⟨on3, fw3, zx3, zr3, zl3, zd3⟩ 6)], .int .i64 0]) ∧ Q w w' := by
  go_enter Try.func27, Try.ntmps27
  go_upto_region 1 with fail
  refine wp_world ?_
  intro B0 hB0
  have HB0 := Lib.hid hB0
  clear hB0
  go_cut [41] (fun c wx => c = .bool false ∧ wx = B0)
  case first =>
    have h := HB0.out
    subst h
    rcases HON.out with rfl | ⟨rfl, rfl⟩ | ⟨rfl, rfl, rfl⟩
    all_goals
      go_wp2_with fail
      go_meet
      exact ⟨rfl, rfl⟩
  case rest =>
    obtain ⟨rfl, rfl⟩ := hcut
    have h := HB0.out
    subst h
    clear HB0
    go_upto_block 0 with fail
    refine wp_world ?_
    intro B1 hB1
    have HB1 := Lib.hid hB1
    clear hB1
    go_cut [9] (fun c wx => c = .int .i64 0 ∧ Q B1 wx)
    case first =>
      have h := HB1.out
      subst h
      refine wp_world ?_
      intro B2 hB2
      have HB2 := Lib.hid hB2
      clear hB2
      go_wp2_with fail
      go_loopw [9, 45] (fun c i wr => ∃ k : Nat, k ≤ 3 ∧ c = .int .i64 0 ∧ i = .int .i64 k ∧ Q B2 wr) (fun _ i _ => 3 - (intOf i).toNat)
      case atStart => exact ⟨0, by omega, rfl, rfl, Q.refl _⟩
      case round =>
        obtain ⟨k, hk, rfl, rfl, kw, rfl⟩ := hrel
        by_cases hlt : k < 3
        · have hk3 : k = 0 ∨ k = 1 ∨ k = 2 := by omega
          clear hk hlt
          rcases hk3 with rfl | rfl | rfl
          · cases on1
            all_goals
              go_wp2_with ((go_at_call 41; first | ((with_reducible show Calls _ _ #[.agg #[_, .bool fw1, _, _, _, _]] _ _); refine (RE1.out _).mono ?_; rintro e w' ⟨rfl, kj, rfl⟩) | ((with_reducible show Calls _ _ #[.agg #[_, .bool fw2, _, _, _, _]] _ _); refine (RE2.out _).mono ?_; rintro e w' ⟨rfl, kj, rfl⟩) | ((with_reducible show Calls _ _ #[.agg #[_, .bool fw3, _, _, _, _]] _ _); refine (RE3.out _).mono ?_; rintro e w' ⟨rfl, kj, rfl⟩)))
              go_roundw
              case rel => exact ⟨1, by omega, rfl, rfl, by repeat' (first | exact Q.refl _ | refine Q.alloc ?_ _ | refine Q.jk ?_ _ | refine Q.drew ?_)⟩
              case measure => simp [intOf]
          · cases on2
            all_goals
              go_wp2_with ((go_at_call 41; first | ((with_reducible show Calls _ _ #[.agg #[_, .bool fw1, _, _, _, _]] _ _); refine (RE1.out _).mono ?_; rintro e w' ⟨rfl, kj, rfl⟩) | ((with_reducible show Calls _ _ #[.agg #[_, .bool fw2, _, _, _, _]] _ _); refine (RE2.out _).mono ?_; rintro e w' ⟨rfl, kj, rfl⟩) | ((with_reducible show Calls _ _ #[.agg #[_, .bool fw3, _, _, _, _]] _ _); refine (RE3.out _).mono ?_; rintro e w' ⟨rfl, kj, rfl⟩)))
              go_roundw
              case rel => exact ⟨2, by omega, rfl, rfl, by repeat' (first | exact Q.refl _ | refine Q.alloc ?_ _ | refine Q.jk ?_ _ | refine Q.drew ?_)⟩
              case measure => simp [intOf]
          · cases on3
            all_goals
              go_wp2_with ((go_at_call 41; first | ((with_reducible show Calls _ _ #[.agg #[_, .bool fw1, _, _, _, _]] _ _); refine (RE1.out _).mono ?_; rintro e w' ⟨rfl, kj, rfl⟩) | ((with_reducible show Calls _ _ #[.agg #[_, .bool fw2, _, _, _, _]] _ _); refine (RE2.out _).mono ?_; rintro e w' ⟨rfl, kj, rfl⟩) | ((with_reducible show Calls _ _ #[.agg #[_, .bool fw3, _, _, _, _]] _ _); refine (RE3.out _).mono ?_; rintro e w' ⟨rfl, kj, rfl⟩)))
              go_roundw
              case rel => exact ⟨3, by omega, rfl, rfl, by repeat' (first | exact Q.refl _ | refine Q.alloc ?_ _ | refine Q.jk ?_ _ | refine Q.drew ?_)⟩
              case measure => simp [intOf]
        · obtain rfl : k = 3 := by omega
          go_wp2_with fail
          go_meet
          refine ⟨rfl, ?_⟩
          have h2 := HB2.out
          subst h2
          repeat' (first | exact Q.refl _ | refine Q.alloc ?_ _ | refine Q.jk ?_ _ | refine Q.drew ?_)
    case rest =>
      obtain ⟨rfl, kx, rfl⟩ := hcut
      have h := HB1.out
      subst h
      clear HB1
      go_upto_region 21 with ((first | (go_at_call 56; (with_reducible refine (dphases_any p q s _).mono ?_); rintro e w' ⟨rfl, kP, rfl⟩) | (go_at_call 23; (with_reducible refine (LP.out _).mono ?_); rintro e w' ⟨rfl, kL, rfl⟩) | (go_at_call 61; (with_reducible refine (ST.out _).mono ?_); rintro e w' ⟨rfl, kS, rfl⟩) | (go_at_call 59; refine (SX.out _ _ (Calc.mk (by simp [go_sem]) (by simp [go_sem]))).mono ?_; rintro e w' ⟨rfl, kX, rfl⟩)))
      refine wp_world ?_
      intro B hB
      have hq : Q w B := by
        rw [hB]
        repeat' (first | exact Q.refl _ | refine Q.alloc ?_ _ | refine Q.jk ?_ _ | refine Q.drew ?_)
      haveI D12 : Blk B (w.heap.size + 1 + 1 + 1 + 1 + 1 + kx.os.size + kP.os.size + kL.os.size) (.cells (c48L VV II 6) 49) := by rw [hB]; infer_instance
      haveI D14 : Blk B (w.heap.size + 1 + 1 + 1 + 1 + 1 + kx.os.size + kP.os.size + kL.os.size + 1 + kS.os.size) (.cells #[.bool s0, .bool s1, .bool s2, .bool s3, .bool s4, .bool s5] 102) := by rw [hB]; infer_instance
      haveI D16 : Blk B (w.heap.size + 1 + 1 + 1 + 1 + 1 + kx.os.size + kP.os.size + kL.os.size + 1 + kS.os.size + 1 + 1 + kX.os.size) (.cells (c24 PP) 100) := by rw [hB]; infer_instance
      haveI D7 : Blk B (w.heap.size + 1 + 1 + 1) (.cells (rl53 ⟨on1, fw1, zx1, zr1, zl1, zd1⟩ ⟨on2, fw2, zx2, zr2, zl2, zd2⟩ ⟨on3, fw3, zx3, zr3, zl3, zd3⟩ m r i) 69) := by rw [hB]; infer_instance
      haveI D8 : Blk B (w.heap.size + 1 + 1 + 1 + 1) (.cells #[.bool false, .bool false, .bool false] 57) := by rw [hB]; infer_instance
      have HB := Lib.hid hB
      clear hB
      generalize w.heap.size + 1 + 1 + 1 + 1 + 1 + kx.os.size + kP.os.size + kL.os.size + 1 + kS.os.size + 1 + 1 + kX.os.size = n16 at D16 ⊢
      generalize w.heap.size + 1 + 1 + 1 + 1 + 1 + kx.os.size + kP.os.size + kL.os.size + 1 + kS.os.size = n14 at D14 ⊢
      generalize w.heap.size + 1 + 1 + 1 + 1 + 1 + kx.os.size + kP.os.size + kL.os.size = n12 at D12 ⊢
      haveI O12 := old_block D12.eq
      haveI O14 := old_block D14.eq
      haveI O16 := old_block D16.eq
      haveI O8 := old_block D8.eq
      have HQ := Lib.hid hq
      clear hq
      go_wp2_with fail
      go_loopw [9, 96] (fun c i wr => ∃ k : Nat, k ≤ 3 ∧ c = .int .i64 0 ∧ i = .int .i64 k ∧ Q (B.alloc (.cells (pk3 VV II PP SS ⟨on1, fw1, zx1, zr1, zl1, zd1⟩ ⟨on2, fw2, zx2, zr2, zl2, zd2⟩ ⟨on3, fw3, zx3, zr3, zl3, zd3⟩ k) 57)) wr) (fun _ i _ => 3 - (intOf i).toNat)
      case atStart => exact ⟨0, by omega, rfl, rfl, Q.refl _⟩
      case round =>
        obtain ⟨k, hk, rfl, rfl, kw, rfl⟩ := hrel
        by_cases hlt : k < 3
        · have hk3 : k = 0 ∨ k = 1 ∨ k = 2 := by omega
          clear hk hlt
          rcases hk3 with rfl | rfl | rfl
          · rw [show ((0 : Nat) : Int) = 0 from rfl]
            go_wp2_with fail
            go_loopw [9, 100] (fun c i wr => ∃ j : Nat, j ≤ 6 ∧ c = .int .i64 0 ∧ i = .int .i64 j ∧ Q (((B.alloc (.cells #[.bool (pickB VV II PP SS ⟨on1, fw1, zx1, zr1, zl1, zd1⟩ j), .bool false, .bool false] 57)).jk kw).alloc (.cells #[.bool on1, .bool fw1, .int .i64 zx1, .int .i64 zr1, .int .i64 zl1, .int .i64 zd1] 33)) wr) (fun _ i _ => 6 - (intOf i).toNat)
            case atStart =>
              refine ⟨0, by omega, rfl, rfl, ?_⟩
              rw [pick_zero]
              exact Q.refl _
            case round =>
              obtain ⟨j, hj, rfl, rfl, kv, rfl⟩ := hrel
              by_cases hlt : j < 6
              · have hj6 : j = 0 ∨ j = 1 ∨ j = 2 ∨ j = 3 ∨ j = 4 ∨ j = 5 := by omega
                clear hj hlt
                rcases hj6 with rfl | rfl | rfl | rfl | rfl | rfl
                · as_aux_lemma =>
                    have a0 := (cell_of_block (i := 0) D12.eq).trans (show _ = some (.int .i64 (VV 0).a) from rfl)
                    have a1 := (cell_of_block (i := 1) D12.eq).trans (show _ = some (.int .i64 (VV 0).b) from rfl)
                    have a2 := (cell_of_block (i := 2) D12.eq).trans (show _ = some (.int .i64 (VV 0).c) from rfl)
                    have a3 := (cell_of_block (i := 3) D12.eq).trans (show _ = some (.int .i64 (VV 0).d) from rfl)
                    have a4 := (cell_of_block (i := 4) D12.eq).trans (show _ = some (.int .i64 (II 0).a) from rfl)
                    have a5 := (cell_of_block (i := 5) D12.eq).trans (show _ = some (.int .i64 (II 0).b) from rfl)
                    have a6 := (cell_of_block (i := 6) D12.eq).trans (show _ = some (.int .i64 (II 0).c) from rfl)
                    have a7 := (cell_of_block (i := 7) D12.eq).trans (show _ = some (.int .i64 (II 0).d) from rfl)
                    have a8 := (cell_of_block (i := 0) D14.eq).trans (show _ = some (.bool s0) from rfl)
                    have b0 := (cell_of_block (i := 0) D16.eq).trans (show _ = some (.int .i64 (PP 0).a) from rfl)
                    have b1 := (cell_of_block (i := 1) D16.eq).trans (show _ = some (.int .i64 (PP 0).b) from rfl)
                    have b2 := (cell_of_block (i := 2) D16.eq).trans (show _ = some (.int .i64 (PP 0).c) from rfl)
                    have b3 := (cell_of_block (i := 3) D16.eq).trans (show _ = some (.int .i64 (PP 0).d) from rfl)
                    cases on1
                    · go_wp2_with fail
                      go_roundw
                      case rel =>
                        refine ⟨1, by omega, rfl, rfl, ?_⟩
                        rw [pick_off, ← pick_off VV II PP SS fw1 zx1 zr1 zl1 zd1 0]
                        repeat' (first | exact Q.refl _ | refine Q.alloc ?_ _ | refine Q.jk ?_ _ | refine Q.drew ?_)
                      case measure => simp [intOf]

                    · have hs : SS 0 = s0 := ES.out.1
                      cases s0
                      · have pe := pick_weak VV II PP SS ⟨true, fw1, zx1, zr1, zl1, zd1⟩ 0 hs
                        have PE := Lib.hid pe
                        clear pe hs
                        go_wp2_with fail
                        go_roundw
                        case rel =>
                          refine ⟨1, by omega, rfl, rfl, ?_⟩
                          rw [PE.out]
                          repeat' (first | exact Q.refl _ | refine Q.alloc ?_ _ | refine Q.jk ?_ _ | refine Q.drew ?_)
                        case measure => simp [intOf]

                      · obtain ⟨b, hb⟩ : ∃ b, seesB (VV 0) (II 0) (PP 0) ⟨true, fw1, zx1, zr1, zl1, zd1⟩ = b := ⟨_, rfl⟩
                        obtain ⟨g, hg⟩ : ∃ g, pickB VV II PP SS ⟨true, fw1, zx1, zr1, zl1, zd1⟩ 0 = g := ⟨_, rfl⟩
                        have PE := Lib.hid (pick_step VV II PP SS ⟨true, fw1, zx1, zr1, zl1, zd1⟩ 0 rfl hs hg hb)
                        have SJ := Lib.hid (fun w => SE1.out 0 w (by decide))
                        rw [hb] at SJ
                        rw [hg]
                        clear hb hg hs
                        cases g <;> cases b
                        all_goals
                          go_wp2_with fail
                          try simp only [List.append]
                          refine wp_region_jk (by kernel_rfl) (by kernel_rfl) ?_
                          repeat (go_big_quiet_step ((go_at_call 62; exact Calls.jk_of (SJ.out _))))
                          refine wpQuiet_nil ?_
                          intro _ hw'
                          obtain ⟨kq, rfl⟩ := hw'
                          go_wp2_with fail
                          go_roundw
                          case rel =>
                            refine ⟨1, by omega, rfl, rfl, ?_⟩
                            rw [PE.out]
                            repeat' (first | exact Q.refl _ | refine Q.alloc ?_ _ | refine Q.jk ?_ _ | refine Q.drew ?_)
                          case measure => simp [intOf]
                · as_aux_lemma =>
                    have a0 := (cell_of_block (i := 8) D12.eq).trans (show _ = some (.int .i64 (VV 1).a) from rfl)
                    have a1 := (cell_of_block (i := 9) D12.eq).trans (show _ = some (.int .i64 (VV 1).b) from rfl)
                    have a2 := (cell_of_block (i := 10) D12.eq).trans (show _ = some (.int .i64 (VV 1).c) from rfl)
                    have a3 := (cell_of_block (i := 11) D12.eq).trans (show _ = some (.int .i64 (VV 1).d) from rfl)
                    have a4 := (cell_of_block (i := 12) D12.eq).trans (show _ = some (.int .i64 (II 1).a) from rfl)
                    have a5 := (cell_of_block (i := 13) D12.eq).trans (show _ = some (.int .i64 (II 1).b) from rfl)
                    have a6 := (cell_of_block (i := 14) D12.eq).trans (show _ = some (.int .i64 (II 1).c) from rfl)
                    have a7 := (cell_of_block (i := 15) D12.eq).trans (show _ = some (.int .i64 (II 1).d) from rfl)
                    have a8 := (cell_of_block (i := 1) D14.eq).trans (show _ = some (.bool s1) from rfl)
                    have b0 := (cell_of_block (i := 4) D16.eq).trans (show _ = some (.int .i64 (PP 1).a) from rfl)
                    have b1 := (cell_of_block (i := 5) D16.eq).trans (show _ = some (.int .i64 (PP 1).b) from rfl)
                    have b2 := (cell_of_block (i := 6) D16.eq).trans (show _ = some (.int .i64 (PP 1).c) from rfl)
                    have b3 := (cell_of_block (i := 7) D16.eq).trans (show _ = some (.int .i64 (PP 1).d) from rfl)
                    cases on1
                    · go_wp2_with fail
                      go_roundw
                      case rel =>
                        refine ⟨2, by omega, rfl, rfl, ?_⟩
                        rw [pick_off, ← pick_off VV II PP SS fw1 zx1 zr1 zl1 zd1 1]
                        repeat' (first | exact Q.refl _ | refine Q.alloc ?_ _ | refine Q.jk ?_ _ | refine Q.drew ?_)
                      case measure => simp [intOf]

                    · have hs : SS 1 = s1 := ES.out.2.1
                      cases s1
                      · have pe := pick_weak VV II PP SS ⟨true, fw1, zx1, zr1, zl1, zd1⟩ 1 hs
                        have PE := Lib.hid pe
                        clear pe hs
                        go_wp2_with fail
                        go_roundw
                        case rel =>
                          refine ⟨2, by omega, rfl, rfl, ?_⟩
                          rw [PE.out]
                          repeat' (first | exact Q.refl _ | refine Q.alloc ?_ _ | refine Q.jk ?_ _ | refine Q.drew ?_)
                        case measure => simp [intOf]

                      · obtain ⟨b, hb⟩ : ∃ b, seesB (VV 1) (II 1) (PP 1) ⟨true, fw1, zx1, zr1, zl1, zd1⟩ = b := ⟨_, rfl⟩
                        obtain ⟨g, hg⟩ : ∃ g, pickB VV II PP SS ⟨true, fw1, zx1, zr1, zl1, zd1⟩ 1 = g := ⟨_, rfl⟩
                        have PE := Lib.hid (pick_step VV II PP SS ⟨true, fw1, zx1, zr1, zl1, zd1⟩ 1 rfl hs hg hb)
                        have SJ := Lib.hid (fun w => SE1.out 1 w (by decide))
                        rw [hb] at SJ
                        rw [hg]
                        clear hb hg hs
                        cases g <;> cases b
                        all_goals
                          go_wp2_with fail
                          try simp only [List.append]
                          refine wp_region_jk (by kernel_rfl) (by kernel_rfl) ?_
                          repeat (go_big_quiet_step ((go_at_call 62; exact Calls.jk_of (SJ.out _))))
                          refine wpQuiet_nil ?_
                          intro _ hw'
                          obtain ⟨kq, rfl⟩ := hw'
                          go_wp2_with fail
                          go_roundw
                          case rel =>
                            refine ⟨2, by omega, rfl, rfl, ?_⟩
                            rw [PE.out]
                            repeat' (first | exact Q.refl _ | refine Q.alloc ?_ _ | refine Q.jk ?_ _ | refine Q.drew ?_)
                          case measure => simp [intOf]
                · as_aux_lemma =>
                    have a0 := (cell_of_block (i := 16) D12.eq).trans (show _ = some (.int .i64 (VV 2).a) from rfl)
                    have a1 := (cell_of_block (i := 17) D12.eq).trans (show _ = some (.int .i64 (VV 2).b) from rfl)
                    have a2 := (cell_of_block (i := 18) D12.eq).trans (show _ = some (.int .i64 (VV 2).c) from rfl)
                    have a3 := (cell_of_block (i := 19) D12.eq).trans (show _ = some (.int .i64 (VV 2).d) from rfl)
                    have a4 := (cell_of_block (i := 20) D12.eq).trans (show _ = some (.int .i64 (II 2).a) from rfl)
                    have a5 := (cell_of_block (i := 21) D12.eq).trans (show _ = some (.int .i64 (II 2).b) from rfl)
                    have a6 := (cell_of_block (i := 22) D12.eq).trans (show _ = some (.int .i64 (II 2).c) from rfl)
                    have a7 := (cell_of_block (i := 23) D12.eq).trans (show _ = some (.int .i64 (II 2).d) from rfl)
                    have a8 := (cell_of_block (i := 2) D14.eq).trans (show _ = some (.bool s2) from rfl)
                    have b0 := (cell_of_block (i := 8) D16.eq).trans (show _ = some (.int .i64 (PP 2).a) from rfl)
                    have b1 := (cell_of_block (i := 9) D16.eq).trans (show _ = some (.int .i64 (PP 2).b) from rfl)
                    have b2 := (cell_of_block (i := 10) D16.eq).trans (show _ = some (.int .i64 (PP 2).c) from rfl)
                    have b3 := (cell_of_block (i := 11) D16.eq).trans (show _ = some (.int .i64 (PP 2).d) from rfl)
                    cases on1
                    · go_wp2_with fail
                      go_roundw
                      case rel =>
                        refine ⟨3, by omega, rfl, rfl, ?_⟩
                        rw [pick_off, ← pick_off VV II PP SS fw1 zx1 zr1 zl1 zd1 2]
                        repeat' (first | exact Q.refl _ | refine Q.alloc ?_ _ | refine Q.jk ?_ _ | refine Q.drew ?_)
                      case measure => simp [intOf]

                    · have hs : SS 2 = s2 := ES.out.2.2.1
                      cases s2
                      · have pe := pick_weak VV II PP SS ⟨true, fw1, zx1, zr1, zl1, zd1⟩ 2 hs
                        have PE := Lib.hid pe
                        clear pe hs
                        go_wp2_with fail
                        go_roundw
                        case rel =>
                          refine ⟨3, by omega, rfl, rfl, ?_⟩
                          rw [PE.out]
                          repeat' (first | exact Q.refl _ | refine Q.alloc ?_ _ | refine Q.jk ?_ _ | refine Q.drew ?_)
                        case measure => simp [intOf]

                      · obtain ⟨b, hb⟩ : ∃ b, seesB (VV 2) (II 2) (PP 2) ⟨true, fw1, zx1, zr1, zl1, zd1⟩ = b := ⟨_, rfl⟩
                        obtain ⟨g, hg⟩ : ∃ g, pickB VV II PP SS ⟨true, fw1, zx1, zr1, zl1, zd1⟩ 2 = g := ⟨_, rfl⟩
                        have PE := Lib.hid (pick_step VV II PP SS ⟨true, fw1, zx1, zr1, zl1, zd1⟩ 2 rfl hs hg hb)
                        have SJ := Lib.hid (fun w => SE1.out 2 w (by decide))
                        rw [hb] at SJ
                        rw [hg]
                        clear hb hg hs
                        cases g <;> cases b
                        all_goals
                          go_wp2_with fail
                          try simp only [List.append]
                          refine wp_region_jk (by kernel_rfl) (by kernel_rfl) ?_
                          repeat (go_big_quiet_step ((go_at_call 62; exact Calls.jk_of (SJ.out _))))
                          refine wpQuiet_nil ?_
                          intro _ hw'
                          obtain ⟨kq, rfl⟩ := hw'
                          go_wp2_with fail
                          go_roundw
                          case rel =>
                            refine ⟨3, by omega, rfl, rfl, ?_⟩
                            rw [PE.out]
                            repeat' (first | exact Q.refl _ | refine Q.alloc ?_ _ | refine Q.jk ?_ _ | refine Q.drew ?_)
                          case measure => simp [intOf]
                · as_aux_lemma =>
                    have a0 := (cell_of_block (i := 24) D12.eq).trans (show _ = some (.int .i64 (VV 3).a) from rfl)
                    have a1 := (cell_of_block (i := 25) D12.eq).trans (show _ = some (.int .i64 (VV 3).b) from rfl)
                    have a2 := (cell_of_block (i := 26) D12.eq).trans (show _ = some (.int .i64 (VV 3).c) from rfl)
                    have a3 := (cell_of_block (i := 27) D12.eq).trans (show _ = some (.int .i64 (VV 3).d) from rfl)
                    have a4 := (cell_of_block (i := 28) D12.eq).trans (show _ = some (.int .i64 (II 3).a) from rfl)
                    have a5 := (cell_of_block (i := 29) D12.eq).trans (show _ = some (.int .i64 (II 3).b) from rfl)
                    have a6 := (cell_of_block (i := 30) D12.eq).trans (show _ = some (.int .i64 (II 3).c) from rfl)
                    have a7 := (cell_of_block (i := 31) D12.eq).trans (show _ = some (.int .i64 (II 3).d) from rfl)
                    have a8 := (cell_of_block (i := 3) D14.eq).trans (show _ = some (.bool s3) from rfl)
                    have b0 := (cell_of_block (i := 12) D16.eq).trans (show _ = some (.int .i64 (PP 3).a) from rfl)
                    have b1 := (cell_of_block (i := 13) D16.eq).trans (show _ = some (.int .i64 (PP 3).b) from rfl)
                    have b2 := (cell_of_block (i := 14) D16.eq).trans (show _ = some (.int .i64 (PP 3).c) from rfl)
                    have b3 := (cell_of_block (i := 15) D16.eq).trans (show _ = some (.int .i64 (PP 3).d) from rfl)
                    cases on1
                    · go_wp2_with fail
                      go_roundw
                      case rel =>
                        refine ⟨4, by omega, rfl, rfl, ?_⟩
                        rw [pick_off, ← pick_off VV II PP SS fw1 zx1 zr1 zl1 zd1 3]
                        repeat' (first | exact Q.refl _ | refine Q.alloc ?_ _ | refine Q.jk ?_ _ | refine Q.drew ?_)
                      case measure => simp [intOf]

                    · have hs : SS 3 = s3 := ES.out.2.2.2.1
                      cases s3
                      · have pe := pick_weak VV II PP SS ⟨true, fw1, zx1, zr1, zl1, zd1⟩ 3 hs
                        have PE := Lib.hid pe
                        clear pe hs
                        go_wp2_with fail
                        go_roundw
                        case rel =>
                          refine ⟨4, by omega, rfl, rfl, ?_⟩
                          rw [PE.out]
                          repeat' (first | exact Q.refl _ | refine Q.alloc ?_ _ | refine Q.jk ?_ _ | refine Q.drew ?_)
                        case measure => simp [intOf]

                      · obtain ⟨b, hb⟩ : ∃ b, seesB (VV 3) (II 3) (PP 3) ⟨true, fw1, zx1, zr1, zl1, zd1⟩ = b := ⟨_, rfl⟩
                        obtain ⟨g, hg⟩ : ∃ g, pickB VV II PP SS ⟨true, fw1, zx1, zr1, zl1, zd1⟩ 3 = g := ⟨_, rfl⟩
                        have PE := Lib.hid (pick_step VV II PP SS ⟨true, fw1, zx1, zr1, zl1, zd1⟩ 3 rfl hs hg hb)
                        have SJ := Lib.hid (fun w => SE1.out 3 w (by decide))
                        rw [hb] at SJ
                        rw [hg]
                        clear hb hg hs
                        cases g <;> cases b
                        all_goals
                          go_wp2_with fail
                          try simp only [List.append]
                          refine wp_region_jk (by kernel_rfl) (by kernel_rfl) ?_
                          repeat (go_big_quiet_step ((go_at_call 62; exact Calls.jk_of (SJ.out _))))
                          refine wpQuiet_nil ?_
                          intro _ hw'
                          obtain ⟨kq, rfl⟩ := hw'
                          go_wp2_with fail
                          go_roundw
                          case rel =>
                            refine ⟨4, by omega, rfl, rfl, ?_⟩
                            rw [PE.out]
                            repeat' (first | exact Q.refl _ | refine Q.alloc ?_ _ | refine Q.jk ?_ _ | refine Q.drew ?_)
                          case measure => simp [intOf]
                · as_aux_lemma =>
                    have a0 := (cell_of_block (i := 32) D12.eq).trans (show _ = some (.int .i64 (VV 4).a) from rfl)
                    have a1 := (cell_of_block (i := 33) D12.eq).trans (show _ = some (.int .i64 (VV 4).b) from rfl)
                    have a2 := (cell_of_block (i := 34) D12.eq).trans (show _ = some (.int .i64 (VV 4).c) from rfl)
                    have a3 := (cell_of_block (i := 35) D12.eq).trans (show _ = some (.int .i64 (VV 4).d) from rfl)
                    have a4 := (cell_of_block (i := 36) D12.eq).trans (show _ = some (.int .i64 (II 4).a) from rfl)
                    have a5 := (cell_of_block (i := 37) D12.eq).trans (show _ = some (.int .i64 (II 4).b) from rfl)
                    have a6 := (cell_of_block (i := 38) D12.eq).trans (show _ = some (.int .i64 (II 4).c) from rfl)
                    have a7 := (cell_of_block (i := 39) D12.eq).trans (show _ = some (.int .i64 (II 4).d) from rfl)
                    have a8 := (cell_of_block (i := 4) D14.eq).trans (show _ = some (.bool s4) from rfl)
                    have b0 := (cell_of_block (i := 16) D16.eq).trans (show _ = some (.int .i64 (PP 4).a) from rfl)
                    have b1 := (cell_of_block (i := 17) D16.eq).trans (show _ = some (.int .i64 (PP 4).b) from rfl)
                    have b2 := (cell_of_block (i := 18) D16.eq).trans (show _ = some (.int .i64 (PP 4).c) from rfl)
                    have b3 := (cell_of_block (i := 19) D16.eq).trans (show _ = some (.int .i64 (PP 4).d) from rfl)
                    cases on1
                    · go_wp2_with fail
                      go_roundw
                      case rel =>
                        refine ⟨5, by omega, rfl, rfl, ?_⟩
                        rw [pick_off, ← pick_off VV II PP SS fw1 zx1 zr1 zl1 zd1 4]
                        repeat' (first | exact Q.refl _ | refine Q.alloc ?_ _ | refine Q.jk ?_ _ | refine Q.drew ?_)
                      case measure => simp [intOf]

                    · have hs : SS 4 = s4 := ES.out.2.2.2.2.1
                      cases s4
                      · have pe := pick_weak VV II PP SS ⟨true, fw1, zx1, zr1, zl1, zd1⟩ 4 hs
                        have PE := Lib.hid pe
                        clear pe hs
                        go_wp2_with fail
                        go_roundw
                        case rel =>
                          refine ⟨5, by omega, rfl, rfl, ?_⟩
                          rw [PE.out]
                          repeat' (first | exact Q.refl _ | refine Q.alloc ?_ _ | refine Q.jk ?_ _ | refine Q.drew ?_)
                        case measure => simp [intOf]

                      · obtain ⟨b, hb⟩ : ∃ b, seesB (VV 4) (II 4) (PP 4) ⟨true, fw1, zx1, zr1, zl1, zd1⟩ = b := ⟨_, rfl⟩
                        obtain ⟨g, hg⟩ : ∃ g, pickB VV II PP SS ⟨true, fw1, zx1, zr1, zl1, zd1⟩ 4 = g := ⟨_, rfl⟩
                        have PE := Lib.hid (pick_step VV II PP SS ⟨true, fw1, zx1, zr1, zl1, zd1⟩ 4 rfl hs hg hb)
                        have SJ := Lib.hid (fun w => SE1.out 4 w (by decide))
                        rw [hb] at SJ
                        rw [hg]
                        clear hb hg hs
                        cases g <;> cases b
                        all_goals
                          go_wp2_with fail
                          try simp only [List.append]
                          refine wp_region_jk (by kernel_rfl) (by kernel_rfl) ?_
                          repeat (go_big_quiet_step ((go_at_call 62; exact Calls.jk_of (SJ.out _))))
                          refine wpQuiet_nil ?_
                          intro _ hw'
                          obtain ⟨kq, rfl⟩ := hw'
                          go_wp2_with fail
                          go_roundw
                          case rel =>
                            refine ⟨5, by omega, rfl, rfl, ?_⟩
                            rw [PE.out]
                            repeat' (first | exact Q.refl _ | refine Q.alloc ?_ _ | refine Q.jk ?_ _ | refine Q.drew ?_)
                          case measure => simp [intOf]
                · as_aux_lemma =>
                    have a0 := (cell_of_block (i := 40) D12.eq).trans (show _ = some (.int .i64 (VV 5).a) from rfl)
                    have a1 := (cell_of_block (i := 41) D12.eq).trans (show _ = some (.int .i64 (VV 5).b) from rfl)
                    have a2 := (cell_of_block (i := 42) D12.eq).trans (show _ = some (.int .i64 (VV 5).c) from rfl)
                    have a3 := (cell_of_block (i := 43) D12.eq).trans (show _ = some (.int .i64 (VV 5).d) from rfl)
                    have a4 := (cell_of_block (i := 44) D12.eq).trans (show _ = some (.int .i64 (II 5).a) from rfl)
                    have a5 := (cell_of_block (i := 45) D12.eq).trans (show _ = some (.int .i64 (II 5).b) from rfl)
                    have a6 := (cell_of_block (i := 46) D12.eq).trans (show _ = some (.int .i64 (II 5).c) from rfl)
                    have a7 := (cell_of_block (i := 47) D12.eq).trans (show _ = some (.int .i64 (II 5).d) from rfl)
                    have a8 := (cell_of_block (i := 5) D14.eq).trans (show _ = some (.bool s5) from rfl)
                    have b0 := (cell_of_block (i := 20) D16.eq).trans (show _ = some (.int .i64 (PP 5).a) from rfl)
                    have b1 := (cell_of_block (i := 21) D16.eq).trans (show _ = some (.int .i64 (PP 5).b) from rfl)
                    have b2 := (cell_of_block (i := 22) D16.eq).trans (show _ = some (.int .i64 (PP 5).c) from rfl)
                    have b3 := (cell_of_block (i := 23) D16.eq).trans (show _ = some (.int .i64 (PP 5).d) from rfl)
                    cases on1
                    · go_wp2_with fail
                      go_roundw
                      case rel =>
                        refine ⟨6, by omega, rfl, rfl, ?_⟩
                        rw [pick_off, ← pick_off VV II PP SS fw1 zx1 zr1 zl1 zd1 5]
                        repeat' (first | exact Q.refl _ | refine Q.alloc ?_ _ | refine Q.jk ?_ _ | refine Q.drew ?_)
                      case measure => simp [intOf]

                    · have hs : SS 5 = s5 := ES.out.2.2.2.2.2
                      cases s5
                      · have pe := pick_weak VV II PP SS ⟨true, fw1, zx1, zr1, zl1, zd1⟩ 5 hs
                        have PE := Lib.hid pe
                        clear pe hs
                        go_wp2_with fail
                        go_roundw
                        case rel =>
                          refine ⟨6, by omega, rfl, rfl, ?_⟩
                          rw [PE.out]
                          repeat' (first | exact Q.refl _ | refine Q.alloc ?_ _ | refine Q.jk ?_ _ | refine Q.drew ?_)
                        case measure => simp [intOf]

                      · obtain ⟨b, hb⟩ : ∃ b, seesB (VV 5) (II 5) (PP 5) ⟨true, fw1, zx1, zr1, zl1, zd1⟩ = b := ⟨_, rfl⟩
                        obtain ⟨g, hg⟩ : ∃ g, pickB VV II PP SS ⟨true, fw1, zx1, zr1, zl1, zd1⟩ 5 = g := ⟨_, rfl⟩
                        have PE := Lib.hid (pick_step VV II PP SS ⟨true, fw1, zx1, zr1, zl1, zd1⟩ 5 rfl hs hg hb)
                        have SJ := Lib.hid (fun w => SE1.out 5 w (by decide))
                        rw [hb] at SJ
                        rw [hg]
                        clear hb hg hs
                        cases g <;> cases b
                        all_goals
                          go_wp2_with fail
                          try simp only [List.append]
                          refine wp_region_jk (by kernel_rfl) (by kernel_rfl) ?_
                          repeat (go_big_quiet_step ((go_at_call 62; exact Calls.jk_of (SJ.out _))))
                          refine wpQuiet_nil ?_
                          intro _ hw'
                          obtain ⟨kq, rfl⟩ := hw'
                          go_wp2_with fail
                          go_roundw
                          case rel =>
                            refine ⟨6, by omega, rfl, rfl, ?_⟩
                            rw [PE.out]
                            repeat' (first | exact Q.refl _ | refine Q.alloc ?_ _ | refine Q.jk ?_ _ | refine Q.drew ?_)
                          case measure => simp [intOf]
              · obtain rfl : j = 6 := by omega
                go_wp2_with fail
                go_roundw
                case rel =>
                  refine ⟨1, by omega, rfl, rfl, ?_⟩
                  repeat' (first | exact Q.refl _ | refine Q.alloc ?_ _ | refine Q.jk ?_ _ | refine Q.drew ?_)
                case measure => simp [intOf]
          · rw [show ((1 : Nat) : Int) = 1 from rfl]
            go_wp2_with fail
            go_loopw [9, 100] (fun c i wr => ∃ j : Nat, j ≤ 6 ∧ c = .int .i64 0 ∧ i = .int .i64 j ∧ Q (((B.alloc (.cells #[.bool (pickB VV II PP SS ⟨on1, fw1, zx1, zr1, zl1, zd1⟩ 6), .bool (pickB VV II PP SS ⟨on2, fw2, zx2, zr2, zl2, zd2⟩ j), .bool false] 57)).jk kw).alloc (.cells #[.bool on2, .bool fw2, .int .i64 zx2, .int .i64 zr2, .int .i64 zl2, .int .i64 zd2] 33)) wr) (fun _ i _ => 6 - (intOf i).toNat)
            case atStart =>
              refine ⟨0, by omega, rfl, rfl, ?_⟩
              rw [pick_zero]
              exact Q.refl _
            case round =>
              obtain ⟨j, hj, rfl, rfl, kv, rfl⟩ := hrel
              by_cases hlt : j < 6
              · have hj6 : j = 0 ∨ j = 1 ∨ j = 2 ∨ j = 3 ∨ j = 4 ∨ j = 5 := by omega
                clear hj hlt
                rcases hj6 with rfl | rfl | rfl | rfl | rfl | rfl
                · as_aux_lemma =>
                    have a0 := (cell_of_block (i := 0) D12.eq).trans (show _ = some (.int .i64 (VV 0).a) from rfl)
                    have a1 := (cell_of_block (i := 1) D12.eq).trans (show _ = some (.int .i64 (VV 0).b) from rfl)
                    have a2 := (cell_of_block (i := 2) D12.eq).trans (show _ = some (.int .i64 (VV 0).c) from rfl)
                    have a3 := (cell_of_block (i := 3) D12.eq).trans (show _ = some (.int .i64 (VV 0).d) from rfl)
                    have a4 := (cell_of_block (i := 4) D12.eq).trans (show _ = some (.int .i64 (II 0).a) from rfl)
                    have a5 := (cell_of_block (i := 5) D12.eq).trans (show _ = some (.int .i64 (II 0).b) from rfl)
                    have a6 := (cell_of_block (i := 6) D12.eq).trans (show _ = some (.int .i64 (II 0).c) from rfl)
                    have a7 := (cell_of_block (i := 7) D12.eq).trans (show _ = some (.int .i64 (II 0).d) from rfl)
                    have a8 := (cell_of_block (i := 0) D14.eq).trans (show _ = some (.bool s0) from rfl)
                    have b0 := (cell_of_block (i := 0) D16.eq).trans (show _ = some (.int .i64 (PP 0).a) from rfl)
                    have b1 := (cell_of_block (i := 1) D16.eq).trans (show _ = some (.int .i64 (PP 0).b) from rfl)
                    have b2 := (cell_of_block (i := 2) D16.eq).trans (show _ = some (.int .i64 (PP 0).c) from rfl)
                    have b3 := (cell_of_block (i := 3) D16.eq).trans (show _ = some (.int .i64 (PP 0).d) from rfl)
                    cases on2
                    · go_wp2_with fail
                      go_roundw
                      case rel =>
                        refine ⟨1, by omega, rfl, rfl, ?_⟩
                        rw [pick_off, ← pick_off VV II PP SS fw2 zx2 zr2 zl2 zd2 0]
                        repeat' (first | exact Q.refl _ | refine Q.alloc ?_ _ | refine Q.jk ?_ _ | refine Q.drew ?_)
                      case measure => simp [intOf]

                    · have hs : SS 0 = s0 := ES.out.1
                      cases s0
                      · have pe := pick_weak VV II PP SS ⟨true, fw2, zx2, zr2, zl2, zd2⟩ 0 hs
                        have PE := Lib.hid pe
                        clear pe hs
                        go_wp2_with fail
                        go_roundw
                        case rel =>
                          refine ⟨1, by omega, rfl, rfl, ?_⟩
                          rw [PE.out]
                          repeat' (first | exact Q.refl _ | refine Q.alloc ?_ _ | refine Q.jk ?_ _ | refine Q.drew ?_)
                        case measure => simp [intOf]

                      · obtain ⟨b, hb⟩ : ∃ b, seesB (VV 0) (II 0) (PP 0) ⟨true, fw2, zx2, zr2, zl2, zd2⟩ = b := ⟨_, rfl⟩
                        obtain ⟨g, hg⟩ : ∃ g, pickB VV II PP SS ⟨true, fw2, zx2, zr2, zl2, zd2⟩ 0 = g := ⟨_, rfl⟩
                        have PE := Lib.hid (pick_step VV II PP SS ⟨true, fw2, zx2, zr2, zl2, zd2⟩ 0 rfl hs hg hb)
                        have SJ := Lib.hid (fun w => SE2.out 0 w (by decide))
                        rw [hb] at SJ
                        rw [hg]
                        clear hb hg hs
                        cases g <;> cases b
                        all_goals
                          go_wp2_with fail
                          try simp only [List.append]
                          refine wp_region_jk (by kernel_rfl) (by kernel_rfl) ?_
                          repeat (go_big_quiet_step ((go_at_call 62; exact Calls.jk_of (SJ.out _))))
                          refine wpQuiet_nil ?_
                          intro _ hw'
                          obtain ⟨kq, rfl⟩ := hw'
                          go_wp2_with fail
                          go_roundw
                          case rel =>
                            refine ⟨1, by omega, rfl, rfl, ?_⟩
                            rw [PE.out]
                            repeat' (first | exact Q.refl _ | refine Q.alloc ?_ _ | refine Q.jk ?_ _ | refine Q.drew ?_)
                          case measure => simp [intOf]
                · as_aux_lemma =>
                    have a0 := (cell_of_block (i := 8) D12.eq).trans (show _ = some (.int .i64 (VV 1).a) from rfl)
                    have a1 := (cell_of_block (i := 9) D12.eq).trans (show _ = some (.int .i64 (VV 1).b) from rfl)
                    have a2 := (cell_of_block (i := 10) D12.eq).trans (show _ = some (.int .i64 (VV 1).c) from rfl)
                    have a3 := (cell_of_block (i := 11) D12.eq).trans (show _ = some (.int .i64 (VV 1).d) from rfl)
                    have a4 := (cell_of_block (i := 12) D12.eq).trans (show _ = some (.int .i64 (II 1).a) from rfl)
                    have a5 := (cell_of_block (i := 13) D12.eq).trans (show _ = some (.int .i64 (II 1).b) from rfl)
                    have a6 := (cell_of_block (i := 14) D12.eq).trans (show _ = some (.int .i64 (II 1).c) from rfl)
                    have a7 := (cell_of_block (i := 15) D12.eq).trans (show _ = some (.int .i64 (II 1).d) from rfl)
                    have a8 := (cell_of_block (i := 1) D14.eq).trans (show _ = some (.bool s1) from rfl)
                    have b0 := (cell_of_block (i := 4) D16.eq).trans (show _ = some (.int .i64 (PP 1).a) from rfl)
                    have b1 := (cell_of_block (i := 5) D16.eq).trans (show _ = some (.int .i64 (PP 1).b) from rfl)
                    have b2 := (cell_of_block (i := 6) D16.eq).trans (show _ = some (.int .i64 (PP 1).c) from rfl)
                    have b3 := (cell_of_block (i := 7) D16.eq).trans (show _ = some (.int .i64 (PP 1).d) from rfl)
                    cases on2
                    · go_wp2_with fail
                      go_roundw
                      case rel =>
                        refine ⟨2, by omega, rfl, rfl, ?_⟩
                        rw [pick_off, ← pick_off VV II PP SS fw2 zx2 zr2 zl2 zd2 1]
                        repeat' (first | exact Q.refl _ | refine Q.alloc ?_ _ | refine Q.jk ?_ _ | refine Q.drew ?_)
                      case measure => simp [intOf]

                    · have hs : SS 1 = s1 := ES.out.2.1
                      cases s1
                      · have pe := pick_weak VV II PP SS ⟨true, fw2, zx2, zr2, zl2, zd2⟩ 1 hs
                        have PE := Lib.hid pe
                        clear pe hs
                        go_wp2_with fail
                        go_roundw
                        case rel =>
                          refine ⟨2, by omega, rfl, rfl, ?_⟩
                          rw [PE.out]
                          repeat' (first | exact Q.refl _ | refine Q.alloc ?_ _ | refine Q.jk ?_ _ | refine Q.drew ?_)
                        case measure => simp [intOf]

                      · obtain ⟨b, hb⟩ : ∃ b, seesB (VV 1) (II 1) (PP 1) ⟨true, fw2, zx2, zr2, zl2, zd2⟩ = b := ⟨_, rfl⟩
                        obtain ⟨g, hg⟩ : ∃ g, pickB VV II PP SS ⟨true, fw2, zx2, zr2, zl2, zd2⟩ 1 = g := ⟨_, rfl⟩
                        have PE := Lib.hid (pick_step VV II PP SS ⟨true, fw2, zx2, zr2, zl2, zd2⟩ 1 rfl hs hg hb)
                        have SJ := Lib.hid (fun w => SE2.out 1 w (by decide))
                        rw [hb] at SJ
                        rw [hg]
                        clear hb hg hs
                        cases g <;> cases b
                        all_goals
                          go_wp2_with fail
                          try simp only [List.append]
                          refine wp_region_jk (by kernel_rfl) (by kernel_rfl) ?_
                          repeat (go_big_quiet_step ((go_at_call 62; exact Calls.jk_of (SJ.out _))))
                          refine wpQuiet_nil ?_
                          intro _ hw'
                          obtain ⟨kq, rfl⟩ := hw'
                          go_wp2_with fail
                          go_roundw
                          case rel =>
                            refine ⟨2, by omega, rfl, rfl, ?_⟩
                            rw [PE.out]
                            repeat' (first | exact Q.refl _ | refine Q.alloc ?_ _ | refine Q.jk ?_ _ | refine Q.drew ?_)
                          case measure => simp [intOf]
                · as_aux_lemma =>
                    have a0 := (cell_of_block (i := 16) D12.eq).trans (show _ = some (.int .i64 (VV 2).a) from rfl)
                    have a1 := (cell_of_block (i := 17) D12.eq).trans (show _ = some (.int .i64 (VV 2).b) from rfl)
                    have a2 := (cell_of_block (i := 18) D12.eq).trans (show _ = some (.int .i64 (VV 2).c) from rfl)
                    have a3 := (cell_of_block (i := 19) D12.eq).trans (show _ = some (.int .i64 (VV 2).d) from rfl)
                    have a4 := (cell_of_block (i := 20) D12.eq).trans (show _ = some (.int .i64 (II 2).a) from rfl)
                    have a5 := (cell_of_block (i := 21) D12.eq).trans (show _ = some (.int .i64 (II 2).b) from rfl)
                    have a6 := (cell_of_block (i := 22) D12.eq).trans (show _ = some (.int .i64 (II 2).c) from rfl)
                    have a7 := (cell_of_block (i := 23) D12.eq).trans (show _ = some (.int .i64 (II 2).d) from rfl)
                    have a8 := (cell_of_block (i := 2) D14.eq).trans (show _ = some (.bool s2) from rfl)
                    have b0 := (cell_of_block (i := 8) D16.eq).trans (show _ = some (.int .i64 (PP 2).a) from rfl)
                    have b1 := (cell_of_block (i := 9) D16.eq).trans (show _ = some (.int .i64 (PP 2).b) from rfl)
                    have b2 := (cell_of_block (i := 10) D16.eq).trans (show _ = some (.int .i64 (PP 2).c) from rfl)
                    have b3 := (cell_of_block (i := 11) D16.eq).trans (show _ = some (.int .i64 (PP 2).d) from rfl)
                    cases on2
                    · go_wp2_with fail
                      go_roundw
                      case rel =>
                        refine ⟨3, by omega, rfl, rfl, ?_⟩
                        rw [pick_off, ← pick_off VV II PP SS fw2 zx2 zr2 zl2 zd2 2]
                        repeat' (first | exact Q.refl _ | refine Q.alloc ?_ _ | refine Q.jk ?_ _ | refine Q.drew ?_)
                      case measure => simp [intOf]

                    · have hs : SS 2 = s2 := ES.out.2.2.1
                      cases s2
                      · have pe := pick_weak VV II PP SS ⟨true, fw2, zx2, zr2, zl2, zd2⟩ 2 hs
                        have PE := Lib.hid pe
                        clear pe hs
                        go_wp2_with fail
                        go_roundw
                        case rel =>
                          refine ⟨3, by omega, rfl, rfl, ?_⟩
                          rw [PE.out]
                          repeat' (first | exact Q.refl _ | refine Q.alloc ?_ _ | refine Q.jk ?_ _ | refine Q.drew ?_)
                        case measure => simp [intOf]

                      · obtain ⟨b, hb⟩ : ∃ b, seesB (VV 2) (II 2) (PP 2) ⟨true, fw2, zx2, zr2, zl2, zd2⟩ = b := ⟨_, rfl⟩
                        obtain ⟨g, hg⟩ : ∃ g, pickB VV II PP SS ⟨true, fw2, zx2, zr2, zl2, zd2⟩ 2 = g := ⟨_, rfl⟩
                        have PE := Lib.hid (pick_step VV II PP SS ⟨true, fw2, zx2, zr2, zl2, zd2⟩ 2 rfl hs hg hb)
                        have SJ := Lib.hid (fun w => SE2.out 2 w (by decide))
                        rw [hb] at SJ
                        rw [hg]
                        clear hb hg hs
                        cases g <;> cases b
                        all_goals
                          go_wp2_with fail
                          try simp only [List.append]
                          refine wp_region_jk (by kernel_rfl) (by kernel_rfl) ?_
                          repeat (go_big_quiet_step ((go_at_call 62; exact Calls.jk_of (SJ.out _))))
                          refine wpQuiet_nil ?_
                          intro _ hw'
                          obtain ⟨kq, rfl⟩ := hw'
                          go_wp2_with fail
                          go_roundw
                          case rel =>
                            refine ⟨3, by omega, rfl, rfl, ?_⟩
                            rw [PE.out]
                            repeat' (first | exact Q.refl _ | refine Q.alloc ?_ _ | refine Q.jk ?_ _ | refine Q.drew ?_)
                          case measure => simp [intOf]
                · as_aux_lemma =>
                    have a0 := (cell_of_block (i := 24) D12.eq).trans (show _ = some (.int .i64 (VV 3).a) from rfl)
                    have a1 := (cell_of_block (i := 25) D12.eq).trans (show _ = some (.int .i64 (VV 3).b) from rfl)
                    have a2 := (cell_of_block (i := 26) D12.eq).trans (show _ = some (.int .i64 (VV 3).c) from rfl)
                    have a3 := (cell_of_block (i := 27) D12.eq).trans (show _ = some (.int .i64 (VV 3).d) from rfl)
                    have a4 := (cell_of_block (i := 28) D12.eq).trans (show _ = some (.int .i64 (II 3).a) from rfl)
                    have a5 := (cell_of_block (i := 29) D12.eq).trans (show _ = some (.int .i64 (II 3).b) from rfl)
                    have a6 := (cell_of_block (i := 30) D12.eq).trans (show _ = some (.int .i64 (II 3).c) from rfl)
                    have a7 := (cell_of_block (i := 31) D12.eq).trans (show _ = some (.int .i64 (II 3).d) from rfl)
                    have a8 := (cell_of_block (i := 3) D14.eq).trans (show _ = some (.bool s3) from rfl)
                    have b0 := (cell_of_block (i := 12) D16.eq).trans (show _ = some (.int .i64 (PP 3).a) from rfl)
                    have b1 := (cell_of_block (i := 13) D16.eq).trans (show _ = some (.int .i64 (PP 3).b) from rfl)
                    have b2 := (cell_of_block (i := 14) D16.eq).trans (show _ = some (.int .i64 (PP 3).c) from rfl)
                    have b3 := (cell_of_block (i := 15) D16.eq).trans (show _ = some (.int .i64 (PP 3).d) from rfl)
                    cases on2
                    · go_wp2_with fail
                      go_roundw
                      case rel =>
                        refine ⟨4, by omega, rfl, rfl, ?_⟩
                        rw [pick_off, ← pick_off VV II PP SS fw2 zx2 zr2 zl2 zd2 3]
                        repeat' (first | exact Q.refl _ | refine Q.alloc ?_ _ | refine Q.jk ?_ _ | refine Q.drew ?_)
                      case measure => simp [intOf]

                    · have hs : SS 3 = s3 := ES.out.2.2.2.1
                      cases s3
                      · have pe := pick_weak VV II PP SS ⟨true, fw2, zx2, zr2, zl2, zd2⟩ 3 hs
                        have PE := Lib.hid pe
                        clear pe hs
                        go_wp2_with fail
                        go_roundw
                        case rel =>
                          refine ⟨4, by omega, rfl, rfl, ?_⟩
                          rw [PE.out]
                          repeat' (first | exact Q.refl _ | refine Q.alloc ?_ _ | refine Q.jk ?_ _ | refine Q.drew ?_)
                        case measure => simp [intOf]

                      · obtain ⟨b, hb⟩ : ∃ b, seesB (VV 3) (II 3) (PP 3) ⟨true, fw2, zx2, zr2, zl2, zd2⟩ = b := ⟨_, rfl⟩
                        obtain ⟨g, hg⟩ : ∃ g, pickB VV II PP SS ⟨true, fw2, zx2, zr2, zl2, zd2⟩ 3 = g := ⟨_, rfl⟩
                        have PE := Lib.hid (pick_step VV II PP SS ⟨true, fw2, zx2, zr2, zl2, zd2⟩ 3 rfl hs hg hb)
                        have SJ := Lib.hid (fun w => SE2.out 3 w (by decide))
                        rw [hb] at SJ
                        rw [hg]
                        clear hb hg hs
                        cases g <;> cases b
                        all_goals
                          go_wp2_with fail
                          try simp only [List.append]
                          refine wp_region_jk (by kernel_rfl) (by kernel_rfl) ?_
                          repeat (go_big_quiet_step ((go_at_call 62; exact Calls.jk_of (SJ.out _))))
                          refine wpQuiet_nil ?_
                          intro _ hw'
                          obtain ⟨kq, rfl⟩ := hw'
                          go_wp2_with fail
                          go_roundw
                          case rel =>
                            refine ⟨4, by omega, rfl, rfl, ?_⟩
                            rw [PE.out]
                            repeat' (first | exact Q.refl _ | refine Q.alloc ?_ _ | refine Q.jk ?_ _ | refine Q.drew ?_)
                          case measure => simp [intOf]
                · as_aux_lemma =>
                    have a0 := (cell_of_block (i := 32) D12.eq).trans (show _ = some (.int .i64 (VV 4).a) from rfl)
                    have a1 := (cell_of_block (i := 33) D12.eq).trans (show _ = some (.int .i64 (VV 4).b) from rfl)
                    have a2 := (cell_of_block (i := 34) D12.eq).trans (show _ = some (.int .i64 (VV 4).c) from rfl)
                    have a3 := (cell_of_block (i := 35) D12.eq).trans (show _ = some (.int .i64 (VV 4).d) from rfl)
                    have a4 := (cell_of_block (i := 36) D12.eq).trans (show _ = some (.int .i64 (II 4).a) from rfl)
                    have a5 := (cell_of_block (i := 37) D12.eq).trans (show _ = some (.int .i64 (II 4).b) from rfl)
                    have a6 := (cell_of_block (i := 38) D12.eq).trans (show _ = some (.int .i64 (II 4).c) from rfl)
                    have a7 := (cell_of_block (i := 39) D12.eq).trans (show _ = some (.int .i64 (II 4).d) from rfl)
                    have a8 := (cell_of_block (i := 4) D14.eq).trans (show _ = some (.bool s4) from rfl)
                    have b0 := (cell_of_block (i := 16) D16.eq).trans (show _ = some (.int .i64 (PP 4).a) from rfl)
                    have b1 := (cell_of_block (i := 17) D16.eq).trans (show _ = some (.int .i64 (PP 4).b) from rfl)
                    have b2 := (cell_of_block (i := 18) D16.eq).trans (show _ = some (.int .i64 (PP 4).c) from rfl)
                    have b3 := (cell_of_block (i := 19) D16.eq).trans (show _ = some (.int .i64 (PP 4).d) from rfl)
                    cases on2
                    · go_wp2_with fail
                      go_roundw
                      case rel =>
                        refine ⟨5, by omega, rfl, rfl, ?_⟩
                        rw [pick_off, ← pick_off VV II PP SS fw2 zx2 zr2 zl2 zd2 4]
                        repeat' (first | exact Q.refl _ | refine Q.alloc ?_ _ | refine Q.jk ?_ _ | refine Q.drew ?_)
                      case measure => simp [intOf]

                    · have hs : SS 4 = s4 := ES.out.2.2.2.2.1
                      cases s4
                      · have pe := pick_weak VV II PP SS ⟨true, fw2, zx2, zr2, zl2, zd2⟩ 4 hs
                        have PE := Lib.hid pe
                        clear pe hs
                        go_wp2_with fail
                        go_roundw
                        case rel =>
                          refine ⟨5, by omega, rfl, rfl, ?_⟩
                          rw [PE.out]
                          repeat' (first | exact Q.refl _ | refine Q.alloc ?_ _ | refine Q.jk ?_ _ | refine Q.drew ?_)
                        case measure => simp [intOf]

                      · obtain ⟨b, hb⟩ : ∃ b, seesB (VV 4) (II 4) (PP 4) ⟨true, fw2, zx2, zr2, zl2, zd2⟩ = b := ⟨_, rfl⟩
                        obtain ⟨g, hg⟩ : ∃ g, pickB VV II PP SS ⟨true, fw2, zx2, zr2, zl2, zd2⟩ 4 = g := ⟨_, rfl⟩
                        have PE := Lib.hid (pick_step VV II PP SS ⟨true, fw2, zx2, zr2, zl2, zd2⟩ 4 rfl hs hg hb)
                        have SJ := Lib.hid (fun w => SE2.out 4 w (by decide))
                        rw [hb] at SJ
                        rw [hg]
                        clear hb hg hs
                        cases g <;> cases b
                        all_goals
                          go_wp2_with fail
                          try simp only [List.append]
                          refine wp_region_jk (by kernel_rfl) (by kernel_rfl) ?_
                          repeat (go_big_quiet_step ((go_at_call 62; exact Calls.jk_of (SJ.out _))))
                          refine wpQuiet_nil ?_
                          intro _ hw'
                          obtain ⟨kq, rfl⟩ := hw'
                          go_wp2_with fail
                          go_roundw
                          case rel =>
                            refine ⟨5, by omega, rfl, rfl, ?_⟩
                            rw [PE.out]
                            repeat' (first | exact Q.refl _ | refine Q.alloc ?_ _ | refine Q.jk ?_ _ | refine Q.drew ?_)
                          case measure => simp [intOf]
                · as_aux_lemma =>
                    have a0 := (cell_of_block (i := 40) D12.eq).trans (show _ = some (.int .i64 (VV 5).a) from rfl)
                    have a1 := (cell_of_block (i := 41) D12.eq).trans (show _ = some (.int .i64 (VV 5).b) from rfl)
                    have a2 := (cell_of_block (i := 42) D12.eq).trans (show _ = some (.int .i64 (VV 5).c) from rfl)
                    have a3 := (cell_of_block (i := 43) D12.eq).trans (show _ = some (.int .i64 (VV 5).d) from rfl)
                    have a4 := (cell_of_block (i := 44) D12.eq).trans (show _ = some (.int .i64 (II 5).a) from rfl)
                    have a5 := (cell_of_block (i := 45) D12.eq).trans (show _ = some (.int .i64 (II 5).b) from rfl)
                    have a6 := (cell_of_block (i := 46) D12.eq).trans (show _ = some (.int .i64 (II 5).c) from rfl)
                    have a7 := (cell_of_block (i := 47) D12.eq).trans (show _ = some (.int .i64 (II 5).d) from rfl)
                    have a8 := (cell_of_block (i := 5) D14.eq).trans (show _ = some (.bool s5) from rfl)
                    have b0 := (cell_of_block (i := 20) D16.eq).trans (show _ = some (.int .i64 (PP 5).a) from rfl)
                    have b1 := (cell_of_block (i := 21) D16.eq).trans (show _ = some (.int .i64 (PP 5).b) from rfl)
                    have b2 := (cell_of_block (i := 22) D16.eq).trans (show _ = some (.int .i64 (PP 5).c) from rfl)
                    have b3 := (cell_of_block (i := 23) D16.eq).trans (show _ = some (.int .i64 (PP 5).d) from rfl)
                    cases on2
                    · go_wp2_with fail
                      go_roundw
                      case rel =>
                        refine ⟨6, by omega, rfl, rfl, ?_⟩
                        rw [pick_off, ← pick_off VV II PP SS fw2 zx2 zr2 zl2 zd2 5]
                        repeat' (first | exact Q.refl _ | refine Q.alloc ?_ _ | refine Q.jk ?_ _ | refine Q.drew ?_)
                      case measure => simp [intOf]

                    · have hs : SS 5 = s5 := ES.out.2.2.2.2.2
                      cases s5
                      · have pe := pick_weak VV II PP SS ⟨true, fw2, zx2, zr2, zl2, zd2⟩ 5 hs
                        have PE := Lib.hid pe
                        clear pe hs
                        go_wp2_with fail
                        go_roundw
                        case rel =>
                          refine ⟨6, by omega, rfl, rfl, ?_⟩
                          rw [PE.out]
                          repeat' (first | exact Q.refl _ | refine Q.alloc ?_ _ | refine Q.jk ?_ _ | refine Q.drew ?_)
                        case measure => simp [intOf]

                      · obtain ⟨b, hb⟩ : ∃ b, seesB (VV 5) (II 5) (PP 5) ⟨true, fw2, zx2, zr2, zl2, zd2⟩ = b := ⟨_, rfl⟩
                        obtain ⟨g, hg⟩ : ∃ g, pickB VV II PP SS ⟨true, fw2, zx2, zr2, zl2, zd2⟩ 5 = g := ⟨_, rfl⟩
                        have PE := Lib.hid (pick_step VV II PP SS ⟨true, fw2, zx2, zr2, zl2, zd2⟩ 5 rfl hs hg hb)
                        have SJ := Lib.hid (fun w => SE2.out 5 w (by decide))
                        rw [hb] at SJ
                        rw [hg]
                        clear hb hg hs
                        cases g <;> cases b
                        all_goals
                          go_wp2_with fail
                          try simp only [List.append]
                          refine wp_region_jk (by kernel_rfl) (by kernel_rfl) ?_
                          repeat (go_big_quiet_step ((go_at_call 62; exact Calls.jk_of (SJ.out _))))
                          refine wpQuiet_nil ?_
                          intro _ hw'
                          obtain ⟨kq, rfl⟩ := hw'
                          go_wp2_with fail
                          go_roundw
                          case rel =>
                            refine ⟨6, by omega, rfl, rfl, ?_⟩
                            rw [PE.out]
                            repeat' (first | exact Q.refl _ | refine Q.alloc ?_ _ | refine Q.jk ?_ _ | refine Q.drew ?_)
                          case measure => simp [intOf]
              · obtain rfl : j = 6 := by omega
                go_wp2_with fail
                go_roundw
                case rel =>
                  refine ⟨2, by omega, rfl, rfl, ?_⟩
                  repeat' (first | exact Q.refl _ | refine Q.alloc ?_ _ | refine Q.jk ?_ _ | refine Q.drew ?_)
                case measure => simp [intOf]
          · rw [show ((2 : Nat) : Int) = 2 from rfl]
            go_wp2_with fail
            go_loopw [9, 100] (fun c i wr => ∃ j : Nat, j ≤ 6 ∧ c = .int .i64 0 ∧ i = .int .i64 j ∧ Q (((B.alloc (.cells #[.bool (pickB VV II PP SS ⟨on1, fw1, zx1, zr1, zl1, zd1⟩ 6), .bool (pickB VV II PP SS ⟨on2, fw2, zx2, zr2, zl2, zd2⟩ 6), .bool (pickB VV II PP SS ⟨on3, fw3, zx3, zr3, zl3, zd3⟩ j)] 57)).jk kw).alloc (.cells #[.bool on3, .bool fw3, .int .i64 zx3, .int .i64 zr3, .int .i64 zl3, .int .i64 zd3] 33)) wr) (fun _ i _ => 6 - (intOf i).toNat)
            case atStart =>
              refine ⟨0, by omega, rfl, rfl, ?_⟩
              rw [pick_zero]
              exact Q.refl _
            case round =>
              obtain ⟨j, hj, rfl, rfl, kv, rfl⟩ := hrel
              by_cases hlt : j < 6
              · have hj6 : j = 0 ∨ j = 1 ∨ j = 2 ∨ j = 3 ∨ j = 4 ∨ j = 5 := by omega
                clear hj hlt
                rcases hj6 with rfl | rfl | rfl | rfl | rfl | rfl
                · as_aux_lemma =>
                    have a0 := (cell_of_block (i := 0) D12.eq).trans (show _ = some (.int .i64 (VV 0).a) from rfl)
                    have a1 := (cell_of_block (i := 1) D12.eq).trans (show _ = some (.int .i64 (VV 0).b) from rfl)
                    have a2 := (cell_of_block (i := 2) D12.eq).trans (show _ = some (.int .i64 (VV 0).c) from rfl)
                    have a3 := (cell_of_block (i := 3) D12.eq).trans (show _ = some (.int .i64 (VV 0).d) from rfl)
                    have a4 := (cell_of_block (i := 4) D12.eq).trans (show _ = some (.int .i64 (II 0).a) from rfl)
                    have a5 := (cell_of_block (i := 5) D12.eq).trans (show _ = some (.int .i64 (II 0).b) from rfl)
                    have a6 := (cell_of_block (i := 6) D12.eq).trans (show _ = some (.int .i64 (II 0).c) from rfl)
                    have a7 := (cell_of_block (i := 7) D12.eq).trans (show _ = some (.int .i64 (II 0).d) from rfl)
                    have a8 := (cell_of_block (i := 0) D14.eq).trans (show _ = some (.bool s0) from rfl)
                    have b0 := (cell_of_block (i := 0) D16.eq).trans (show _ = some (.int .i64 (PP 0).a) from rfl)
                    have b1 := (cell_of_block (i := 1) D16.eq).trans (show _ = some (.int .i64 (PP 0).b) from rfl)
                    have b2 := (cell_of_block (i := 2) D16.eq).trans (show _ = some (.int .i64 (PP 0).c) from rfl)
                    have b3 := (cell_of_block (i := 3) D16.eq).trans (show _ = some (.int .i64 (PP 0).d) from rfl)
                    cases on3
                    · go_wp2_with fail
                      go_roundw
                      case rel =>
                        refine ⟨1, by omega, rfl, rfl, ?_⟩
                        rw [pick_off, ← pick_off VV II PP SS fw3 zx3 zr3 zl3 zd3 0]
                        repeat' (first | exact Q.refl _ | refine Q.alloc ?_ _ | refine Q.jk ?_ _ | refine Q.drew ?_)
                      case measure => simp [intOf]

                    · have hs : SS 0 = s0 := ES.out.1
                      cases s0
                      · have pe := pick_weak VV II PP SS ⟨true, fw3, zx3, zr3, zl3, zd3⟩ 0 hs
                        have PE := Lib.hid pe
                        clear pe hs
                        go_wp2_with fail
                        go_roundw
                        case rel =>
                          refine ⟨1, by omega, rfl, rfl, ?_⟩
                          rw [PE.out]
                          repeat' (first | exact Q.refl _ | refine Q.alloc ?_ _ | refine Q.jk ?_ _ | refine Q.drew ?_)
                        case measure => simp [intOf]

                      · obtain ⟨b, hb⟩ : ∃ b, seesB (VV 0) (II 0) (PP 0) ⟨true, fw3, zx3, zr3, zl3, zd3⟩ = b := ⟨_, rfl⟩
                        obtain ⟨g, hg⟩ : ∃ g, pickB VV II PP SS ⟨true, fw3, zx3, zr3, zl3, zd3⟩ 0 = g := ⟨_, rfl⟩
                        have PE := Lib.hid (pick_step VV II PP SS ⟨true, fw3, zx3, zr3, zl3, zd3⟩ 0 rfl hs hg hb)
                        have SJ := Lib.hid (fun w => SE3.out 0 w (by decide))
                        rw [hb] at SJ
                        rw [hg]
                        clear hb hg hs
                        cases g <;> cases b
                        all_goals
                          go_wp2_with fail
                          try simp only [List.append]
                          refine wp_region_jk (by kernel_rfl) (by kernel_rfl) ?_
                          repeat (go_big_quiet_step ((go_at_call 62; exact Calls.jk_of (SJ.out _))))
                          refine wpQuiet_nil ?_
                          intro _ hw'
                          obtain ⟨kq, rfl⟩ := hw'
                          go_wp2_with fail
                          go_roundw
                          case rel =>
                            refine ⟨1, by omega, rfl, rfl, ?_⟩
                            rw [PE.out]
                            repeat' (first | exact Q.refl _ | refine Q.alloc ?_ _ | refine Q.jk ?_ _ | refine Q.drew ?_)
                          case measure => simp [intOf]
                · as_aux_lemma =>
                    have a0 := (cell_of_block (i := 8) D12.eq).trans (show _ = some (.int .i64 (VV 1).a) from rfl)
                    have a1 := (cell_of_block (i := 9) D12.eq).trans (show _ = some (.int .i64 (VV 1).b) from rfl)
                    have a2 := (cell_of_block (i := 10) D12.eq).trans (show _ = some (.int .i64 (VV 1).c) from rfl)
                    have a3 := (cell_of_block (i := 11) D12.eq).trans (show _ = some (.int .i64 (VV 1).d) from rfl)
                    have a4 := (cell_of_block (i := 12) D12.eq).trans (show _ = some (.int .i64 (II 1).a) from rfl)
                    have a5 := (cell_of_block (i := 13) D12.eq).trans (show _ = some (.int .i64 (II 1).b) from rfl)
                    have a6 := (cell_of_block (i := 14) D12.eq).trans (show _ = some (.int .i64 (II 1).c) from rfl)
                    have a7 := (cell_of_block (i := 15) D12.eq).trans (show _ = some (.int .i64 (II 1).d) from rfl)
                    have a8 := (cell_of_block (i := 1) D14.eq).trans (show _ = some (.bool s1) from rfl)
                    have b0 := (cell_of_block (i := 4) D16.eq).trans (show _ = some (.int .i64 (PP 1).a) from rfl)
                    have b1 := (cell_of_block (i := 5) D16.eq).trans (show _ = some (.int .i64 (PP 1).b) from rfl)
                    have b2 := (cell_of_block (i := 6) D16.eq).trans (show _ = some (.int .i64 (PP 1).c) from rfl)
                    have b3 := (cell_of_block (i := 7) D16.eq).trans (show _ = some (.int .i64 (PP 1).d) from rfl)
                    cases on3
                    · go_wp2_with fail
                      go_roundw
                      case rel =>
                        refine ⟨2, by omega, rfl, rfl, ?_⟩
                        rw [pick_off, ← pick_off VV II PP SS fw3 zx3 zr3 zl3 zd3 1]
                        repeat' (first | exact Q.refl _ | refine Q.alloc ?_ _ | refine Q.jk ?_ _ | refine Q.drew ?_)
                      case measure => simp [intOf]

                    · have hs : SS 1 = s1 := ES.out.2.1
                      cases s1
                      · have pe := pick_weak VV II PP SS ⟨true, fw3, zx3, zr3, zl3, zd3⟩ 1 hs
                        have PE := Lib.hid pe
                        clear pe hs
                        go_wp2_with fail
                        go_roundw
                        case rel =>
                          refine ⟨2, by omega, rfl, rfl, ?_⟩
                          rw [PE.out]
                          repeat' (first | exact Q.refl _ | refine Q.alloc ?_ _ | refine Q.jk ?_ _ | refine Q.drew ?_)
                        case measure => simp [intOf]

                      · obtain ⟨b, hb⟩ : ∃ b, seesB (VV 1) (II 1) (PP 1) ⟨true, fw3, zx3, zr3, zl3, zd3⟩ = b := ⟨_, rfl⟩
                        obtain ⟨g, hg⟩ : ∃ g, pickB VV II PP SS ⟨true, fw3, zx3, zr3, zl3, zd3⟩ 1 = g := ⟨_, rfl⟩
                        have PE := Lib.hid (pick_step VV II PP SS ⟨true, fw3, zx3, zr3, zl3, zd3⟩ 1 rfl hs hg hb)
                        have SJ := Lib.hid (fun w => SE3.out 1 w (by decide))
                        rw [hb] at SJ
                        rw [hg]
                        clear hb hg hs
                        cases g <;> cases b
                        all_goals
                          go_wp2_with fail
                          try simp only [List.append]
                          refine wp_region_jk (by kernel_rfl) (by kernel_rfl) ?_
                          repeat (go_big_quiet_step ((go_at_call 62; exact Calls.jk_of (SJ.out _))))
                          refine wpQuiet_nil ?_
                          intro _ hw'
                          obtain ⟨kq, rfl⟩ := hw'
                          go_wp2_with fail
                          go_roundw
                          case rel =>
                            refine ⟨2, by omega, rfl, rfl, ?_⟩
                            rw [PE.out]
                            repeat' (first | exact Q.refl _ | refine Q.alloc ?_ _ | refine Q.jk ?_ _ | refine Q.drew ?_)
                          case measure => simp [intOf]
                · as_aux_lemma =>
                    have a0 := (cell_of_block (i := 16) D12.eq).trans (show _ = some (.int .i64 (VV 2).a) from rfl)
                    have a1 := (cell_of_block (i := 17) D12.eq).trans (show _ = some (.int .i64 (VV 2).b) from rfl)
                    have a2 := (cell_of_block (i := 18) D12.eq).trans (show _ = some (.int .i64 (VV 2).c) from rfl)
                    have a3 := (cell_of_block (i := 19) D12.eq).trans (show _ = some (.int .i64 (VV 2).d) from rfl)
                    have a4 := (cell_of_block (i := 20) D12.eq).trans (show _ = some (.int .i64 (II 2).a) from rfl)
                    have a5 := (cell_of_block (i := 21) D12.eq).trans (show _ = some (.int .i64 (II 2).b) from rfl)
                    have a6 := (cell_of_block (i := 22) D12.eq).trans (show _ = some (.int .i64 (II 2).c) from rfl)
                    have a7 := (cell_of_block (i := 23) D12.eq).trans (show _ = some (.int .i64 (II 2).d) from rfl)
                    have a8 := (cell_of_block (i := 2) D14.eq).trans (show _ = some (.bool s2) from rfl)
                    have b0 := (cell_of_block (i := 8) D16.eq).trans (show _ = some (.int .i64 (PP 2).a) from rfl)
                    have b1 := (cell_of_block (i := 9) D16.eq).trans (show _ = some (.int .i64 (PP 2).b) from rfl)
                    have b2 := (cell_of_block (i := 10) D16.eq).trans (show _ = some (.int .i64 (PP 2).c) from rfl)
                    have b3 := (cell_of_block (i := 11) D16.eq).trans (show _ = some (.int .i64 (PP 2).d) from rfl)
                    cases on3
                    · go_wp2_with fail
                      go_roundw
                      case rel =>
                        refine ⟨3, by omega, rfl, rfl, ?_⟩
                        rw [pick_off, ← pick_off VV II PP SS fw3 zx3 zr3 zl3 zd3 2]
                        repeat' (first | exact Q.refl _ | refine Q.alloc ?_ _ | refine Q.jk ?_ _ | refine Q.drew ?_)
                      case measure => simp [intOf]

                    · have hs : SS 2 = s2 := ES.out.2.2.1
                      cases s2
                      · have pe := pick_weak VV II PP SS ⟨true, fw3, zx3, zr3, zl3, zd3⟩ 2 hs
                        have PE := Lib.hid pe
                        clear pe hs
                        go_wp2_with fail
                        go_roundw
                        case rel =>
                          refine ⟨3, by omega, rfl, rfl, ?_⟩
                          rw [PE.out]
                          repeat' (first | exact Q.refl _ | refine Q.alloc ?_ _ | refine Q.jk ?_ _ | refine Q.drew ?_)
                        case measure => simp [intOf]

                      · obtain ⟨b, hb⟩ : ∃ b, seesB (VV 2) (II 2) (PP 2) ⟨true, fw3, zx3, zr3, zl3, zd3⟩ = b := ⟨_, rfl⟩
                        obtain ⟨g, hg⟩ : ∃ g, pickB VV II PP SS ⟨true, fw3, zx3, zr3, zl3, zd3⟩ 2 = g := ⟨_, rfl⟩
                        have PE := Lib.hid (pick_step VV II PP SS ⟨true, fw3, zx3, zr3, zl3, zd3⟩ 2 rfl hs hg hb)
                        have SJ := Lib.hid (fun w => SE3.out 2 w (by decide))
                        rw [hb] at SJ
                        rw [hg]
                        clear hb hg hs
                        cases g <;> cases b
                        all_goals
                          go_wp2_with fail
                          try simp only [List.append]
                          refine wp_region_jk (by kernel_rfl) (by kernel_rfl) ?_
                          repeat (go_big_quiet_step ((go_at_call 62; exact Calls.jk_of (SJ.out _))))
                          refine wpQuiet_nil ?_
                          intro _ hw'
                          obtain ⟨kq, rfl⟩ := hw'
                          go_wp2_with fail
                          go_roundw
                          case rel =>
                            refine ⟨3, by omega, rfl, rfl, ?_⟩
                            rw [PE.out]
                            repeat' (first | exact Q.refl _ | refine Q.alloc ?_ _ | refine Q.jk ?_ _ | refine Q.drew ?_)
                          case measure => simp [intOf]
                · as_aux_lemma =>
                    have a0 := (cell_of_block (i := 24) D12.eq).trans (show _ = some (.int .i64 (VV 3).a) from rfl)
                    have a1 := (cell_of_block (i := 25) D12.eq).trans (show _ = some (.int .i64 (VV 3).b) from rfl)
                    have a2 := (cell_of_block (i := 26) D12.eq).trans (show _ = some (.int .i64 (VV 3).c) from rfl)
                    have a3 := (cell_of_block (i := 27) D12.eq).trans (show _ = some (.int .i64 (VV 3).d) from rfl)
                    have a4 := (cell_of_block (i := 28) D12.eq).trans (show _ = some (.int .i64 (II 3).a) from rfl)
                    have a5 := (cell_of_block (i := 29) D12.eq).trans (show _ = some (.int .i64 (II 3).b) from rfl)
                    have a6 := (cell_of_block (i := 30) D12.eq).trans (show _ = some (.int .i64 (II 3).c) from rfl)
                    have a7 := (cell_of_block (i := 31) D12.eq).trans (show _ = some (.int .i64 (II 3).d) from rfl)
                    have a8 := (cell_of_block (i := 3) D14.eq).trans (show _ = some (.bool s3) from rfl)
                    have b0 := (cell_of_block (i := 12) D16.eq).trans (show _ = some (.int .i64 (PP 3).a) from rfl)
                    have b1 := (cell_of_block (i := 13) D16.eq).trans (show _ = some (.int .i64 (PP 3).b) from rfl)
                    have b2 := (cell_of_block (i := 14) D16.eq).trans (show _ = some (.int .i64 (PP 3).c) from rfl)
                    have b3 := (cell_of_block (i := 15) D16.eq).trans (show _ = some (.int .i64 (PP 3).d) from rfl)
                    cases on3
                    · go_wp2_with fail
                      go_roundw
                      case rel =>
                        refine ⟨4, by omega, rfl, rfl, ?_⟩
                        rw [pick_off, ← pick_off VV II PP SS fw3 zx3 zr3 zl3 zd3 3]
                        repeat' (first | exact Q.refl _ | refine Q.alloc ?_ _ | refine Q.jk ?_ _ | refine Q.drew ?_)
                      case measure => simp [intOf]

                    · have hs : SS 3 = s3 := ES.out.2.2.2.1
                      cases s3
                      · have pe := pick_weak VV II PP SS ⟨true, fw3, zx3, zr3, zl3, zd3⟩ 3 hs
                        have PE := Lib.hid pe
                        clear pe hs
                        go_wp2_with fail
                        go_roundw
                        case rel =>
                          refine ⟨4, by omega, rfl, rfl, ?_⟩
                          rw [PE.out]
                          repeat' (first | exact Q.refl _ | refine Q.alloc ?_ _ | refine Q.jk ?_ _ | refine Q.drew ?_)
                        case measure => simp [intOf]

                      · obtain ⟨b, hb⟩ : ∃ b, seesB (VV 3) (II 3) (PP 3) ⟨true, fw3, zx3, zr3, zl3, zd3⟩ = b := ⟨_, rfl⟩
                        obtain ⟨g, hg⟩ : ∃ g, pickB VV II PP SS ⟨true, fw3, zx3, zr3, zl3, zd3⟩ 3 = g := ⟨_, rfl⟩
                        have PE := Lib.hid (pick_step VV II PP SS ⟨true, fw3, zx3, zr3, zl3, zd3⟩ 3 rfl hs hg hb)
                        have SJ := Lib.hid (fun w => SE3.out 3 w (by decide))
                        rw [hb] at SJ
                        rw [hg]
                        clear hb hg hs
                        cases g <;> cases b
                        all_goals
                          go_wp2_with fail
                          try simp only [List.append]
                          refine wp_region_jk (by kernel_rfl) (by kernel_rfl) ?_
                          repeat (go_big_quiet_step ((go_at_call 62; exact Calls.jk_of (SJ.out _))))
                          refine wpQuiet_nil ?_
                          intro _ hw'
                          obtain ⟨kq, rfl⟩ := hw'
                          go_wp2_with fail
                          go_roundw
                          case rel =>
                            refine ⟨4, by omega, rfl, rfl, ?_⟩
                            rw [PE.out]
                            repeat' (first | exact Q.refl _ | refine Q.alloc ?_ _ | refine Q.jk ?_ _ | refine Q.drew ?_)
                          case measure => simp [intOf]
                · as_aux_lemma =>
                    have a0 := (cell_of_block (i := 32) D12.eq).trans (show _ = some (.int .i64 (VV 4).a) from rfl)
                    have a1 := (cell_of_block (i := 33) D12.eq).trans (show _ = some (.int .i64 (VV 4).b) from rfl)
                    have a2 := (cell_of_block (i := 34) D12.eq).trans (show _ = some (.int .i64 (VV 4).c) from rfl)
                    have a3 := (cell_of_block (i := 35) D12.eq).trans (show _ = some (.int .i64 (VV 4).d) from rfl)
                    have a4 := (cell_of_block (i := 36) D12.eq).trans (show _ = some (.int .i64 (II 4).a) from rfl)
                    have a5 := (cell_of_block (i := 37) D12.eq).trans (show _ = some (.int .i64 (II 4).b) from rfl)
                    have a6 := (cell_of_block (i := 38) D12.eq).trans (show _ = some (.int .i64 (II 4).c) from rfl)
                    have a7 := (cell_of_block (i := 39) D12.eq).trans (show _ = some (.int .i64 (II 4).d) from rfl)
                    have a8 := (cell_of_block (i := 4) D14.eq).trans (show _ = some (.bool s4) from rfl)
                    have b0 := (cell_of_block (i := 16) D16.eq).trans (show _ = some (.int .i64 (PP 4).a) from rfl)
                    have b1 := (cell_of_block (i := 17) D16.eq).trans (show _ = some (.int .i64 (PP 4).b) from rfl)
                    have b2 := (cell_of_block (i := 18) D16.eq).trans (show _ = some (.int .i64 (PP 4).c) from rfl)
                    have b3 := (cell_of_block (i := 19) D16.eq).trans (show _ = some (.int .i64 (PP 4).d) from rfl)
                    cases on3
                    · go_wp2_with fail
                      go_roundw
                      case rel =>
                        refine ⟨5, by omega, rfl, rfl, ?_⟩
                        rw [pick_off, ← pick_off VV II PP SS fw3 zx3 zr3 zl3 zd3 4]
                        repeat' (first | exact Q.refl _ | refine Q.alloc ?_ _ | refine Q.jk ?_ _ | refine Q.drew ?_)
                      case measure => simp [intOf]

                    · have hs : SS 4 = s4 := ES.out.2.2.2.2.1
                      cases s4
                      · have pe := pick_weak VV II PP SS ⟨true, fw3, zx3, zr3, zl3, zd3⟩ 4 hs
                        have PE := Lib.hid pe
                        clear pe hs
                        go_wp2_with fail
                        go_roundw
                        case rel =>
                          refine ⟨5, by omega, rfl, rfl, ?_⟩
                          rw [PE.out]
                          repeat' (first | exact Q.refl _ | refine Q.alloc ?_ _ | refine Q.jk ?_ _ | refine Q.drew ?_)
                        case measure => simp [intOf]

                      · obtain ⟨b, hb⟩ : ∃ b, seesB (VV 4) (II 4) (PP 4) ⟨true, fw3, zx3, zr3, zl3, zd3⟩ = b := ⟨_, rfl⟩
                        obtain ⟨g, hg⟩ : ∃ g, pickB VV II PP SS ⟨true, fw3, zx3, zr3, zl3, zd3⟩ 4 = g := ⟨_, rfl⟩
                        have PE := Lib.hid (pick_step VV II PP SS ⟨true, fw3, zx3, zr3, zl3, zd3⟩ 4 rfl hs hg hb)
                        have SJ := Lib.hid (fun w => SE3.out 4 w (by decide))
                        rw [hb] at SJ
                        rw [hg]
                        clear hb hg hs
                        cases g <;> cases b
                        all_goals
                          go_wp2_with fail
                          try simp only [List.append]
                          refine wp_region_jk (by kernel_rfl) (by kernel_rfl) ?_
                          repeat (go_big_quiet_step ((go_at_call 62; exact Calls.jk_of (SJ.out _))))
                          refine wpQuiet_nil ?_
                          intro _ hw'
                          obtain ⟨kq, rfl⟩ := hw'
                          go_wp2_with fail
                          go_roundw
                          case rel =>
                            refine ⟨5, by omega, rfl, rfl, ?_⟩
                            rw [PE.out]
                            repeat' (first | exact Q.refl _ | refine Q.alloc ?_ _ | refine Q.jk ?_ _ | refine Q.drew ?_)
                          case measure => simp [intOf]
                · as_aux_lemma =>
                    have a0 := (cell_of_block (i := 40) D12.eq).trans (show _ = some (.int .i64 (VV 5).a) from rfl)
                    have a1 := (cell_of_block (i := 41) D12.eq).trans (show _ = some (.int .i64 (VV 5).b) from rfl)
                    have a2 := (cell_of_block (i := 42) D12.eq).trans (show _ = some (.int .i64 (VV 5).c) from rfl)
                    have a3 := (cell_of_block (i := 43) D12.eq).trans (show _ = some (.int .i64 (VV 5).d) from rfl)
                    have a4 := (cell_of_block (i := 44) D12.eq).trans (show _ = some (.int .i64 (II 5).a) from rfl)
                    have a5 := (cell_of_block (i := 45) D12.eq).trans (show _ = some (.int .i64 (II 5).b) from rfl)
                    have a6 := (cell_of_block (i := 46) D12.eq).trans (show _ = some (.int .i64 (II 5).c) from rfl)
                    have a7 := (cell_of_block (i := 47) D12.eq).trans (show _ = some (.int .i64 (II 5).d) from rfl)
                    have a8 := (cell_of_block (i := 5) D14.eq).trans (show _ = some (.bool s5) from rfl)
                    have b0 := (cell_of_block (i := 20) D16.eq).trans (show _ = some (.int .i64 (PP 5).a) from rfl)
                    have b1 := (cell_of_block (i := 21) D16.eq).trans (show _ = some (.int .i64 (PP 5).b) from rfl)
                    have b2 := (cell_of_block (i := 22) D16.eq).trans (show _ = some (.int .i64 (PP 5).c) from rfl)
                    have b3 := (cell_of_block (i := 23) D16.eq).trans (show _ = some (.int .i64 (PP 5).d) from rfl)
                    cases on3
                    · go_wp2_with fail
                      go_roundw
                      case rel =>
                        refine ⟨6, by omega, rfl, rfl, ?_⟩
                        rw [pick_off, ← pick_off VV II PP SS fw3 zx3 zr3 zl3 zd3 5]
                        repeat' (first | exact Q.refl _ | refine Q.alloc ?_ _ | refine Q.jk ?_ _ | refine Q.drew ?_)
                      case measure => simp [intOf]

                    · have hs : SS 5 = s5 := ES.out.2.2.2.2.2
                      cases s5
                      · have pe := pick_weak VV II PP SS ⟨true, fw3, zx3, zr3, zl3, zd3⟩ 5 hs
                        have PE := Lib.hid pe
                        clear pe hs
                        go_wp2_with fail
                        go_roundw
                        case rel =>
                          refine ⟨6, by omega, rfl, rfl, ?_⟩
                          rw [PE.out]
                          repeat' (first | exact Q.refl _ | refine Q.alloc ?_ _ | refine Q.jk ?_ _ | refine Q.drew ?_)
                        case measure => simp [intOf]

                      · obtain ⟨b, hb⟩ : ∃ b, seesB (VV 5) (II 5) (PP 5) ⟨true, fw3, zx3, zr3, zl3, zd3⟩ = b := ⟨_, rfl⟩
                        obtain ⟨g, hg⟩ : ∃ g, pickB VV II PP SS ⟨true, fw3, zx3, zr3, zl3, zd3⟩ 5 = g := ⟨_, rfl⟩
                        have PE := Lib.hid (pick_step VV II PP SS ⟨true, fw3, zx3, zr3, zl3, zd3⟩ 5 rfl hs hg hb)
                        have SJ := Lib.hid (fun w => SE3.out 5 w (by decide))
                        rw [hb] at SJ
                        rw [hg]
                        clear hb hg hs
                        cases g <;> cases b
                        all_goals
                          go_wp2_with fail
                          try simp only [List.append]
                          refine wp_region_jk (by kernel_rfl) (by kernel_rfl) ?_
                          repeat (go_big_quiet_step ((go_at_call 62; exact Calls.jk_of (SJ.out _))))
                          refine wpQuiet_nil ?_
                          intro _ hw'
                          obtain ⟨kq, rfl⟩ := hw'
                          go_wp2_with fail
                          go_roundw
                          case rel =>
                            refine ⟨6, by omega, rfl, rfl, ?_⟩
                            rw [PE.out]
                            repeat' (first | exact Q.refl _ | refine Q.alloc ?_ _ | refine Q.jk ?_ _ | refine Q.drew ?_)
                          case measure => simp [intOf]
              · obtain rfl : j = 6 := by omega
                go_wp2_with fail
                go_roundw
                case rel =>
                  refine ⟨3, by omega, rfl, rfl, ?_⟩
                  repeat' (first | exact Q.refl _ | refine Q.alloc ?_ _ | refine Q.jk ?_ _ | refine Q.drew ?_)
                case measure => simp [intOf]
        · obtain rfl : k = 3 := by omega
          rw [show ((3 : Nat) : Int) = 3 from rfl, show pk3 VV II PP SS ⟨on1, fw1, zx1, zr1, zl1, zd1⟩ ⟨on2, fw2, zx2, zr2, zl2, zd2⟩ ⟨on3, fw3, zx3, zr3, zl3, zd3⟩ 3 = #[.bool (pickB VV II PP SS ⟨on1, fw1, zx1, zr1, zl1, zd1⟩ 6), .bool (pickB VV II PP SS ⟨on2, fw2, zx2, zr2, zl2, zd2⟩ 6), .bool (pickB VV II PP SS ⟨on3, fw3, zx3, zr3, zl3, zd3⟩ 6)] from rfl]
          have h := HB.out
          clear HB HQ O12 O14 O16 O8 D12 D14 D16 D8 D7
          subst h
          go_wp2_with fail
          refine bodyPost_ret (v := .tuple #[.agg #[.bool (pickB VV II PP SS ⟨on1, fw1, zx1, zr1, zl1, zd1⟩ 6), .bool (pickB VV II PP SS ⟨on2, fw2, zx2, zr2, zl2, zd2⟩ 6), .bool (pickB VV II PP SS ⟨on3, fw3, zx3, zr3, zl3, zd3⟩ 6)], .int .i64 0]) (by simp [results, Try.results27, go_sem]) rfl ⟨rfl, ?_⟩
          repeat' (first | exact Q.refl _ | refine Q.alloc ?_ _ | refine Q.jk ?_ _ | refine Q.drew ?_)
set_option maxRecDepth 100000 in
set_option maxHeartbeats 4000000 in
theorem pickup_off (u v t x y z p q s : Cy) (fw1 : Bool) (zx1 zr1 zl1 zd1 : Int) (fw2 : Bool) (zx2 zr2 zl2 zd2 : Int) (fw3 : Bool) (zx3 zr3 zl3 zd3 : Int) (m r i : Int) (w : World) :
    Calls Try.prog 27 #[.agg #[.int .i64 u.a, .int .i64 u.b, .int .i64 u.c, .int .i64 u.d, .int .i64 v.a, .int .i64 v.b, .int .i64 v.c, .int .i64 v.d, .int .i64 t.a, .int .i64 t.b, .int .i64 t.c, .int .i64 t.d], .agg #[.int .i64 x.a, .int .i64 x.b, .int .i64 x.c, .int .i64 x.d, .int .i64 y.a, .int .i64 y.b, .int .i64 y.c, .int .i64 y.d, .int .i64 z.a, .int .i64 z.b, .int .i64 z.c, .int .i64 z.d], .agg #[.int .i64 p.a, .int .i64 p.b, .int .i64 p.c, .int .i64 p.d, .int .i64 q.a, .int .i64 q.b, .int .i64 q.c, .int .i64 q.d, .int .i64 s.a, .int .i64 s.b, .int .i64 s.c, .int .i64 s.d], .agg (rl53 ⟨false, fw1, zx1, zr1, zl1, zd1⟩ ⟨false, fw2, zx2, zr2, zl2, zd2⟩ ⟨false, fw3, zx3, zr3, zl3, zd3⟩ m r i)] w fun e w' => e = .returned (.tuple #[.agg #[.bool false, .bool false, .bool false], .int .i64 0]) ∧ Q w w' := by
  go_enter Try.func27, Try.ntmps27
  go_wp2_with fail
  refine bodyPost_ret (v := .tuple #[.agg #[.bool false, .bool false, .bool false], .int .i64 0]) (by simp [results, Try.results27, go_sem]) rfl ⟨rfl, ?_⟩
  repeat' (first | exact Q.refl _ | refine Q.alloc ?_ _ | refine Q.jk ?_ _ | refine Q.drew ?_)
theorem loopI_in {x y z : Cy} {r i : Int} (hx : x.In 65536) (hy : y.In 65536) (hz : z.In 65536) (r0 : -200 ≤ r) (r1 : r ≤ 200) (i0 : -200 ≤ i) (i1 : i ≤ 200) (n : Nat) : (loopI x y z r i n).In 134217728 := by
  have h1 : ((sixC x y z n).sc 100).In 13107200 := sc_in (k := 100) (m := 100) (six_in hx hy hz n) (by decide) (by decide)
  have h2 := ext_in hx hy hz r0 r1 i0 i1
  unfold loopI
  split
  · exact (Cy.add_in h1 h2).mono (by decide)
  · exact h1.mono (by decide)
theorem pickup_c (u v t x y z p q s : Cy) (a b c : Zn) (m r i : Int) (w : World) (hu : u.In 65536) (hv : v.In 65536) (ht : t.In 65536) (hx : x.In 65536) (hy : y.In 65536) (hz : z.In 65536) (hp : p.In 65536) (hq : q.In 65536) (hs : s.In 65536)
    (ha : Zn.OK a) (hb : Zn.OK b) (hc : Zn.OK c) (m0 : 1 ≤ m) (m1 : m ≤ 16383) (r0 : -200 ≤ r) (r1 : r ≤ 200) (i0 : -200 ≤ i) (i1 : i ≤ 200) :
    Calls Try.prog 27 #[.agg #[.int .i64 u.a, .int .i64 u.b, .int .i64 u.c, .int .i64 u.d, .int .i64 v.a, .int .i64 v.b, .int .i64 v.c, .int .i64 v.d, .int .i64 t.a, .int .i64 t.b, .int .i64 t.c, .int .i64 t.d], .agg #[.int .i64 x.a, .int .i64 x.b, .int .i64 x.c, .int .i64 x.d, .int .i64 y.a, .int .i64 y.b, .int .i64 y.c, .int .i64 y.d, .int .i64 z.a, .int .i64 z.b, .int .i64 z.c, .int .i64 z.d], .agg #[.int .i64 p.a, .int .i64 p.b, .int .i64 p.c, .int .i64 p.d, .int .i64 q.a, .int .i64 q.b, .int .i64 q.c, .int .i64 q.d, .int .i64 s.a, .int .i64 s.b, .int .i64 s.c, .int .i64 s.d], .agg (rl53 a b c m r i)] w fun e w' => e = .returned (.tuple #[.agg #[.bool (pickB (loopV u v t) (loopI x y z r i) (sixC p q s) (fun n => aboveB (sixC x y z n) m) a 6), .bool (pickB (loopV u v t) (loopI x y z r i) (sixC p q s) (fun n => aboveB (sixC x y z n) m) b 6), .bool (pickB (loopV u v t) (loopI x y z r i) (sixC p q s) (fun n => aboveB (sixC x y z n) m) c 6)], .int .i64 0]) ∧ Q w w' := by
  have hV : ∀ n, (loopV u v t n).In 33554432 := fun n => (sc_in (k := 100) (m := 100) (six_in hu hv ht n) (by decide) (by decide)).mono (by decide)
  have hI : ∀ n, (loopI x y z r i n).In 134217728 := loopI_in hx hy hz r0 r1 i0 i1
  have hP : ∀ n, (sixC p q s n).In 1048576 := fun n => (six_in hp hq hs n).mono (by decide)
  by_cases hon : a.on = false ∧ b.on = false ∧ c.on = false
  · obtain ⟨on1, fw1, zx1, zr1, zl1, zd1⟩ := a
    obtain ⟨on2, fw2, zx2, zr2, zl2, zd2⟩ := b
    obtain ⟨on3, fw3, zx3, zr3, zl3, zd3⟩ := c
    obtain ⟨h1, h2, h3⟩ := hon
    dsimp only at h1 h2 h3
    subst h1 h2 h3
    rw [pick_off, pick_off, pick_off]
    exact pickup_off u v t x y z p q s _ _ _ _ _ _ _ _ _ _ _ _ _ _ _ m r i w
  · have HO : a.on = true ∨ (a.on = false ∧ b.on = true) ∨ (a.on = false ∧ b.on = false ∧ c.on = true) := by
      cases h1 : a.on <;> cases h2 : b.on <;> cases h3 : c.on <;> simp_all
    exact pickup_core u v t x y z p q s a.on a.fwd a.x a.r a.l a.d b.on b.fwd b.x b.r b.l b.d c.on c.fwd c.x c.r c.l c.d m r i (loopV u v t) (loopI x y z r i) (sixC p q s) (fun n => aboveB (sixC x y z n) m) _ _ _ _ _ _ w
      (Lib.hid fun w => loops_c u v t x y z r i w hu hv ht hx hy hz r0 r1 i0 i1) (Lib.hid fun w => strong_c x y z m w hx hy hz m0 m1) (Lib.hid fun b w hb => ksix_c b p q s w hb hp hq hs) ((ph3_iff _ _ _).2 ⟨hp, hq, hs⟩)
      (Lib.hid fun w => dreaches_c a w ha) (Lib.hid fun w => dreaches_c b w hb) (Lib.hid fun w => dreaches_c c w hc)
      (Lib.hid fun j w _ => sees_c a _ _ _ w (hV j) (hI j) (hP j) ha) (Lib.hid fun j w _ => sees_c b _ _ _ w (hV j) (hI j) (hP j) hb) (Lib.hid fun j w _ => sees_c c _ _ _ w (hV j) (hI j) (hP j) hc)
      (Lib.hid ⟨rfl, rfl, rfl, rfl, rfl, rfl⟩) (Lib.hid HO)
end Go.Proofs.Ytomodppdolfinaa


/- What Targets of package breakerfailure and Trips of package busbar return where no breaker has failed. -/
import Derived.Test.YtcjflafjmdfanaaGreatDoorBv24
import Derived.Laws.CopyRow
set_option linter.unusedSimpArgs false
set_option linter.unusedVariables false
namespace Go.Sub
open Go
theorem any_take_succ {α : Type} (l : List α) (f : α → Bool) (k : Nat) (a : α) (h : l[k]? = some a) : (l.take (k + 1)).any f = ((l.take k).any f || f a) := by
 rw [List.take_add_one, h, List.any_append]
 simp
end Go.Sub
namespace Go.Proofs.YtcjflafjmdfanaaGreatDoor
open Go.RowKit Go.Sub
attribute [local go_sem ↓] Go.wp_at_zero Go.wp_at_succ
theorem make_boolB (w : World) (n : Nat) (hn : n < 1000) : (Instr.makeSlice 28 (.int .i64 n) (.int .i64 n)).run Tryz.prog w = .ok (.slice (some ⟨w.heap.size, 0, none⟩) n n) (w.alloc (.cells (arrF (fun _ => Value.bool false) n) 4)) := by
 obtain ⟨i, hi, hz, hs1, hb⟩ := infoBool
 have := run_makeSlice (P := Tryz.prog) w 28 4 i _ Tryz.underlying28 hi hz .i64 .i64 n n (by omega) (by omega) (by rw [hs1]; omega) (by rw [hb]; omega) (by omega)
 rw [this, hs1, madeCells_arrF, Int.toNat_natCast, Nat.mul_one]
 have e : ∀ F : Nat → Value, (∀ j, F j = .bool false) → arrF F n = arrF (fun _ => Value.bool false) n := fun F hF => arrF_congr fun j _ => hF j
 rw [e _ (fun j => by
  show (#[Value.bool false] : Array Value)[j % 1]! = _
  rw [Nat.mod_one]
  rfl)]
def secZ0 : Array Value := #[.slice none 0 0, .slice none 0 0, .bool false]
theorem make_secB (w : World) (n : Nat) (hn : n < 1000) : (Instr.makeSlice 74 (.int .i64 n) (.int .i64 n)).run Tryz.prog w = .ok (.slice (some ⟨w.heap.size, 0, none⟩) n n) (w.alloc (.cells (arrF (fun j => secZ0[j % 3]!) (n * 3)) 64)) := by
 obtain ⟨i, hi, hz, hs1, hb⟩ := infoSec
 have := run_makeSlice (P := Tryz.prog) w 74 64 i _ Tryz.underlying74 hi hz .i64 .i64 n n (by omega) (by omega) (by rw [hs1]; omega) (by rw [hb]; omega) (by omega)
 rw [this, hs1, madeCells_arrF, Int.toNat_natCast]
 rfl
def trB (l : List Sec) (f : Sec → Prt) (b : Nat) : Bool := l.any fun x => (f x).tr && x.mem.any fun m => decide (m.1 = (b : Int))
theorem trB_map (rs : List SecR) (f : Sec → Prt) (b : Nat) : trB (rs.map SecR.d) f b = rs.any fun a => (f a.d).tr && a.d.mem.any fun m => decide (m.1 = (b : Int)) := by
 unfold trB
 rw [List.any_map]
 rfl
end Go.Proofs.YtcjflafjmdfanaaGreatDoor

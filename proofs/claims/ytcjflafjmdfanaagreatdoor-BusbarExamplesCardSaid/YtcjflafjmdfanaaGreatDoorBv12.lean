
/- What the methods bus, line and source of a builder return. -/
import Derived.Test.YtcjflafjmdfanaaGreatDoorBv11
import Derived.Maps.OwnSet
import Derived.Maps.Views
import Derived.StringKeys
import Derived.Carry
import Derived.Maps.RangeWalk
set_option maxHeartbeats 64000000
set_option maxRecDepth 100000
set_option linter.unusedSimpArgs false
set_option linter.unusedVariables false
/- What the leaf functions of package station return: within, impedance, ranges, Name. -/
namespace Go.Sub
open Go
def winB (n lo hi : Int) : Bool := decide (lo ≤ n) && decide (n ≤ hi)
structure Zi where
 r : Int
 x : Int
def ohmB (z : Zi) : Bool := winB z.r 0 1000 && winB z.x 1 1000
def letB (c : Int) : Bool := (decide (65 ≤ c) && decide (c ≤ 90)) || (decide (97 ≤ c) && decide (c ≤ 122))
def othB (c : Int) : Bool := (decide (48 ≤ c) && decide (c ≤ 57)) || decide (c = 95)
def bI (s : ByteArray) (k : Nat) : Int := if h : k < s.size then ((s[k]'h).toNat : Int) else 0
theorem bI_bd (s : ByteArray) (k : Nat) : 0 ≤ bI s k ∧ bI s k ≤ 255 := by
 unfold bI
 split
 ·rename_i h
  have := (s[k]'h).toNat_lt
  omega
 omega
def chB (s : ByteArray) (k : Nat) : Bool := letB (bI s k) || (decide (k ≠ 0) && othB (bI s k))
def nmB (s : ByteArray) : Bool := decide (s.size ≠ 0) && decide (s.size ≤ 12) && (List.range s.size).all (chB s)
theorem chars9 (c : Int) : (¬ 65 ≤ c ∧ c ≤ 90 ∧ ¬ 97 ≤ c ∧ c ≤ 122 ∧ ¬ 48 ≤ c ∧ c ≤ 57 ∧ ¬ c = 95) ∨ (¬ 65 ≤ c ∧ c ≤ 90 ∧ ¬ 97 ≤ c ∧ c ≤ 122 ∧ 48 ≤ c ∧ c ≤ 57 ∧ ¬ c = 95) ∨ (¬ 65 ≤ c ∧ c ≤ 90 ∧ ¬ 97 ≤ c ∧ c ≤ 122 ∧ 48 ≤ c ∧ ¬ c ≤ 57 ∧ ¬ c = 95) ∨ (65 ≤ c ∧ c ≤ 90 ∧ ¬ 97 ≤ c ∧ c ≤ 122 ∧ 48 ≤ c ∧ ¬ c ≤ 57 ∧ ¬ c = 95) ∨ (65 ≤ c ∧ ¬ c ≤ 90 ∧ ¬ 97 ≤ c ∧ c ≤ 122 ∧ 48 ≤ c ∧ ¬ c ≤ 57 ∧ ¬ c = 95) ∨ (65 ≤ c ∧ ¬ c ≤ 90 ∧ ¬ 97 ≤ c ∧ c ≤ 122 ∧ 48 ≤ c ∧ ¬ c ≤ 57 ∧ c = 95) ∨ (65 ≤ c ∧ ¬ c ≤ 90 ∧ ¬ 97 ≤ c ∧ c ≤ 122 ∧ 48 ≤ c ∧ ¬ c ≤ 57 ∧ ¬ c = 95) ∨ (65 ≤ c ∧ ¬ c ≤ 90 ∧ 97 ≤ c ∧ c ≤ 122 ∧ 48 ≤ c ∧ ¬ c ≤ 57 ∧ ¬ c = 95) ∨ (65 ≤ c ∧ ¬ c ≤ 90 ∧ 97 ≤ c ∧ ¬ c ≤ 122 ∧ 48 ≤ c ∧ ¬ c ≤ 57 ∧ ¬ c = 95) := by
 have h : c ≤ 47 ∨ (48 ≤ c ∧ c ≤ 57) ∨ (58 ≤ c ∧ c ≤ 64) ∨ (65 ≤ c ∧ c ≤ 90) ∨ (91 ≤ c ∧ c ≤ 94) ∨ (95 ≤ c ∧ c ≤ 95) ∨ (96 ≤ c ∧ c ≤ 96) ∨ (97 ≤ c ∧ c ≤ 122) ∨ 123 ≤ c := by omega
 rcases h with h | h | h | h | h | h | h | h | h
 ·exact Or.inl ⟨by omega, by omega, by omega, by omega, by omega, by omega, by omega⟩
 ·exact Or.inr (Or.inl ⟨by omega, by omega, by omega, by omega, by omega, by omega, by omega⟩)
 ·exact Or.inr (Or.inr (Or.inl ⟨by omega, by omega, by omega, by omega, by omega, by omega, by omega⟩))
 ·exact Or.inr (Or.inr (Or.inr (Or.inl ⟨by omega, by omega, by omega, by omega, by omega, by omega, by omega⟩)))
 ·exact Or.inr (Or.inr (Or.inr (Or.inr (Or.inl ⟨by omega, by omega, by omega, by omega, by omega, by omega, by omega⟩))))
 ·exact Or.inr (Or.inr (Or.inr (Or.inr (Or.inr (Or.inl ⟨by omega, by omega, by omega, by omega, by omega, by omega, by omega⟩)))))
 ·exact Or.inr (Or.inr (Or.inr (Or.inr (Or.inr (Or.inr (Or.inl ⟨by omega, by omega, by omega, by omega, by omega, by omega, by omega⟩))))))
 ·exact Or.inr (Or.inr (Or.inr (Or.inr (Or.inr (Or.inr (Or.inr (Or.inl ⟨by omega, by omega, by omega, by omega, by omega, by omega, by omega⟩)))))))
 exact Or.inr (Or.inr (Or.inr (Or.inr (Or.inr (Or.inr (Or.inr (Or.inr (⟨by omega, by omega, by omega, by omega, by omega, by omega, by omega⟩))))))))
theorem nmB_bad {s : ByteArray} {k : Nat} (hk : k < s.size) (h : chB s k = false) : nmB s = false := by
 unfold nmB
 rw [Bool.and_eq_false_iff]
 right
 rw [List.all_eq_false]
 exact ⟨k, List.mem_range.2 hk, by rw [h]; decide⟩
theorem nmB_good {s : ByteArray} (h0 : s.size ≠ 0) (h1 : s.size ≤ 12) (h : ∀ k, k < s.size → chB s k = true) : nmB s = true := by
 unfold nmB
 rw [decide_eq_true h0, decide_eq_true h1, List.all_eq_true.2 (fun k hk => h k (List.mem_range.1 hk))]
 rfl
end Go.Sub
namespace Go.Proofs.YtcjflafjmdfanaaGreatDoor
open Go.RowKit Go.Sub
attribute [local go_sem ↓] Go.wp_at_zero Go.wp_at_succ
theorem stwithin_c (n lo hi : Int) (w : World) :
  Calls Tryz.prog 93 #[.int .i64 n, .int .i64 lo, .int .i64 hi] w fun e w' => e = .returned (.bool (winB n lo hi)) ∧ w = w' := by
 by_cases h1 : lo ≤ n <;> by_cases h2 : n ≤ hi
 all_goals
  go_enter Tryz.func93, Tryz.ntmps93
  go_wp2
  go_ret
  exact ⟨by simp [winB, h1, h2], rfl⟩
theorem stimp_c (z : Zi) (w : World) :
  Calls Tryz.prog 92 #[.agg #[.int .i64 z.r, .int .i64 z.x]] w fun e w' => e = .returned (.bool (ohmB z)) ∧ Q w w' := by
 have W1 := hh fun w => stwithin_c z.r 0 1000 w
 have W2 := hh fun w => stwithin_c z.x 1 1000 w
 unfold ohmB
 generalize winB z.r 0 1000 = p at W1 ⊢
 generalize winB z.x 1 1000 = q at W2 ⊢
 cases p
 all_goals
  go_enter Tryz.func92, Tryz.ntmps92
  go_wp2_with (first | (go_at_call 93; (with_reducible refine (W1.o _).p ?_)) | (go_at_call 93; (with_reducible refine (W2.o _).p ?_)) | fail)
  go_ret
  refine ⟨by simp, ?_⟩
  exact Q.i
theorem stname_c (s : ByteArray) (w : World) (hs : (s.size : Int) ≤ 9223372036854775807) :
  Calls Tryz.prog 55 #[.string s] w fun e w' => e = .returned (.bool (nmB s)) ∧ w = w' := by
 have s0 : (0 : Int) ≤ (s.size : Int) := by omega
 by_cases h0 : s.size = 0
 ·have h0' : (s.size : Int) = 0 := by omega
  have e : nmB s = false := by simp [nmB, h0]
  rw [e]
  clear e
  go_enter Tryz.func55, Tryz.ntmps55
  go_wp2
  go_ret
  exact ⟨rfl, rfl⟩
 have h0' : ¬ (s.size : Int) = 0 := by omega
 by_cases h1 : s.size ≤ 12
 rotate_left
 ·have h1' : (12 : Int) < (s.size : Int) := by omega
  have e : nmB s = false := by simp [nmB, h1]
  rw [e]
  clear e
  go_enter Tryz.func55, Tryz.ntmps55
  go_wp2
  go_ret
  exact ⟨rfl, rfl⟩
 have h1' : ¬ (12 : Int) < (s.size : Int) := by omega
 go_enter Tryz.func55, Tryz.ntmps55
 go_wp2
 go_loopw [17] (fun i wr => ∃ k : Nat, i = .int .i64 k ∧ k ≤ s.size ∧ Hid (∀ j, j < k → chB s j = true) ∧ w = wr) (fun i _ => s.size - (intOf i).toNat)
 case atStart => exact ⟨0, rfl, Nat.zero_le _, hh (fun j hj => absurd hj (Nat.not_lt_zero _)), rfl⟩
 case round =>
  obtain ⟨k, rfl, hk, HG, rfl⟩ := hrel
  by_cases hlt : k < s.size
  rotate_left
  ·obtain rfl : k = s.size := by omega
   have e := hh (nmB_good h0 h1 HG.o)
   clear HG
   go_wp2
   go_ret
   exact ⟨by rw [e.o]; rfl, rfl⟩
  have k0 : (0 : Int) ≤ (k : Int) := by omega
  have k1 : (k : Int) < (s.size : Int) := by omega
  have eb : (((s[k]'hlt).toNat : Nat) : Int) = bI s k := by unfold bI; rw [dif_pos hlt]
  obtain ⟨b0, b1⟩ := bI_bd s k
  have EC : ∀ p, chB s k = p → Hid (chB s k = p) := fun p h => hh h
  have kz : k = 0 ∨ ¬ k = 0 := by omega
  obtain ⟨c, hc⟩ : ∃ c, bI s k = c := ⟨_, rfl⟩
  have ed : chB s k = (letB c || (decide (k ≠ 0) && othB c)) := by unfold chB; rw [hc]
  rw [hc] at eb b0 b1
  clear hc EC
  rcases kz with kz | kz
  ·subst kz
   rcases chars9 c with ⟨f0, f1, f2, f3, f4, f5, f6⟩ | ⟨f0, f1, f2, f3, f4, f5, f6⟩ | ⟨f0, f1, f2, f3, f4, f5, f6⟩ | ⟨f0, f1, f2, f3, f4, f5, f6⟩ | ⟨f0, f1, f2, f3, f4, f5, f6⟩ | ⟨f0, f1, f2, f3, f4, f5, f6⟩ | ⟨f0, f1, f2, f3, f4, f5, f6⟩ | ⟨f0, f1, f2, f3, f4, f5, f6⟩ | ⟨f0, f1, f2, f3, f4, f5, f6⟩
   all_goals
    have EG := hh ed
    simp only [letB, othB, f0, f1, f2, f3, f4, f5, f6, decide_true, decide_false, Bool.true_and, Bool.and_true, Bool.false_and, Bool.and_false, Bool.or_false, Bool.false_or, Bool.or_true, Bool.true_or, ne_eq, not_true_eq_false, not_false_eq_true] at EG
    clear ed
    first | subst f6 | (have f6' : (c == 95) = false := by simp [f6])
    go_wp2_with fail
    first
     | (go_ret; refine ⟨?_, rfl⟩; show Ending.returned (Value.bool false) = _; rw [nmB_bad hlt EG.o]; done)
     | (go_roundw; (case rel => exact ⟨1, by go_num, by omega, hh (fun j hj => (show 0 = j by omega) ▸ EG.o), trivial⟩); case measure => simp [intOf]; omega)
  have kz' : ¬ (k : Int) = 0 := by omega
  rcases chars9 c with ⟨f0, f1, f2, f3, f4, f5, f6⟩ | ⟨f0, f1, f2, f3, f4, f5, f6⟩ | ⟨f0, f1, f2, f3, f4, f5, f6⟩ | ⟨f0, f1, f2, f3, f4, f5, f6⟩ | ⟨f0, f1, f2, f3, f4, f5, f6⟩ | ⟨f0, f1, f2, f3, f4, f5, f6⟩ | ⟨f0, f1, f2, f3, f4, f5, f6⟩ | ⟨f0, f1, f2, f3, f4, f5, f6⟩ | ⟨f0, f1, f2, f3, f4, f5, f6⟩
  all_goals
   have EG := hh ed
   simp only [letB, othB, kz, f0, f1, f2, f3, f4, f5, f6, decide_true, decide_false, Bool.true_and, Bool.and_true, Bool.false_and, Bool.and_false, Bool.or_false, Bool.false_or, Bool.or_true, Bool.true_or, ne_eq, not_true_eq_false, not_false_eq_true] at EG
   clear ed
   first | subst f6 | (have f6' : (c == 95) = false := by simp [f6])
   go_wp2_with fail
   first
    | (go_ret; refine ⟨?_, rfl⟩; show Ending.returned (Value.bool false) = _; rw [nmB_bad hlt EG.o]; done)
    | (go_roundw; (case rel => exact ⟨k + 1, by go_num, by omega, hh (fun j hj => by rcases Nat.lt_succ_iff_lt_or_eq.1 hj with h | h; exact HG.o j h; subst h; exact EG.o), trivial⟩); case measure => simp [intOf]; omega)
end Go.Proofs.YtcjflafjmdfanaaGreatDoor
/- What ranges of package station returns. -/
namespace Go.Sub
open Go
def rgB (kd en zr zx ct vt sa tr : Int) : Bool :=
 (if kd = 3 then ohmB ⟨zr, zx⟩ && decide (vt = 0) else (decide (zr = 0) && decide (zx = 0)) && winB vt 1 10000) && (winB en 0 (if kd = 1 then 1 else 0) && winB ct 1 100 && winB sa 0 16383 && winB tr 1 6)
end Go.Sub
namespace Go.Proofs.YtcjflafjmdfanaaGreatDoor
open Go.RowKit Go.Sub
attribute [local go_sem ↓] Go.wp_at_zero Go.wp_at_succ
theorem strange_c (nm : ByteArray) (kd of en zr zx : Int) (la : Option Addr) (n lc : Nat) (cl : Bool) (ct vt sa tr : Int) (w : World) :
  Calls Tryz.prog 94 #[Value.agg #[.string nm, .int .i64 kd, .int .i64 of, .int .i64 en, .int .i64 zr, .int .i64 zx, .slice la n lc, .bool cl, .int .i64 ct, .int .i64 vt, .int .i64 sa, .int .i64 tr]] w fun e w' => e = .returned (.bool (rgB kd en zr zx ct vt sa tr)) ∧ Q w w' := by
 have W1 := hh fun w => stwithin_c vt 1 10000 w
 have W3 := hh fun w => stwithin_c ct 1 100 w
 have W4 := hh fun w => stwithin_c sa 0 16383 w
 have W5 := hh fun w => stwithin_c tr 1 6 w
 have WI := hh fun w => stimp_c ⟨zr, zx⟩ w
 unfold rgB
 generalize winB vt 1 10000 = p1 at W1 ⊢
 generalize winB ct 1 100 = p3 at W3 ⊢
 generalize winB sa 0 16383 = p4 at W4 ⊢
 generalize winB tr 1 6 = p5 at W5 ⊢
 generalize ohmB ⟨zr, zx⟩ = p6 at WI ⊢
 by_cases k3 : kd = 3
 ·subst k3
  have W2 := hh fun w => stwithin_c en 0 0 w
  rw [if_pos rfl, if_neg (by decide)]
  generalize winB en 0 0 = p2 at W2 ⊢
  go_enter Tryz.func94, Tryz.ntmps94
  go_wp2_with (first | (go_at_call 93; (with_reducible refine (W2.o _).p ?_)) | (go_at_call 93; (with_reducible refine (W3.o _).p ?_)) | (go_at_call 93; (with_reducible refine (W4.o _).p ?_)) | (go_at_call 93; (with_reducible refine (W5.o _).p ?_)) | (go_at_call 93; (with_reducible refine (W1.o _).p ?_)) | (go_at_call 92; (with_reducible refine (WI.o _).q ?_); intro kj) | fail)
  all_goals
   go_ret
   refine ⟨by simp_all, ?_⟩
   exact Q.i
 rw [if_neg k3]
 by_cases k1 : kd = 1
 rotate_left
 ·have W2 := hh fun w => stwithin_c en 0 0 w
  rw [if_neg k1]
  generalize winB en 0 0 = p2 at W2 ⊢
  go_enter Tryz.func94, Tryz.ntmps94
  go_wp2_with (first | (go_at_call 93; (with_reducible refine (W2.o _).p ?_)) | (go_at_call 93; (with_reducible refine (W3.o _).p ?_)) | (go_at_call 93; (with_reducible refine (W4.o _).p ?_)) | (go_at_call 93; (with_reducible refine (W5.o _).p ?_)) | (go_at_call 93; (with_reducible refine (W1.o _).p ?_)) | (go_at_call 92; (with_reducible refine (WI.o _).q ?_); intro kj) | fail)
  all_goals
   go_ret
   refine ⟨by simp_all, ?_⟩
   exact Q.i
 subst k1
 have W2 := hh fun w => stwithin_c en 0 1 w
 rw [if_pos rfl]
 generalize winB en 0 1 = p2 at W2 ⊢
 go_enter Tryz.func94, Tryz.ntmps94
 go_wp2_with (first | (go_at_call 93; (with_reducible refine (W2.o _).p ?_)) | (go_at_call 93; (with_reducible refine (W3.o _).p ?_)) | (go_at_call 93; (with_reducible refine (W4.o _).p ?_)) | (go_at_call 93; (with_reducible refine (W5.o _).p ?_)) | (go_at_call 93; (with_reducible refine (W1.o _).p ?_)) | (go_at_call 92; (with_reducible refine (WI.o _).q ?_); intro kj) | fail)
 all_goals
  go_ret
  refine ⟨by simp_all, ?_⟩
  exact Q.i
end Go.Proofs.YtcjflafjmdfanaaGreatDoor
/- The builder of package station: its names, and what it is made as. -/
namespace Go.Sub
open Go
instance decBA : DecidableEq ByteArray := fun a b => decidable_of_iff (a.data = b.data) ⟨fun h => by cases a; cases b; simpa using h, fun h => by rw [h]⟩
def sawB (seen : List ByteArray) (s : ByteArray) : Bool := seen.any fun x => decide (x = s)
theorem sawB_snoc (seen : List ByteArray) (x s : ByteArray) : sawB (seen ++ [x]) s = (sawB seen s || decide (x = s)) := by simp [sawB]
def nmE (seen : List ByteArray) (s : ByteArray) : Int := if nmB s = true then (if sawB seen s = true then 8 else 0) else 7
theorem nmB_size {s : ByteArray} (h : nmB s = true) : s.size ≤ 12 := by
 unfold nmB at h
 simp only [Bool.and_eq_true, decide_eq_true_eq] at h
 exact h.1.2
theorem ba_ext {a b : ByteArray} (h : a.data.toList = b.data.toList) : a = b := by
 cases a
 cases b
 simp only [ByteArray.mk.injEq]
 exact Array.toList_inj.1 h
end Go.Sub
namespace Go.Proofs.YtcjflafjmdfanaaGreatDoor
open Go.RowKit Go.Sub
attribute [local go_sem ↓] Go.wp_at_zero Go.wp_at_succ
open Go.Maps in
theorem lawStr : Keyed Tryz.prog 9 := string_keyed Tryz.underlying9
def SeenM (w : World) (m : Nat) (seen : List ByteArray) : Prop := ∃ D : DataW Unit, w.ownsMap Tryz.prog 9 (plainElem Tryz.prog 4) m seen.length D ∧ ∀ s, D.atKey (.string s.data.toList) (.lit (.bool false)) = .lit (.bool (sawB seen s))
theorem SeenM.lt {w : World} {m : Nat} {seen : List ByteArray} (h : SeenM w m seen) : m < w.heap.size := by
 obtain ⟨D, h, _⟩ := h
 exact h.lt
theorem SeenM.kept {w w' : World} {m : Nat} {seen : List ByteArray} {row : Option Nat} (h : SeenM w m seen) (hg : w.grownBy w' row) (hne : some m ≠ row) : SeenM w' m seen := by
 obtain ⟨D, h, h2⟩ := h
 exact ⟨D, h.kept hg hne, h2⟩
theorem SeenM.q {w w' : World} {m : Nat} {seen : List ByteArray} (h : SeenM w m seen) (hq : Q w w') : SeenM w' m seen := by
 have hb := hq.below
 exact h.kept (row := none) ⟨hb.os, hb.tape, hb.output, hb.size, fun k hk _ => hb.block k hk⟩ (by simp)
theorem SeenM.new (w : World) : SeenM (w.alloc (.map #[] 0)) w.heap.size [] := ⟨.map [], World.ownsMap_made w _ _ _, fun s => by simp [DataW.atKey, sawB]⟩
theorem elem_bool {v : Value} {x : DataW Unit × List MemPlace} (h : plainElem Tryz.prog 4 v = some x) : ∃ b, v = .bool b ∧ x.1 = .lit (.bool b) := by
 unfold plainElem at h
 have hu := Tryz.underlying4
 split at h
 ·cases h; exact ⟨_, rfl, rfl⟩
 ·rename_i he; rw [hu] at he; cases he
 ·rename_i he; rw [hu] at he; cases he
 cases h
theorem SeenM.look {w : World} {m : Nat} {seen : List ByteArray} (h : SeenM w m seen) (s : ByteArray) (hs : s.size ≤ maxLen) : (Instr.lookup 172 (.map (some m)) (.string s) false).run Tryz.prog w = .ok (.bool (sawB seen s)) w := by
 obtain ⟨D, h, h2⟩ := h
 obtain ⟨v, ps, hr, hv⟩ := h.lookup lawStr Tryz.underlying172 (z := .bool false) (by kernel_rfl) (plainElem_bool Tryz.underlying4 false) (WideMaps.keyOf_string_mk Tryz.underlying9 hs)
 rw [h2] at hv
 obtain ⟨x, rfl, hx⟩ := elem_bool hv
 simp only [DataW.lit.injEq, Lit.bool.injEq] at hx
 rw [hr, hx]
theorem seen_put {w w' : World} {m : Nat} {seen : List ByteArray} {s : ByteArray} {D : DataW Unit} (h : w.ownsMap Tryz.prog 9 (plainElem Tryz.prog 4) m seen.length D) (h2 : ∀ s, D.atKey (.string s.data.toList) (.lit (.bool false)) = .lit (.bool (sawB seen s)))
  (h3 : w'.ownsMap Tryz.prog 9 (plainElem Tryz.prog 4) m (seen.length + 1) (D.put (.string s.data.toList) (.lit (.bool true)))) : SeenM w' m (seen ++ [s]) := by
 refine ⟨_, by rw [List.length_append]; exact h3, fun x => ?_⟩
 by_cases hx : x = s
 rotate_left
 ·rw [Maps.atKey_put_other (k := Lit.string s.data.toList) (k' := Lit.string x.data.toList) (fun e => hx (ba_ext (by injection e))), h2, sawB_snoc, decide_eq_false (fun e => hx e.symm), Bool.or_false]
 subst hx
 rw [Maps.atKey_put_same (k := Lit.string x.data.toList) h.isMap trivial, sawB_snoc]
 simp
theorem SeenM.put {w : World} {m : Nat} {seen : List ByteArray} (h : SeenM w m seen) (s : ByteArray) (hs : s.size ≤ maxLen) (hl : seen.length < maxLen) : ∃ w', (Instr.mapUpdate 172 (.map (some m)) (.string s) (.bool true)).run Tryz.prog w = .ok () w' ∧ SeenM w' m (seen ++ [s]) ∧ w.grownBy w' (some m) := by
 obtain ⟨D, h, h2⟩ := h
 obtain ⟨w', hr, h3, h4⟩ := h.update lawStr Tryz.underlying172 hl (WideMaps.keyOf_string_mk Tryz.underlying9 hs) (plainElem_bool Tryz.underlying4 true)
 refine ⟨w', hr, ⟨_, by rw [List.length_append]; exact h3, fun x => ?_⟩, h4⟩
 by_cases hx : x = s
 rotate_left
 ·rw [Maps.atKey_put_other (k := Lit.string s.data.toList) (k' := Lit.string x.data.toList) (fun e => hx (ba_ext (by injection e))), h2, sawB_snoc, decide_eq_false (fun e => hx e.symm), Bool.or_false]
 subst hx
 rw [Maps.atKey_put_same (k := Lit.string x.data.toList) h.isMap trivial, sawB_snoc]
 simp
theorem bname_c (b m : Nat) (cs : Array Value) (s : ByteArray) (seen : List ByteArray) (w : World) (hb : HB w b cs 174) (hm : cs[5]? = some (.map (some m))) (hsn : SeenM w m seen) (hs : (s.size : Int) ≤ 9223372036854775807) :
  Calls Tryz.prog 91 #[.pointer (some ⟨b, 0, none⟩), .string s] w fun e w' => e = .returned (.int .i64 (nmE seen s)) ∧ w = w' := by
 have NM := hh fun w => stname_c s w hs
 have c5 := hb.cell 5
 rw [hm] at c5
 have ob := hb.old
 cases hn : nmB s with
 | false =>
  have EN : nmE seen s = 7 := by simp [nmE, hn]
  rw [hn] at NM
  rw [EN]
  clear EN hn hsn
  go_enter Tryz.func91, Tryz.ntmps91
  go_wp2_with (first | (go_at_call 55; (with_reducible refine (NM.o _).p ?_)) | fail)
  go_ret
  exact ⟨rfl, rfl⟩
 | true =>
  have hl := hsn.look s (Nat.le_trans (nmB_size hn) (by decide))
  rw [hn] at NM
  have EN : nmE seen s = if sawB seen s = true then 8 else 0 := by simp [nmE, hn]
  rw [EN]
  clear EN hn hsn
  cases hx : sawB seen s with
  | true =>
   rw [hx] at hl
   rw [if_pos rfl]
   go_enter Tryz.func91, Tryz.ntmps91
   go_wp2_with (first | (go_at_call 55; (with_reducible refine (NM.o _).p ?_)) | fail)
   go_ret
   exact ⟨rfl, rfl⟩
  | false =>
   rw [hx] at hl
   rw [if_neg (by decide)]
   go_enter Tryz.func91, Tryz.ntmps91
   go_wp2_with (first | (go_at_call 55; (with_reducible refine (NM.o _).p ?_)) | fail)
   go_ret
   exact ⟨rfl, rfl⟩
end Go.Proofs.YtcjflafjmdfanaaGreatDoor
/- append into the room of a row that has just been made; what a world's growth keeps. -/
namespace Go
open Go.RowKit Go.Sub
theorem grownBy_setCell (w : World) (b i : Nat) (v : Value) : w.grownBy (w.setCell ⟨b, i, none⟩ v) (some b) := by
 refine ⟨rfl, rfl, rfl, by simp, fun j hj hne => ?_⟩
 have : ¬ b = j := fun e => hne (by rw [e])
 simp [World.setCell, Array.getElem?_modify, this]
theorem Q.grown {w w' : World} (h : Q w w') (row : Option Nat) : w.grownBy w' row := ⟨h.below.os, h.below.tape, h.below.output, h.below.size, fun j hj _ => h.below.block j hj⟩
theorem HB.grown {w w' : World} {b : Nat} {cs : Array Value} {t : TypeId} {row : Option Nat} (h : HB w b cs t) (hg : w.grownBy w' row) (hne : some b ≠ row) : HB w' b cs t := (hg.block b h.lt hne).trans h
end Go
/- The builder of package station in memory. -/
namespace Go.Sub
open Go
structure Byr where
 nm : ByteArray
 kd : Int
 of : Int
 en : Int
 zr : Int
 zx : Int
 la : Option Addr
 ln : Nat
 lc : Nat
 cl : Bool
 ct : Int
 vt : Int
 sa : Int
 tr : Int
def byC (y : Byr) : List Value := [.string y.nm, .int .i64 y.kd, .int .i64 y.of, .int .i64 y.en, .int .i64 y.zr, .int .i64 y.zx, .slice y.la y.ln y.lc, .bool y.cl, .int .i64 y.ct, .int .i64 y.vt, .int .i64 y.sa, .int .i64 y.tr]
end Go.Sub
namespace Go
open Go.RowKit
theorem own_other {w : World} {base base' size size' n n' : Nat} {e e' : TypeId} {v v' : Value} {xs xs' : List Value} (h : w.ownsRow base e size v n xs) (h' : w.ownsRow base' e' size' v' n' xs') (hne : e ≠ e') : v.ownBlock = none ∨ v.ownBlock ≠ v'.ownBlock := by
 rcases h.2 with ⟨rfl, _⟩ | ⟨g, _, _, rfl, _, hg, _⟩
 ·exact .inl rfl
 refine .inr fun e1 => ?_
 rcases h'.2 with ⟨rfl, _⟩ | ⟨g', _, _, rfl, _, hg', _⟩
 ·cases e1
 simp [Value.ownBlock] at e1
 subst e1
 rw [hg] at hg'
 injection hg' with hg'
 injection hg' with _ h1 _
 exact hne h1
theorem own_slice {w : World} {base size n : Nat} {e : TypeId} {v : Value} {xs : List Value} (h : w.ownsRow base e size v n xs) (hn : 0 < n) : ∃ g c, v = .slice (some ⟨g, 0, none⟩) n c := by
 rcases h.2 with ⟨_, h0⟩ | ⟨g, cap, _, e, _⟩
 ·omega
 exact ⟨g, cap, e⟩
theorem own_slice' {w : World} {base size n : Nat} {e : TypeId} {v : Value} {xs : List Value} (h : w.ownsRow base e size v n xs) : ∃ A c, v = .slice A n c := by
 rcases h.2 with ⟨rfl, rfl⟩ | ⟨g, cap, _, e, _⟩
 ·exact ⟨none, 0, rfl⟩
 exact ⟨_, cap, e⟩
theorem own_hb {w : World} {base size n b : Nat} {e t : TypeId} {v : Value} {xs : List Value} {cs : Array Value} (h : w.ownsRow base e size v n xs) (hb : HB w b cs t) (hne : e ≠ t) : v.ownBlock ≠ some b := by
 intro e1
 rcases h.2 with ⟨rfl, _⟩ | ⟨g, _, _, rfl, _, hg, _⟩
 ·cases e1
 simp [Value.ownBlock] at e1
 subst e1
 have hb' : w.heap[g]? = some (.cells cs t) := hb
 rw [hg] at hb'
 injection hb' with hb'
 injection hb' with _ h1 _
 exact hne h1
end Go
namespace Go.Proofs.YtcjflafjmdfanaaGreatDoor
open Go.RowKit Go.Sub
theorem own_map {w : World} {base size n m : Nat} {e : TypeId} {v : Value} {xs : List Value} {seen : List ByteArray} (h : w.ownsRow base e size v n xs) (hm : SeenM w m seen) : v.ownBlock ≠ some m := by
 intro e1
 obtain ⟨D, ⟨es, clock, hh, _⟩, _⟩ := hm
 rcases h.2 with ⟨rfl, _⟩ | ⟨g, _, _, rfl, _, hg, _⟩
 ·cases e1
 simp [Value.ownBlock] at e1
 subst e1
 rw [hg] at hh
 cases hh
structure Bld (W0 w : World) (b m : Nat) (vB vL vS vY : Value) (seen : List ByteArray) (nb nl ns : Nat) (ys : List Byr) : Prop where
 q : Q W0 w
 gb : W0.heap.size ≤ b
 gm : W0.heap.size ≤ m
 hb : HB w b #[.string ByteArray.empty, vB, vL, vS, vY, .map (some m)] 174
 sn : SeenM w m seen
 rB : ∃ xs, w.ownsRow W0.heap.size 9 1 vB nb xs
 rL : ∃ xs, w.ownsRow W0.heap.size 115 5 vL nl xs
 rS : ∃ xs, w.ownsRow W0.heap.size 95 6 vS ns xs
 rY : w.ownsRow W0.heap.size 91 12 vY ys.length (ys.flatMap byC)
theorem Bld.ne {W0 w : World} {b m : Nat} {vB vL vS vY : Value} {seen : List ByteArray} {nb nl ns : Nat} {ys : List Byr} (h : Bld W0 w b m vB vL vS vY seen nb nl ns ys) : b ≠ m := by
 intro e
 subst e
 obtain ⟨D, ⟨es, clock, hh, _⟩, _⟩ := h.sn
 have hb : w.heap[b]? = some (.cells _ _) := h.hb
 rw [hb] at hh
 cases hh
theorem Bld.to {W0 w : World} {b m : Nat} {vB vL vS vY : Value} {seen : List ByteArray} {nb nl ns : Nat} {ys : List Byr} (h : Bld W0 w b m vB vL vS vY seen nb nl ns ys) {w' : World} (hq : Q w w') : Bld W0 w' b m vB vL vS vY seen nb nl ns ys := by
 obtain ⟨xB, hB⟩ := h.rB
 obtain ⟨xL, hL⟩ := h.rL
 obtain ⟨xS, hS⟩ := h.rS
 exact ⟨h.q.trans hq, h.gb, h.gm, h.hb.q hq, h.sn.q hq, ⟨xB, ownsRow_q hB hq⟩, ⟨xL, ownsRow_q hL hq⟩, ⟨xS, ownsRow_q hS hq⟩, ownsRow_q h.rY hq⟩
theorem Bld.seen {W0 w : World} {b m : Nat} {vB vL vS vY : Value} {seen : List ByteArray} {nb nl ns : Nat} {ys : List Byr} (h : Bld W0 w b m vB vL vS vY seen nb nl ns ys) {x : ByteArray} {w1 : World} (hs : SeenM w1 m (seen ++ [x])) (hg : w.grownBy w1 (some m)) : Bld W0 w1 b m vB vL vS vY (seen ++ [x]) nb nl ns ys := by
 obtain ⟨xB, hB⟩ := h.rB
 obtain ⟨xL, hL⟩ := h.rL
 obtain ⟨xS, hS⟩ := h.rS
 exact ⟨grown_Q h.q hg (fun g e => by injection e with e; subst e; exact h.gm), h.gb, h.gm, h.hb.grown hg (fun e => h.ne (by injection e)), hs, ⟨xB, hB.kept hg (.inr (own_map hB h.sn))⟩, ⟨xL, hL.kept hg (.inr (own_map hL h.sn))⟩, ⟨xS, hS.kept hg (.inr (own_map hS h.sn))⟩, h.rY.kept hg (.inr (own_map h.rY h.sn))⟩
theorem Bld.boxB {W0 w : World} {b m : Nat} {vB vL vS vY : Value} {seen : List ByteArray} {nb nl ns : Nat} {ys : List Byr} (h : Bld W0 w b m vB vL vS vY seen nb nl ns ys) {o : Obj} {w2 : World} (hg : (w.alloc o).grownBy w2 vB.ownBlock) : HB w2 b #[.string ByteArray.empty, vB, vL, vS, vY, .map (some m)] 174 := by
 have ha := h.to (Q.alloc (Q.refl w) o)
 obtain ⟨xB, hB⟩ := ha.rB
 have kb : vB.ownBlock ≠ some b := own_hb hB ha.hb (by decide)
 exact ha.hb.grown hg (fun e => kb e.symm)
theorem Bld.putB {W0 w : World} {b m : Nat} {vB vL vS vY : Value} {seen : List ByteArray} {nb nl ns : Nat} {ys : List Byr} (h : Bld W0 w b m vB vL vS vY seen nb nl ns ys) {o : Obj} {w2 : World} {v' : Value} {xs' : List Value} (hg : (w.alloc o).grownBy w2 vB.ownBlock) (hown : w2.ownsRow W0.heap.size 9 1 v' (nb + 1) xs') : Bld W0 (w2.setCell ⟨b, 1, none⟩ v') b m v' vL vS vY seen (nb + 1) nl ns ys := by
 have ha := h.to (Q.alloc (Q.refl w) o)
 obtain ⟨xB, hB⟩ := ha.rB
 obtain ⟨xL, hL⟩ := ha.rL
 obtain ⟨xS, hS⟩ := ha.rS
 have hY := ha.rY
 have kb : vB.ownBlock ≠ some b := own_hb hB ha.hb (by decide)
 have km : vB.ownBlock ≠ some m := own_map hB ha.sn
 have hb2 := ha.hb.grown hg (fun e => kb e.symm)
 have hm2 := ha.sn.kept hg (fun e => km e.symm)
 have hL2 := hL.kept hg (own_other hL hB (by decide))
 have hS2 := hS.kept hg (own_other hS hB (by decide))
 have hY2 := hY.kept hg (own_other hY hB (by decide))
 have q2 : Q W0 w2 := grown_Q ha.q hg (fun g e => (hB.lt g e).1)
 have hs := grownBy_setCell w2 b 1 v'
 have hb3 : HB (w2.setCell ⟨b, 1, none⟩ v') b _ 174 := hb2.set 1 v'
 refine ⟨q2.setCell ha.gb _, ha.gb, ha.gm, hb3, hm2.kept hs (fun e => ha.ne (by injection e with e; exact e.symm)), ?_, ?_, ?_, ?_⟩
 ·exact ⟨_, hown.kept hs (.inr (own_hb hown hb2 (by decide)))⟩
 ·exact ⟨_, hL2.kept hs (.inr (own_hb hL2 hb2 (by decide)))⟩
 ·exact ⟨_, hS2.kept hs (.inr (own_hb hS2 hb2 (by decide)))⟩
 exact hY2.kept hs (.inr (own_hb hY2 hb2 (by decide)))
theorem Bld.boxL {W0 w : World} {b m : Nat} {vB vL vS vY : Value} {seen : List ByteArray} {nb nl ns : Nat} {ys : List Byr} (h : Bld W0 w b m vB vL vS vY seen nb nl ns ys) {o : Obj} {w2 : World} (hg : (w.alloc o).grownBy w2 vL.ownBlock) : HB w2 b #[.string ByteArray.empty, vB, vL, vS, vY, .map (some m)] 174 := by
 have ha := h.to (Q.alloc (Q.refl w) o)
 obtain ⟨xL, hL⟩ := ha.rL
 have kb : vL.ownBlock ≠ some b := own_hb hL ha.hb (by decide)
 exact ha.hb.grown hg (fun e => kb e.symm)
theorem Bld.putL {W0 w : World} {b m : Nat} {vB vL vS vY : Value} {seen : List ByteArray} {nb nl ns : Nat} {ys : List Byr} (h : Bld W0 w b m vB vL vS vY seen nb nl ns ys) {o : Obj} {w2 : World} {v' : Value} {xs' : List Value} (hg : (w.alloc o).grownBy w2 vL.ownBlock) (hown : w2.ownsRow W0.heap.size 115 5 v' (nl + 1) xs') : Bld W0 (w2.setCell ⟨b, 2, none⟩ v') b m vB v' vS vY seen nb (nl + 1) ns ys := by
 have ha := h.to (Q.alloc (Q.refl w) o)
 obtain ⟨xB, hB⟩ := ha.rB
 obtain ⟨xL, hL⟩ := ha.rL
 obtain ⟨xS, hS⟩ := ha.rS
 have hY := ha.rY
 have kb : vL.ownBlock ≠ some b := own_hb hL ha.hb (by decide)
 have km : vL.ownBlock ≠ some m := own_map hL ha.sn
 have hb2 := ha.hb.grown hg (fun e => kb e.symm)
 have hm2 := ha.sn.kept hg (fun e => km e.symm)
 have hB2 := hB.kept hg (own_other hB hL (by decide))
 have hS2 := hS.kept hg (own_other hS hL (by decide))
 have hY2 := hY.kept hg (own_other hY hL (by decide))
 have q2 : Q W0 w2 := grown_Q ha.q hg (fun g e => (hL.lt g e).1)
 have hs := grownBy_setCell w2 b 2 v'
 have hb3 : HB (w2.setCell ⟨b, 2, none⟩ v') b _ 174 := hb2.set 2 v'
 refine ⟨q2.setCell ha.gb _, ha.gb, ha.gm, hb3, hm2.kept hs (fun e => ha.ne (by injection e with e; exact e.symm)), ?_, ?_, ?_, ?_⟩
 ·exact ⟨_, hB2.kept hs (.inr (own_hb hB2 hb2 (by decide)))⟩
 ·exact ⟨_, hown.kept hs (.inr (own_hb hown hb2 (by decide)))⟩
 ·exact ⟨_, hS2.kept hs (.inr (own_hb hS2 hb2 (by decide)))⟩
 exact hY2.kept hs (.inr (own_hb hY2 hb2 (by decide)))
theorem Bld.boxS {W0 w : World} {b m : Nat} {vB vL vS vY : Value} {seen : List ByteArray} {nb nl ns : Nat} {ys : List Byr} (h : Bld W0 w b m vB vL vS vY seen nb nl ns ys) {o : Obj} {w2 : World} (hg : (w.alloc o).grownBy w2 vS.ownBlock) : HB w2 b #[.string ByteArray.empty, vB, vL, vS, vY, .map (some m)] 174 := by
 have ha := h.to (Q.alloc (Q.refl w) o)
 obtain ⟨xS, hS⟩ := ha.rS
 have kb : vS.ownBlock ≠ some b := own_hb hS ha.hb (by decide)
 exact ha.hb.grown hg (fun e => kb e.symm)
theorem Bld.putS {W0 w : World} {b m : Nat} {vB vL vS vY : Value} {seen : List ByteArray} {nb nl ns : Nat} {ys : List Byr} (h : Bld W0 w b m vB vL vS vY seen nb nl ns ys) {o : Obj} {w2 : World} {v' : Value} {xs' : List Value} (hg : (w.alloc o).grownBy w2 vS.ownBlock) (hown : w2.ownsRow W0.heap.size 95 6 v' (ns + 1) xs') : Bld W0 (w2.setCell ⟨b, 3, none⟩ v') b m vB vL v' vY seen nb nl (ns + 1) ys := by
 have ha := h.to (Q.alloc (Q.refl w) o)
 obtain ⟨xB, hB⟩ := ha.rB
 obtain ⟨xL, hL⟩ := ha.rL
 obtain ⟨xS, hS⟩ := ha.rS
 have hY := ha.rY
 have kb : vS.ownBlock ≠ some b := own_hb hS ha.hb (by decide)
 have km : vS.ownBlock ≠ some m := own_map hS ha.sn
 have hb2 := ha.hb.grown hg (fun e => kb e.symm)
 have hm2 := ha.sn.kept hg (fun e => km e.symm)
 have hB2 := hB.kept hg (own_other hB hS (by decide))
 have hL2 := hL.kept hg (own_other hL hS (by decide))
 have hY2 := hY.kept hg (own_other hY hS (by decide))
 have q2 : Q W0 w2 := grown_Q ha.q hg (fun g e => (hS.lt g e).1)
 have hs := grownBy_setCell w2 b 3 v'
 have hb3 : HB (w2.setCell ⟨b, 3, none⟩ v') b _ 174 := hb2.set 3 v'
 refine ⟨q2.setCell ha.gb _, ha.gb, ha.gm, hb3, hm2.kept hs (fun e => ha.ne (by injection e with e; exact e.symm)), ?_, ?_, ?_, ?_⟩
 ·exact ⟨_, hB2.kept hs (.inr (own_hb hB2 hb2 (by decide)))⟩
 ·exact ⟨_, hL2.kept hs (.inr (own_hb hL2 hb2 (by decide)))⟩
 ·exact ⟨_, hown.kept hs (.inr (own_hb hown hb2 (by decide)))⟩
 exact hY2.kept hs (.inr (own_hb hY2 hb2 (by decide)))
theorem Bld.boxY {W0 w : World} {b m : Nat} {vB vL vS vY : Value} {seen : List ByteArray} {nb nl ns : Nat} {ys : List Byr} (h : Bld W0 w b m vB vL vS vY seen nb nl ns ys) {o : Obj} {w2 : World} (hg : (w.alloc o).grownBy w2 vY.ownBlock) : HB w2 b #[.string ByteArray.empty, vB, vL, vS, vY, .map (some m)] 174 := by
 have ha := h.to (Q.alloc (Q.refl w) o)
 have hY := ha.rY
 have kb : vY.ownBlock ≠ some b := own_hb hY ha.hb (by decide)
 exact ha.hb.grown hg (fun e => kb e.symm)
theorem Bld.putY {W0 w : World} {b m : Nat} {vB vL vS vY : Value} {seen : List ByteArray} {nb nl ns : Nat} {ys : List Byr} (h : Bld W0 w b m vB vL vS vY seen nb nl ns ys) {o : Obj} {w2 : World} {v' : Value} {y : Byr} (hg : (w.alloc o).grownBy w2 vY.ownBlock) (hown : w2.ownsRow W0.heap.size 91 12 v' (ys ++ [y]).length ((ys ++ [y]).flatMap byC)) : Bld W0 (w2.setCell ⟨b, 4, none⟩ v') b m vB vL vS v' seen nb nl ns (ys ++ [y]) := by
 have ha := h.to (Q.alloc (Q.refl w) o)
 obtain ⟨xB, hB⟩ := ha.rB
 obtain ⟨xL, hL⟩ := ha.rL
 obtain ⟨xS, hS⟩ := ha.rS
 have hY := ha.rY
 have kb : vY.ownBlock ≠ some b := own_hb hY ha.hb (by decide)
 have km : vY.ownBlock ≠ some m := own_map hY ha.sn
 have hb2 := ha.hb.grown hg (fun e => kb e.symm)
 have hm2 := ha.sn.kept hg (fun e => km e.symm)
 have hB2 := hB.kept hg (own_other hB hY (by decide))
 have hL2 := hL.kept hg (own_other hL hY (by decide))
 have hS2 := hS.kept hg (own_other hS hY (by decide))
 have q2 : Q W0 w2 := grown_Q ha.q hg (fun g e => (hY.lt g e).1)
 have hs := grownBy_setCell w2 b 4 v'
 have hb3 : HB (w2.setCell ⟨b, 4, none⟩ v') b _ 174 := hb2.set 4 v'
 refine ⟨q2.setCell ha.gb _, ha.gb, ha.gm, hb3, hm2.kept hs (fun e => ha.ne (by injection e with e; exact e.symm)), ?_, ?_, ?_, ?_⟩
 ·exact ⟨_, hB2.kept hs (.inr (own_hb hB2 hb2 (by decide)))⟩
 ·exact ⟨_, hL2.kept hs (.inr (own_hb hL2 hb2 (by decide)))⟩
 ·exact ⟨_, hS2.kept hs (.inr (own_hb hS2 hb2 (by decide)))⟩
 exact hown.kept hs (.inr (own_hb hown hb2 (by decide)))
theorem infoB : ∃ i, Tryz.prog.info? 9 = some i ∧ i.zero = some (.string ByteArray.empty) ∧ i.size = 1 ∧ i.bytes = 16 := by
 have h : (Tryz.prog.info? 9).map (fun i => (i.zero, i.size, i.bytes)) = some (some (.string ByteArray.empty), 1, 16) := by kernel_rfl
 cases hi : Tryz.prog.info? 9 with
 | none => rw [hi] at h; cases h
 | some i =>
  rw [hi] at h
  simp only [Option.map_some, Option.some.injEq, Prod.mk.injEq] at h
  exact ⟨i, rfl, h.1, h.2.1, h.2.2⟩
theorem infoL : ∃ i, Tryz.prog.info? 115 = some i ∧ i.zero = some (.agg #[.string ByteArray.empty, .int .i64 0, .int .i64 0, .int .i64 0, .int .i64 0]) ∧ i.size = 5 ∧ i.bytes = 48 := by
 have h : (Tryz.prog.info? 115).map (fun i => (i.zero, i.size, i.bytes)) = some (some (.agg #[.string ByteArray.empty, .int .i64 0, .int .i64 0, .int .i64 0, .int .i64 0]), 5, 48) := by kernel_rfl
 cases hi : Tryz.prog.info? 115 with
 | none => rw [hi] at h; cases h
 | some i =>
  rw [hi] at h
  simp only [Option.map_some, Option.some.injEq, Prod.mk.injEq] at h
  exact ⟨i, rfl, h.1, h.2.1, h.2.2⟩
theorem infoS : ∃ i, Tryz.prog.info? 95 = some i ∧ i.zero = some (.agg #[.string ByteArray.empty, .int .i64 0, .int .i64 0, .int .i64 0, .int .i64 0, .int .i64 0]) ∧ i.size = 6 ∧ i.bytes = 56 := by
 have h : (Tryz.prog.info? 95).map (fun i => (i.zero, i.size, i.bytes)) = some (some (.agg #[.string ByteArray.empty, .int .i64 0, .int .i64 0, .int .i64 0, .int .i64 0, .int .i64 0]), 6, 56) := by kernel_rfl
 cases hi : Tryz.prog.info? 95 with
 | none => rw [hi] at h; cases h
 | some i =>
  rw [hi] at h
  simp only [Option.map_some, Option.some.injEq, Prod.mk.injEq] at h
  exact ⟨i, rfl, h.1, h.2.1, h.2.2⟩
theorem infoY : ∃ i, Tryz.prog.info? 91 = some i ∧ i.zero = some (.agg #[.string ByteArray.empty, .int .i64 0, .int .i64 0, .int .i64 0, .int .i64 0, .int .i64 0, .slice none 0 0, .bool false, .int .i64 0, .int .i64 0, .int .i64 0, .int .i64 0]) ∧ i.size = 12 ∧ i.bytes = 120 := by
 have h : (Tryz.prog.info? 91).map (fun i => (i.zero, i.size, i.bytes)) = some (some (.agg #[.string ByteArray.empty, .int .i64 0, .int .i64 0, .int .i64 0, .int .i64 0, .int .i64 0, .slice none 0 0, .bool false, .int .i64 0, .int .i64 0, .int .i64 0, .int .i64 0]), 12, 120) := by kernel_rfl
 cases hi : Tryz.prog.info? 91 with
 | none => rw [hi] at h; cases h
 | some i =>
  rw [hi] at h
  simp only [Option.map_some, Option.some.injEq, Prod.mk.injEq] at h
  exact ⟨i, rfl, h.1, h.2.1, h.2.2⟩
theorem by12 {w : World} {g o : Nat} {y : Byr} (h : Hid (∀ j u, (byC y)[j]? = some u → w.cell? ⟨g, o + j, none⟩ = some u)) : w.cell? ⟨g, o, none⟩ = some (Value.string y.nm) ∧ w.cell? ⟨g, o + 1, none⟩ = some (Value.int .i64 y.kd) ∧ w.cell? ⟨g, o + 2, none⟩ = some (Value.int .i64 y.of) ∧ w.cell? ⟨g, o + 3, none⟩ = some (Value.int .i64 y.en) ∧ w.cell? ⟨g, o + 4, none⟩ = some (Value.int .i64 y.zr) ∧ w.cell? ⟨g, o + 5, none⟩ = some (Value.int .i64 y.zx) ∧ w.cell? ⟨g, o + 6, none⟩ = some (Value.slice y.la y.ln y.lc) ∧ w.cell? ⟨g, o + 7, none⟩ = some (Value.bool y.cl) ∧ w.cell? ⟨g, o + 8, none⟩ = some (Value.int .i64 y.ct) ∧ w.cell? ⟨g, o + 9, none⟩ = some (Value.int .i64 y.vt) ∧ w.cell? ⟨g, o + 10, none⟩ = some (Value.int .i64 y.sa) ∧ w.cell? ⟨g, o + 11, none⟩ = some (Value.int .i64 y.tr) := ⟨h.o 0 _ rfl, h.o 1 _ rfl, h.o 2 _ rfl, h.o 3 _ rfl, h.o 4 _ rfl, h.o 5 _ rfl, h.o 6 _ rfl, h.o 7 _ rfl, h.o 8 _ rfl, h.o 9 _ rfl, h.o 10 _ rfl, h.o 11 _ rfl⟩
end Go.Proofs.YtcjflafjmdfanaaGreatDoor
namespace Go.Sub
open Go
structure Lnr where
 nm : ByteArray
 z1 : Zi
 z0 : Zi
structure Srr where
 nm : ByteArray
 em : Int
 z1 : Zi
 z0 : Zi
def lnC (x : Lnr) : List Value := [.string x.nm, .int .i64 x.z1.r, .int .i64 x.z1.x, .int .i64 x.z0.r, .int .i64 x.z0.x]
def srC (x : Srr) : List Value := [.string x.nm, .int .i64 x.em, .int .i64 x.z1.r, .int .i64 x.z1.x, .int .i64 x.z0.r, .int .i64 x.z0.x]
def lnE (seen : List ByteArray) (x : Lnr) : Int := if nmE seen x.nm = 0 then (if ohmB x.z1 && ohmB x.z0 then 0 else 2) else nmE seen x.nm
def srE (seen : List ByteArray) (x : Srr) : Int := if nmE seen x.nm = 0 then (if winB x.em 1 1000000 && (ohmB x.z1 && ohmB x.z0) then 0 else 2) else nmE seen x.nm
theorem nmE_zero {seen : List ByteArray} {x : ByteArray} (h : nmE seen x = 0) : nmB x = true := by
 cases hn : nmB x with
 | true => rfl
 | false => simp [nmE, hn] at h
end Go.Sub
namespace Go.Proofs.YtcjflafjmdfanaaGreatDoor
open Go.RowKit Go.Sub
attribute [local go_sem ↓] Go.wp_at_zero Go.wp_at_succ
def RetB (W0 : World) (E : Int) (I : World → Prop) (e : Ending) (w' : World) : Prop := e = .returned (.int .i64 E) ∧ Q W0 w' ∧ (E = 0 → I w')
theorem wpList_appB {ops : Array Oper} {rest : List Oper} {o : Oper} {a : Act} {w : World} {Q' : Exit → Act → World → Prop} (hgd : o.guard = none) (s x : Operand)
  (ho : o.op = .call { callee := .builtin .append, args := #[s, x], argTypes := #[22, 22] }) (base : Nat) (v : Value) (n : Nat) (xs : List Value) (hs : a.eval s = v) (hown : w.ownsRow base 9 1 v n xs)
  (g : Nat) (hx : a.eval x = .slice (some ⟨g, 0, none⟩) 1 1) (news : List Value) (hl : news.length = 1) (hnews : ∀ j u, news[j]? = some u → w.cell? ⟨g, j, none⟩ = some u) (h1 : ∀ u ∈ news, u.oneCell' = true) (hlen : n < 1000) (hbase : base ≤ w.heap.size)
  (h : ∀ v' w', w'.ownsRow base 9 1 v' (n + 1) (xs ++ news) → w.grownBy w' v.ownBlock → wpList Tryz.prog ops Q' rest (a.put o.dst v') w') : wpList Tryz.prog ops Q' (o :: rest) a w := by
 obtain ⟨i, hi, hz, hs1, hb⟩ := infoB
 refine wpList_append_own_at w hgd s x 22 ho base 9 i _ 1 16 Tryz.underlying22 hi hz hs1 hb rfl (by decide) v n xs hs hown ⟨g, 0, none⟩ 1 1 news hx (by rw [hl]) ?_ h1 (by unfold maxLen; omega) (by omega) hbase ?_
 ·intro j u hj
  have e : (⟨g, 0, none⟩ : Addr).add j = ⟨g, j, none⟩ := by unfold Addr.add; split <;> simp_all
  rw [e]
  exact hnews j u hj
 intro v' w' h2 h3 _ _
 exact h v' w' h2 h3
theorem step_appL {ops : Array Oper} {o : Oper} {a : Act} {w : World} {K : Act → World → Prop} {Q' : Exit → Act → World → Prop} {E : Prop} (hgd : o.guard = none) (s x : Operand)
  (ho : o.op = .call { callee := .builtin .append, args := #[s, x], argTypes := #[23, 23] }) (base : Nat) (v : Value) (n : Nat) (xs : List Value) (hs : a.eval s = v) (hown : w.ownsRow base 115 5 v n xs)
  (g : Nat) (hx : a.eval x = .slice (some ⟨g, 0, none⟩) 1 1) (news : List Value) (hl : news.length = 5) (hnews : ∀ j u, news[j]? = some u → w.cell? ⟨g, j, none⟩ = some u) (h1 : ∀ u ∈ news, u.oneCell' = true) (hlen : n < 1000) (hbase : base ≤ w.heap.size)
  (h : ∀ v' w', w'.ownsRow base 115 5 v' (n + 1) (xs ++ news) → w.grownBy w' v.ownBlock → K (a.put o.dst v') w') :
  if Region.wanted o (yielded ops a.tmps) = true then Oper.wp Tryz.prog o a w K Q' else E := by
 have hw : Region.wanted o (yielded ops a.tmps) = true := by simp [Region.wanted, hgd]
 rw [if_pos hw]
 obtain ⟨i, hi, hz, hs1, hb⟩ := infoL
 obtain ⟨v', w', hr, h2, h3, _, _⟩ := run_append_own_at (P := Tryz.prog) w base 23 o.type 115 i _ 5 48 Tryz.underlying23 hi hz hs1 hb rfl (by decide) v n xs hown ⟨g, 0, none⟩ 1 1 news (by rw [hl])
  (fun j u hj => by
   have e : (⟨g, 0, none⟩ : Addr).add j = ⟨g, j, none⟩ := by unfold Addr.add; split <;> simp_all
   rw [e]
   exact hnews j u hj) h1 (by unfold maxLen; omega) (by omega) hbase
 unfold Oper.wp execOp
 simp only [ho, resolve, invoke, builtin, Sem.run_bind, Sem.run_pure, Result.andThen_ok, List.map_toArray, List.map_cons, List.map_nil, hs, hx, hr]
 exact h v' w' h2 h3
theorem step_appS {ops : Array Oper} {o : Oper} {a : Act} {w : World} {K : Act → World → Prop} {Q' : Exit → Act → World → Prop} {E : Prop} (hgd : o.guard = none) (s x : Operand)
  (ho : o.op = .call { callee := .builtin .append, args := #[s, x], argTypes := #[24, 24] }) (base : Nat) (v : Value) (n : Nat) (xs : List Value) (hs : a.eval s = v) (hown : w.ownsRow base 95 6 v n xs)
  (g : Nat) (hx : a.eval x = .slice (some ⟨g, 0, none⟩) 1 1) (news : List Value) (hl : news.length = 6) (hnews : ∀ j u, news[j]? = some u → w.cell? ⟨g, j, none⟩ = some u) (h1 : ∀ u ∈ news, u.oneCell' = true) (hlen : n < 1000) (hbase : base ≤ w.heap.size)
  (h : ∀ v' w', w'.ownsRow base 95 6 v' (n + 1) (xs ++ news) → w.grownBy w' v.ownBlock → K (a.put o.dst v') w') :
  if Region.wanted o (yielded ops a.tmps) = true then Oper.wp Tryz.prog o a w K Q' else E := by
 have hw : Region.wanted o (yielded ops a.tmps) = true := by simp [Region.wanted, hgd]
 rw [if_pos hw]
 obtain ⟨i, hi, hz, hs1, hb⟩ := infoS
 obtain ⟨v', w', hr, h2, h3, _, _⟩ := run_append_own_at (P := Tryz.prog) w base 24 o.type 95 i _ 6 56 Tryz.underlying24 hi hz hs1 hb rfl (by decide) v n xs hown ⟨g, 0, none⟩ 1 1 news (by rw [hl])
  (fun j u hj => by
   have e : (⟨g, 0, none⟩ : Addr).add j = ⟨g, j, none⟩ := by unfold Addr.add; split <;> simp_all
   rw [e]
   exact hnews j u hj) h1 (by unfold maxLen; omega) (by omega) hbase
 unfold Oper.wp execOp
 simp only [ho, resolve, invoke, builtin, Sem.run_bind, Sem.run_pure, Result.andThen_ok, List.map_toArray, List.map_cons, List.map_nil, hs, hx, hr]
 exact h v' w' h2 h3
theorem step_appY {ops : Array Oper} {o : Oper} {a : Act} {w : World} {K : Act → World → Prop} {Q' : Exit → Act → World → Prop} {E : Prop} (hgd : o.guard = none) (s x : Operand)
  (ho : o.op = .call { callee := .builtin .append, args := #[s, x], argTypes := #[25, 25] }) (base : Nat) (v : Value) (n : Nat) (xs : List Value) (hs : a.eval s = v) (hown : w.ownsRow base 91 12 v n xs)
  (g : Nat) (hx : a.eval x = .slice (some ⟨g, 0, none⟩) 1 1) (news : List Value) (hl : news.length = 12) (hnews : ∀ j u, news[j]? = some u → w.cell? ⟨g, j, none⟩ = some u) (h1 : ∀ u ∈ news, u.oneCell' = true) (hlen : n < 1000) (hbase : base ≤ w.heap.size)
  (h : ∀ v' w', w'.ownsRow base 91 12 v' (n + 1) (xs ++ news) → w.grownBy w' v.ownBlock → K (a.put o.dst v') w') :
  if Region.wanted o (yielded ops a.tmps) = true then Oper.wp Tryz.prog o a w K Q' else E := by
 have hw : Region.wanted o (yielded ops a.tmps) = true := by simp [Region.wanted, hgd]
 rw [if_pos hw]
 obtain ⟨i, hi, hz, hs1, hb⟩ := infoY
 obtain ⟨v', w', hr, h2, h3, _, _⟩ := run_append_own_at (P := Tryz.prog) w base 25 o.type 91 i _ 12 120 Tryz.underlying25 hi hz hs1 hb rfl (by decide) v n xs hown ⟨g, 0, none⟩ 1 1 news (by rw [hl])
  (fun j u hj => by
   have e : (⟨g, 0, none⟩ : Addr).add j = ⟨g, j, none⟩ := by unfold Addr.add; split <;> simp_all
   rw [e]
   exact hnews j u hj) h1 (by unfold maxLen; omega) (by omega) hbase
 unfold Oper.wp execOp
 simp only [ho, resolve, invoke, builtin, Sem.run_bind, Sem.run_pure, Result.andThen_ok, List.map_toArray, List.map_cons, List.map_nil, hs, hx, hr]
 exact h v' w' h2 h3
theorem wpList_put {ops : Array Oper} {rest : List Oper} {o : Oper} {a : Act} {w : World} {Q' : Exit → Act → World → Prop} (hgd : o.guard = none) (mm xx vv : Operand) (ho : o.op = .mapUpdate 172 mm xx vv) (m : Nat) (x : ByteArray) (seen : List ByteArray)
  (hm : a.eval mm = .map (some m)) (hx : a.eval xx = .string x) (hv : a.eval vv = .bool true) (hs : SeenM w m seen) (hsz : x.size ≤ 12) (hl : seen.length < 1000)
  (h : ∀ w', SeenM w' m (seen ++ [x]) → w.grownBy w' (some m) → wpList Tryz.prog ops Q' rest (a.put o.dst undef) w') : wpList Tryz.prog ops Q' (o :: rest) a w := by
 obtain ⟨D, hD, h2⟩ := hs
 refine wpList_mapUpdate_own w hgd mm xx vv 172 ho 9 4 lawStr Tryz.underlying172 (plainElem Tryz.prog 4) m seen.length D hm hD (by unfold maxLen; omega) (.string x) (.bool true) _ hx hv (WideMaps.keyOf_string_mk Tryz.underlying9 (Nat.le_trans hsz (by decide))) (.lit (.bool true)) [] (plainElem_bool Tryz.underlying4 true) ?_
 intro w' h3 h4
 exact h w' (seen_put hD h2 h3) h4
theorem str_one {w : World} {g : Nat} {s : ByteArray} (h : w.cell? ⟨g, 0, none⟩ = some (.string s)) : ∀ j u, [Value.string s][j]? = some u → w.cell? ⟨g, j, none⟩ = some u := by
 intro j u hj
 match j, hj with
 | 0, hj => simp at hj; subst hj; exact h
theorem bus_c (W0 w : World) (b m : Nat) (vB vL vS vY : Value) (seen : List ByteArray) (nb nl ns : Nat) (ys : List Byr) (x : ByteArray) (h : Bld W0 w b m vB vL vS vY seen nb nl ns ys) (hx : (x.size : Int) ≤ 9223372036854775807) (hl : seen.length < 1000) (hn : nb < 1000) :
  Calls Tryz.prog 58 #[.pointer (some ⟨b, 0, none⟩), .string x] w (RetB W0 (nmE seen x) fun w' => ∃ v', Bld W0 w' b m v' vL vS vY (seen ++ [x]) (nb + 1) nl ns ys) := by
 have NM := hh (bname_c b m _ x seen w h.hb rfl h.sn hx)
 have c5 := h.hb.cell 5
 simp only [List.getElem?_toArray, List.getElem?_cons_zero, List.getElem?_cons_succ] at c5
 have ob := h.hb.old
 by_cases hE : nmE seen x = 0
 rotate_left
 ·have HQ := hh h.q
  have HE := hh hE
  generalize nmE seen x = E at NM HE ⊢
  have hE' : ¬ E = 0 := HE.o
  clear h hE
  go_enter Tryz.func58, Tryz.ntmps58
  go_wp2_with (first | (go_at_call 91; (with_reducible refine NM.o.p ?_)) | fail)
  go_ret
  exact ⟨rfl, HQ.o, fun e => absurd e HE.o⟩
 obtain ⟨w1, hr, hs, hg⟩ := h.sn.put x (Nat.le_trans (nmB_size (nmE_zero hE)) (by decide)) (by unfold maxLen; omega)
 have h1 := h.seen hs hg
 have HB1 := hh h1
 obtain ⟨xB, hB⟩ := h1.rB
 have c1 := h1.hb.cell 1
 simp only [List.getElem?_toArray, List.getElem?_cons_zero, List.getElem?_cons_succ] at c1
 have ob1 := h1.hb.old
 have HBr := hh hB
 have hz := h1.q.below.size
 have hz' : w1.heap.size + 1 = (w1.alloc (.cells #[.string x] 9)).heap.size := by simp
 rw [hE] at NM
 have HE := hh hE
 rw [hE]
 clear h h1 hs hg hB hE
 go_enter Tryz.func58, Tryz.ntmps58
 go_wp2_with (first | (go_at_call 91; (with_reducible refine NM.o.p ?_)) | (at_builtin; go_loud (refine wpList_appB rfl _ _ rfl W0.heap.size vB nb xB rfl (ownsRow_q HBr.o Q.i) _ rfl [.string x] rfl (str_one (by simp [go_sem])) (by intro u hu; rw [List.mem_singleton] at hu; subst hu; rfl) hn (by simp; omega) ?_); intro v' w2 hown hg2; obtain ⟨gv, cv, rfl⟩ := own_slice hown (by omega); have hb2 := HB1.o.boxB hg2; have f1 := hb2.soft 1; have c2 := hb2.cell 1; simp only [List.getElem?_toArray, List.getElem?_cons_zero, List.getElem?_cons_succ] at c2; have ob2 := hb2.old; go_loud (have HF := hh (HB1.o.putB hg2 hown)); clear hb2 hown hg2) | fail)
 go_ret
 exact ⟨rfl, HF.o.q, fun _ => ⟨_, HF.o⟩⟩
end Go.Proofs.YtcjflafjmdfanaaGreatDoor


/- The ways round a ring: which nodes the two iterators hand over. -/
import Derived.RangeFuncNested
import Derived.RangeFuncBound
import Derived.RangeFuncCalls
import Derived.RangeFuncLeaves
import Derived.Shelf.Abstract
import Derived.Shelf.RegionOpen
import Derived.OwnWalkIn
import Derived.TacticsInMore
import Derived.LoopNIn
import Derived.LoopIn
import Derived.Test.YtfdpnephjpcnbaaDoorBz05
import Derived.Test.YtfdpnephjpcnbaaDoorBz14
set_option linter.unusedSimpArgs false
set_option linter.unusedVariables false
set_option linter.unusedVariables false
set_option linter.unusedSimpArgs false
namespace Go.Proofs.YtfdpnephjpcnbaaDoor
open Go.RowKit Go.Sub Go.Shelf
attribute [local go_sem] Oper.semAt_some
/-- What a round keeps: the cells of the blocks below B but for block r. -/
def KeptR (B r : Nat) (W W' : World) : Prop := ∀ b i, b < B → b ≠ r → W'.cell? ⟨b, i, none⟩ = W.cell? ⟨b, i, none⟩
theorem KeptR.refl (B r : Nat) (W : World) : KeptR B r W W := fun _ _ _ _ => rfl
theorem KeptR.trans {B r : Nat} {W W' W'' : World} (h : KeptR B r W W') (h' : KeptR B r W' W'') : KeptR B r W W'' := fun b i hb hr => (h' b i hb hr).trans (h b i hb hr)
theorem KeptR.of_below {B r : Nat} {W W' : World} (h : Below B W W') : KeptR B r W W' := fun b i hb _ => h.cell (p := ⟨b, i, none⟩) hb
/-- What the iterators read: the ring's box, the node's box, the links. -/
structure RingW (B r : Nat) (W : World) (p1 p2 : Nat) (g o n c : Nat) (C : Nat → Bool) (s : Nat) : Prop where
  lt1 : p1 < B ∧ p1 ≠ r
  lt2 : p2 < B ∧ p2 ≠ r
  ltg : g < B ∧ g ≠ r
  box : W.cell? ⟨p1, 0, none⟩ = some (.slice (some ⟨g, o, none⟩) n c)
  node : W.cell? ⟨p2, 0, none⟩ = some (.int .i64 (s : Int))
  cut : ∀ i, i < n → W.cell? ⟨g, o + i, none⟩ = some (.bool (C i))
theorem RingW.kept {B r : Nat} {W W' : World} {p1 p2 g o n c : Nat} {C : Nat → Bool} {s : Nat} (h : RingW B r W p1 p2 g o n c C s) (hb : KeptR B r W W') : RingW B r W' p1 p2 g o n c C s :=
  ⟨h.lt1, h.lt2, h.ltg, (hb _ _ h.lt1.1 h.lt1.2).trans h.box, (hb _ _ h.lt2.1 h.lt2.2).trans h.node, fun i hi => (hb _ _ h.ltg.1 h.ltg.2).trans (h.cut i hi)⟩
/-- A node of the ring and its hops. -/
abbrev NH (n : Nat) := { x : Nat × Nat // x.1 < n }
abbrev encNH {n : Nat} (x : NH n) : Array Value := #[.int .i64 (x.1.1 : Int), .int .i64 (x.1.2 : Int)]
set_option maxRecDepth 100000 in
set_option maxHeartbeats 2000000 in
theorem asc_stops (F : Fence) (m : Nat) (hF : F.fn 91) (hro : F.round = none) (hm : 1 ≤ m) (p1 p2 B r g o n c : Nat) (C : Nat → Bool) (s : Nat) (w : World) (h0 : B ≤ w.heap.size) (hR : RingW B r w p1 p2 g o n c C s) (hs : s < n) (n1 : 3 ≤ n) (n2 : n ≤ 14) :
    SeqStopsK F m Tryd.prog 91 #[.pointer (some ⟨p1, 0, none⟩), .pointer (some ⟨p2, 0, none⟩)] (encNH (n := n)) (KeptR B r) (fun xs => xs.map (·.1) = ascL C n (n - 1) s) (fun _ => True) (ascL C n (n - 1) s).length w := fun l J Jx W hW hJ hJx hY hJ0 => by
  have hRW := hR.kept (KeptR.of_below (hW.mono h0))
  clear hR hW
  have HR := Lib.hid hRW
  have hb1 := hRW.box
  have hb2 := hRW.node
  clear hRW
  refine callsIn_of_wp Tryd.func91 rfl hF ?_ hro
  simp only [Tryd.ntmps91, List.size_toArray, List.length_cons, List.length_nil, Nat.reduceAdd, Nat.reduceSub, Array.replicate_succ, Array.replicate_zero, List.push_toArray, List.append_toArray, List.nil_append, List.cons_append]
  gi_wp2
  clear hb1 hb2
  gi_loopw [5, 6] (fun nd hp wr => ∃ (pre : List (NH n)) (h x : Nat), nd = .int .i64 (x : Int) ∧ hp = .int .i64 (h : Int) ∧ 1 ≤ h ∧ h ≤ n ∧ x < n ∧ Hid (ascL C n (n - 1) s = pre.map (·.1) ++ ascL C n (n - h) x) ∧ Hid (KeptR B r W wr) ∧ Hid (J pre wr)) (fun _ hp _ => n - (intOf hp).toNat)
  case atStart => exact ⟨[], 1, s, rfl, rfl, by omega, by omega, hs, Lib.hid rfl, Lib.hid (KeptR.refl _ _ _), Lib.hid hJ0⟩
  case round =>
    obtain ⟨pre, h, x, rfl, rfl, h1, hn, hx, HL, HB, HJ⟩ := hrel
    have hRw := HR.out.kept HB.out
    have c1 := hRw.box
    by_cases hlt : h < n
    · have hf : n - h = (n - (h + 1)) + 1 := by omega
      have HL1 := HL.out
      rw [hf, ascL] at HL1
      have hE0 : (((x + 1) : Nat) : Int) = (x : Int) + 1 := by omega
      have hE2 : ((x : Int) + 1) % (n : Int) = ((((x + 1) % n) : Nat) : Int) := by rw [← hE0, Int.natCast_emod]
      have hE : ((x : Int) + 1).tmod (n : Int) = ((((x + 1) % n) : Nat) : Int) := by rw [Int.tmod_eq_emod_of_nonneg (by omega), hE2]
      clear hE0
      have hcx := hRw.cut x hx
      have hx1 : ((x + 1) % n) < n := Nat.mod_lt _ (by omega)
      clear hRw hf
      have hhop : n - (n - (h + 1) + 1) = h := by omega
      rw [hhop] at HL1
      clear hhop
      have HL2 := Lib.hid HL1
      clear HL1
      obtain ⟨y, ey⟩ : ∃ y, ((x + 1) % n) = y := ⟨_, rfl⟩
      rw [ey] at HL2 hE hE2 hx1
      clear ey
      cases hC : C x with
      | true =>
        rw [hC] at hcx HL2
        clear hC
        have HL3 : Hid (ascL C n (n - 1) s = pre.map (·.1)) := Lib.hid (by simpa using HL2.out)
        clear HL2
        gi_wp2
        refine bodyPost_ret (results_none rfl _ _ _) rfl ?_
        exact ⟨⟨_, rfl⟩, .inl ⟨pre, HL3.out.symm, HJ.out⟩⟩
      | false =>
        rw [hC] at hcx HL2
        clear hC
        have HL3 : Hid (ascL C n (n - 1) s = pre.map (·.1) ++ (y, h) :: ascL C n (n - (h + 1)) y) := Lib.hid (by simpa using HL2.out)
        obtain ⟨fn, tmps, assign, body, hy, hR⟩ := hY pre ⟨(y, h), hx1⟩ wr HJ.out (by rw [HL3.out]; simp)
        clear HL2
        gi_wp2
        refine hR.mono ?_
        rintro e W3 (⟨rfl, hJ3, hk3⟩ | ⟨rfl, hJx3⟩)
        · have HJ3 := Lib.hid hJ3
          have HB3 := Lib.hid (HB.out.trans hk3)
          clear hJ3 hk3
          gi_wp2
          go_roundw
          case rel => exact ⟨pre ++ [⟨(y, h), hx1⟩], h + 1, y, rfl, by go_num, by omega, by omega, hx1, Lib.hid (by rw [HL3.out]; simp), HB3, HJ3⟩
          case measure => simp [intOf]; omega
        · gi_wp2
          refine bodyPost_ret (results_none rfl _ _ _) rfl ?_
          first | exact ⟨⟨_, rfl⟩, .inr ⟨_, hJx3⟩⟩ | exact ⟨⟨_, rfl⟩, .inr ⟨_, trivial, hJx3⟩⟩
    · obtain rfl : h = n := by omega
      clear hRw
      gi_wp2
      go_end0
      exact ⟨⟨_, rfl⟩, .inl ⟨pre, by rw [HL.out, Nat.sub_self]; simp [ascL], HJ.out⟩⟩
set_option maxRecDepth 100000 in
set_option maxHeartbeats 2000000 in
theorem desc_stops (F : Fence) (m : Nat) (hF : F.fn 92) (hro : F.round = none) (hm : 1 ≤ m) (p1 p2 B r g o n c : Nat) (C : Nat → Bool) (s : Nat) (w : World) (h0 : B ≤ w.heap.size) (hR : RingW B r w p1 p2 g o n c C s) (hs : s < n) (n1 : 3 ≤ n) (n2 : n ≤ 14) :
    SeqStopsK F m Tryd.prog 92 #[.pointer (some ⟨p1, 0, none⟩), .pointer (some ⟨p2, 0, none⟩)] (encNH (n := n)) (KeptR B r) (fun xs => xs.map (·.1) = descL C n (n - 1) s) (fun _ => True) (descL C n (n - 1) s).length w := fun l J Jx W hW hJ hJx hY hJ0 => by
  have hRW := hR.kept (KeptR.of_below (hW.mono h0))
  clear hR hW
  have HR := Lib.hid hRW
  have hb1 := hRW.box
  have hb2 := hRW.node
  clear hRW
  refine callsIn_of_wp Tryd.func92 rfl hF ?_ hro
  simp only [Tryd.ntmps92, List.size_toArray, List.length_cons, List.length_nil, Nat.reduceAdd, Nat.reduceSub, Array.replicate_succ, Array.replicate_zero, List.push_toArray, List.append_toArray, List.nil_append, List.cons_append]
  gi_wp2
  clear hb1 hb2
  gi_loopw [5, 6] (fun nd hp wr => ∃ (pre : List (NH n)) (h x : Nat), nd = .int .i64 (x : Int) ∧ hp = .int .i64 (h : Int) ∧ 1 ≤ h ∧ h ≤ n ∧ x < n ∧ Hid (descL C n (n - 1) s = pre.map (·.1) ++ descL C n (n - h) x) ∧ Hid (KeptR B r W wr) ∧ Hid (J pre wr)) (fun _ hp _ => n - (intOf hp).toNat)
  case atStart => exact ⟨[], 1, s, rfl, rfl, by omega, by omega, hs, Lib.hid rfl, Lib.hid (KeptR.refl _ _ _), Lib.hid hJ0⟩
  case round =>
    obtain ⟨pre, h, x, rfl, rfl, h1, hn, hx, HL, HB, HJ⟩ := hrel
    have hRw := HR.out.kept HB.out
    have c1 := hRw.box
    by_cases hlt : h < n
    · have hf : n - h = (n - (h + 1)) + 1 := by omega
      have HL1 := HL.out
      rw [hf, descL] at HL1
      have hE0 : (((x + n - 1) : Nat) : Int) = (x : Int) + (n : Int) - 1 := by omega
      have hE2 : ((x : Int) + (n : Int) - 1) % (n : Int) = ((((x + n - 1) % n) : Nat) : Int) := by rw [← hE0, Int.natCast_emod]
      have hE : ((x : Int) + (n : Int) - 1).tmod (n : Int) = ((((x + n - 1) % n) : Nat) : Int) := by rw [Int.tmod_eq_emod_of_nonneg (by omega), hE2]
      clear hE0
      have hcx := hRw.cut ((x + n - 1) % n) (Nat.mod_lt _ (by omega))
      have hx1 : ((x + n - 1) % n) < n := Nat.mod_lt _ (by omega)
      clear hRw hf
      have hhop : n - (n - (h + 1) + 1) = h := by omega
      rw [hhop] at HL1
      clear hhop
      have HL2 := Lib.hid HL1
      clear HL1
      obtain ⟨y, ey⟩ : ∃ y, ((x + n - 1) % n) = y := ⟨_, rfl⟩
      rw [ey] at HL2 hE hE2 hx1 hcx
      clear ey
      cases hC : C y with
      | true =>
        rw [hC] at hcx HL2
        clear hC
        have HL3 : Hid (descL C n (n - 1) s = pre.map (·.1)) := Lib.hid (by simpa using HL2.out)
        clear HL2
        gi_wp2
        refine ⟨fun _ h => (by cases h), ?_⟩
        gi_wp2
        refine bodyPost_ret (results_none rfl _ _ _) rfl ?_
        exact ⟨⟨_, rfl⟩, .inl ⟨pre, HL3.out.symm, HJ.out⟩⟩
      | false =>
        rw [hC] at hcx HL2
        clear hC
        have HL3 : Hid (descL C n (n - 1) s = pre.map (·.1) ++ (y, h) :: descL C n (n - (h + 1)) y) := Lib.hid (by simpa using HL2.out)
        obtain ⟨fn, tmps, assign, body, hy, hR⟩ := hY pre ⟨(y, h), hx1⟩ wr HJ.out (by rw [HL3.out]; simp)
        clear HL2
        gi_wp2
        refine hR.mono ?_
        rintro e W3 (⟨rfl, hJ3, hk3⟩ | ⟨rfl, hJx3⟩)
        · have HJ3 := Lib.hid hJ3
          have HB3 := Lib.hid (HB.out.trans hk3)
          clear hJ3 hk3
          gi_wp2
          go_roundw
          case rel => exact ⟨pre ++ [⟨(y, h), hx1⟩], h + 1, y, rfl, by go_num, by omega, by omega, hx1, Lib.hid (by rw [HL3.out]; simp), HB3, HJ3⟩
          case measure => simp [intOf]; omega
        · gi_wp2
          refine bodyPost_ret (results_none rfl _ _ _) rfl ?_
          first | exact ⟨⟨_, rfl⟩, .inr ⟨_, hJx3⟩⟩ | exact ⟨⟨_, rfl⟩, .inr ⟨_, trivial, hJx3⟩⟩
    · obtain rfl : h = n := by omega
      clear hRw
      gi_wp2
      go_end0
      exact ⟨⟨_, rfl⟩, .inl ⟨pre, by rw [HL.out, Nat.sub_self]; simp [descL], HJ.out⟩⟩
end Go.Proofs.YtfdpnephjpcnbaaDoor

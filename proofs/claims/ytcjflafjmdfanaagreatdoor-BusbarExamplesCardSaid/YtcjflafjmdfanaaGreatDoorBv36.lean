
/- What source of the law returns: a diagram of one bus with two source bays. -/
import Derived.Test.YtcjflafjmdfanaaGreatDoorBv35
import Derived.Great.BuildSlice
set_option maxHeartbeats 64000000
set_option maxRecDepth 100000
set_option linter.unusedSimpArgs false
set_option linter.unusedVariables false
namespace Go.Sub
open Go
def sta0 (aB aS aY : Option Addr) (cY : Nat) (l0 l1 : Option Addr) : Sta :=
 { nm := ⟨#[115]⟩, buses := [⟨#[65]⟩], lines := [], srcs := [⟨⟨#[71]⟩, 10, ⟨0, 1⟩, ⟨0, 1⟩⟩, ⟨⟨#[72]⟩, 10, ⟨0, 1⟩, ⟨0, 1⟩⟩], bays := [⟨⟨#[103]⟩, 2, 0, 0, 0, 0, l0, 1, 1, true, 1, 1, 0, 1⟩, ⟨⟨#[104]⟩, 2, 1, 0, 0, 0, l1, 1, 1, true, 1, 1, 0, 1⟩], lks := fun _ => [⟨0, 1⟩], aB := aB, cB := 1, aL := none, cL := 0, aS := aS, cS := 2, aY := aY,cY := cY }
def wav0 (n : Int) : List Int := [10 * n, 9 * n, 5 * n, 0, -5 * n, -9 * n, -10 * n, -9 * n, -5 * n, 0, 5 * n, 9 * n] ++ List.replicate 60 0
end Go.Sub
namespace Go.Proofs.YtcjflafjmdfanaaGreatDoor
open Go.RowKit Go.Sub
def SrcRet (a b : Int) (w : World) (e : Ending) (w' : World) : Prop := ∃ (aB aS aY : Option Addr) (cY : Nat) (l0 l1 : Option Addr) (p : Pos) (aW : Option Addr) (cW : Nat) (aG : Option Addr),
 e = .returned (.agg (caseC (.string ⟨#[115]⟩) (.slice aB 1 1) (.slice none 0 0) (.slice aS 2 2) (.slice aY 2 cY) (.slice p.aC p.closed.length p.cC) (.slice p.aK p.rows.length p.cK) rel0 (.slice aW 2 cW) (.slice aG 2 2))) ∧ Q w w' ∧
 StAt w' (sta0 aB aS aY cY l0 l1) ∧ PosAt w' p ∧ p.closed = [true, true] ∧ p.rows.map Ro.l = [[1], [1]] ∧ WvAt w' aW 2 cW (wav0 a ++ wav0 b) ∧ GdAt w' aG 2 2 [true, true]
theorem sta0_e (aB aS aY : Option Addr) (cY : Nat) (l0 l1 : Option Addr) : stE (sta0 aB aS aY cY l0 l1) = 0 := by kernel_rfl
attribute [local go_sem ↓] Go.wp_at_zero Go.wp_at_succ
theorem infoBay : ∃ i, Tryz.prog.info? 91 = some i ∧ i.zero = some (.agg #[.string ByteArray.empty, .int .i64 0, .int .i64 0, .int .i64 0, .int .i64 0, .int .i64 0, .slice none 0 0, .bool false, .int .i64 0, .int .i64 0, .int .i64 0, .int .i64 0]) ∧ i.size = 12 ∧ i.bytes = 120 := by
 have h : (Tryz.prog.info? 91).map (fun i => (i.zero, i.size, i.bytes)) = some (some (.agg #[.string ByteArray.empty, .int .i64 0, .int .i64 0, .int .i64 0, .int .i64 0, .int .i64 0, .slice none 0 0, .bool false, .int .i64 0, .int .i64 0, .int .i64 0, .int .i64 0]), 12, 120) := by kernel_rfl
 cases hi : Tryz.prog.info? 91 with
 | none => rw [hi] at h; cases h
 | some i =>
  rw [hi] at h
  simp only [Option.map_some, Option.some.injEq, Prod.mk.injEq] at h
  exact ⟨i, rfl, h.1, h.2.1, h.2.2⟩
theorem infoWave : ∃ i, Tryz.prog.info? 72 = some i ∧ i.zero = some (.agg #[Value.int .i64 0, Value.int .i64 0, Value.int .i64 0, Value.int .i64 0, Value.int .i64 0, Value.int .i64 0, Value.int .i64 0, Value.int .i64 0, Value.int .i64 0, Value.int .i64 0, Value.int .i64 0, Value.int .i64 0, Value.int .i64 0, Value.int .i64 0, Value.int .i64 0, Value.int .i64 0, Value.int .i64 0, Value.int .i64 0, Value.int .i64 0, Value.int .i64 0, Value.int .i64 0, Value.int .i64 0, Value.int .i64 0, Value.int .i64 0, Value.int .i64 0, Value.int .i64 0, Value.int .i64 0, Value.int .i64 0, Value.int .i64 0, Value.int .i64 0, Value.int .i64 0, Value.int .i64 0, Value.int .i64 0, Value.int .i64 0, Value.int .i64 0, Value.int .i64 0, Value.int .i64 0, Value.int .i64 0, Value.int .i64 0, Value.int .i64 0, Value.int .i64 0, Value.int .i64 0, Value.int .i64 0, Value.int .i64 0, Value.int .i64 0, Value.int .i64 0, Value.int .i64 0, Value.int .i64 0, Value.int .i64 0, Value.int .i64 0, Value.int .i64 0, Value.int .i64 0, Value.int .i64 0, Value.int .i64 0, Value.int .i64 0, Value.int .i64 0, Value.int .i64 0, Value.int .i64 0, Value.int .i64 0, Value.int .i64 0, Value.int .i64 0, Value.int .i64 0, Value.int .i64 0, Value.int .i64 0, Value.int .i64 0, Value.int .i64 0, Value.int .i64 0, Value.int .i64 0, Value.int .i64 0, Value.int .i64 0, Value.int .i64 0, Value.int .i64 0]) ∧ i.size = 72 ∧ i.bytes = 576 := by
 have h : (Tryz.prog.info? 72).map (fun i => (i.zero, i.size, i.bytes)) = some (some (.agg #[Value.int .i64 0, Value.int .i64 0, Value.int .i64 0, Value.int .i64 0, Value.int .i64 0, Value.int .i64 0, Value.int .i64 0, Value.int .i64 0, Value.int .i64 0, Value.int .i64 0, Value.int .i64 0, Value.int .i64 0, Value.int .i64 0, Value.int .i64 0, Value.int .i64 0, Value.int .i64 0, Value.int .i64 0, Value.int .i64 0, Value.int .i64 0, Value.int .i64 0, Value.int .i64 0, Value.int .i64 0, Value.int .i64 0, Value.int .i64 0, Value.int .i64 0, Value.int .i64 0, Value.int .i64 0, Value.int .i64 0, Value.int .i64 0, Value.int .i64 0, Value.int .i64 0, Value.int .i64 0, Value.int .i64 0, Value.int .i64 0, Value.int .i64 0, Value.int .i64 0, Value.int .i64 0, Value.int .i64 0, Value.int .i64 0, Value.int .i64 0, Value.int .i64 0, Value.int .i64 0, Value.int .i64 0, Value.int .i64 0, Value.int .i64 0, Value.int .i64 0, Value.int .i64 0, Value.int .i64 0, Value.int .i64 0, Value.int .i64 0, Value.int .i64 0, Value.int .i64 0, Value.int .i64 0, Value.int .i64 0, Value.int .i64 0, Value.int .i64 0, Value.int .i64 0, Value.int .i64 0, Value.int .i64 0, Value.int .i64 0, Value.int .i64 0, Value.int .i64 0, Value.int .i64 0, Value.int .i64 0, Value.int .i64 0, Value.int .i64 0, Value.int .i64 0, Value.int .i64 0, Value.int .i64 0, Value.int .i64 0, Value.int .i64 0, Value.int .i64 0]), 72, 576) := by kernel_rfl
 cases hi : Tryz.prog.info? 72 with
 | none => rw [hi] at h; cases h
 | some i =>
  rw [hi] at h
  simp only [Option.map_some, Option.some.injEq, Prod.mk.injEq] at h
  exact ⟨i, rfl, h.1, h.2.1, h.2.2⟩
theorem wpList_app_bay {ops : Array Oper} {rest : List Oper} {o : Oper} {a : Act} {w : World} {Q' : Exit → Act → World → Prop} (hgd : o.guard = none) (s x : Operand)
  (ho : o.op = .call { callee := .builtin .append, args := #[s, x], argTypes := #[25, 25] }) (W0 : World) (v : Value) (n : Nat) (xs news : List Value) (g : Nat)
  (hs : a.eval s = v) (hx : a.eval x = .slice (some ⟨g, 0, none⟩) 1 1) (hown : w.ownsRow W0.heap.size 91 12 v n xs) (hl : news.length = 12) (hg : ∀ j u, news[j]? = some u → w.cell? ⟨g, j, none⟩ = some u) (h1 : ∀ u ∈ news, u.oneCell' = true) (hlen : n < 1000) (hQ : Q W0 w)
  (h : ∀ A' c' kk, (W0.jk kk).ownsRow W0.heap.size 91 12 (.slice A' (n + 1) c') (n + 1) (xs ++ news) → Grown W0.heap.size v (.slice A' (n + 1) c') w (W0.jk kk) → wpList Tryz.prog ops Q' rest (a.put o.dst (.slice A' (n + 1) c')) (W0.jk kk)) : wpList Tryz.prog ops Q' (o :: rest) a w := by
 obtain ⟨i, hi, hz, hs1, hb⟩ := infoBay
 refine wpList_app hgd s x 25 ho W0 91 i _ 12 120 Tryz.underlying25 hi hz hs1 hb rfl (by decide) v n xs hs hown ⟨g, 0, none⟩ 1 1 news hx (by rw [hl]) ?_ h1 (by unfold maxLen; omega) (by omega) hQ ?_
 ·intro j u hj
  rw [addr_add0, Nat.zero_add]
  exact hg j u hj
 intro v' kk h1 h2
 obtain ⟨A', c', rfl⟩ := own_slice' h1
 exact h A' c' kk h1 h2
theorem wpList_app_wave {ops : Array Oper} {rest : List Oper} {o : Oper} {a : Act} {w : World} {Q' : Exit → Act → World → Prop} (hgd : o.guard = none) (s x : Operand)
  (ho : o.op = .call { callee := .builtin .append, args := #[s, x], argTypes := #[45, 45] }) (W0 : World) (v : Value) (n : Nat) (xs news : List Value) (g : Nat)
  (hs : a.eval s = v) (hx : a.eval x = .slice (some ⟨g, 0, none⟩) 1 1) (hown : w.ownsRow W0.heap.size 72 72 v n xs) (hl : news.length = 72) (hg : ∀ j u, news[j]? = some u → w.cell? ⟨g, j, none⟩ = some u) (h1 : ∀ u ∈ news, u.oneCell' = true) (hlen : n < 1000) (hQ : Q W0 w)
  (h : ∀ A' c' kk, (W0.jk kk).ownsRow W0.heap.size 72 72 (.slice A' (n + 1) c') (n + 1) (xs ++ news) → Grown W0.heap.size v (.slice A' (n + 1) c') w (W0.jk kk) → wpList Tryz.prog ops Q' rest (a.put o.dst (.slice A' (n + 1) c')) (W0.jk kk)) : wpList Tryz.prog ops Q' (o :: rest) a w := by
 obtain ⟨i, hi, hz, hs1, hb⟩ := infoWave
 refine wpList_app hgd s x 45 ho W0 72 i _ 72 576 Tryz.underlying45 hi hz hs1 hb rfl (by decide) v n xs hs hown ⟨g, 0, none⟩ 1 1 news hx (by rw [hl]) ?_ h1 (by unfold maxLen; omega) (by omega) hQ ?_
 ·intro j u hj
  rw [addr_add0, Nat.zero_add]
  exact hg j u hj
 intro v' kk h1 h2
 obtain ⟨A', c', rfl⟩ := own_slice' h1
 exact h A' c' kk h1 h2
theorem rdv_of_hb {w : World} {g : Nat} {cs : Array Value} {t : TypeId} (hb : HB w g cs t) (n c size : Nat) (vs : List Value) (hv : cs = vs.toArray) (hl : vs.length = n * size) (hc : n ≤ c) : RdV w (some ⟨g, 0, none⟩) n c size vs := by
 subst hv
 refine ⟨hl, hc, fun _ => ⟨g, 0, rfl, hb.lt, fun i u hi => ?_⟩, fun e => by cases e⟩
 rw [hb.cell, Nat.zero_add]
 simpa using hi
class C72 (cs : Array Value) : Prop where
 eq : cs.size = 72
instance (x0 x1 x2 x3 x4 x5 x6 x7 x8 x9 x10 x11 x12 x13 x14 x15 x16 x17 x18 x19 x20 x21 x22 x23 x24 x25 x26 x27 x28 x29 x30 x31 x32 x33 x34 x35 x36 x37 x38 x39 x40 x41 x42 x43 x44 x45 x46 x47 x48 x49 x50 x51 x52 x53 x54 x55 x56 x57 x58 x59 x60 x61 x62 x63 x64 x65 x66 x67 x68 x69 x70 x71 : Value) : C72 #[x0, x1, x2, x3, x4, x5, x6, x7, x8, x9, x10, x11, x12, x13, x14, x15, x16, x17, x18, x19, x20, x21, x22, x23, x24, x25, x26, x27, x28, x29, x30, x31, x32, x33, x34, x35, x36, x37, x38, x39, x40, x41, x42, x43, x44, x45, x46, x47, x48, x49, x50, x51, x52, x53, x54, x55, x56, x57, x58, x59, x60, x61, x62, x63, x64, x65, x66, x67, x68, x69, x70, x71] := ⟨rfl⟩
instance (x0 x1 x2 x3 x4 x5 x6 x7 x8 x9 x10 x11 : Value) (l : List Value) [h0 : OneC x0] [h1 : OneC x1] [h2 : OneC x2] [h3 : OneC x3] [h4 : OneC x4] [h5 : OneC x5] [h6 : OneC x6] [h7 : OneC x7] [h8 : OneC x8] [h9 : OneC x9] [h10 : OneC x10] [h11 : OneC x11] [h : Ones l.toArray] : Ones (List.toArray (x0 :: x1 :: x2 :: x3 :: x4 :: x5 :: x6 :: x7 :: x8 :: x9 :: x10 :: x11 :: l)) := ⟨by
 have hh := h.eq
 simp only [List.all_toArray] at hh ⊢
 simp only [List.all_cons, h0.eq, h1.eq, h2.eq, h3.eq, h4.eq, h5.eq, h6.eq, h7.eq, h8.eq, h9.eq, h10.eq, h11.eq, hh, Bool.and_true]⟩
instance : C72 Tryz.zeroCells72 := ⟨by kernel_rfl⟩
instance : Ones Tryz.zeroCells72 := ⟨by kernel_rfl⟩
instance (cs : Array Value) (i : Nat) (v : Value) [h : C72 cs] : C72 (cs.setIfInBounds i v) := ⟨by rw [Array.size_setIfInBounds]; exact h.eq⟩
instance (cs : Array Value) (i : Nat) (v : Value) [h : Ones cs] [h1 : OneC v] : Ones (cs.setIfInBounds i v) := ⟨by
 have h2 := h.eq
 rw [Array.all_eq_true] at h2 ⊢
 intro j hj
 rw [Array.getElem_setIfInBounds]
 split
 ·exact h1.eq
 ·exact h2 j (by rw [Array.size_setIfInBounds] at hj; exact hj)⟩
theorem infoWave72 : (Tryz.prog.info? 72).map (·.size) = some 72 := by kernel_rfl
@[go_sem ↓ high] theorem lvWave72 (a : Addr) : loadVar 72 a = bigLoad 72 a := rfl
@[go_sem ↓ high] theorem svWave72 (a : Addr) (v : Value) : storeVar 72 a v = bigStore 72 a v := rfl
@[go_sem ↓ high] theorem rlWave72 {w : World} {n : Nat} {cs : Array Value} {t : TypeId} {fr : Nat × Nat} [h : Blk w n (.cells cs t fr)] [hs : C72 cs] :
  (bigLoad 72 ⟨n, 0, none⟩).run Tryz.prog w = .ok (.agg cs) w := run_bigLoad Tryz.underlying72 rfl (by rw [hs.eq]; exact infoWave72)
@[go_sem ↓ high] theorem rsWave72 {w : World} {n : Nat} {cur cs : Array Value} {t : TypeId} [h : Blk w n (.cells cur t)] [hc : C72 cur] [hs : C72 cs] [h1 : Ones cs] :
  (bigStore 72 ⟨n, 0, none⟩ (.agg cs)).run Tryz.prog w = .ok () (w.setBlk n (.cells cs t)) := run_bigStore (by rw [hs.eq]; exact infoWave72) (by rw [hc.eq, hs.eq])
theorem caseC_lit (v0 v1 v2 v3 v4 v5 v6 v7 v8 : Value) : caseC v0 v1 v2 v3 v4 v5 v6 rel0 v7 v8 = #[v0, v1, v2, v3, v4, v5, v6, Value.string ⟨#[114]⟩, Value.int .i64 4, Value.int .i64 (-1), Value.bool false, Value.bool false, Value.int .i64 0, Value.int .i64 0, Value.int .i64 0, Value.int .i64 0, Value.bool false, Value.bool false, Value.int .i64 0, Value.int .i64 0, Value.int .i64 0, Value.int .i64 0, Value.bool false, Value.bool false, Value.int .i64 0, Value.int .i64 0, Value.int .i64 0, Value.int .i64 0, Value.int .i64 0, Value.int .i64 0, Value.int .i64 0, Value.int .i64 0, Value.int .i64 0, Value.int .i64 0, Value.bool false, Value.int .i64 0, Value.int .i64 0, Value.bool false, Value.int .i64 0, Value.int .i64 0, Value.bool false, Value.int .i64 0, Value.int .i64 0, Value.int .i64 0, Value.int .i64 0, Value.int .i64 0, Value.bool false, Value.int .i64 0, Value.int .i64 0, Value.bool false, Value.int .i64 0, Value.int .i64 0, Value.int .i64 5, Value.int .i64 1, Value.int .i64 2, Value.int .i64 0, Value.slice none 0 0, Value.slice none 0 0, Value.slice none 0 0, Value.slice none 0 0, v7, v8] := by
 simp [caseC, rel0]
theorem wav_nested (n : Int) : ((((((((((((Tryz.zeroCells72.setIfInBounds 0 (Value.int .i64 (10 * n))).setIfInBounds 1 (Value.int .i64 (9 * n))).setIfInBounds 2 (Value.int .i64 (5 * n))).setIfInBounds 3 (Value.int .i64 0)).setIfInBounds 4 (Value.int .i64 (-5 * n))).setIfInBounds 5 (Value.int .i64 (-9 * n))).setIfInBounds 6 (Value.int .i64 (-10 * n))).setIfInBounds 7 (Value.int .i64 (-9 * n))).setIfInBounds 8 (Value.int .i64 (-5 * n))).setIfInBounds 9 (Value.int .i64 0)).setIfInBounds 10 (Value.int .i64 (5 * n))).setIfInBounds 11 (Value.int .i64 (9 * n))).toList = (wav0 n).map (Value.int .i64) := by kernel_rfl
theorem wav_one (n : Int) : ∀ u ∈ (wav0 n).map (Value.int .i64), u.oneCell' = true := fun u hu => by
 obtain ⟨z, _, rfl⟩ := List.mem_map.1 hu
 rfl
theorem wav_len (n : Int) : ((wav0 n).map (Value.int .i64)).length = 72 := rfl
theorem wav_arr {n : Int} {C : Array Value} (h : C.toList = (wav0 n).map (Value.int .i64)) : C = ((wav0 n).map (Value.int .i64)).toArray := by
 apply Array.ext'
 rw [h]
theorem buildWave0 (n : Int) (w : World) : (Instr.buildSlice 45 1 #[(0, .agg ((wav0 n).map (Value.int .i64)).toArray)]).run Tryz.prog w = .ok (.slice (some ⟨w.heap.size, 0, none⟩) 1 1) (w.alloc (.cells ((wav0 n).map (Value.int .i64)).toArray 72)) := by
 obtain ⟨i, hi, hz, hs1, hb⟩ := infoWave
 exact run_buildSlice w 45 72 1 _ _ i _ Tryz.underlying45 hi hz (by rw [hs1]; decide) (by rw [hs1]; decide) (by rw [hs1]; kernel_rfl)
def bigBuild (t : TypeId) (n : Nat) (parts : Array (Nat × Value)) : Sem Value := Instr.buildSlice t n parts
@[go_sem ↓ high] theorem bsWave (n : Nat) (parts : Array (Nat × Value)) : Instr.buildSlice 45 n parts = bigBuild 45 n parts := rfl
theorem buildWaveC {n : Int} {C : Array Value} (h : C.toList = (wav0 n).map (Value.int .i64)) (w : World) : (bigBuild 45 1 #[(0, .agg C)]).run Tryz.prog w = .ok (.slice (some ⟨w.heap.size, 0, none⟩) 1 1) (w.alloc (.cells C 72)) := by
 have := buildWave0 n w
 rw [← wav_arr h] at this
 exact this
theorem wav_C72 {n : Int} {C : Array Value} (h : C.toList = (wav0 n).map (Value.int .i64)) : C72 C := ⟨by rw [← Array.length_toList, h]; rfl⟩
theorem wav_Ones {n : Int} {C : Array Value} (h : C.toList = (wav0 n).map (Value.int .i64)) : Ones C := ⟨by rw [← Array.all_toList, h, List.all_eq_true]; exact wav_one n⟩
theorem setBlk_self {w : World} {n : Nat} (h : Old n w) (o : Obj) : (w.setBlk n o).heap[n]? = some o := by
 show (w.heap.setIfInBounds n o)[n]? = some o
 rw [Array.getElem?_setIfInBounds_self_of_lt h.lt]
theorem hb_setBlk {w : World} {g n : Nat} {cs : Array Value} {t : TypeId} {o : Obj} (h : HB w g cs t) (hne : n ≠ g) : HB (w.setBlk n o) g cs t := by
 show (w.heap.setIfInBounds n o)[g]? = _
 rw [Array.getElem?_setIfInBounds, if_neg hne]
 exact h
theorem cells_hb {w : World} {g : Nat} {cs : Array Value} {news : List Value} {t : TypeId} (h : HB w g cs t) (e : cs.toList = news) : ∀ j u, news[j]? = some u → w.cell? ⟨g, j, none⟩ = some u := by
 intro j u hj
 rw [h.cell, ← hj, ← e]
 simp
theorem lit_own {e : TypeId} {size n : Nat} (W : World) (cs : Array Value) (g : Nat) (hg : g = W.heap.size) (o : Obj) (hm : n ≤ maxLen) (hs : cs.size = n * size) : ((W.alloc (.cells cs e)).alloc o).ownsRow W.heap.size e size (.slice (some ⟨g, 0, none⟩) n n) n cs.toList := by
 subst hg
 exact World.ownsRow.alloc (World.ownsRow_lit W cs n (Nat.le_refl _) hm hs) o
theorem lit_own2 {e : TypeId} {size n : Nat} (W : World) (k : Jk) (cs : Array Value) (g : Nat) (hg : g = (W.jk k).heap.size) (o : Obj) (hm : n ≤ maxLen) (hs : cs.size = n * size) : (((W.jk k).alloc (.cells cs e)).alloc o).ownsRow W.heap.size e size (.slice (some ⟨g, 0, none⟩) n n) n cs.toList :=
 World.ownsRow.mono (lit_own (W.jk k) cs g hg o hm hs) (by rw [World.size_jk]; omega)
theorem World.size_drew' (w : World) : w.drew.heap.size = w.heap.size := rfl
theorem World.size_setBlk (w : World) (n : Nat) (o : Obj) : (w.setBlk n o).heap.size = w.heap.size := by simp [World.setBlk]
def JkIn (w : World) (n : Nat) (k : Jk) : Prop := ∀ i, i < k.os.size → w.heap[n + i]? = k.os[i]?
theorem JkIn.new (w : World) (k : Jk) {n : Nat} (h : n = w.heap.size) : JkIn (w.jk k) n k := by
 subst h
 intro i hi
 simp only [World.jk]
 rw [Array.getElem?_append_right (by omega)]
 congr 1
 omega
theorem JkIn.old {w : World} {n : Nat} {k : Jk} (h : JkIn w n k) {i : Nat} (hi : i < k.os.size) : n + i < w.heap.size := by
 have := h i hi
 rw [Array.getElem?_eq_getElem hi] at this
 exact (Array.getElem?_eq_some_iff.1 this).1
theorem JkIn.alloc {w : World} {n : Nat} {k : Jk} (h : JkIn w n k) (o : Obj) : JkIn (w.alloc o) n k := fun i hi => by
 rw [← h i hi]
 show (w.heap.push o)[n + i]? = _
 rw [Array.getElem?_push_lt (h.old hi), Array.getElem?_eq_getElem (h.old hi)]
theorem JkIn.jk {w : World} {n : Nat} {k : Jk} (h : JkIn w n k) (m : Jk) : JkIn (w.jk m) n k := fun i hi => by
 rw [← h i hi]
 exact World.block_jk m _ (h.old hi)
theorem JkIn.setCell {w : World} {n : Nat} {k : Jk} (h : JkIn w n k) (b j : Nat) (v : Value) (hb : b < n ∨ n + k.os.size ≤ b) : JkIn (w.setCell ⟨b, j, none⟩ v) n k := fun i hi => by
 rw [← h i hi]
 unfold World.setCell
 simp only [Array.getElem?_modify]
 rw [if_neg (by omega)]
theorem JkIn.setBlk {w : World} {n : Nat} {k : Jk} (h : JkIn w n k) (b : Nat) (o : Obj) (hb : b < n ∨ n + k.os.size ≤ b) : JkIn (w.setBlk b o) n k := fun i hi => by
 rw [← h i hi]
 show (w.heap.setIfInBounds b o)[n + i]? = _
 rw [Array.getElem?_setIfInBounds, if_neg (by omega)]
theorem jk_in {w : World} {n : Nat} {k : Jk} {P : World → Prop} (hq : ∀ w w', P w → Q w w' → P w') (h : ∀ W' : World, W'.heap.size = n → P (W'.jk k)) (hj : JkIn w n k) (hn : n ≤ w.heap.size) : P w := by
 refine hq _ _ (h { w with heap := w.heap.extract 0 n } (by simp; omega)) ⟨⟨w.heap.extract (n + k.os.size), w.drawn⟩, ?_⟩
 have e : w.heap = w.heap.extract 0 n ++ k.os ++ w.heap.extract (n + k.os.size) := by
  apply Array.ext_getElem?
  intro i
  by_cases h1 : i < n
  ·rw [Array.getElem?_append_left (by simp; omega), Array.getElem?_append_left (by simp; omega), Array.getElem?_extract, if_pos (by omega), Nat.zero_add]
  by_cases h2 : i < n + k.os.size
  ·rw [Array.getElem?_append_left (by simp; omega), Array.getElem?_append_right (by simp; omega)]
   have := hj (i - n) (by omega)
   rw [show n + (i - n) = i by omega] at this
   rw [this]
   congr 1
   simp
   omega
  have hk : n + k.os.size ≤ w.heap.size ∨ w.heap.size ≤ i := by
   by_cases h0 : k.os.size = 0
   ·left; omega
   have := hj.old (i := k.os.size - 1) (by omega)
   left; omega
  by_cases h3 : i < w.heap.size
  rotate_left
  ·rw [Array.getElem?_eq_none (by omega), Array.getElem?_eq_none (by simp; omega)]
  rw [Array.getElem?_append_right (by simp; omega), Array.getElem?_extract, if_pos (by simp; omega)]
  congr 1
  simp
  omega
 show w = World.mk _ _ _ _ _
 cases w
 simp only [World.jk] at e ⊢
 congr 1
theorem pos_in {w : World} {n : Nat} {k : Jk} {p : Pos} (h : ∀ W' : World, W'.heap.size = n → PosAt (W'.jk k) p) (hj : JkIn w n k) (hn : n ≤ w.heap.size) : PosAt w p := jk_in (P := fun w => PosAt w p) (fun _ _ h q => h.q q) h hj hn
theorem lawsrc_c (a b : Int) (w : World) (ha : -100 ≤ a ∧ a ≤ 100) (hb : -100 ≤ b ∧ b ≤ 100) :
  Calls Tryz.prog 16 #[.int .i64 a, .int .i64 b] w (SrcRet a b w) := by
 go_enter Tryz.func16, Tryz.ntmps16
 go_wp2_with fail
 generalize hzc : (#[Value.string ⟨#[]⟩, Value.slice none 0 0, Value.slice none 0 0, Value.slice none 0 0, Value.slice none 0 0, Value.slice none 0 0, Value.slice none 0 0, Value.string ⟨#[]⟩, Value.int .i64 0, Value.int .i64 0, Value.bool false, Value.bool false, Value.int .i64 0, Value.int .i64 0, Value.int .i64 0, Value.int .i64 0, Value.bool false, Value.bool false, Value.int .i64 0, Value.int .i64 0, Value.int .i64 0, Value.int .i64 0, Value.bool false, Value.bool false, Value.int .i64 0, Value.int .i64 0, Value.int .i64 0, Value.int .i64 0, Value.int .i64 0, Value.int .i64 0, Value.int .i64 0, Value.int .i64 0, Value.int .i64 0, Value.int .i64 0, Value.bool false, Value.int .i64 0, Value.int .i64 0, Value.bool false, Value.int .i64 0, Value.int .i64 0, Value.bool false, Value.int .i64 0, Value.int .i64 0, Value.int .i64 0, Value.int .i64 0, Value.int .i64 0, Value.bool false, Value.int .i64 0, Value.int .i64 0, Value.bool false, Value.int .i64 0, Value.int .i64 0, Value.int .i64 0, Value.int .i64 0, Value.int .i64 0, Value.int .i64 0, Value.slice none 0 0, Value.slice none 0 0, Value.slice none 0 0, Value.slice none 0 0, Value.slice none 0 0, Value.slice none 0 0] : Array Value) = zc
 haveI : C62 zc := ⟨by rw [← hzc]; rfl⟩
 clear hzc
 refine wp_loop_rounds 3 ?_
 rw [rounds_succ]
 go_wp2_with (first
  | (at_builtin; refine wpList_app_bay rfl _ _ rfl ((((((w.alloc (Obj.cells zc 47)).alloc (Obj.cells #[Value.int .i64 0, Value.int .i64 1] 88)).alloc (Obj.cells #[Value.string ⟨#[65]⟩] 9)).alloc (Obj.cells #[Value.string ⟨#[71]⟩, Value.int .i64 10, Value.int .i64 0, Value.int .i64 1, Value.int .i64 0, Value.int .i64 1, Value.string ⟨#[72]⟩, Value.int .i64 10, Value.int .i64 0, Value.int .i64 1, Value.int .i64 0, Value.int .i64 1] 95)).alloc (Obj.cells #[Value.string ⟨#[115]⟩, Value.slice (some ⟨w.heap.size + 1 + 1, 0, none⟩) 1 1, Value.slice none 0 0, Value.slice (some ⟨w.heap.size + 1 + 1 + 1, 0, none⟩) 2 2, (Value.slice none 0 0)] 27)).alloc (Obj.cells #[Value.string ⟨#[103]⟩, Value.string ⟨#[104]⟩] 9)) (.slice none 0 0) 0 [] [Value.string ⟨#[103]⟩, Value.int .i64 2, Value.int .i64 0, Value.int .i64 0, Value.int .i64 0, Value.int .i64 0, Value.slice (some ⟨(w.heap.size + 1 + 1 + 1 + 1 + 1 + 1), 0, none⟩) 1 1, Value.bool true, Value.int .i64 1, Value.int .i64 1, Value.int .i64 0, Value.int .i64 1] _ rfl rfl (World.ownsRow_nil _ _ _ _) rfl (cells_of (HB.new _ _ _ _ (by simp [World.size_jk]))) (by intro u hu; simp only [List.mem_cons, List.mem_nil_iff, or_false] at hu; rcases hu with rfl | rfl | rfl | rfl | rfl | rfl | rfl | rfl | rfl | rfl | rfl | rfl <;> rfl) (by decide) Q.i ?_; intro A1 c1 kx hbx hgr; have HB1 : Hid ((((((((w.alloc (Obj.cells zc 47)).alloc (Obj.cells #[Value.int .i64 0, Value.int .i64 1] 88)).alloc (Obj.cells #[Value.string ⟨#[65]⟩] 9)).alloc (Obj.cells #[Value.string ⟨#[71]⟩, Value.int .i64 10, Value.int .i64 0, Value.int .i64 1, Value.int .i64 0, Value.int .i64 1, Value.string ⟨#[72]⟩, Value.int .i64 10, Value.int .i64 0, Value.int .i64 1, Value.int .i64 0, Value.int .i64 1] 95)).alloc (Obj.cells #[Value.string ⟨#[115]⟩, Value.slice (some ⟨w.heap.size + 1 + 1, 0, none⟩) 1 1, Value.slice none 0 0, Value.slice (some ⟨w.heap.size + 1 + 1 + 1, 0, none⟩) 2 2, (Value.slice A1 1 c1)] 27)).alloc (Obj.cells #[Value.string ⟨#[103]⟩, Value.string ⟨#[104]⟩] 9)).jk kx).ownsRow ((((((w.alloc (Obj.cells zc 47)).alloc (Obj.cells #[Value.int .i64 0, Value.int .i64 1] 88)).alloc (Obj.cells #[Value.string ⟨#[65]⟩] 9)).alloc (Obj.cells #[Value.string ⟨#[71]⟩, Value.int .i64 10, Value.int .i64 0, Value.int .i64 1, Value.int .i64 0, Value.int .i64 1, Value.string ⟨#[72]⟩, Value.int .i64 10, Value.int .i64 0, Value.int .i64 1, Value.int .i64 0, Value.int .i64 1] 95)).alloc (Obj.cells #[Value.string ⟨#[115]⟩, Value.slice (some ⟨w.heap.size + 1 + 1, 0, none⟩) 1 1, Value.slice none 0 0, Value.slice (some ⟨w.heap.size + 1 + 1 + 1, 0, none⟩) 2 2, (Value.slice A1 1 c1)] 27)).alloc (Obj.cells #[Value.string ⟨#[103]⟩, Value.string ⟨#[104]⟩] 9)).heap.size 91 12 (.slice A1 1 c1) 1 [Value.string ⟨#[103]⟩, Value.int .i64 2, Value.int .i64 0, Value.int .i64 0, Value.int .i64 0, Value.int .i64 0, Value.slice (some ⟨(w.heap.size + 1 + 1 + 1 + 1 + 1 + 1), 0, none⟩) 1 1, Value.bool true, Value.int .i64 1, Value.int .i64 1, Value.int .i64 0, Value.int .i64 1]) := hh (own_swap (W := ((((((w.alloc (Obj.cells zc 47)).alloc (Obj.cells #[Value.int .i64 0, Value.int .i64 1] 88)).alloc (Obj.cells #[Value.string ⟨#[65]⟩] 9)).alloc (Obj.cells #[Value.string ⟨#[71]⟩, Value.int .i64 10, Value.int .i64 0, Value.int .i64 1, Value.int .i64 0, Value.int .i64 1, Value.string ⟨#[72]⟩, Value.int .i64 10, Value.int .i64 0, Value.int .i64 1, Value.int .i64 0, Value.int .i64 1] 95)).alloc (Obj.cells #[Value.string ⟨#[115]⟩, Value.slice (some ⟨w.heap.size + 1 + 1, 0, none⟩) 1 1, Value.slice none 0 0, Value.slice (some ⟨w.heap.size + 1 + 1 + 1, 0, none⟩) 2 2, (Value.slice none 0 0)] 27)).alloc (Obj.cells #[Value.string ⟨#[103]⟩, Value.string ⟨#[104]⟩] 9))) (by simp) hbx); have HL0 : Hid ((((((((w.alloc (Obj.cells zc 47)).alloc (Obj.cells #[Value.int .i64 0, Value.int .i64 1] 88)).alloc (Obj.cells #[Value.string ⟨#[65]⟩] 9)).alloc (Obj.cells #[Value.string ⟨#[71]⟩, Value.int .i64 10, Value.int .i64 0, Value.int .i64 1, Value.int .i64 0, Value.int .i64 1, Value.string ⟨#[72]⟩, Value.int .i64 10, Value.int .i64 0, Value.int .i64 1, Value.int .i64 0, Value.int .i64 1] 95)).alloc (Obj.cells #[Value.string ⟨#[115]⟩, Value.slice (some ⟨w.heap.size + 1 + 1, 0, none⟩) 1 1, Value.slice none 0 0, Value.slice (some ⟨w.heap.size + 1 + 1 + 1, 0, none⟩) 2 2, (Value.slice A1 1 c1)] 27)).alloc (Obj.cells #[Value.string ⟨#[103]⟩, Value.string ⟨#[104]⟩] 9)).jk kx).ownsRow ((((((w.alloc (Obj.cells zc 47)).alloc (Obj.cells #[Value.int .i64 0, Value.int .i64 1] 88)).alloc (Obj.cells #[Value.string ⟨#[65]⟩] 9)).alloc (Obj.cells #[Value.string ⟨#[71]⟩, Value.int .i64 10, Value.int .i64 0, Value.int .i64 1, Value.int .i64 0, Value.int .i64 1, Value.string ⟨#[72]⟩, Value.int .i64 10, Value.int .i64 0, Value.int .i64 1, Value.int .i64 0, Value.int .i64 1] 95)).alloc (Obj.cells #[Value.string ⟨#[115]⟩, Value.slice (some ⟨w.heap.size + 1 + 1, 0, none⟩) 1 1, Value.slice none 0 0, Value.slice (some ⟨w.heap.size + 1 + 1 + 1, 0, none⟩) 2 2, (Value.slice A1 1 c1)] 27)).alloc (Obj.cells #[Value.string ⟨#[103]⟩, Value.string ⟨#[104]⟩] 9)).heap.size 97 2 (.slice (some ⟨(w.heap.size + 1 + 1 + 1 + 1 + 1 + 1), 0, none⟩) 1 1) 1 [Value.int .i64 0, Value.int .i64 1]) := hh (own_swap (W := ((((((w.alloc (Obj.cells zc 47)).alloc (Obj.cells #[Value.int .i64 0, Value.int .i64 1] 88)).alloc (Obj.cells #[Value.string ⟨#[65]⟩] 9)).alloc (Obj.cells #[Value.string ⟨#[71]⟩, Value.int .i64 10, Value.int .i64 0, Value.int .i64 1, Value.int .i64 0, Value.int .i64 1, Value.string ⟨#[72]⟩, Value.int .i64 10, Value.int .i64 0, Value.int .i64 1, Value.int .i64 0, Value.int .i64 1] 95)).alloc (Obj.cells #[Value.string ⟨#[115]⟩, Value.slice (some ⟨w.heap.size + 1 + 1, 0, none⟩) 1 1, Value.slice none 0 0, Value.slice (some ⟨w.heap.size + 1 + 1 + 1, 0, none⟩) 2 2, (Value.slice none 0 0)] 27)).alloc (Obj.cells #[Value.string ⟨#[103]⟩, Value.string ⟨#[104]⟩] 9))) (by simp) (hgr _ _ _ _ _ (lit_own _ #[Value.int .i64 0, Value.int .i64 1] _ (by simp) _ (by decide) rfl) (by intro g hg; simp [Value.ownBlock] at hg)).1); clear hbx hgr)
  | fail)
 rw [rounds_succ]
 go_wp2_with (first
  | (at_builtin; refine wpList_app_bay rfl _ _ rfl ((((((w.alloc (Obj.cells zc 47)).alloc (Obj.cells #[Value.int .i64 0, Value.int .i64 1] 88)).alloc (Obj.cells #[Value.string ⟨#[65]⟩] 9)).alloc (Obj.cells #[Value.string ⟨#[71]⟩, Value.int .i64 10, Value.int .i64 0, Value.int .i64 1, Value.int .i64 0, Value.int .i64 1, Value.string ⟨#[72]⟩, Value.int .i64 10, Value.int .i64 0, Value.int .i64 1, Value.int .i64 0, Value.int .i64 1] 95)).alloc (Obj.cells #[Value.string ⟨#[115]⟩, Value.slice (some ⟨w.heap.size + 1 + 1, 0, none⟩) 1 1, Value.slice none 0 0, Value.slice (some ⟨w.heap.size + 1 + 1 + 1, 0, none⟩) 2 2, (Value.slice A1 1 c1)] 27)).alloc (Obj.cells #[Value.string ⟨#[103]⟩, Value.string ⟨#[104]⟩] 9)) (.slice A1 1 c1) 1 [Value.string ⟨#[103]⟩, Value.int .i64 2, Value.int .i64 0, Value.int .i64 0, Value.int .i64 0, Value.int .i64 0, Value.slice (some ⟨(w.heap.size + 1 + 1 + 1 + 1 + 1 + 1), 0, none⟩) 1 1, Value.bool true, Value.int .i64 1, Value.int .i64 1, Value.int .i64 0, Value.int .i64 1] [Value.string ⟨#[104]⟩, Value.int .i64 2, Value.int .i64 1, Value.int .i64 0, Value.int .i64 0, Value.int .i64 0, Value.slice (some ⟨(w.heap.size + 1 + 1 + 1 + 1 + 1 + 1 + kx.os.size), 0, none⟩) 1 1, Value.bool true, Value.int .i64 1, Value.int .i64 1, Value.int .i64 0, Value.int .i64 1] _ rfl rfl (ownsRow_q HB1.o Q.i) rfl (cells_of (HB.new _ _ _ _ (by simp [World.size_jk]))) (by intro u hu; simp only [List.mem_cons, List.mem_nil_iff, or_false] at hu; rcases hu with rfl | rfl | rfl | rfl | rfl | rfl | rfl | rfl | rfl | rfl | rfl | rfl <;> rfl) (by decide) Q.i ?_; intro A2 c2 ky hbx hgr; have HB2 : Hid ((((((((w.alloc (Obj.cells zc 47)).alloc (Obj.cells #[Value.int .i64 0, Value.int .i64 1] 88)).alloc (Obj.cells #[Value.string ⟨#[65]⟩] 9)).alloc (Obj.cells #[Value.string ⟨#[71]⟩, Value.int .i64 10, Value.int .i64 0, Value.int .i64 1, Value.int .i64 0, Value.int .i64 1, Value.string ⟨#[72]⟩, Value.int .i64 10, Value.int .i64 0, Value.int .i64 1, Value.int .i64 0, Value.int .i64 1] 95)).alloc (Obj.cells #[Value.string ⟨#[115]⟩, Value.slice (some ⟨w.heap.size + 1 + 1, 0, none⟩) 1 1, Value.slice none 0 0, Value.slice (some ⟨w.heap.size + 1 + 1 + 1, 0, none⟩) 2 2, (Value.slice A2 2 c2)] 27)).alloc (Obj.cells #[Value.string ⟨#[103]⟩, Value.string ⟨#[104]⟩] 9)).jk ky).ownsRow ((((((w.alloc (Obj.cells zc 47)).alloc (Obj.cells #[Value.int .i64 0, Value.int .i64 1] 88)).alloc (Obj.cells #[Value.string ⟨#[65]⟩] 9)).alloc (Obj.cells #[Value.string ⟨#[71]⟩, Value.int .i64 10, Value.int .i64 0, Value.int .i64 1, Value.int .i64 0, Value.int .i64 1, Value.string ⟨#[72]⟩, Value.int .i64 10, Value.int .i64 0, Value.int .i64 1, Value.int .i64 0, Value.int .i64 1] 95)).alloc (Obj.cells #[Value.string ⟨#[115]⟩, Value.slice (some ⟨w.heap.size + 1 + 1, 0, none⟩) 1 1, Value.slice none 0 0, Value.slice (some ⟨w.heap.size + 1 + 1 + 1, 0, none⟩) 2 2, (Value.slice A2 2 c2)] 27)).alloc (Obj.cells #[Value.string ⟨#[103]⟩, Value.string ⟨#[104]⟩] 9)).heap.size 91 12 (.slice A2 2 c2) 2 ([Value.string ⟨#[103]⟩, Value.int .i64 2, Value.int .i64 0, Value.int .i64 0, Value.int .i64 0, Value.int .i64 0, Value.slice (some ⟨(w.heap.size + 1 + 1 + 1 + 1 + 1 + 1), 0, none⟩) 1 1, Value.bool true, Value.int .i64 1, Value.int .i64 1, Value.int .i64 0, Value.int .i64 1] ++ [Value.string ⟨#[104]⟩, Value.int .i64 2, Value.int .i64 1, Value.int .i64 0, Value.int .i64 0, Value.int .i64 0, Value.slice (some ⟨(w.heap.size + 1 + 1 + 1 + 1 + 1 + 1 + kx.os.size), 0, none⟩) 1 1, Value.bool true, Value.int .i64 1, Value.int .i64 1, Value.int .i64 0, Value.int .i64 1])) := hh (own_swap (W := ((((((w.alloc (Obj.cells zc 47)).alloc (Obj.cells #[Value.int .i64 0, Value.int .i64 1] 88)).alloc (Obj.cells #[Value.string ⟨#[65]⟩] 9)).alloc (Obj.cells #[Value.string ⟨#[71]⟩, Value.int .i64 10, Value.int .i64 0, Value.int .i64 1, Value.int .i64 0, Value.int .i64 1, Value.string ⟨#[72]⟩, Value.int .i64 10, Value.int .i64 0, Value.int .i64 1, Value.int .i64 0, Value.int .i64 1] 95)).alloc (Obj.cells #[Value.string ⟨#[115]⟩, Value.slice (some ⟨w.heap.size + 1 + 1, 0, none⟩) 1 1, Value.slice none 0 0, Value.slice (some ⟨w.heap.size + 1 + 1 + 1, 0, none⟩) 2 2, (Value.slice A1 1 c1)] 27)).alloc (Obj.cells #[Value.string ⟨#[103]⟩, Value.string ⟨#[104]⟩] 9))) (by simp) hbx); have HL2 : Hid ((((((((w.alloc (Obj.cells zc 47)).alloc (Obj.cells #[Value.int .i64 0, Value.int .i64 1] 88)).alloc (Obj.cells #[Value.string ⟨#[65]⟩] 9)).alloc (Obj.cells #[Value.string ⟨#[71]⟩, Value.int .i64 10, Value.int .i64 0, Value.int .i64 1, Value.int .i64 0, Value.int .i64 1, Value.string ⟨#[72]⟩, Value.int .i64 10, Value.int .i64 0, Value.int .i64 1, Value.int .i64 0, Value.int .i64 1] 95)).alloc (Obj.cells #[Value.string ⟨#[115]⟩, Value.slice (some ⟨w.heap.size + 1 + 1, 0, none⟩) 1 1, Value.slice none 0 0, Value.slice (some ⟨w.heap.size + 1 + 1 + 1, 0, none⟩) 2 2, (Value.slice A2 2 c2)] 27)).alloc (Obj.cells #[Value.string ⟨#[103]⟩, Value.string ⟨#[104]⟩] 9)).jk ky).ownsRow ((((((w.alloc (Obj.cells zc 47)).alloc (Obj.cells #[Value.int .i64 0, Value.int .i64 1] 88)).alloc (Obj.cells #[Value.string ⟨#[65]⟩] 9)).alloc (Obj.cells #[Value.string ⟨#[71]⟩, Value.int .i64 10, Value.int .i64 0, Value.int .i64 1, Value.int .i64 0, Value.int .i64 1, Value.string ⟨#[72]⟩, Value.int .i64 10, Value.int .i64 0, Value.int .i64 1, Value.int .i64 0, Value.int .i64 1] 95)).alloc (Obj.cells #[Value.string ⟨#[115]⟩, Value.slice (some ⟨w.heap.size + 1 + 1, 0, none⟩) 1 1, Value.slice none 0 0, Value.slice (some ⟨w.heap.size + 1 + 1 + 1, 0, none⟩) 2 2, (Value.slice A2 2 c2)] 27)).alloc (Obj.cells #[Value.string ⟨#[103]⟩, Value.string ⟨#[104]⟩] 9)).heap.size 97 2 (.slice (some ⟨(w.heap.size + 1 + 1 + 1 + 1 + 1 + 1), 0, none⟩) 1 1) 1 [Value.int .i64 0, Value.int .i64 1]) := hh (own_swap (W := ((((((w.alloc (Obj.cells zc 47)).alloc (Obj.cells #[Value.int .i64 0, Value.int .i64 1] 88)).alloc (Obj.cells #[Value.string ⟨#[65]⟩] 9)).alloc (Obj.cells #[Value.string ⟨#[71]⟩, Value.int .i64 10, Value.int .i64 0, Value.int .i64 1, Value.int .i64 0, Value.int .i64 1, Value.string ⟨#[72]⟩, Value.int .i64 10, Value.int .i64 0, Value.int .i64 1, Value.int .i64 0, Value.int .i64 1] 95)).alloc (Obj.cells #[Value.string ⟨#[115]⟩, Value.slice (some ⟨w.heap.size + 1 + 1, 0, none⟩) 1 1, Value.slice none 0 0, Value.slice (some ⟨w.heap.size + 1 + 1 + 1, 0, none⟩) 2 2, (Value.slice A1 1 c1)] 27)).alloc (Obj.cells #[Value.string ⟨#[103]⟩, Value.string ⟨#[104]⟩] 9))) (by simp) (hgr _ _ _ _ _ (ownsRow_q HL0.o Q.i) (own_apart2 (ownsRow_q HB1.o (Q.refl _)) (ownsRow_q HL0.o Q.i) (by decide))).1); have HL3 : Hid ((((((((w.alloc (Obj.cells zc 47)).alloc (Obj.cells #[Value.int .i64 0, Value.int .i64 1] 88)).alloc (Obj.cells #[Value.string ⟨#[65]⟩] 9)).alloc (Obj.cells #[Value.string ⟨#[71]⟩, Value.int .i64 10, Value.int .i64 0, Value.int .i64 1, Value.int .i64 0, Value.int .i64 1, Value.string ⟨#[72]⟩, Value.int .i64 10, Value.int .i64 0, Value.int .i64 1, Value.int .i64 0, Value.int .i64 1] 95)).alloc (Obj.cells #[Value.string ⟨#[115]⟩, Value.slice (some ⟨w.heap.size + 1 + 1, 0, none⟩) 1 1, Value.slice none 0 0, Value.slice (some ⟨w.heap.size + 1 + 1 + 1, 0, none⟩) 2 2, (Value.slice A2 2 c2)] 27)).alloc (Obj.cells #[Value.string ⟨#[103]⟩, Value.string ⟨#[104]⟩] 9)).jk ky).ownsRow ((((((w.alloc (Obj.cells zc 47)).alloc (Obj.cells #[Value.int .i64 0, Value.int .i64 1] 88)).alloc (Obj.cells #[Value.string ⟨#[65]⟩] 9)).alloc (Obj.cells #[Value.string ⟨#[71]⟩, Value.int .i64 10, Value.int .i64 0, Value.int .i64 1, Value.int .i64 0, Value.int .i64 1, Value.string ⟨#[72]⟩, Value.int .i64 10, Value.int .i64 0, Value.int .i64 1, Value.int .i64 0, Value.int .i64 1] 95)).alloc (Obj.cells #[Value.string ⟨#[115]⟩, Value.slice (some ⟨w.heap.size + 1 + 1, 0, none⟩) 1 1, Value.slice none 0 0, Value.slice (some ⟨w.heap.size + 1 + 1 + 1, 0, none⟩) 2 2, (Value.slice A2 2 c2)] 27)).alloc (Obj.cells #[Value.string ⟨#[103]⟩, Value.string ⟨#[104]⟩] 9)).heap.size 97 2 (.slice (some ⟨(w.heap.size + 1 + 1 + 1 + 1 + 1 + 1 + kx.os.size), 0, none⟩) 1 1) 1 [Value.int .i64 0, Value.int .i64 1]) := hh (own_swap (W := ((((((w.alloc (Obj.cells zc 47)).alloc (Obj.cells #[Value.int .i64 0, Value.int .i64 1] 88)).alloc (Obj.cells #[Value.string ⟨#[65]⟩] 9)).alloc (Obj.cells #[Value.string ⟨#[71]⟩, Value.int .i64 10, Value.int .i64 0, Value.int .i64 1, Value.int .i64 0, Value.int .i64 1, Value.string ⟨#[72]⟩, Value.int .i64 10, Value.int .i64 0, Value.int .i64 1, Value.int .i64 0, Value.int .i64 1] 95)).alloc (Obj.cells #[Value.string ⟨#[115]⟩, Value.slice (some ⟨w.heap.size + 1 + 1, 0, none⟩) 1 1, Value.slice none 0 0, Value.slice (some ⟨w.heap.size + 1 + 1 + 1, 0, none⟩) 2 2, (Value.slice A1 1 c1)] 27)).alloc (Obj.cells #[Value.string ⟨#[103]⟩, Value.string ⟨#[104]⟩] 9))) (by simp) (hgr _ _ _ _ _ (lit_own2 (e := 97) (size := 2) (n := 1) ((((((w.alloc (Obj.cells zc 47)).alloc (Obj.cells #[Value.int .i64 0, Value.int .i64 1] 88)).alloc (Obj.cells #[Value.string ⟨#[65]⟩] 9)).alloc (Obj.cells #[Value.string ⟨#[71]⟩, Value.int .i64 10, Value.int .i64 0, Value.int .i64 1, Value.int .i64 0, Value.int .i64 1, Value.string ⟨#[72]⟩, Value.int .i64 10, Value.int .i64 0, Value.int .i64 1, Value.int .i64 0, Value.int .i64 1] 95)).alloc (Obj.cells #[Value.string ⟨#[115]⟩, Value.slice (some ⟨w.heap.size + 1 + 1, 0, none⟩) 1 1, Value.slice none 0 0, Value.slice (some ⟨w.heap.size + 1 + 1 + 1, 0, none⟩) 2 2, (Value.slice A1 1 c1)] 27)).alloc (Obj.cells #[Value.string ⟨#[103]⟩, Value.string ⟨#[104]⟩] 9)) kx #[Value.int .i64 0, Value.int .i64 1] _ (by simp [World.size_jk]) _ (by decide) rfl) (own_apart2 (ownsRow_q HB1.o Q.i) (lit_own2 (e := 97) (size := 2) (n := 1) ((((((w.alloc (Obj.cells zc 47)).alloc (Obj.cells #[Value.int .i64 0, Value.int .i64 1] 88)).alloc (Obj.cells #[Value.string ⟨#[65]⟩] 9)).alloc (Obj.cells #[Value.string ⟨#[71]⟩, Value.int .i64 10, Value.int .i64 0, Value.int .i64 1, Value.int .i64 0, Value.int .i64 1, Value.string ⟨#[72]⟩, Value.int .i64 10, Value.int .i64 0, Value.int .i64 1, Value.int .i64 0, Value.int .i64 1] 95)).alloc (Obj.cells #[Value.string ⟨#[115]⟩, Value.slice (some ⟨w.heap.size + 1 + 1, 0, none⟩) 1 1, Value.slice none 0 0, Value.slice (some ⟨w.heap.size + 1 + 1 + 1, 0, none⟩) 2 2, (Value.slice A1 1 c1)] 27)).alloc (Obj.cells #[Value.string ⟨#[103]⟩, Value.string ⟨#[104]⟩] 9)) kx #[Value.int .i64 0, Value.int .i64 1] (w.heap.size + 1 + 1 + 1 + 1 + 1 + 1 + kx.os.size) (by simp [World.size_jk]) (.cells #[] 91) (by decide) rfl) (by decide))).1); clear hbx hgr HB1 HL0)
  | fail)
 repeat (rw [rounds_succ]; go_wp2_with fail)
 obtain ⟨V, hV⟩ : ∃ V, V = ((((((w.alloc (Obj.cells zc 47)).alloc (Obj.cells #[Value.int .i64 0, Value.int .i64 1] 88)).alloc (Obj.cells #[Value.string ⟨#[65]⟩] 9)).alloc (Obj.cells #[Value.string ⟨#[71]⟩, Value.int .i64 10, Value.int .i64 0, Value.int .i64 1, Value.int .i64 0, Value.int .i64 1, Value.string ⟨#[72]⟩, Value.int .i64 10, Value.int .i64 0, Value.int .i64 1, Value.int .i64 0, Value.int .i64 1] 95)).alloc (Obj.cells #[Value.string ⟨#[115]⟩, Value.slice (some ⟨w.heap.size + 1 + 1, 0, none⟩) 1 1, Value.slice none 0 0, Value.slice (some ⟨w.heap.size + 1 + 1 + 1, 0, none⟩) 2 2, (Value.slice A2 2 c2)] 27)).alloc (Obj.cells #[Value.string ⟨#[103]⟩, Value.string ⟨#[104]⟩] 9)) := ⟨_, rfl⟩
 have HST : Hid (∀ cc : Array Value, StAt (((((((w.alloc (Obj.cells cc 47)).alloc (Obj.cells #[Value.int .i64 0, Value.int .i64 1] 88)).alloc (Obj.cells #[Value.string ⟨#[65]⟩] 9)).alloc (Obj.cells #[Value.string ⟨#[71]⟩, Value.int .i64 10, Value.int .i64 0, Value.int .i64 1, Value.int .i64 0, Value.int .i64 1, Value.string ⟨#[72]⟩, Value.int .i64 10, Value.int .i64 0, Value.int .i64 1, Value.int .i64 0, Value.int .i64 1] 95)).alloc (Obj.cells #[Value.string ⟨#[115]⟩, Value.slice (some ⟨w.heap.size + 1 + 1, 0, none⟩) 1 1, Value.slice none 0 0, Value.slice (some ⟨w.heap.size + 1 + 1 + 1, 0, none⟩) 2 2, (Value.slice A2 2 c2)] 27)).alloc (Obj.cells #[Value.string ⟨#[103]⟩, Value.string ⟨#[104]⟩] 9)).jk ky) (sta0 (some ⟨w.heap.size + 1 + 1, 0, none⟩) (some ⟨w.heap.size + 1 + 1 + 1, 0, none⟩) A2 c2 (some ⟨(w.heap.size + 1 + 1 + 1 + 1 + 1 + 1), 0, none⟩) (some ⟨(w.heap.size + 1 + 1 + 1 + 1 + 1 + 1 + kx.os.size), 0, none⟩))) := hh (fun cc => by
  refine ⟨?_, RdV.nil _ _, ?_, ?_, ?_, ?_, ?_, ?_, ?_, ?_, ?_, ?_, ?_, ?_⟩
  ·exact rdv_of_hb (cs := #[Value.string ⟨#[65]⟩]) (t := 9) (((((HB.new _ _ _ _ (by simp)).alloc _).alloc _).alloc _).jk ky) 1 1 1 _ rfl rfl (by decide)
  ·exact rdv_of_hb (cs := #[Value.string ⟨#[71]⟩, Value.int .i64 10, Value.int .i64 0, Value.int .i64 1, Value.int .i64 0, Value.int .i64 1, Value.string ⟨#[72]⟩, Value.int .i64 10, Value.int .i64 0, Value.int .i64 1, Value.int .i64 0, Value.int .i64 1]) (t := 95) ((((HB.new _ _ _ _ (by simp)).alloc _).alloc _).jk ky) 2 2 6 _ rfl rfl (by decide)
  ·obtain ⟨A', c', e, h⟩ := rdv_of_own (own_swap (W := ((((((w.alloc (Obj.cells zc 47)).alloc (Obj.cells #[Value.int .i64 0, Value.int .i64 1] 88)).alloc (Obj.cells #[Value.string ⟨#[65]⟩] 9)).alloc (Obj.cells #[Value.string ⟨#[71]⟩, Value.int .i64 10, Value.int .i64 0, Value.int .i64 1, Value.int .i64 0, Value.int .i64 1, Value.string ⟨#[72]⟩, Value.int .i64 10, Value.int .i64 0, Value.int .i64 1, Value.int .i64 0, Value.int .i64 1] 95)).alloc (Obj.cells #[Value.string ⟨#[115]⟩, Value.slice (some ⟨w.heap.size + 1 + 1, 0, none⟩) 1 1, Value.slice none 0 0, Value.slice (some ⟨w.heap.size + 1 + 1 + 1, 0, none⟩) 2 2, (Value.slice A2 2 c2)] 27)).alloc (Obj.cells #[Value.string ⟨#[103]⟩, Value.string ⟨#[104]⟩] 9))) (W' := ((((((w.alloc (Obj.cells cc 47)).alloc (Obj.cells #[Value.int .i64 0, Value.int .i64 1] 88)).alloc (Obj.cells #[Value.string ⟨#[65]⟩] 9)).alloc (Obj.cells #[Value.string ⟨#[71]⟩, Value.int .i64 10, Value.int .i64 0, Value.int .i64 1, Value.int .i64 0, Value.int .i64 1, Value.string ⟨#[72]⟩, Value.int .i64 10, Value.int .i64 0, Value.int .i64 1, Value.int .i64 0, Value.int .i64 1] 95)).alloc (Obj.cells #[Value.string ⟨#[115]⟩, Value.slice (some ⟨w.heap.size + 1 + 1, 0, none⟩) 1 1, Value.slice none 0 0, Value.slice (some ⟨w.heap.size + 1 + 1 + 1, 0, none⟩) 2 2, (Value.slice A2 2 c2)] 27)).alloc (Obj.cells #[Value.string ⟨#[103]⟩, Value.string ⟨#[104]⟩] 9))) (by simp) HB2.o) rfl
   injection e with e1 e2 e3
   subst e1 e3
   exact h
  ·intro k y hy
   have lkA : ∀ g, (((((((w.alloc (Obj.cells zc 47)).alloc (Obj.cells #[Value.int .i64 0, Value.int .i64 1] 88)).alloc (Obj.cells #[Value.string ⟨#[65]⟩] 9)).alloc (Obj.cells #[Value.string ⟨#[71]⟩, Value.int .i64 10, Value.int .i64 0, Value.int .i64 1, Value.int .i64 0, Value.int .i64 1, Value.string ⟨#[72]⟩, Value.int .i64 10, Value.int .i64 0, Value.int .i64 1, Value.int .i64 0, Value.int .i64 1] 95)).alloc (Obj.cells #[Value.string ⟨#[115]⟩, Value.slice (some ⟨w.heap.size + 1 + 1, 0, none⟩) 1 1, Value.slice none 0 0, Value.slice (some ⟨w.heap.size + 1 + 1 + 1, 0, none⟩) 2 2, (Value.slice A2 2 c2)] 27)).alloc (Obj.cells #[Value.string ⟨#[103]⟩, Value.string ⟨#[104]⟩] 9)).jk ky).ownsRow ((((((w.alloc (Obj.cells zc 47)).alloc (Obj.cells #[Value.int .i64 0, Value.int .i64 1] 88)).alloc (Obj.cells #[Value.string ⟨#[65]⟩] 9)).alloc (Obj.cells #[Value.string ⟨#[71]⟩, Value.int .i64 10, Value.int .i64 0, Value.int .i64 1, Value.int .i64 0, Value.int .i64 1, Value.string ⟨#[72]⟩, Value.int .i64 10, Value.int .i64 0, Value.int .i64 1, Value.int .i64 0, Value.int .i64 1] 95)).alloc (Obj.cells #[Value.string ⟨#[115]⟩, Value.slice (some ⟨w.heap.size + 1 + 1, 0, none⟩) 1 1, Value.slice none 0 0, Value.slice (some ⟨w.heap.size + 1 + 1 + 1, 0, none⟩) 2 2, (Value.slice A2 2 c2)] 27)).alloc (Obj.cells #[Value.string ⟨#[103]⟩, Value.string ⟨#[104]⟩] 9)).heap.size 97 2 (.slice (some ⟨g, 0, none⟩) 1 1) 1 [Value.int .i64 0, Value.int .i64 1] → RdV (((((((w.alloc (Obj.cells cc 47)).alloc (Obj.cells #[Value.int .i64 0, Value.int .i64 1] 88)).alloc (Obj.cells #[Value.string ⟨#[65]⟩] 9)).alloc (Obj.cells #[Value.string ⟨#[71]⟩, Value.int .i64 10, Value.int .i64 0, Value.int .i64 1, Value.int .i64 0, Value.int .i64 1, Value.string ⟨#[72]⟩, Value.int .i64 10, Value.int .i64 0, Value.int .i64 1, Value.int .i64 0, Value.int .i64 1] 95)).alloc (Obj.cells #[Value.string ⟨#[115]⟩, Value.slice (some ⟨w.heap.size + 1 + 1, 0, none⟩) 1 1, Value.slice none 0 0, Value.slice (some ⟨w.heap.size + 1 + 1 + 1, 0, none⟩) 2 2, (Value.slice A2 2 c2)] 27)).alloc (Obj.cells #[Value.string ⟨#[103]⟩, Value.string ⟨#[104]⟩] 9)).jk ky) (some ⟨g, 0, none⟩) 1 1 2 [Value.int .i64 0, Value.int .i64 1] := fun g hl => by
    obtain ⟨A', c', e, h⟩ := rdv_of_own (own_swap (W := ((((((w.alloc (Obj.cells zc 47)).alloc (Obj.cells #[Value.int .i64 0, Value.int .i64 1] 88)).alloc (Obj.cells #[Value.string ⟨#[65]⟩] 9)).alloc (Obj.cells #[Value.string ⟨#[71]⟩, Value.int .i64 10, Value.int .i64 0, Value.int .i64 1, Value.int .i64 0, Value.int .i64 1, Value.string ⟨#[72]⟩, Value.int .i64 10, Value.int .i64 0, Value.int .i64 1, Value.int .i64 0, Value.int .i64 1] 95)).alloc (Obj.cells #[Value.string ⟨#[115]⟩, Value.slice (some ⟨w.heap.size + 1 + 1, 0, none⟩) 1 1, Value.slice none 0 0, Value.slice (some ⟨w.heap.size + 1 + 1 + 1, 0, none⟩) 2 2, (Value.slice A2 2 c2)] 27)).alloc (Obj.cells #[Value.string ⟨#[103]⟩, Value.string ⟨#[104]⟩] 9))) (W' := ((((((w.alloc (Obj.cells cc 47)).alloc (Obj.cells #[Value.int .i64 0, Value.int .i64 1] 88)).alloc (Obj.cells #[Value.string ⟨#[65]⟩] 9)).alloc (Obj.cells #[Value.string ⟨#[71]⟩, Value.int .i64 10, Value.int .i64 0, Value.int .i64 1, Value.int .i64 0, Value.int .i64 1, Value.string ⟨#[72]⟩, Value.int .i64 10, Value.int .i64 0, Value.int .i64 1, Value.int .i64 0, Value.int .i64 1] 95)).alloc (Obj.cells #[Value.string ⟨#[115]⟩, Value.slice (some ⟨w.heap.size + 1 + 1, 0, none⟩) 1 1, Value.slice none 0 0, Value.slice (some ⟨w.heap.size + 1 + 1 + 1, 0, none⟩) 2 2, (Value.slice A2 2 c2)] 27)).alloc (Obj.cells #[Value.string ⟨#[103]⟩, Value.string ⟨#[104]⟩] 9))) (by simp) hl) rfl
    injection e with e1 e2 e3
    subst e1 e3
    exact h
   rcases k with _ | _ | k
   ·obtain rfl := Option.some.inj hy
    exact ⟨⟨lkA _ HL2.o, rfl⟩, of_decide_eq_true (by kernel_rfl)⟩
   ·obtain rfl := Option.some.inj hy
    exact ⟨⟨lkA _ HL3.o, rfl⟩, of_decide_eq_true (by kernel_rfl)⟩
   cases hy
  ·exact of_decide_eq_true (by kernel_rfl)
  ·intro x hx
   simp only [sta0, List.mem_singleton] at hx
   subst hx
   exact of_decide_eq_true (by kernel_rfl)
  ·intro x hx
   cases hx
  ·intro x hx
   simp only [sta0, List.mem_cons, List.mem_nil_iff, or_false] at hx
   rcases hx with rfl | rfl <;> exact of_decide_eq_true (by kernel_rfl)
  ·intro x hx
   simp only [sta0, List.mem_cons, List.mem_nil_iff, or_false] at hx
   rcases hx with rfl | rfl <;> exact of_decide_eq_true (by kernel_rfl)
  ·exact of_decide_eq_true (by kernel_rfl)
  ·exact of_decide_eq_true (by kernel_rfl)
  ·exact of_decide_eq_true (by kernel_rfl)
  exact of_decide_eq_true (by kernel_rfl))
 have NRM : Hid (∀ w', Q (((((((w.alloc (Obj.cells zc 47)).alloc (Obj.cells #[Value.int .i64 0, Value.int .i64 1] 88)).alloc (Obj.cells #[Value.string ⟨#[65]⟩] 9)).alloc (Obj.cells #[Value.string ⟨#[71]⟩, Value.int .i64 10, Value.int .i64 0, Value.int .i64 1, Value.int .i64 0, Value.int .i64 1, Value.string ⟨#[72]⟩, Value.int .i64 10, Value.int .i64 0, Value.int .i64 1, Value.int .i64 0, Value.int .i64 1] 95)).alloc (Obj.cells #[Value.string ⟨#[115]⟩, Value.slice (some ⟨w.heap.size + 1 + 1, 0, none⟩) 1 1, Value.slice none 0 0, Value.slice (some ⟨w.heap.size + 1 + 1 + 1, 0, none⟩) 2 2, (Value.slice A2 2 c2)] 27)).alloc (Obj.cells #[Value.string ⟨#[103]⟩, Value.string ⟨#[104]⟩] 9)).jk ky) w' → Calls Tryz.prog 29 #[.agg #[Value.string ⟨#[115]⟩, Value.slice (some ⟨w.heap.size + 1 + 1, 0, none⟩) 1 1, Value.slice none 0 0, Value.slice (some ⟨w.heap.size + 1 + 1 + 1, 0, none⟩) 2 2, Value.slice A2 2 c2]] w' (RetN [true, true] [[1], [1]] w')) := hh fun w' hq => normal_c _ w' ((HST.o zc).q hq) (sta0_e _ _ _ _ _ _)
 unfold RetN at NRM
 clear HB2 HL2 HL3 hV
 have hbS : HB (((((((w.alloc (Obj.cells zc 47)).alloc (Obj.cells #[Value.int .i64 0, Value.int .i64 1] 88)).alloc (Obj.cells #[Value.string ⟨#[65]⟩] 9)).alloc (Obj.cells #[Value.string ⟨#[71]⟩, Value.int .i64 10, Value.int .i64 0, Value.int .i64 1, Value.int .i64 0, Value.int .i64 1, Value.string ⟨#[72]⟩, Value.int .i64 10, Value.int .i64 0, Value.int .i64 1, Value.int .i64 0, Value.int .i64 1] 95)).alloc (Obj.cells #[Value.string ⟨#[115]⟩, Value.slice (some ⟨w.heap.size + 1 + 1, 0, none⟩) 1 1, Value.slice none 0 0, Value.slice (some ⟨w.heap.size + 1 + 1 + 1, 0, none⟩) 2 2, (Value.slice A2 2 c2)] 27)).alloc (Obj.cells #[Value.string ⟨#[103]⟩, Value.string ⟨#[104]⟩] 9)).jk ky) (w.heap.size + 1 + 1 + 1 + 1) #[Value.string ⟨#[115]⟩, Value.slice (some ⟨w.heap.size + 1 + 1, 0, none⟩) 1 1, Value.slice none 0 0, Value.slice (some ⟨w.heap.size + 1 + 1 + 1, 0, none⟩) 2 2, Value.slice A2 2 c2] 27 := ((HB.new _ _ _ _ (by simp)).alloc _).jk ky
 have HZ0 : Hid (HB (((((((w.alloc (Obj.cells zc 47)).alloc (Obj.cells #[Value.int .i64 0, Value.int .i64 1] 88)).alloc (Obj.cells #[Value.string ⟨#[65]⟩] 9)).alloc (Obj.cells #[Value.string ⟨#[71]⟩, Value.int .i64 10, Value.int .i64 0, Value.int .i64 1, Value.int .i64 0, Value.int .i64 1, Value.string ⟨#[72]⟩, Value.int .i64 10, Value.int .i64 0, Value.int .i64 1, Value.int .i64 0, Value.int .i64 1] 95)).alloc (Obj.cells #[Value.string ⟨#[115]⟩, Value.slice (some ⟨w.heap.size + 1 + 1, 0, none⟩) 1 1, Value.slice none 0 0, Value.slice (some ⟨w.heap.size + 1 + 1 + 1, 0, none⟩) 2 2, (Value.slice A2 2 c2)] 27)).alloc (Obj.cells #[Value.string ⟨#[103]⟩, Value.string ⟨#[104]⟩] 9)).jk ky) w.heap.size zc 47) := hh (((((((HB.new _ _ _ _ rfl).alloc _).alloc _).alloc _).alloc _).alloc _).jk ky)
 have HQV : Hid (Q w (((((((w.alloc (Obj.cells zc 47)).alloc (Obj.cells #[Value.int .i64 0, Value.int .i64 1] 88)).alloc (Obj.cells #[Value.string ⟨#[65]⟩] 9)).alloc (Obj.cells #[Value.string ⟨#[71]⟩, Value.int .i64 10, Value.int .i64 0, Value.int .i64 1, Value.int .i64 0, Value.int .i64 1, Value.string ⟨#[72]⟩, Value.int .i64 10, Value.int .i64 0, Value.int .i64 1, Value.int .i64 0, Value.int .i64 1] 95)).alloc (Obj.cells #[Value.string ⟨#[115]⟩, Value.slice (some ⟨w.heap.size + 1 + 1, 0, none⟩) 1 1, Value.slice none 0 0, Value.slice (some ⟨w.heap.size + 1 + 1 + 1, 0, none⟩) 2 2, (Value.slice A2 2 c2)] 27)).alloc (Obj.cells #[Value.string ⟨#[103]⟩, Value.string ⟨#[104]⟩] 9)).jk ky)) := hh Q.i
 have HSV : Hid (∀ cc : Array Value, StAt ((((((((w.alloc (Obj.cells zc 47)).alloc (Obj.cells #[Value.int .i64 0, Value.int .i64 1] 88)).alloc (Obj.cells #[Value.string ⟨#[65]⟩] 9)).alloc (Obj.cells #[Value.string ⟨#[71]⟩, Value.int .i64 10, Value.int .i64 0, Value.int .i64 1, Value.int .i64 0, Value.int .i64 1, Value.string ⟨#[72]⟩, Value.int .i64 10, Value.int .i64 0, Value.int .i64 1, Value.int .i64 0, Value.int .i64 1] 95)).alloc (Obj.cells #[Value.string ⟨#[115]⟩, Value.slice (some ⟨w.heap.size + 1 + 1, 0, none⟩) 1 1, Value.slice none 0 0, Value.slice (some ⟨w.heap.size + 1 + 1 + 1, 0, none⟩) 2 2, (Value.slice A2 2 c2)] 27)).alloc (Obj.cells #[Value.string ⟨#[103]⟩, Value.string ⟨#[104]⟩] 9)).jk ky).setBlk w.heap.size (.cells cc 47)) (sta0 (some ⟨w.heap.size + 1 + 1, 0, none⟩) (some ⟨w.heap.size + 1 + 1 + 1, 0, none⟩) A2 c2 (some ⟨(w.heap.size + 1 + 1 + 1 + 1 + 1 + 1), 0, none⟩) (some ⟨(w.heap.size + 1 + 1 + 1 + 1 + 1 + 1 + kx.os.size), 0, none⟩))) := hh fun cc => by
  have e : (((((((w.alloc (Obj.cells zc 47)).alloc (Obj.cells #[Value.int .i64 0, Value.int .i64 1] 88)).alloc (Obj.cells #[Value.string ⟨#[65]⟩] 9)).alloc (Obj.cells #[Value.string ⟨#[71]⟩, Value.int .i64 10, Value.int .i64 0, Value.int .i64 1, Value.int .i64 0, Value.int .i64 1, Value.string ⟨#[72]⟩, Value.int .i64 10, Value.int .i64 0, Value.int .i64 1, Value.int .i64 0, Value.int .i64 1] 95)).alloc (Obj.cells #[Value.string ⟨#[115]⟩, Value.slice (some ⟨w.heap.size + 1 + 1, 0, none⟩) 1 1, Value.slice none 0 0, Value.slice (some ⟨w.heap.size + 1 + 1 + 1, 0, none⟩) 2 2, (Value.slice A2 2 c2)] 27)).alloc (Obj.cells #[Value.string ⟨#[103]⟩, Value.string ⟨#[104]⟩] 9)).jk ky).setBlk w.heap.size (.cells cc 47) = ((((((w.alloc (Obj.cells cc 47)).alloc (Obj.cells #[Value.int .i64 0, Value.int .i64 1] 88)).alloc (Obj.cells #[Value.string ⟨#[65]⟩] 9)).alloc (Obj.cells #[Value.string ⟨#[71]⟩, Value.int .i64 10, Value.int .i64 0, Value.int .i64 1, Value.int .i64 0, Value.int .i64 1, Value.string ⟨#[72]⟩, Value.int .i64 10, Value.int .i64 0, Value.int .i64 1, Value.int .i64 0, Value.int .i64 1] 95)).alloc (Obj.cells #[Value.string ⟨#[115]⟩, Value.slice (some ⟨w.heap.size + 1 + 1, 0, none⟩) 1 1, Value.slice none 0 0, Value.slice (some ⟨w.heap.size + 1 + 1 + 1, 0, none⟩) 2 2, (Value.slice A2 2 c2)] 27)).alloc (Obj.cells #[Value.string ⟨#[103]⟩, Value.string ⟨#[104]⟩] 9)).jk ky := by simp only [go_sem]
  rw [e]
  exact HST.o cc
 clear HST
 obtain ⟨V, eV⟩ : ∃ V, V = ((((((w.alloc (Obj.cells zc 47)).alloc (Obj.cells #[Value.int .i64 0, Value.int .i64 1] 88)).alloc (Obj.cells #[Value.string ⟨#[65]⟩] 9)).alloc (Obj.cells #[Value.string ⟨#[71]⟩, Value.int .i64 10, Value.int .i64 0, Value.int .i64 1, Value.int .i64 0, Value.int .i64 1, Value.string ⟨#[72]⟩, Value.int .i64 10, Value.int .i64 0, Value.int .i64 1, Value.int .i64 0, Value.int .i64 1] 95)).alloc (Obj.cells #[Value.string ⟨#[115]⟩, Value.slice (some ⟨w.heap.size + 1 + 1, 0, none⟩) 1 1, Value.slice none 0 0, Value.slice (some ⟨w.heap.size + 1 + 1 + 1, 0, none⟩) 2 2, (Value.slice A2 2 c2)] 27)).alloc (Obj.cells #[Value.string ⟨#[103]⟩, Value.string ⟨#[104]⟩] 9)).jk ky := ⟨_, rfl⟩
 rw [← eV] at HSV NRM hbS HZ0 HQV ⊢
 clear eV
 have oZ : Old w.heap.size V := HZ0.o.old
 have c00 : V.cell? ⟨(w.heap.size + 1 + 1 + 1 + 1), 0, none⟩ = some (Value.string ⟨#[115]⟩) := hbS.cell 0
 have c10 : V.cell? ⟨(w.heap.size + 1 + 1 + 1 + 1), 1, none⟩ = some (Value.slice (some ⟨w.heap.size + 1 + 1, 0, none⟩) 1 1) := hbS.cell 1
 have c20 : V.cell? ⟨(w.heap.size + 1 + 1 + 1 + 1), 2, none⟩ = some (Value.slice none 0 0) := hbS.cell 2
 have c30 : V.cell? ⟨(w.heap.size + 1 + 1 + 1 + 1), 3, none⟩ = some (Value.slice (some ⟨w.heap.size + 1 + 1 + 1, 0, none⟩) 2 2) := hbS.cell 3
 have c40 : V.cell? ⟨(w.heap.size + 1 + 1 + 1 + 1), 4, none⟩ = some (Value.slice A2 2 c2) := hbS.cell 4
 have oS : Old (w.heap.size + 1 + 1 + 1 + 1) V := hbS.old
 clear hbS
 go_cut [9] (fun s9 wx => ∃ (p : Pos) (b9 gG : Nat), s9 = .pointer (some ⟨b9, 0, none⟩) ∧ Q V wx ∧ HB wx b9 (caseC (Value.string ⟨#[115]⟩) (Value.slice (some ⟨w.heap.size + 1 + 1, 0, none⟩) 1 1) (Value.slice none 0 0) (Value.slice (some ⟨w.heap.size + 1 + 1 + 1, 0, none⟩) 2 2) (Value.slice A2 2 c2) (Value.slice p.aC p.closed.length p.cC) (Value.slice p.aK p.rows.length p.cK) rel0 (Value.slice none 0 0) (Value.slice (some ⟨gG, 0, none⟩) 2 2)) 47 ∧ (∀ v1 v2 cc, PosAt (((wx.setCell ⟨b9, 60, none⟩ v1).setCell ⟨b9, 60, none⟩ v2).setBlk w.heap.size (.cells cc 47)) p) ∧ p.closed = [true, true] ∧ p.rows.map Ro.l = [[1], [1]] ∧ HB wx gG #[Value.bool true, Value.bool true] 4 ∧ V.heap.size ≤ b9 ∧ V.heap.size ≤ gG)
 case first =>
  go_region_held3 (fun w' => w'.cell? ⟨(w.heap.size + 1 + 1 + 1 + 1), 0, none⟩ = some (Value.string ⟨#[115]⟩) ∧ w'.cell? ⟨(w.heap.size + 1 + 1 + 1 + 1), 1, none⟩ = some (Value.slice (some ⟨w.heap.size + 1 + 1, 0, none⟩) 1 1) ∧ w'.cell? ⟨(w.heap.size + 1 + 1 + 1 + 1), 2, none⟩ = some (Value.slice none 0 0) ∧ w'.cell? ⟨(w.heap.size + 1 + 1 + 1 + 1), 3, none⟩ = some (Value.slice (some ⟨w.heap.size + 1 + 1 + 1, 0, none⟩) 2 2) ∧ w'.cell? ⟨(w.heap.size + 1 + 1 + 1 + 1), 4, none⟩ = some (Value.slice A2 2 c2)) ((refine ⟨?_, ?_, ?_, ?_, ?_⟩ <;> simp [go_sem, c00, c10, c20, c30, c40])) ((go_at_call 29; (with_reducible refine (NRM.o _ Q.i).mono ?_); rintro e w' ⟨p, kn, rfl, rfl, hp, hc, hr⟩; have HP := hh hp; have HC := hh hc; have HR := hh hr; clear hp hc hr))
  all_goals (go_wp2_with fail)
  all_goals go_meet
  all_goals
   refine ⟨p, _, ?_, rfl, Q.i, ?_, ?_, HC.o, HR.o, ?_, ?_, ?_⟩
   rotate_left
   ·rw [caseC_lit]
    ((repeat' (first | (with_reducible refine HB.jk ?_ _) | ((refine HB.new _ _ _ _ ?_); (first | with_reducible rfl | (simp only [World.size_jk, World.size_alloc]; done))) | (with_reducible refine HB.alloc ?_ _))); done)
   ·intro v1 v2 cc
    have hz := HZ0.o.lt
    refine pos_in HP.o (JkIn.setBlk (JkIn.setCell (JkIn.setCell ?_ _ _ _ ?_) _ _ _ ?_) _ _ ?_) ?_
    ·((repeat' (first | ((with_reducible refine JkIn.new _ _ ?_); (first | with_reducible rfl | (simp only [World.size_jk, World.size_alloc, World.size_drew']; done))) | (with_reducible refine JkIn.alloc ?_ _) | (with_reducible refine JkIn.jk ?_ _))); done)
    all_goals (simp only [World.size_jk, World.size_alloc, World.size_setCell, World.size_setBlk, World.size_drew']; omega)
   ·((repeat' (first | (with_reducible refine HB.jk ?_ _) | ((refine HB.new _ _ _ _ ?_); (first | with_reducible rfl | (simp only [World.size_jk, World.size_alloc]; done))) | (with_reducible refine HB.alloc ?_ _))); done)
   ·first | omega | (simp only [World.size_jk, World.size_alloc]; omega)
   first | omega | (simp only [World.size_jk, World.size_alloc]; omega)
 case rest =>
  obtain ⟨p, b9, gG, rfl, hq, hb9, hp, hc, hr, hg, hs1, hs2⟩ := hcut
  have hzl : w.heap.size < V.heap.size := HZ0.o.lt
  have n9 : b9 ≠ w.heap.size := by omega
  have HZ1 := hh (HB.q HZ0.o hq)
  have HQ1 : Hid (Q V wc) := hh hq
  have HP := hh hp
  have HC := hh hc
  have HR := hh hr
  have HG := hh hg
  have HS1 := hh hs1
  have HS2 := hh hs2
  have HQ0 := hh HQV.o
  have c60 := hb9.cell 60
  rw [caseC_60] at c60
  have f60 := hb9.soft 60
  have o9 := hb9.old
  have HB9 := hh hb9
  have hwc : V.heap.size ≤ wc.heap.size := hq.below.size
  have HN9 := hh n9
  have HZL := hh hzl
  clear HQV NRM hq hb9 hp hc hr hg hs1 hs2 c00 c10 c20 c30 c40 oS n9 hzl HZ0
  have y0 : Tryz.zeroCells72[0]? = some (Value.int .i64 0) := by kernel_rfl
  have y1 : Tryz.zeroCells72[1]? = some (Value.int .i64 0) := by kernel_rfl
  have y2 : Tryz.zeroCells72[2]? = some (Value.int .i64 0) := by kernel_rfl
  have y3 : Tryz.zeroCells72[3]? = some (Value.int .i64 0) := by kernel_rfl
  have y4 : Tryz.zeroCells72[4]? = some (Value.int .i64 0) := by kernel_rfl
  have y5 : Tryz.zeroCells72[5]? = some (Value.int .i64 0) := by kernel_rfl
  have y6 : Tryz.zeroCells72[6]? = some (Value.int .i64 0) := by kernel_rfl
  have y7 : Tryz.zeroCells72[7]? = some (Value.int .i64 0) := by kernel_rfl
  have y8 : Tryz.zeroCells72[8]? = some (Value.int .i64 0) := by kernel_rfl
  have y9 : Tryz.zeroCells72[9]? = some (Value.int .i64 0) := by kernel_rfl
  have y10 : Tryz.zeroCells72[10]? = some (Value.int .i64 0) := by kernel_rfl
  have y11 : Tryz.zeroCells72[11]? = some (Value.int .i64 0) := by kernel_rfl
  go_wp2_with fail
  refine wp_loop_rounds 3 ?_
  rw [rounds_succ]
  go_upto_region 14 with (fail)
  generalize hC : Array.setIfInBounds _ 11 _ = C
  have HW1 : Hid (C.toList = (wav0 a).map (Value.int .i64)) := hh (by rw [← hC]; exact wav_nested a)
  clear hC y0 y1 y2 y3 y4 y5 y6 y7 y8 y9 y10 y11
  haveI : C72 C := wav_C72 HW1.o
  haveI : Ones C := wav_Ones HW1.o
  have hbs := fun w => buildWaveC HW1.o w
  go_wp2_with (first | (at_builtin; refine wpList_app_wave rfl _ _ rfl (wc.alloc (Obj.cells #[Value.int .i64 a, Value.int .i64 b] 3)) (.slice none 0 0) 0 [] ((wav0 a).map (Value.int .i64)) _ rfl rfl (World.ownsRow_nil _ _ _ _) (wav_len a) (cells_hb (HB.new _ _ _ _ (by simp [World.size_jk])) HW1.o) (wav_one a) (by decide) Q.i ?_; intro A3 c3 k3 hbx hgr))
  clear hgr hbs
  rw [List.nil_append] at hbx
  have HW5 : Hid ((((wc.setCell ⟨b9, 60, none⟩ (Value.slice A3 1 c3)).alloc (Obj.cells #[Value.int .i64 a, Value.int .i64 b] 3)).jk k3).ownsRow ((wc.setCell ⟨b9, 60, none⟩ (Value.slice A3 1 c3)).alloc (Obj.cells #[Value.int .i64 a, Value.int .i64 b] 3)).heap.size 72 72 (.slice A3 1 c3) 1 ((wav0 a).map (Value.int .i64))) := hh (own_swap (W := wc.alloc (Obj.cells #[Value.int .i64 a, Value.int .i64 b] 3)) (by simp) hbx)
  have HB1 : Hid (HB (wc.setCell ⟨b9, 60, none⟩ (Value.slice A3 1 c3)) b9 (caseC (Value.string ⟨#[115]⟩) (Value.slice (some ⟨w.heap.size + 1 + 1, 0, none⟩) 1 1) (Value.slice none 0 0) (Value.slice (some ⟨w.heap.size + 1 + 1 + 1, 0, none⟩) 2 2) (Value.slice A2 2 c2) (Value.slice p.aC p.closed.length p.cC) (Value.slice p.aK p.rows.length p.cK) rel0 (Value.slice A3 1 c3) (Value.slice (some ⟨gG, 0, none⟩) 2 2)) 47) := hh (by
   have := HB9.o.set 60 (Value.slice A3 1 c3)
   rwa [caseC_set60] at this)
  have HZ2 : Hid (HB (wc.setCell ⟨b9, 60, none⟩ (Value.slice A3 1 c3)) w.heap.size zc 47) := hh (HZ1.o.other HN9.o)
  have HG2 : Hid (HB (wc.setCell ⟨b9, 60, none⟩ (Value.slice A3 1 c3)) gG #[Value.bool true, Value.bool true] 4) := hh (HG.o.other (by
   intro e
   have h1 := HB9.o
   rw [e] at h1
   have h2 : HB wc gG _ _ := HG.o
   unfold HB at h1 h2
   rw [h1] at h2
   have h3 := Option.some.inj h2
   injection h3 with h4 h5
   exact absurd h5 (by decide)))
  have HQ2 : Hid (Q V (wc.setCell ⟨b9, 60, none⟩ (Value.slice A3 1 c3))) := hh (HQ1.o.setCell HS1.o _)
  have HP2 := hh (HP.o (Value.slice A3 1 c3))
  have HSZ : (wc.setCell ⟨b9, 60, none⟩ (Value.slice A3 1 c3)).heap.size = wc.heap.size := World.size_setCell _ _ _
  generalize wc.setCell ⟨b9, 60, none⟩ (Value.slice A3 1 c3) = V1 at HW5 HB1 HZ2 HG2 HQ2 HP2 HSZ ⊢
  have cL1 : (V1.alloc (Obj.cells #[Value.int .i64 a, Value.int .i64 b] 3)).cell? ⟨wc.heap.size, 1, none⟩ = some (Value.int .i64 b) := by
   rw [← HSZ]
   exact (HB.new V1 #[Value.int .i64 a, Value.int .i64 b] 3 _ rfl).cell 1
  have oL1 : Old wc.heap.size (V1.alloc (Obj.cells #[Value.int .i64 a, Value.int .i64 b] 3)) := ⟨by rw [← HSZ]; simp⟩
  have HSZ1 := hh HSZ
  clear HSZ
  clear hbx HP HB9 HZ1 HG HQ1 c60 f60 o9 hwc
  have c60 := HB1.o.cell 60
  rw [caseC_60] at c60
  have f60 := HB1.o.soft 60
  have o9 := HB1.o.old
  have y0 : Tryz.zeroCells72[0]? = some (Value.int .i64 0) := by kernel_rfl
  have y1 : Tryz.zeroCells72[1]? = some (Value.int .i64 0) := by kernel_rfl
  have y2 : Tryz.zeroCells72[2]? = some (Value.int .i64 0) := by kernel_rfl
  have y3 : Tryz.zeroCells72[3]? = some (Value.int .i64 0) := by kernel_rfl
  have y4 : Tryz.zeroCells72[4]? = some (Value.int .i64 0) := by kernel_rfl
  have y5 : Tryz.zeroCells72[5]? = some (Value.int .i64 0) := by kernel_rfl
  have y6 : Tryz.zeroCells72[6]? = some (Value.int .i64 0) := by kernel_rfl
  have y7 : Tryz.zeroCells72[7]? = some (Value.int .i64 0) := by kernel_rfl
  have y8 : Tryz.zeroCells72[8]? = some (Value.int .i64 0) := by kernel_rfl
  have y9 : Tryz.zeroCells72[9]? = some (Value.int .i64 0) := by kernel_rfl
  have y10 : Tryz.zeroCells72[10]? = some (Value.int .i64 0) := by kernel_rfl
  have y11 : Tryz.zeroCells72[11]? = some (Value.int .i64 0) := by kernel_rfl
  rw [rounds_succ]
  go_upto_region 14 with (fail)
  generalize hC : Array.setIfInBounds _ 11 _ = C2
  have HW2 : Hid (C2.toList = (wav0 b).map (Value.int .i64)) := hh (by rw [← hC]; exact wav_nested b)
  clear hC y0 y1 y2 y3 y4 y5 y6 y7 y8 y9 y10 y11
  haveI : C72 C2 := wav_C72 HW2.o
  haveI : Ones C2 := wav_Ones HW2.o
  have hbs := fun w => buildWaveC HW2.o w
  go_wp2_with (first | (at_builtin; refine wpList_app_wave rfl _ _ rfl (V1.alloc (Obj.cells #[Value.int .i64 a, Value.int .i64 b] 3)) (.slice A3 1 c3) 1 ((wav0 a).map (Value.int .i64)) ((wav0 b).map (Value.int .i64)) _ rfl rfl (ownsRow_q HW5.o Q.i) (wav_len b) (cells_hb (HB.new _ _ _ _ (by simp [World.size_jk])) HW2.o) (wav_one b) (by decide) Q.i ?_; intro A4 c4 k4 hbx hgr))
  clear hgr hbs
  have HW6 : Hid ((((V1.setCell ⟨b9, 60, none⟩ (Value.slice A4 2 c4)).alloc (Obj.cells #[Value.int .i64 a, Value.int .i64 b] 3)).jk k4).ownsRow ((V1.setCell ⟨b9, 60, none⟩ (Value.slice A4 2 c4)).alloc (Obj.cells #[Value.int .i64 a, Value.int .i64 b] 3)).heap.size 72 72 (.slice A4 2 c4) 2 ((wav0 a).map (Value.int .i64) ++ (wav0 b).map (Value.int .i64))) := hh (own_swap (W := V1.alloc (Obj.cells #[Value.int .i64 a, Value.int .i64 b] 3)) (by simp) hbx)
  have HB2 : Hid (HB (V1.setCell ⟨b9, 60, none⟩ (Value.slice A4 2 c4)) b9 (caseC (Value.string ⟨#[115]⟩) (Value.slice (some ⟨w.heap.size + 1 + 1, 0, none⟩) 1 1) (Value.slice none 0 0) (Value.slice (some ⟨w.heap.size + 1 + 1 + 1, 0, none⟩) 2 2) (Value.slice A2 2 c2) (Value.slice p.aC p.closed.length p.cC) (Value.slice p.aK p.rows.length p.cK) rel0 (Value.slice A4 2 c4) (Value.slice (some ⟨gG, 0, none⟩) 2 2)) 47) := hh (by
   have := HB1.o.set 60 (Value.slice A4 2 c4)
   rwa [caseC_set60] at this)
  have HZ3 : Hid (HB (V1.setCell ⟨b9, 60, none⟩ (Value.slice A4 2 c4)) w.heap.size zc 47) := hh (HZ2.o.other HN9.o)
  have HG3 : Hid (HB (V1.setCell ⟨b9, 60, none⟩ (Value.slice A4 2 c4)) gG #[Value.bool true, Value.bool true] 4) := hh (HG2.o.other (by
   intro e
   have h1 := HB1.o
   rw [e] at h1
   have h2 : HB V1 gG _ _ := HG2.o
   unfold HB at h1 h2
   rw [h1] at h2
   have h3 := Option.some.inj h2
   injection h3 with h4 h5
   exact absurd h5 (by decide)))
  have HQ3 : Hid (Q V (V1.setCell ⟨b9, 60, none⟩ (Value.slice A4 2 c4))) := hh (HQ2.o.setCell HS1.o _)
  have HP3 := hh (HP2.o (Value.slice A4 2 c4))
  have HSZ2 : (V1.setCell ⟨b9, 60, none⟩ (Value.slice A4 2 c4)).heap.size = wc.heap.size := by rw [World.size_setCell]; exact HSZ1.o
  generalize (V1.setCell ⟨b9, 60, none⟩ (Value.slice A4 2 c4)) = V2' at HW6 HB2 HZ3 HG3 HQ3 HP3 HSZ2 ⊢
  have cL2 : (V2'.alloc (Obj.cells #[Value.int .i64 a, Value.int .i64 b] 3)).cell? ⟨wc.heap.size, 1, none⟩ = some (Value.int .i64 b) := by
   rw [← HSZ2]
   exact (HB.new V2' #[Value.int .i64 a, Value.int .i64 b] 3 _ rfl).cell 1
  clear HSZ2 cL2
  clear hbx HP2 HB1 HZ2 HG2 HQ2 c60 f60 o9 HW5
  haveI : Blk V2' b9 (.cells (caseC (Value.string ⟨#[115]⟩) (Value.slice (some ⟨w.heap.size + 1 + 1, 0, none⟩) 1 1) (Value.slice none 0 0) (Value.slice (some ⟨w.heap.size + 1 + 1 + 1, 0, none⟩) 2 2) (Value.slice A2 2 c2) (Value.slice p.aC p.closed.length p.cC) (Value.slice p.aK p.rows.length p.cK) rel0 (Value.slice A4 2 c4) (Value.slice (some ⟨gG, 0, none⟩) 2 2)) 47) := ⟨HB2.o⟩
  haveI : Blk V2' w.heap.size (.cells zc 47) := ⟨HZ3.o⟩
  have o92 := HB2.o.old
  have oz2 := HZ3.o.old
  rw [rounds_succ]
  go_wp2_with fail
  haveI : Blk (V2'.setBlk w.heap.size (.cells (caseC (Value.string ⟨#[115]⟩) (Value.slice (some ⟨w.heap.size + 1 + 1, 0, none⟩) 1 1) (Value.slice none 0 0) (Value.slice (some ⟨w.heap.size + 1 + 1 + 1, 0, none⟩) 2 2) (Value.slice A2 2 c2) (Value.slice p.aC p.closed.length p.cC) (Value.slice p.aK p.rows.length p.cK) rel0 (Value.slice A4 2 c4) (Value.slice (some ⟨gG, 0, none⟩) 2 2)) 47)) w.heap.size (.cells (caseC (Value.string ⟨#[115]⟩) (Value.slice (some ⟨w.heap.size + 1 + 1, 0, none⟩) 1 1) (Value.slice none 0 0) (Value.slice (some ⟨w.heap.size + 1 + 1 + 1, 0, none⟩) 2 2) (Value.slice A2 2 c2) (Value.slice p.aC p.closed.length p.cC) (Value.slice p.aK p.rows.length p.cK) rel0 (Value.slice A4 2 c4) (Value.slice (some ⟨gG, 0, none⟩) 2 2)) 47) := ⟨setBlk_self oz2 _⟩
  have HST3 : Hid (StAt (((V2'.setBlk w.heap.size (.cells (caseC (Value.string ⟨#[115]⟩) (Value.slice (some ⟨w.heap.size + 1 + 1, 0, none⟩) 1 1) (Value.slice none 0 0) (Value.slice (some ⟨w.heap.size + 1 + 1 + 1, 0, none⟩) 2 2) (Value.slice A2 2 c2) (Value.slice p.aC p.closed.length p.cC) (Value.slice p.aK p.rows.length p.cK) rel0 (Value.slice A4 2 c4) (Value.slice (some ⟨gG, 0, none⟩) 2 2)) 47)).alloc (Obj.cells #[Value.int .i64 a, Value.int .i64 b] 3)).jk k4) (sta0 (some ⟨w.heap.size + 1 + 1, 0, none⟩) (some ⟨w.heap.size + 1 + 1 + 1, 0, none⟩) A2 c2 (some ⟨(w.heap.size + 1 + 1 + 1 + 1 + 1 + 1), 0, none⟩) (some ⟨(w.heap.size + 1 + 1 + 1 + 1 + 1 + 1 + kx.os.size), 0, none⟩))) := hh (by
   obtain ⟨kV, eV⟩ := HQ3.o
   rw [eV, World.setBlk_jk]
   exact (HSV.o (caseC (Value.string ⟨#[115]⟩) (Value.slice (some ⟨w.heap.size + 1 + 1, 0, none⟩) 1 1) (Value.slice none 0 0) (Value.slice (some ⟨w.heap.size + 1 + 1 + 1, 0, none⟩) 2 2) (Value.slice A2 2 c2) (Value.slice p.aC p.closed.length p.cC) (Value.slice p.aK p.rows.length p.cK) rel0 (Value.slice A4 2 c4) (Value.slice (some ⟨gG, 0, none⟩) 2 2))).q Q.i)
  have HWV : Hid (WvAt (((V2'.setBlk w.heap.size (.cells (caseC (Value.string ⟨#[115]⟩) (Value.slice (some ⟨w.heap.size + 1 + 1, 0, none⟩) 1 1) (Value.slice none 0 0) (Value.slice (some ⟨w.heap.size + 1 + 1 + 1, 0, none⟩) 2 2) (Value.slice A2 2 c2) (Value.slice p.aC p.closed.length p.cC) (Value.slice p.aK p.rows.length p.cK) rel0 (Value.slice A4 2 c4) (Value.slice (some ⟨gG, 0, none⟩) 2 2)) 47)).alloc (Obj.cells #[Value.int .i64 a, Value.int .i64 b] 3)).jk k4) A4 2 c4 (wav0 a ++ wav0 b)) := hh ⟨by
   obtain ⟨A', c', e, h⟩ := rdv_of_own (own_swap (W := V2'.alloc (Obj.cells #[Value.int .i64 a, Value.int .i64 b] 3)) (W' := (V2'.setBlk w.heap.size (.cells (caseC (Value.string ⟨#[115]⟩) (Value.slice (some ⟨w.heap.size + 1 + 1, 0, none⟩) 1 1) (Value.slice none 0 0) (Value.slice (some ⟨w.heap.size + 1 + 1 + 1, 0, none⟩) 2 2) (Value.slice A2 2 c2) (Value.slice p.aC p.closed.length p.cC) (Value.slice p.aK p.rows.length p.cK) rel0 (Value.slice A4 2 c4) (Value.slice (some ⟨gG, 0, none⟩) 2 2)) 47)).alloc (Obj.cells #[Value.int .i64 a, Value.int .i64 b] 3)) (by simp [World.setBlk]) HW6.o) rfl
   injection e with e1 e2 e3
   subst e1 e3
   rw [List.map_append]
   exact h, by decide⟩
  have HGD : Hid (GdAt (((V2'.setBlk w.heap.size (.cells (caseC (Value.string ⟨#[115]⟩) (Value.slice (some ⟨w.heap.size + 1 + 1, 0, none⟩) 1 1) (Value.slice none 0 0) (Value.slice (some ⟨w.heap.size + 1 + 1 + 1, 0, none⟩) 2 2) (Value.slice A2 2 c2) (Value.slice p.aC p.closed.length p.cC) (Value.slice p.aK p.rows.length p.cK) rel0 (Value.slice A4 2 c4) (Value.slice (some ⟨gG, 0, none⟩) 2 2)) 47)).alloc (Obj.cells #[Value.int .i64 a, Value.int .i64 b] 3)).jk k4) (some ⟨gG, 0, none⟩) 2 2 [true, true]) := hh ⟨rdv_of_hb (((hb_setBlk HG3.o (by have h1 := HS2.o; have h2 := HZL.o; omega)).alloc _).jk _) 2 2 1 _ rfl rfl (by decide), by decide⟩
  have HPO := hh (HP3.o (caseC (Value.string ⟨#[115]⟩) (Value.slice (some ⟨w.heap.size + 1 + 1, 0, none⟩) 1 1) (Value.slice none 0 0) (Value.slice (some ⟨w.heap.size + 1 + 1 + 1, 0, none⟩) 2 2) (Value.slice A2 2 c2) (Value.slice p.aC p.closed.length p.cC) (Value.slice p.aK p.rows.length p.cK) rel0 (Value.slice A4 2 c4) (Value.slice (some ⟨gG, 0, none⟩) 2 2)))
  refine bodyPost_ret (v := .agg (caseC (Value.string ⟨#[115]⟩) (Value.slice (some ⟨w.heap.size + 1 + 1, 0, none⟩) 1 1) (Value.slice none 0 0) (Value.slice (some ⟨w.heap.size + 1 + 1 + 1, 0, none⟩) 2 2) (Value.slice A2 2 c2) (Value.slice p.aC p.closed.length p.cC) (Value.slice p.aK p.rows.length p.cK) rel0 (Value.slice A4 2 c4) (Value.slice (some ⟨gG, 0, none⟩) 2 2))) (results_blk1 rfl rfl Tryz.underlying47 rfl (by rw [caseC_size]; exact infoCase34)) rfl ⟨_, _, _, _, _, _, p, A4, c4, _, rfl, (((HQ0.o.trans HQ3.o).setBlk (Nat.le_refl _) _).alloc _).jk _, HST3.o, HPO.o.q Q.i, HC.o, HR.o, HWV.o, HGD.o⟩
end Go.Proofs.YtcjflafjmdfanaaGreatDoor

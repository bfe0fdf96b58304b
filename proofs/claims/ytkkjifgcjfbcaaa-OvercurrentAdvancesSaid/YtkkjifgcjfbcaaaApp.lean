
/- append onto slices that the call has made, in the words of Q. -/
import Derived.Test.YtkkjifgcjfbcaaaBlk
import Derived.Test.YtkkjifgcjfbcaaaRows
import Derived.Maps.AppendAt
namespace Go
open Go.RowKit
/-- Two slices do not share their block. -/
def Apart (v u : Value) : Prop := ∀ g, v.ownBlock = some g → u.ownBlock ≠ some g
theorem Apart.symm {v u : Value} (h : Apart v u) : Apart u v := fun g hg hv => h g hv hg
theorem Apart.nil (u : Value) : Apart (.slice none 0 0) u := fun g hg => by simp [Value.ownBlock] at hg
theorem Apart.nil' (u : Value) : Apart u (.slice none 0 0) := (Apart.nil u).symm
/-- What was there before an append to v, apart from v, is there behind it. -/
def Grown (base : Nat) (v v' : Value) (w w' : World) : Prop :=
  ∀ (e : TypeId) (size : Nat) (u : Value) (n : Nat) (xs : List Value), w.ownsRow base e size u n xs → Apart v u → w'.ownsRow base e size u n xs ∧ Apart v' u
theorem ownsRow_q {w w' : World} {base : Nat} {e : TypeId} {size : Nat} {u : Value} {n : Nat} {xs : List Value} (h : w.ownsRow base e size u n xs) (hq : Q w w') : w'.ownsRow base e size u n xs := by
  refine h.kept (row := none) ?_ (by cases u.ownBlock <;> simp)
  have hb := hq.below
  exact ⟨hb.os, hb.tape, hb.output, hb.size, fun k hk _ => hb.block k hk⟩
theorem grown_Q {W0 w w' : World} {row : Option Nat} (h : Q W0 w) (hg : w.grownBy w' row) (hr : ∀ g, row = some g → W0.heap.size ≤ g) : Q W0 w' := by
  have hb := h.below
  refine Q.of_below ⟨hg.os.trans hb.os, hg.tape.trans hb.tape, hg.output.trans hb.output, Nat.le_trans hb.size hg.size, fun k hk => ?_⟩
  rw [hg.block k (Nat.lt_of_lt_of_le hk hb.size) (fun e => by have := hr k e.symm; omega)]
  exact hb.block k hk
theorem wpList_app {P : Program} {ops : Array Oper} {rest : List Oper} {o : Oper} {a : Act} {w : World} {Q' : Exit → Act → World → Prop} (hgd : o.guard = none) (s x : Operand) (t : TypeId)
    (ho : o.op = .call { callee := .builtin .append, args := #[s, x], argTypes := #[t, t] })
    (W0 : World) (e : TypeId) (i : TypeInfo) (z : Value) (size bytes : Nat) (ht : P.underlying t = some (.slice e)) (hi : P.info? e = some i) (hz : i.zero = some z)
    (hsize : i.size = size) (hby : i.bytes = bytes) (hzs : z.cells.size = size) (hsz : 0 < size)
    (v : Value) (n : Nat) (xs : List Value) (hs : a.eval s = v) (hown : w.ownsRow W0.heap.size e size v n xs)
    (ad : Addr) (m c : Nat) (news : List Value) (hx : a.eval x = .slice (some ad) m c) (hl : news.length = m * size) (hnews : ∀ j u, news[j]? = some u → w.cell? (ad.add j) = some u) (h1 : ∀ u ∈ news, u.oneCell' = true)
    (h63 : n + m ≤ maxLen) (hbytes : (n + m) * bytes ≤ 140737488355328) (hQ : Q W0 w)
    (h : ∀ v' kk, (W0.jk kk).ownsRow W0.heap.size e size v' (n + m) (xs ++ news) → Grown W0.heap.size v v' w (W0.jk kk) → wpList P ops Q' rest (a.put o.dst v') (W0.jk kk)) : wpList P ops Q' (o :: rest) a w := by
  refine wpList_append_own_at w hgd s x t ho W0.heap.size e i z size bytes ht hi hz hsize hby hzs hsz v n xs hs hown ad m c news hx hl hnews h1 h63 hbytes hQ.below.size ?_
  intro v' w' hown' hgrow _ hat
  have hq := grown_Q hQ hgrow fun g hg => (hown.lt g hg).1
  obtain ⟨kk, rfl⟩ := hq
  refine h v' kk hown' fun e2 size2 u n2 xs2 hu hap => ⟨hu.kept hgrow ?_, fun g hg hug => ?_⟩
  · cases hub : u.ownBlock with
    | none => exact .inl rfl
    | some g => exact .inr fun e3 => hap g e3.symm hub
  · rcases hat with hat | hat
    · exact hap g (hat ▸ hg) hug
    · rw [hat] at hg
      have := (hu.lt g hug).2
      have := Option.some.inj hg
      omega
end Go
namespace Go.Proofs.Ytkkjifgcjfbcaaa
open Go.RowKit
theorem infoInt : ∃ i, Try.prog.info? 3 = some i ∧ i.zero = some (.int .i64 0) ∧ i.size = 1 ∧ i.bytes = 8 := by
  have h : (Try.prog.info? 3).map (fun i => (i.zero, i.size, i.bytes)) = some (some (.int .i64 0), 1, 8) := by kernel_rfl
  cases hi : Try.prog.info? 3 with
  | none => rw [hi] at h; cases h
  | some i =>
    rw [hi] at h
    simp only [Option.map_some, Option.some.injEq, Prod.mk.injEq] at h
    exact ⟨i, rfl, h.1, h.2.1, h.2.2⟩
/-- The slice v holds the numbers zs, in a block behind W0's. -/
def RowI (W0 w : World) (v : Value) (zs : List Int) : Prop := w.ownsRow W0.heap.size 3 1 v zs.length (zs.map (Value.int .i64))
theorem RowI.nil (W0 w : World) : RowI W0 w (.slice none 0 0) [] := World.ownsRow_nil _ _ _ _
theorem RowI.q {W0 w w' : World} {v : Value} {zs : List Int} (h : RowI W0 w v zs) (hq : Q w w') : RowI W0 w' v zs := ownsRow_q h hq
theorem RowI.grown {W0 w w' : World} {v v' u : Value} {zs : List Int} (h : RowI W0 w u zs) (hg : Grown W0.heap.size v v' w w') (ha : Apart v u) : RowI W0 w' u zs ∧ Apart v' u := hg _ _ _ _ _ h ha
theorem wpList_app_int {ops : Array Oper} {rest : List Oper} {o : Oper} {a : Act} {w : World} {Q' : Exit → Act → World → Prop} (hgd : o.guard = none) (s x : Operand)
    (ho : o.op = .call { callee := .builtin .append, args := #[s, x], argTypes := #[96, 96] }) (W0 : World) (v : Value) (zs : List Int) (z : Int) (g : Nat)
    (hs : a.eval s = v) (hx : a.eval x = .slice (some ⟨g, 0, none⟩) 1 1) (hown : RowI W0 w v zs) (hg : w.cell? ⟨g, 0, none⟩ = some (.int .i64 z)) (hlen : zs.length < 1000000) (hQ : Q W0 w)
    (h : ∀ v' kk, RowI W0 (W0.jk kk) v' (zs ++ [z]) → Grown W0.heap.size v v' w (W0.jk kk) → wpList Try.prog ops Q' rest (a.put o.dst v') (W0.jk kk)) : wpList Try.prog ops Q' (o :: rest) a w := by
  obtain ⟨i, hi, hz, hs1, hb⟩ := infoInt
  refine wpList_app hgd s x 96 ho W0 3 i (.int .i64 0) 1 8 Try.underlying96 hi hz hs1 hb rfl (by decide) v _ _ hs hown ⟨g, 0, none⟩ 1 1 [.int .i64 z] hx rfl ?_ ?_ (by unfold maxLen; omega) (by omega) hQ ?_
  · intro j u hj
    match j, hj with
    | 0, hj => simp at hj; subst hj; simpa [Addr.add] using hg
  · intro u hu
    simp at hu
    subst hu
    rfl
  · intro v' kk h1 h2
    refine h v' kk ?_ h2
    unfold RowI
    simpa using h1
/-- A slice of n numbers. -/
theorem RowI.win {W0 w : World} {v : Value} {zs : List Int} (h : RowI W0 w v zs) (hn : zs ≠ []) : ∃ g c, v = .slice (some ⟨g, 0, none⟩) zs.length c ∧ W0.heap.size ≤ g ∧ ∀ k, k < zs.length → w.cell? ⟨g, k, none⟩ = some (.int .i64 (zs.getD k 0)) := by
  have hl : zs.length ≠ 0 := fun e => hn (List.eq_nil_of_length_eq_zero e)
  have hlt := h
  rcases h.2 with ⟨_, h0⟩ | ⟨g, cap, cur, rfl, hb, hg, hc, _, hcs, htake⟩
  · exact absurd h0 hl
  · refine ⟨g, cap, rfl, hb, fun k hk => ?_⟩
    have := hlt.cells (g := g) rfl k (.int .i64 (zs.getD k 0)) (by simp [List.getD, hk])
    have e : (⟨g, 0, none⟩ : Addr).add k = ⟨g, k, none⟩ := by unfold Addr.add; split <;> simp_all
    rw [e] at this
    exact this
end Go.Proofs.Ytkkjifgcjfbcaaa


/- Words for arrived: the copies of the frames, the numbers of the sequence. -/
import Derived.Test.YtfdpnephjpcnbaaDoorBz13
import Derived.Test.YtfdpnephjpcnbaaDoorBz17
import Derived.Test.YtfdpnephjpcnbaaDoorBz19
import Derived.Test.YtfdpnephjpcnbaaDoorBz20
set_option linter.unusedSimpArgs false
set_option linter.unusedVariables false
set_option linter.unusedVariables false
set_option linter.unusedSimpArgs false
namespace Go.Sub
/-- The number of copy k. -/
def seqK (k : Nat) : Int := (65530 + (k : Int)) % 65536
def seenK (k : Nat) : Int := 2 ^ (k + 1) - 1
end Go.Sub
namespace Go.Proofs.YtfdpnephjpcnbaaDoor
open Go.RowKit Go.Sub
/-- The bytes of a copy. -/
def cpF (u F : Int) (n : Nat) (mark : Int) (k : Nat) (f : Fm) : List Int := encL u f.c f.xs f.qs ++ trl F (seqK k) mark (8 + 3 * n)
/-- The rows of copies. -/
def RowB (W0 w : World) (M : Nat) (v : Value) (gs : List Nat) : Prop := w.ownsRow W0.heap.size 73 1 v gs.length (gs.map fun g => Value.slice (some ⟨g, 0, none⟩) M M)
theorem infoBs : ∃ i, Tryd.prog.info? 73 = some i ∧ i.zero = some (.slice none 0 0) ∧ i.size = 1 ∧ i.bytes = 24 := by
  have h : (Tryd.prog.info? 73).map (fun i => (i.zero, i.size, i.bytes)) = some (some (.slice none 0 0), 1, 24) := by kernel_rfl
  cases hi : Tryd.prog.info? 73 with
  | none => rw [hi] at h; cases h
  | some i =>
    rw [hi] at h
    simp only [Option.map_some, Option.some.injEq, Prod.mk.injEq] at h
    exact ⟨i, rfl, h.1, h.2.1, h.2.2⟩
theorem hb_ne_own {w : World} {b : Nat} {cs : Array Value} {t e : TypeId} {base size n : Nat} {v : Value} {xs : List Value} (h : HB w b cs t) (ho : w.ownsRow base e size v n xs) (hne : t ≠ e) : some b ≠ v.ownBlock := by
  intro hv
  rcases ho.2 with ⟨rfl, _⟩ | ⟨g1, _, cur, rfl, _, hg, _⟩
  · simp [Value.ownBlock] at hv
  · simp [Value.ownBlock] at hv
    subst hv
    have h' : w.heap[b]? = some (.cells cs t) := h
    rw [h'] at hg
    injection hg with hg
    injection hg with _ hg _
    exact hne hg
/-- append of one copy onto a row of copies, in a region that draws. -/
theorem step_app_cp {ops : Array Oper} {o : Oper} {a : Act} {w : World} {K : Act → World → Prop} {Q' : Exit → Act → World → Prop} {E : Prop} (hgd : o.guard = none) (s x : Operand)
    (ho : o.op = .call { callee := .builtin .append, args := #[s, x], argTypes := #[71, 71] }) (W0 : World) (M : Nat) (v : Value) (gs : List Nat) (g g1 : Nat)
    (hs : a.eval s = v) (hx : a.eval x = .slice (some ⟨g1, 0, none⟩) 1 1) (hown : RowB W0 w M v gs) (hg1 : w.cell? ⟨g1, 0, none⟩ = some (.slice (some ⟨g, 0, none⟩) M M)) (hlen : gs.length < 100000) (hQ : Q W0 w)
    (h : ∀ v' kk, RowB W0 (W0.jk kk) M v' (gs ++ [g]) → w.grownBy (W0.jk kk) v.ownBlock → Grown W0.heap.size v v' w (W0.jk kk) → K (a.put o.dst v') (W0.jk kk)) :
    if Region.wanted o (yielded ops a.tmps) = true then Oper.wp Tryd.prog o a w K Q' else E := by
  have hw : Region.wanted o (yielded ops a.tmps) = true := by simp [Region.wanted, hgd]
  rw [if_pos hw]
  obtain ⟨i, hi, hz, hs1, hb⟩ := infoBs
  obtain ⟨v', w', hr, h2, h3, _, h5⟩ := run_append_own_at (P := Tryd.prog) w W0.heap.size 71 o.type 73 i _ 1 24 Tryd.underlying71 hi hz hs1 hb rfl (by decide) v _ _ hown ⟨g1, 0, none⟩ 1 1 [Value.slice (some ⟨g, 0, none⟩) M M] rfl
    (fun j u hj => by
      match j, hj with
      | 0, hj => simp at hj; subst hj; simpa [Addr.add] using hg1)
    (fun u hu => by simp at hu; subst hu; rfl) (by unfold maxLen; omega) (by omega) hQ.below.size
  unfold Oper.wp execOp
  simp only [ho, resolve, invoke, builtin, Sem.run_bind, Sem.run_pure, Result.andThen_ok, List.map_toArray, List.map_cons, List.map_nil, hs, hx, hr]
  have hq := grown_Q hQ h3 (fun g hg => (hown.lt g hg).1)
  obtain ⟨kk, rfl⟩ := hq
  refine h v' kk ?_ h3 ?_
  · unfold RowB
    rw [List.length_append, List.map_append]
    exact h2
  · intro e2 size2 u n2 xs2 hu hap
    refine ⟨hu.kept h3 ?_, fun g hg hug => ?_⟩
    · cases hub : u.ownBlock with
      | none => exact .inl rfl
      | some g => exact .inr fun e3 => hap g e3.symm hub
    · rcases h5 with hat | hat
      · exact hap g (hat ▸ hg) hug
      · rw [hat] at hg
        have := (hu.lt g hug).2
        have := Option.some.inj hg
        omega
/-- Where the bytes of the copies lie. -/
def Cop (u F : Int) (n : Nat) (mark : Int) (l : List Fm) (w : World) (gs : List Nat) : Prop := ∀ (i : Nat) (f : Fm) (g : Nat), l[i]? = some f → gs[i]? = some g → HB w g (cellsN .u8 (cpF u F n mark i f)) 5
theorem seq_next (k : Nat) : (seqK k + 1) % 65536 = seqK (k + 1) := by
  unfold seqK
  omega
theorem seq_in (k : Nat) : 0 ≤ seqK k ∧ seqK k < 65536 := by
  unfold seqK
  omega
/-- take of the copies, in their order. -/
theorem take_newK (o : Int) (k : Nat) (hk : k < 11) (w : World) : Calls Tryd.prog 52 #[.agg #[.int .i64 o, .int .i64 (seqK k), .int .u64 (seenK k)], .int .i64 (seqK (k + 1))] w fun e w' => e = .returned (.tuple #[.agg #[.int .i64 o, .int .i64 (seqK (k + 1)), .int .u64 (seenK (k + 1))], .bool true]) ∧ Q w w' := by
  match k, hk with
  | 0, _ => exact take_new1 o w
  | 1, _ => exact take_new2 o w
  | 2, _ => exact take_new3 o w
  | 3, _ => exact take_new4 o w
  | 4, _ => exact take_new5 o w
  | 5, _ => exact take_new6 o w
  | 6, _ => exact take_new7 o w
  | 7, _ => exact take_new8 o w
  | 8, _ => exact take_new9 o w
  | 9, _ => exact take_new10 o w
  | 10, _ => exact take_new11 o w
theorem take_oldK (o : Int) (k : Nat) (hk : k < 12) (w : World) : Calls Tryd.prog 52 #[.agg #[.int .i64 o, .int .i64 (seqK 11), .int .u64 (seenK 11)], .int .i64 (seqK k)] w fun e w' => e = .returned (.tuple #[.agg #[.int .i64 o, .int .i64 (seqK 11), .int .u64 (seenK 11)], .bool false]) ∧ Q w w' := by
  match k, hk with
  | 0, _ => exact take_old0 o w
  | 1, _ => exact take_old1 o w
  | 2, _ => exact take_old2 o w
  | 3, _ => exact take_old3 o w
  | 4, _ => exact take_old4 o w
  | 5, _ => exact take_old5 o w
  | 6, _ => exact take_old6 o w
  | 7, _ => exact take_old7 o w
  | 8, _ => exact take_old8 o w
  | 9, _ => exact take_old9 o w
  | 10, _ => exact take_old10 o w
  | 11, _ => exact take_old11 o w
end Go.Proofs.YtfdpnephjpcnbaaDoor


/- A region that draws its order, with stores among its reads: what reads is taken first, each store comes on its turn; what a read may see of the stores is told by a class of worlds. -/
import Derived.Test.YtfdpnephjpcnbaaDoorBz01
import Derived.OrdersHeld
set_option linter.unusedSimpArgs false
set_option linter.unusedVariables false
namespace Go
open Go.RowKit
section
variable {P : Program} {ops : Array Oper} {Q : Exit → Act → World → Prop} {md : Region.Mode} {S : Array Bool → World → Prop}
/-- What has come up had all come up that it waits for. -/
def ClosedL (md : Region.Mode) (ops : Array Oper) (l : Array Bool) : Prop :=
  ∀ j oj, ops[j]? = some oj → l.getD j false = true → ∀ e ∈ oj.after, Region.binds md e = true → l.getD e.on false = true
theorem ClosedL.set {l : Array Bool} {j : Nat} (h : ClosedL md ops l) (hj : j ∈ Region.ready md ops l) : ClosedL md ops (l.setIfInBounds j true) := by
  intro i oi hi hl e he hb
  by_cases hij : j = i
  · subst hij
    obtain ⟨_, o, ho, hall⟩ := mem_ready.1 hj
    rw [hi] at ho
    obtain rfl := Option.some.inj ho
    exact getD_set_true (hall e he hb)
  · rw [getD_set_ne false hij] at hl
    exact getD_set_true (h i oi hi hl e he hb)
theorem closed_start (n : Nat) : ClosedL md ops (Array.replicate n false) := by
  intro j oj _ hl
  have : (Array.replicate n false).getD j false = false := by
    by_cases h : j < n <;> simp [h]
  rw [this] at hl
  cases hl
/-- Each waits for the one ahead of it. -/
def pathB (md : Region.Mode) (ops : Array Oper) : List Nat → Bool
  | x :: y :: r => (match ops[y]? with | some o => o.after.any (fun e => e.on == x && Region.binds md e) | none => false) && pathB md ops (y :: r)
  | _ => true
theorem path_false {l : Array Bool} (hc : ClosedL md ops l) : ∀ (p : List Nat) (x : Nat), pathB md ops (x :: p) = true → l.getD x false = false → ∀ s ∈ p, l.getD s false = false
  | [], _, _, _, s, hs => by cases hs
  | y :: r, x, hp, hx, s, hs => by
    simp only [pathB, Bool.and_eq_true] at hp
    obtain ⟨h1, h2⟩ := hp
    have hy : l.getD y false = false := by
      cases e : l.getD y false with
      | false => rfl
      | true =>
        exfalso
        split at h1
        · rename_i o ho
          obtain ⟨i, hi, he⟩ := Array.any_eq_true.1 h1
          simp only [Bool.and_eq_true, beq_iff_eq] at he
          have := hc y o ho e _ (Array.getElem_mem hi) he.2
          rw [he.1, hx] at this
          cases this
        · cases h1
    rcases List.mem_cons.1 hs with rfl | hs
    · exact hy
    · exact path_false hc r y h2 hy s hs
theorem getD_both' {l : Array Bool} {i : Nat} (h : l.getD i true = false) : l.getD i false = false := by
  rcases Nat.lt_or_ge i l.size with h' | h'
  · simp [h'] at h ⊢; exact h
  · simp [Array.getElem?_eq_none h'] at h
/-- Whatever order is picked from here on, and S holds behind every operation that is carried out. -/
def wpAnyT (P : Program) (md : Region.Mode) (ops : Array Oper) (Q : Exit → Act → World → Prop) (S : Array Bool → World → Prop) : Nat → Array Bool → Act → World → Prop
  | 0, listed, a, w => Region.ready md ops listed = [] ∧ Q .normal a w
  | fuel + 1, listed, a, w =>
    (Region.ready md ops listed = [] → Q .normal a w) ∧
    ∀ i ∈ Region.ready md ops listed, wpOp P ops Q i (fun a' w' => S (listed.setIfInBounds i true) w' ∧ wpAnyT P md ops Q S fuel (listed.setIfInBounds i true) a' w') a w
theorem wpAny_of_S : ∀ (fuel : Nat) (listed : Array Bool) (a : Act) (w : World), wpAnyT P md ops Q S fuel listed a w → wpAny P md ops Q fuel listed a w
  | 0, _, _, _, h => h
  | fuel + 1, _, _, _, h => ⟨h.1, fun i hi => wpOp_mono (fun a' w' h' => wpAny_of_S fuel _ a' w' h'.2) (h.2 i hi)⟩
/-- The worlds in which operation i may come up. -/
def ClassOf (md : Region.Mode) (ops : Array Oper) (S : Array Bool → World → Prop) (i : Nat) (w : World) : Prop := ∃ l', ClosedL md ops l' ∧ l'.getD i true = false ∧ S l' w
theorem wpAnyT_first {i : Nat} {oi : Oper} {v : Value} (hi : ops[i]? = some oi) (hsel : ∀ (j : Nat) (o : Oper) cs b, ops[j]? = some o → o.op ≠ .select cs b)
    (hQ : ∀ c a w, Q (.panic c) (a.put oi.dst v) w → Q (.panic c) a w) (hSi : ∀ l w, S (l.setIfInBounds i true) w ↔ S l w) :
    ∀ (fuel : Nat) (listed : Array Bool) (a : Act) (w : World),
      (∀ j oj, ops[j]? = some oj → j ≠ i → listed.getD j true = false → (∀ e ∈ oj.after, Region.binds md e = true → e.on ≠ i) → oi.apart ops oj = true) →
      ClosedL md ops listed → i ∈ Region.ready md ops listed → YieldsIf P ops (ClassOf md ops S i) oi v a → S listed w →
      wpAnyT P md ops Q S fuel (listed.setIfInBounds i true) (a.put oi.dst v) w → wpAnyT P md ops Q S (fuel + 1) listed a w := by
  intro fuel
  induction fuel with
  | zero =>
    intro listed a w _ hc hr hy hS H
    refine ⟨fun h => (by rw [h] at hr; cases hr), fun j hj => ?_⟩
    by_cases hji : j = i
    · subst hji; exact hy.wpOp hi ⟨listed, hc, (mem_ready.1 hr).1, hS⟩ ⟨(hSi _ _).2 hS, H⟩
    · have := ready_mono hj hji
      rw [H.1] at this
      cases this
  | succ fuel ih =>
    intro listed a w hfree hc hr hy hS H
    refine ⟨fun h => (by rw [h] at hr; cases hr), fun j hj => ?_⟩
    by_cases hji : j = i
    · subst hji; exact hy.wpOp hi ⟨listed, hc, (mem_ready.1 hr).1, hS⟩ ⟨(hSi _ _).2 hS, H⟩
    · have h1 := H.2 j (ready_mono hj hji)
      obtain ⟨hjun, oj, hoj, hall⟩ := mem_ready.1 hj
      have hnot : ∀ e ∈ oj.after, Region.binds md e = true → e.on ≠ i := fun e he hb heq => by
        have h1 := hall e he hb
        have h0 := getD_both' (mem_ready.1 hr).1
        rw [heq, h0] at h1
        cases h1
      have h2 := wpOp_putIf hoj (hfree j oj hoj hji hjun hnot) (fun cs b => hsel i oi cs b hi) (fun cs b => hsel j oj cs b hoj) hQ hy h1
      have hfree' : ∀ k ok, ops[k]? = some ok → k ≠ i → (listed.setIfInBounds j true).getD k true = false →
          (∀ e ∈ ok.after, Region.binds md e = true → e.on ≠ i) → oi.apart ops ok = true := fun k ok hk hki hun hno => by
        refine hfree k ok hk hki ?_ hno
        by_cases hjk : j = k
        · subst hjk; exact hjun
        · rw [getD_set_ne true hjk] at hun; exact hun
      refine wpOp_mono (fun a' w' h3 => ?_) h2
      have hs : S (listed.setIfInBounds j true) w' := by
        have := h3.2.1
        rw [Array.setIfInBounds_comm _ _ (Ne.symm hji)] at this
        exact (hSi _ _).1 this
      refine ⟨hs, ih (listed.setIfInBounds j true) a' w' hfree' (hc.set hj) (ready_mono hr (Ne.symm hji)) h3.1 hs ?_⟩
      rw [Array.setIfInBounds_comm _ _ hji]
      exact h3.2.2
/-- What the walk is to show. -/
def GoS (P : Program) (md : Region.Mode) (ops : Array Oper) (Q : Exit → Act → World → Prop) (S : Array Bool → World → Prop) (fuel : Nat) (listed : Array Bool) (a : Act) (w : World) : Prop :=
  ClosedL md ops listed → S listed w → wpAnyT P md ops Q S fuel listed a w
/-- Operations that yield a value, if anything. -/
def kindB (o : Oper) : Bool := match o.op with
  | .move _ | .assign _ | .load _ _ | .fieldAddr _ _ _ | .indexAddr _ _ _ | .binOp _ _ _ _ _ | .unOp _ _ _ | .build _ _ | .extract _ _ | .index _ _ _ => true
  | _ => false
theorem value_only (s : Sem Value) {w w' : World} {n : Next} (h : (do pure (Next.value (← s)) : Sem Next).run P w = .ok n w') : ∃ v, n = .value v := by
  simp only [Sem.run_bind] at h
  cases hs : s.run P w with
  | ok x w1 =>
    rw [hs] at h
    simp at h
    exact ⟨x, h.1.symm⟩
  | halt x w1 =>
    rw [hs] at h
    cases h
theorem kind_value {o : Oper} {ρ : Operand → Value} {w w' : World} {n : Next} (hk : kindB o = true) (h : (execOp ρ o).run P w = .ok n w') : ∃ v, n = .value v := by
  unfold kindB at hk
  unfold execOp at h
  cases ho : o.op <;> rw [ho] at hk <;> first | (cases hk; done) | (rw [ho] at h; exact value_only _ h) | (rw [ho] at h; simp at h; exact ⟨_, h.1.symm⟩)
theorem GoS.take {i : Nat} {oi : Oper} {fuel : Nat} {listed : Array Bool} {a : Act} {w : World} (C : World → Prop) (hC : ∀ l' w, ClosedL md ops l' → l'.getD i true = false → S l' w → C w)
    (hi : ops[i]? = some oi) (hk : kindB oi = true) (hs : Region.noSelect ops = true) (hf : Region.free md ops listed i = true) (hr : (Region.ready md ops listed).contains i = true)
    (hQ : ∀ v c a w, Q (.panic c) (a.put oi.dst v) w → Q (.panic c) a w) (hSi : ∀ l w, S (l.setIfInBounds i true) w ↔ S l w)
    (h : wpQuiet P ops C (fun a' => GoS P md ops Q S fuel (listed.setIfInBounds i true) a' w) [oi] a) : GoS P md ops Q S (fuel + 1) listed a w := by
  intro hc hS
  have hr' : i ∈ Region.ready md ops listed := by simpa using hr
  have hq : qOp P ops C i (fun a' => GoS P md ops Q S fuel (listed.setIfInBounds i true) a' w) a := by
    unfold qOp
    rw [hi]
    exact h
  obtain ⟨v, hy, hK⟩ := yieldsIn_of_qOp hi hq
  refine wpAnyT_first (v := v) hi (Region.noSelect_spec hs) (hQ v) hSi fuel listed a w (Region.free_spec hi hf) hc hr' ?_ hS (hK (hc.set hr') ((hSi _ _).2 hS))
  rcases hy with ⟨hw, hv⟩ | ⟨hw, hv⟩
  · refine .inl ⟨hw, fun u hu => ?_⟩
    obtain ⟨l', h1, h2, h3⟩ := hu
    have h4 := hv u (hC l' u h1 h2 h3)
    unfold Oper.quietAt at h4
    cases hrun : (execOp a.eval oi).run P u with
    | ok n w' =>
      obtain ⟨x, rfl⟩ := kind_value hk hrun
      rw [hrun] at h4
      obtain ⟨rfl, rfl⟩ := h4
      rfl
    | halt x w' =>
      rw [hrun] at h4
      exact h4.elim
  · exact .inr ⟨hw, hv⟩
/-- The one that comes up now. -/
theorem GoS.turn {i : Nat} {o : Oper} {fuel : Nat} {listed : Array Bool} {a : Act} {w : World} (hr : Region.ready md ops listed = [i]) (ho : ops[i]? = some o)
    (h : ∀ K : Act → World → Prop, (∀ a' w', S (listed.setIfInBounds i true) w' → GoS P md ops Q S fuel (listed.setIfInBounds i true) a' w' → K a' w') → if Region.wanted o (yielded ops a.tmps) then o.wp P a w K Q else K (a.put o.dst undef) w) : GoS P md ops Q S (fuel + 1) listed a w := by
  intro hc _
  have hi : i ∈ Region.ready md ops listed := by rw [hr]; exact List.mem_singleton.2 rfl
  refine ⟨fun h0 => (by rw [hr] at h0; cases h0), fun j hj => ?_⟩
  rw [hr] at hj
  obtain rfl := List.mem_singleton.1 hj
  have h1 := h (fun a' w' => S (listed.setIfInBounds j true) w' ∧ wpAnyT P md ops Q S fuel (listed.setIfInBounds j true) a' w') fun a' w' hs hg => ⟨hs, hg (hc.set hi) hs⟩
  unfold wpOp
  rw [ho]
  dsimp only
  split
  · rename_i hw
    rw [if_pos hw] at h1
    exact .inl h1
  · rename_i hw
    rw [if_neg hw] at h1
    exact h1
theorem GoS.done {listed : Array Bool} {a : Act} {w : World} (hr : Region.ready md ops listed = []) (h : Q .normal a w) : GoS P md ops Q S 0 listed a w := fun _ _ => ⟨hr, h⟩
theorem wp_region_S {id : Nat} {a : Act} {w : World} (n : Nat) (hn : ops.size = n) (S : Array Bool → World → Prop) (hm : P.follows .mixedOrders = true) (h0 : S (Array.replicate n false) w.drew)
    (h : GoS P .any ops Q S n (Array.replicate n false) a w.drew) : (Code.region id ops true).wp P Q a w := by
  subst hn
  exact wp_region_any hm (wpAny_of_S _ _ _ _ (h (closed_start _) h0))
end
/-- The world is that of the stores that have come up, with new blocks behind it. -/
def StF (st : List Nat) (F : List Bool → World) (l : Array Bool) (w : World) : Prop := ∃ k : Jk, w = (F (st.map fun j => l.getD j false)).jk k
theorem StF.idle {st : List Nat} {F : List Bool → World} {i : Nat} (hi : st.contains i = false) (l : Array Bool) (w : World) : StF st F (l.setIfInBounds i true) w ↔ StF st F l w := by
  have e : (st.map fun j => (l.setIfInBounds i true).getD j false) = st.map fun j => l.getD j false := by
    apply List.map_congr_left
    intro j hj
    refine getD_set_ne false fun e => ?_
    subst e
    have : st.contains i = true := List.contains_iff_mem.2 hj
    rw [this] at hi
    cases hi
  unfold StF
  rw [e]
/-- New blocks, and which stores have come up. -/
structure JF where
  k : Jk
  l : List Bool
instance : Inhabited JF := ⟨⟨default, []⟩⟩
structure JB where
  k : Jk
  b : Bool
instance : Inhabited JB := ⟨⟨default, false⟩⟩
structure JBB where
  k : Jk
  b : Bool
  c : Bool
instance : Inhabited JBB := ⟨⟨default, false, false⟩⟩
theorem StF.of {st : List Nat} {F : List Bool → World} {l : Array Bool} {w : World} (fl : List Bool) (e : (st.map fun j => l.getD j false) = fl) (h : Q (F fl) w) : StF st F l w := by
  unfold StF
  rw [e]
  exact h
section
variable {md : Region.Mode} {ops : Array Oper} {F : List Bool → World} {s1 s2 s3 i : Nat} {p : List Nat}
theorem StF.any {st : List Nat} : ∀ l' w, ClosedL md ops l' → l'.getD i true = false → StF st F l' w → ∃ q : JF, w = (F q.l).jk q.k := fun _ _ _ _ ⟨k, hk⟩ => ⟨⟨k, _⟩, hk⟩
theorem StF.class1 (hp : pathB md ops (i :: p) = true) (h1 : p.contains s1 = true) (h2 : p.contains s2 = true) (h3 : p.contains s3 = true) :
    ∀ l' w, ClosedL md ops l' → l'.getD i true = false → StF [s1, s2, s3] F l' w → ∃ q : Jk, w = (F [false, false, false]).jk q := by
  intro l' w hc hu hs
  obtain ⟨k, hk⟩ := hs
  have hf := path_false hc p i hp (getD_both' hu)
  refine ⟨k, ?_⟩
  rw [hk]
  show (F [l'.getD s1 false, l'.getD s2 false, l'.getD s3 false]).jk k = _
  rw [hf s1 (List.contains_iff_mem.1 h1), hf s2 (List.contains_iff_mem.1 h2), hf s3 (List.contains_iff_mem.1 h3)]
theorem StF.class2 (hp : pathB md ops (i :: p) = true) (h2 : p.contains s2 = true) (h3 : p.contains s3 = true) :
    ∀ l' w, ClosedL md ops l' → l'.getD i true = false → StF [s1, s2, s3] F l' w → ∃ q : JB, w = (F [q.b, false, false]).jk q.k := by
  intro l' w hc hu hs
  obtain ⟨k, hk⟩ := hs
  have hf := path_false hc p i hp (getD_both' hu)
  refine ⟨⟨k, l'.getD s1 false⟩, ?_⟩
  rw [hk]
  show (F [l'.getD s1 false, l'.getD s2 false, l'.getD s3 false]).jk k = _
  rw [hf s2 (List.contains_iff_mem.1 h2), hf s3 (List.contains_iff_mem.1 h3)]
theorem StF.class3 (hp : pathB md ops (i :: p) = true) (h3 : p.contains s3 = true) :
    ∀ l' w, ClosedL md ops l' → l'.getD i true = false → StF [s1, s2, s3] F l' w → ∃ q : JBB, w = (F [q.b, q.c, false]).jk q.k := by
  intro l' w hc hu hs
  obtain ⟨k, hk⟩ := hs
  have hf := path_false hc p i hp (getD_both' hu)
  refine ⟨⟨k, l'.getD s1 false, l'.getD s2 false⟩, ?_⟩
  rw [hk]
  show (F [l'.getD s1 false, l'.getD s2 false, l'.getD s3 false]).jk k = _
  rw [hf s3 (List.contains_iff_mem.1 h3)]
end
/-- Three stores of one cell each. -/
def F3 (B : World) (p1 : Addr) (v1 : Value) (p2 : Addr) (v2 : Value) (p3 : Addr) (v3 : Value) : List Bool → World
  | [b1, b2, b3] =>
    let w1 := if b1 then B.setCell p1 v1 else B
    let w2 := if b2 then w1.setCell p2 v2 else w1
    if b3 then w2.setCell p3 v3 else w2
  | _ => B
section
variable {B : World} {p1 p2 p3 : Addr} {v1 v2 v3 : Value}
theorem F3_old {n : Nat} (h : Old n B) (l : List Bool) : Old n (F3 B p1 v1 p2 v2 p3 v3 l) := by
  unfold F3
  split
  · rename_i b1 b2 b3
    refine ⟨?_⟩
    have := h.lt
    cases b1 <;> cases b2 <;> cases b3 <;> simpa using this
  · exact h
theorem F3_at1 (q : Addr) : (F3 B p1 v1 p2 v2 p3 v3 [false, false, false]).cell? q = B.cell? q := rfl
theorem F3_at2 {q : Addr} (h : p1 ≠ q) (b : Bool) : (F3 B p1 v1 p2 v2 p3 v3 [b, false, false]).cell? q = B.cell? q := by
  cases b
  · rfl
  · exact World.cell?_setCell_other _ _ _ _ h
theorem F3_at3 {q : Addr} (h : p1 ≠ q) (h' : p2 ≠ q) (b c : Bool) : (F3 B p1 v1 p2 v2 p3 v3 [b, c, false]).cell? q = B.cell? q := by
  cases b <;> cases c
  · rfl
  · exact World.cell?_setCell_other _ _ _ _ h'
  · exact World.cell?_setCell_other _ _ _ _ h
  · exact (World.cell?_setCell_other _ _ _ _ h').trans (World.cell?_setCell_other _ _ _ _ h)
end
theorem wp_named {P : Program} {c : Code} {R : Exit → Act → World → Prop} {a : Act} {w : World} (h : ∀ B, B = w → Code.wp P c R a B) : Code.wp P c R a w := h w rfl
theorem jk_self (w : World) : ∃ k : Jk, w = w.jk k := Q.refl w
end Go

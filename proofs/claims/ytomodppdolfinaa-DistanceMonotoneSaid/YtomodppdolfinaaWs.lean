
/- A region that draws its order, whose operations, stores and calls among them, each yield one value in whatever worlds they may come up in: one walk in the order of the text serves. What the worlds may be is told by a class. -/
import Derived.Test.YtomodppdolfinaaSto
namespace Go
open Go.RowKit
section
variable {P : Program} {ops : Array Oper} {Q' : Exit → Act → World → Prop} {md : Region.Mode} {S : Array Bool → World → Prop}
/-- The states in which operation i may come up. -/
def Cls (md : Region.Mode) (ops : Array Oper) (S : Array Bool → World → Prop) (i : Nat) (l : Array Bool) (w : World) : Prop := ClosedL md ops l ∧ i ∈ Region.ready md ops l ∧ S l w
/-- What is asked of an operation's outcome. -/
def upW (P : Program) (v : Value) (T : World → Prop) : Result Next → Prop
  | .ok (.value u) w' => T w' ∧ u = v
  | .ok .skip w' => T w' ∧ v = undef
  | .ok (.enter f args) w' => Calls P f args w' (fun e w'' => e = .returned v ∧ T w'')
  | _ => False
def YieldsW (P : Program) (md : Region.Mode) (ops : Array Oper) (S : Array Bool → World → Prop) (i : Nat) (o : Oper) (v : Value) (a : Act) : Prop :=
  (Region.wanted o (yielded ops a.tmps) = true ∧ ∀ l w, Cls md ops S i l w → upW P v (S (l.setIfInBounds i true)) ((execOp a.eval o).run P w)) ∨
  (Region.wanted o (yielded ops a.tmps) = false ∧ v = undef ∧ ∀ l w, Cls md ops S i l w → S (l.setIfInBounds i true) w)
theorem YieldsW.of_same {i : Nat} {o : Oper} {v : Value} {a a' : Act} (hy : YieldsW P md ops S i o v a) (he : execOp a'.eval o = execOp a.eval o)
    (hw : Region.wanted o (yielded ops a'.tmps) = Region.wanted o (yielded ops a.tmps)) : YieldsW P md ops S i o v a' := by
  unfold YieldsW at *
  rw [he, hw]
  exact hy
def qW (P : Program) (md : Region.Mode) (ops : Array Oper) (S : Array Bool → World → Prop) (i : Nat) (K : Act → Prop) (a : Act) : Prop :=
  match ops[i]? with
  | none => False
  | some o => ∃ v, YieldsW P md ops S i o v a ∧ K (a.put o.dst v)
theorem qW_mono {i : Nat} {K K' : Act → Prop} {a : Act} (hk : ∀ a, K a → K' a) (h : qW P md ops S i K a) : qW P md ops S i K' a := by
  unfold qW at *
  split
  · rename_i ho; rw [ho] at h; exact h
  · rename_i o ho
    rw [ho] at h
    obtain ⟨v, h1, h2⟩ := h
    exact ⟨v, h1, hk _ h2⟩
theorem qW_put {i j : Nat} {oi oj : Oper} {v : Value} (hj : ops[j]? = some oj) (hap : oi.apart ops oj = true)
    (hsi : ∀ cs b, oi.op ≠ .select cs b) (hsj : ∀ cs b, oj.op ≠ .select cs b) {K : Act → Prop} {a : Act}
    (hy : YieldsW P md ops S i oi v a) (h : qW P md ops S j K (a.put oi.dst v)) :
    qW P md ops S j (fun a' => YieldsW P md ops S i oi v a' ∧ K (a'.put oi.dst v)) a := by
  obtain ⟨h1, h2, h3⟩ := Oper.apart_spec hap
  unfold qW at *
  simp only [hj] at *
  obtain ⟨u, hu, hn⟩ := h
  refine ⟨u, hu.of_same (execOp_put oj hsj a oi.dst v h1).symm (wanted_put oj a oi.dst v h1).symm, hy.of_same (execOp_put oi hsi a oj.dst u h3) (wanted_put oi a oj.dst u h3), ?_⟩
  rw [← Act.put_comm a v u h2]
  exact hn
/-- What the walk is to show: f operations are left. -/
def GoW (P : Program) (md : Region.Mode) (ops : Array Oper) (Q' : Exit → Act → World → Prop) (S : Array Bool → World → Prop) : Nat → Array Bool → Act → Prop
  | 0, listed, a => Region.ready md ops listed = [] ∧ ∀ w, S listed w → Q' .normal a w
  | f + 1, listed, a => Region.ready md ops listed ≠ [] ∧ ∀ i ∈ Region.ready md ops listed, qW P md ops S i (GoW P md ops Q' S f (listed.setIfInBounds i true)) a
theorem GoW.wpAny : ∀ (f : Nat) (listed : Array Bool) (a : Act) (w : World), ClosedL md ops listed → S listed w → GoW P md ops Q' S f listed a → wpAny P md ops Q' f listed a w
  | 0, _, _, w, _, hs, h => ⟨h.1, h.2 w hs⟩
  | f + 1, listed, a, w, hc, hs, h => by
    refine ⟨fun h0 => absurd h0 h.1, fun i hi => ?_⟩
    have h1 := h.2 i hi
    unfold qW at h1
    unfold wpOp
    split at h1
    · exact h1.elim
    · rename_i o ho
      rw [ho]
      obtain ⟨v, hy, hk⟩ := h1
      dsimp only
      rcases hy with ⟨hw, hy⟩ | ⟨hw, rfl, hy⟩
      · rw [if_pos hw]
        left
        have h2 := hy listed w ⟨hc, hi, hs⟩
        unfold Oper.wp
        generalize (execOp a.eval o).run P w = r at h2 ⊢
        cases r with
        | ok n w' =>
          cases n <;> simp only [upW] at h2 <;> simp only [Oper.upon]
          case value u =>
            obtain ⟨hs', rfl⟩ := h2
            exact GoW.wpAny f _ _ _ (hc.set hi) hs' hk
          case skip =>
            obtain ⟨hs', rfl⟩ := h2
            exact GoW.wpAny f _ _ _ (hc.set hi) hs' hk
          case enter fn args =>
            exact h2.mono fun e w'' ⟨he, hs'⟩ => by subst he; exact GoW.wpAny f _ _ _ (hc.set hi) hs' hk
        | halt x w' => simp only [upW] at h2
      · rw [if_neg (by rw [hw]; exact Bool.false_ne_true)]
        exact GoW.wpAny f _ _ _ (hc.set hi) (hy listed w ⟨hc, hi, hs⟩) hk
theorem GoW.first {i : Nat} {oi : Oper} {v : Value} (hi : ops[i]? = some oi) (hsel : ∀ (j : Nat) (o : Oper) cs b, ops[j]? = some o → o.op ≠ .select cs b) : ∀ (f : Nat) (listed : Array Bool) (a : Act),
    (∀ j oj, ops[j]? = some oj → j ≠ i → listed.getD j true = false → (∀ e ∈ oj.after, Region.binds md e = true → e.on ≠ i) → oi.apart ops oj = true) →
    i ∈ Region.ready md ops listed → YieldsW P md ops S i oi v a →
    GoW P md ops Q' S f (listed.setIfInBounds i true) (a.put oi.dst v) → GoW P md ops Q' S (f + 1) listed a := by
  intro f
  induction f with
  | zero =>
    intro listed a _ hr hy H
    refine ⟨List.ne_nil_of_mem hr, fun j hj => ?_⟩
    by_cases hji : j = i
    · subst hji
      unfold qW
      rw [hi]
      exact ⟨v, hy, H⟩
    · have := ready_mono hj hji
      rw [H.1] at this
      cases this
  | succ f ih =>
    intro listed a hfree hr hy H
    refine ⟨List.ne_nil_of_mem hr, fun j hj => ?_⟩
    by_cases hji : j = i
    · subst hji
      unfold qW
      rw [hi]
      exact ⟨v, hy, H⟩
    · obtain ⟨hjun, oj, hoj, hall⟩ := mem_ready.1 hj
      have hnot : ∀ e ∈ oj.after, Region.binds md e = true → e.on ≠ i := fun e he hb heq => by
        have h1 := hall e he hb
        have h0 := getD_both' (mem_ready.1 hr).1
        rw [heq, h0] at h1
        cases h1
      have h2 := qW_put hoj (hfree j oj hoj hji hjun hnot) (fun cs b => hsel i oi cs b hi) (fun cs b => hsel j oj cs b hoj) hy (H.2 j (ready_mono hj hji))
      refine qW_mono (fun a' h3 => ih _ a' ?_ (ready_mono hr (Ne.symm hji)) h3.1 ?_) h2
      · intro k ok hk hki hun hno
        refine hfree k ok hk hki ?_ hno
        by_cases hjk : j = k
        · subst hjk; exact hjun
        · rwa [getD_set_ne true hjk] at hun
      · rw [Array.setIfInBounds_comm _ _ hji]
        exact h3.2
theorem wp_region_W {id : Nat} {a : Act} {w : World} (n : Nat) (hn : ops.size = n) (S : Array Bool → World → Prop) (hm : P.follows .mixedOrders = true) (h0 : S (Array.replicate n false) w.drew)
    (h : GoW P .any ops Q' S n (Array.replicate n false) a) : (Code.region id ops true).wp P Q' a w := by
  subst hn
  exact wp_region_any hm (h.wpAny _ _ _ _ (closed_start _) h0)
theorem GoW.done {listed : Array Bool} {a : Act} (hr : Region.ready md ops listed = []) (h : ∀ w, S listed w → Q' .normal a w) : GoW P md ops Q' S 0 listed a := ⟨hr, h⟩
/-- An operation that yields a value in the world that it got. -/
theorem GoW.take {i : Nat} {oi : Oper} {f : Nat} {listed : Array Bool} {a : Act} (C : World → Prop) (hC : ∀ l w, Cls md ops S i l w → C w)
    (hi : ops[i]? = some oi) (hk : kindB oi = true) (hs : Region.noSelect ops = true) (hf : Region.free md ops listed i = true) (hr : (Region.ready md ops listed).contains i = true)
    (hSi : ∀ l w, S l w → S (l.setIfInBounds i true) w)
    (h : wpQuiet P ops C (fun a' => GoW P md ops Q' S f (listed.setIfInBounds i true) a') [oi] a) : GoW P md ops Q' S (f + 1) listed a := by
  have hr' : i ∈ Region.ready md ops listed := by simpa using hr
  have hq : qOp P ops C i (fun a' => GoW P md ops Q' S f (listed.setIfInBounds i true) a') a := by
    unfold qOp
    rw [hi]
    exact h
  obtain ⟨v, hy, hK⟩ := yieldsIn_of_qOp hi hq
  refine GoW.first (v := v) hi (Region.noSelect_spec hs) f listed a (Region.free_spec hi hf) hr' ?_ hK
  rcases hy with ⟨hw, hv⟩ | ⟨hw, hv⟩
  · refine .inl ⟨hw, fun l w hcl => ?_⟩
    have h4 := hv w (hC l w hcl)
    unfold Oper.quietAt at h4
    cases hrun : (execOp a.eval oi).run P w with
    | ok n w' =>
      obtain ⟨x, rfl⟩ := kind_value hk hrun
      rw [hrun] at h4
      obtain ⟨rfl, rfl⟩ := h4
      exact ⟨hSi _ _ hcl.2.2, rfl⟩
    | halt x w' =>
      rw [hrun] at h4
      exact h4.elim
  · exact .inr ⟨hw, hv, fun l w hcl => hSi _ _ hcl.2.2⟩
/-- A call. -/
theorem GoW.call {i : Nat} {oi : Oper} {f : Nat} {listed : Array Bool} {a : Act} {fn : FuncId} {args : Array Value} {v : Value} (hc : ∀ w, Calls P fn args w fun e w' => e = .returned v ∧ Go.Q w w')
    (hi : ops[i]? = some oi) (hs : Region.noSelect ops = true) (hf : Region.free md ops listed i = true) (hr : (Region.ready md ops listed).contains i = true)
    (hSi : ∀ l w w', S l w → Go.Q w w' → S (l.setIfInBounds i true) w')
    (hw : Region.wanted oi (yielded ops a.tmps) = true) (hrun : ∀ w, (execOp a.eval oi).run P w = .ok (.enter fn args) w)
    (h : GoW P md ops Q' S f (listed.setIfInBounds i true) (a.put oi.dst v)) : GoW P md ops Q' S (f + 1) listed a := by
  refine GoW.first (v := v) hi (Region.noSelect_spec hs) f listed a (Region.free_spec hi hf) (by simpa using hr) (.inl ⟨hw, fun l w hcl => ?_⟩) h
  rw [hrun w]
  exact (hc w).mono fun e w' ⟨he, hq⟩ => ⟨he, hSi _ _ _ hcl.2.2 hq⟩
/-- An operation whose value is known in every world. -/
theorem GoW.val {i : Nat} {oi : Oper} {f : Nat} {listed : Array Bool} {a : Act} {v : Value}
    (hi : ops[i]? = some oi) (hs : Region.noSelect ops = true) (hf : Region.free md ops listed i = true) (hr : (Region.ready md ops listed).contains i = true)
    (hSi : ∀ l w, S l w → S (l.setIfInBounds i true) w)
    (hw : Region.wanted oi (yielded ops a.tmps) = true) (hrun : ∀ w, (execOp a.eval oi).run P w = .ok (.value v) w)
    (h : GoW P md ops Q' S f (listed.setIfInBounds i true) (a.put oi.dst v)) : GoW P md ops Q' S (f + 1) listed a := by
  refine GoW.first (v := v) hi (Region.noSelect_spec hs) f listed a (Region.free_spec hi hf) (by simpa using hr) (.inl ⟨hw, fun l w hcl => ?_⟩) h
  rw [hrun w]
  exact ⟨hSi _ _ hcl.2.2, rfl⟩
/-- Whether y waits for x. -/
def befB (md : Region.Mode) (ops : Array Oper) : Nat → Nat → Nat → Bool
  | 0, _, _ => false
  | f + 1, x, y => match ops[y]? with | some o => o.after.any (fun e => Region.binds md e && (e.on == x || befB md ops f x e.on)) | none => false
theorem bef_true {l : Array Bool} (hc : ClosedL md ops l) : ∀ (f x y : Nat), befB md ops f x y = true → (l.getD y false = true ∨ y ∈ Region.ready md ops l) → l.getD x false = true := by
  intro f
  induction f with
  | zero => intro x y h; cases h
  | succ f ih =>
    intro x y h hy
    simp only [befB] at h
    split at h
    · rename_i o ho
      obtain ⟨i, hi, he⟩ := Array.any_eq_true.1 h
      simp only [Bool.and_eq_true, Bool.or_eq_true, beq_iff_eq] at he
      obtain ⟨hb, he⟩ := he
      have hl : l.getD (o.after[i]).on false = true := by
        rcases hy with hy | hy
        · exact hc y o ho hy _ (Array.getElem_mem hi) hb
        · obtain ⟨_, o', ho', hall⟩ := mem_ready.1 hy
          rw [ho] at ho'
          obtain rfl := Option.some.inj ho'
          exact hall _ (Array.getElem_mem hi) hb
      rcases he with he | he
      · rw [← he]; exact hl
      · exact ih x _ he (.inl hl)
    · cases h
/-- What is known of the stores when i comes up. -/
def clsFl (md : Region.Mode) (ops : Array Oper) (n : Nat) (i : Nat) (st : List Nat) : List (Option Bool) :=
  st.map fun s => if befB md ops n s i then some true else if s == i || befB md ops n i s then some false else none
def fillP : List (Option Bool) → List Bool → List Bool
  | [], _ => []
  | some b :: p, l => b :: fillP p l.tail
  | none :: p, l => l.headD false :: fillP p l.tail
theorem fill_cls {l : Array Bool} {i n : Nat} (hc : ClosedL md ops l) (hr : i ∈ Region.ready md ops l) : ∀ st : List Nat, fillP (clsFl md ops n i st) (st.map fun j => l.getD j false) = st.map fun j => l.getD j false
  | [] => rfl
  | s :: st => by
    have ih := fill_cls (n := n) hc hr st
    have hun := getD_both' (mem_ready.1 hr).1
    simp only [clsFl, List.map_cons]
    unfold clsFl at ih
    by_cases h1 : befB md ops n s i = true
    · rw [if_pos h1]
      simp only [fillP, List.tail_cons]
      rw [ih, bef_true hc n s i h1 (.inr hr)]
    · rw [if_neg h1]
      by_cases h2 : (s == i || befB md ops n i s) = true
      · rw [if_pos h2]
        simp only [fillP, List.tail_cons]
        rw [ih]
        congr 1
        simp only [Bool.or_eq_true, beq_iff_eq] at h2
        rcases h2 with rfl | h2
        · exact hun.symm
        · cases e : l.getD s false with
          | false => rfl
          | true =>
            have := bef_true hc n i s h2 (.inl e)
            rw [hun] at this
            cases this
      · rw [if_neg h2]
        simp only [fillP, List.tail_cons, List.headD_cons]
        rw [ih]
theorem StF.cls {st : List Nat} {F : List Bool → World} {i n : Nat} (pat : List (Option Bool)) (hp : clsFl md ops n i st = pat) : ∀ l w, Cls md ops (StF st F) i l w → ∃ q : JF, w = (F (fillP pat q.l)).jk q.k := by
  intro l w ⟨hc, hr, k, hk⟩
  refine ⟨⟨k, st.map fun j => l.getD j false⟩, ?_⟩
  rw [← hp]
  show w = (F (fillP (clsFl md ops n i st) (st.map fun j => l.getD j false))).jk k
  rw [fill_cls hc hr, hk]
theorem StF.idle1 {st : List Nat} {F : List Bool → World} {i : Nat} (hi : st.contains i = false) (l : Array Bool) (w : World) (h : StF st F l w) : StF st F (l.setIfInBounds i true) w := (StF.idle hi l w).2 h
theorem StF.idleQ {st : List Nat} {F : List Bool → World} {i : Nat} (hi : st.contains i = false) (l : Array Bool) (w w' : World) (h : StF st F l w) (hq : Go.Q w w') : StF st F (l.setIfInBounds i true) w' := by
  refine (StF.idle hi l w').2 ?_
  obtain ⟨k, rfl⟩ := h
  exact hq.elim fun m hm => ⟨k.add m, by rw [hm, World.jk_jk]⟩
def setFl (i : Nat) : List Nat → List Bool → List Bool
  | s :: st, b :: l => (if s == i then true else b) :: setFl i st l
  | _, _ => []
theorem set_fl {l : Array Bool} {i : Nat} (hi : i < l.size) : ∀ st : List Nat, (st.map fun j => (l.setIfInBounds i true).getD j false) = setFl i st (st.map fun j => l.getD j false)
  | [] => rfl
  | s :: st => by
    have ih := set_fl hi st
    simp only [List.map_cons, setFl]
    rw [ih]
    congr 1
    by_cases h : s = i
    · subst h
      simp [hi]
    · rw [getD_set_ne false (fun e => h e.symm), if_neg (by simpa using h)]
def storeB (o : Oper) : Bool := match o.op with | .store _ _ _ => true | _ => false
theorem store_skip {o : Oper} (hk : storeB o = true) {ρ : Operand → Value} {w w' : World} {n : Next} (h : (execOp ρ o).run P w = .ok n w') : n = .skip := by
  unfold storeB at hk
  unfold execOp at h
  cases ho : o.op <;> rw [ho] at hk <;> first | (cases hk; done) | skip
  rename_i t x y
  rw [ho] at h
  simp only [Sem.run_bind] at h
  cases hs : (Instr.storeAt t (ρ x) (ρ y)).run P w with
  | ok u w1 =>
    rw [hs] at h
    simp at h
    exact h.1.symm
  | halt u w1 =>
    rw [hs] at h
    cases h
/-- A store. -/
theorem GoW.store {i : Nat} {oi : Oper} {f n : Nat} {listed : Array Bool} {a : Act} {st : List Nat} {F : List Bool → World} (fl : List Bool)
    (hi : ops[i]? = some oi) (hk : storeB oi = true) (hs : Region.noSelect ops = true) (hf : Region.free md ops listed i = true) (hr : (Region.ready md ops listed).contains i = true)
    (hcl : clsFl md ops n i st = fl.map some)
    (hw : Region.wanted oi (yielded ops a.tmps) = true)
    (h : ∀ (k : Jk) (K : Act → World → Prop), (∀ w', Go.Q (F (setFl i st fl)) w' → K (a.put oi.dst undef) w') → oi.wp P a ((F fl).jk k) K fun _ _ _ => False)
    (H : GoW P md ops Q' (StF st F) f (listed.setIfInBounds i true) (a.put oi.dst undef)) : GoW P md ops Q' (StF st F) (f + 1) listed a := by
  refine GoW.first (v := undef) hi (Region.noSelect_spec hs) f listed a (Region.free_spec hi hf) (by simpa using hr) (.inl ⟨hw, fun l w hc => ?_⟩) H
  obtain ⟨h1, h2, k, hk'⟩ := hc
  have hil : i < l.size := by
    have h5 := (mem_ready.1 h2).1
    rcases Nat.lt_or_ge i l.size with h6 | h6
    · exact h6
    · simp [Array.getElem?_eq_none h6] at h5
  have e : (st.map fun j => l.getD j false) = fl := by
    rw [← fill_cls (n := n) h1 h2 st, hcl]
    have hlen : (fl.map some).length = st.length := by rw [← hcl]; simp [clsFl]
    generalize (st.map fun j => l.getD j false) = y
    clear hcl H h hk' hlen
    induction fl generalizing y with
    | nil => rfl
    | cons b fl ih => simp only [List.map_cons, fillP]; rw [ih]
  rw [e] at hk'
  have h3 := h k (fun a' w' => a' = a.put oi.dst undef ∧ StF st F (l.setIfInBounds i true) w') fun w' hq => ⟨rfl, by
    refine StF.of (setFl i st fl) ?_ hq
    rw [set_fl hil, e]⟩
  rw [← hk'] at h3
  unfold Oper.wp at h3
  cases hrun : (execOp a.eval oi).run P w with
  | ok nx w' =>
    obtain rfl := store_skip hk hrun
    rw [hrun] at h3
    exact ⟨h3.2, rfl⟩
  | halt x w' =>
    rw [hrun] at h3
    cases x <;> simp only [Oper.upon] at h3
end
end Go


/- A region that draws its order, whose head reads, calls functions that make new blocks at most, and makes variables; the others follow one by one. One walk in the order of the text serves; where the new variables lie is left open. -/
import Derived.Test.YtfdpnephjpcnbaaDoorBz03
set_option linter.unusedSimpArgs false
set_option linter.unusedVariables false
namespace Go
open Go.RowKit

theorem lone_callers {fr fr' : Frame} {cs cs' : List Frame} {w w' : World} (h : (Stepped.next (lone fr cs w)) = .next (lone fr' cs' w')) : cs = cs' ∧ fr = fr' ∧ w = w' := by
  simp only [Stepped.next.injEq, lone, Machine.mk.injEq, Array.mk.injEq, List.cons.injEq, Goroutine.mk.injEq] at h
  exact ⟨h.2.1.1.2.1, h.2.1.1.1, h.1⟩

/-- A call returns one value. -/
theorem Calls.value_unique {P : Program} {f f0 : FuncId} {fn0 : Func} {args : Array Value} {w : World} {v1 v2 : Value} {R1 R2 : World → Prop}
    (h0 : P.funcs[f0]? = some fn0) (hr : fn0.results = #[]) (hi : P.inits.idxOf? f0 = none)
    (h1 : Calls P f args w fun e w' => e = .returned v1 ∧ R1 w') (h2 : Calls P f args w fun e w' => e = .returned v2 ∧ R2 w') : v1 = v2 := by
  let b : Frame := { fn := f0, tmps := #[], todo := [], defers := [], mode := .run, kind := .normal }
  let a0 : Act := ⟨#[], []⟩
  have ends : ∀ fr w v, fr.leaving P w (.returned v) → step P (lone fr [b.at a0 []] w) = .next (lone (b.at a0 []) [] w) := fun fr w v h => step_leave_returned h
  have e1 : ∀ w, step P (lone (b.at a0 []) [] w) = .next (lone { b.at a0 [] with mode := .returning } [] w) := fun w => step_end
  have e2 : ∀ w, step P (lone { b.at a0 [] with mode := .returning } [] w) = .ended (.done (.tuple #[])) w := fun w =>
    step_leave_done ⟨rfl, rfl, rfl, fn0, h0, results_none hr _ _ _⟩ hi
  have key : ∀ (n1 n2 : Nat) (fr1 fr2 : Frame) (w1 w2 : World) (u1 u2 : Value), n1 < n2 → runN P n1 (lone (Frame.enter P f args .normal) [b.at a0 []] w) = .next (lone fr1 [b.at a0 []] w1) →
      runN P n2 (lone (Frame.enter P f args .normal) [b.at a0 []] w) = .next (lone fr2 [b.at a0 []] w2) → fr1.leaving P w1 (.returned u1) → False := by
    intro n1 n2 fr1 fr2 w1 w2 u1 u2 hlt s1 s2 l1
    obtain ⟨d, rfl⟩ : ∃ d, n2 = n1 + (d + 1) := ⟨n2 - n1 - 1, by omega⟩
    rw [runN_add, s1] at s2
    match d with
    | 0 =>
      simp only [runN, ends _ _ _ l1] at s2
      have := (lone_callers s2).1
      cases this
    | 1 =>
      simp only [runN, ends _ _ _ l1, e1] at s2
      have := (lone_callers s2).1
      cases this
    | d + 2 =>
      simp only [runN, ends _ _ _ l1, e1, e2] at s2
      cases s2
  obtain ⟨x1, w1, fr1, ⟨rfl, _⟩, ⟨n1, s1⟩, _, l1⟩ := h1 [b.at a0 []]
  obtain ⟨x2, w2, fr2, ⟨rfl, _⟩, ⟨n2, s2⟩, _, l2⟩ := h2 [b.at a0 []]
  rcases Nat.lt_trichotomy n1 n2 with h | h | h
  · exact (key n1 n2 fr1 fr2 w1 w2 v1 v2 h s1 s2 l1).elim
  · subst h
    rw [s1] at s2
    obtain ⟨_, rfl, rfl⟩ := lone_callers s2
    obtain ⟨_, _, _, fn, hf, hr1⟩ := l1
    obtain ⟨_, _, _, fn', hf', hr2⟩ := l2
    rw [hf] at hf'
    cases hf'
    rw [hr1] at hr2
    simpa using hr2
  · exact (key n2 n1 fr2 fr1 w2 w1 v2 v1 h s2 s1 l2).elim

/-- The operation, a new variable's being laid aside. -/
def unal (o : Oper) : Oper := match o.op with | .alloc _ => { o with op := .assign (.const undef) } | _ => o
theorem unal_dst (o : Oper) : (unal o).dst = o.dst := by unfold unal; split <;> rfl
theorem unal_after (o : Oper) : (unal o).after = o.after := by unfold unal; split <;> rfl
theorem unal_guard (o : Oper) : (unal o).guard = o.guard := by unfold unal; split <;> rfl
def isAl (o : Oper) : Bool := match o.op with | .alloc _ => true | _ => false
theorem unal_of_not {o : Oper} (h : isAl o = false) : unal o = o := by
  unfold unal
  unfold isAl at h
  split <;> simp_all
theorem unal_of_al {o : Oper} (h : isAl o = true) : (unal o).op = .assign (.const undef) := by
  unfold unal
  unfold isAl at h
  split <;> simp_all
section
variable {P : Program} {md : Region.Mode} {ops : Array Oper}
theorem ready_unal (listed : Array Bool) : Region.ready md (ops.map unal) listed = Region.ready md ops listed := by
  unfold Region.ready
  rw [Array.size_map]
  congr 1
  funext i
  cases h : ops[i]? <;> simp [Array.getElem?_map, h, unal_after]
theorem seqB_unal (g : Nat) : ∀ (k : Nat) (listed : Array Bool), Region.seqB md (ops.map unal) g k listed = Region.seqB md ops g k listed := by
  induction g with
  | zero => intro k listed; simp only [Region.seqB, ready_unal]
  | succ g ih => intro k listed; simp only [Region.seqB, ready_unal, ih]
theorem yielded_unal (tmps : Array Value) : yielded (ops.map unal) tmps = yielded ops tmps := by
  funext j
  unfold yielded
  cases h : ops[j]? <;> simp [Array.getElem?_map, h, unal_dst]

/-- The new variables' slots filled: β tells where those lie that are made. -/
def puts (vs : List (Nat × Tmp × Obj)) (β : Nat → Option Nat) (a : Act) : Act :=
  match vs with
  | [] => a
  | x :: vs => puts vs β (match β x.1 with | some b => a.put (some x.2.1) (.pointer (some ⟨b, 0, none⟩)) | none => a)

def alB (ops : Array Oper) (n : Nat) (vs : List (Nat × Tmp × Obj)) : Bool :=
  ((List.range n).all fun j => match ops[j]? with
    | some o => if vs.any (fun x => x.1 == j) then o.guard.isNone && isAl o && vs.all (fun x => x.1 != j || o.dst == some x.2.1)
        else !isAl o && vs.all fun x => !(o.looksAt ops).contains x.2.1 && o.dst != some x.2.1
    | none => false) &&
  (vs.all fun x => decide (x.1 < n)) && decide (vs.Pairwise fun x y => x.1 ≠ y.1 ∧ x.2.1 ≠ y.2.1)
/-- What the making of each variable does. -/
def AlRun (P : Program) (ops : Array Oper) (vs : List (Nat × Tmp × Obj)) : Prop :=
  ∀ x ∈ vs, ∀ o, ops[x.1]? = some o → ∀ (a : Act) (w : World), (execOp a.eval o).run P w = .ok (.value (.pointer (some ⟨w.heap.size, 0, none⟩))) (w.alloc x.2.2)
structure AlOK (ops : Array Oper) (n : Nat) (vs : List (Nat × Tmp × Obj)) : Prop where
  lt : ∀ x ∈ vs, x.1 < n
  op : ∀ x ∈ vs, ∀ o, ops[x.1]? = some o → o.guard = none ∧ isAl o = true ∧ o.dst = some x.2.1
  other : ∀ j o, j < n → ops[j]? = some o → (∀ x ∈ vs, x.1 ≠ j) → isAl o = false ∧ ∀ x ∈ vs, x.2.1 ∉ o.looksAt ops ∧ o.dst ≠ some x.2.1
  dist : vs.Pairwise fun x y => x.1 ≠ y.1 ∧ x.2.1 ≠ y.2.1
theorem alB_spec {n : Nat} {vs : List (Nat × Tmp × Obj)} (h : alB ops n vs = true) : AlOK ops n vs := by
  simp only [alB, Bool.and_eq_true, decide_eq_true_eq, List.all_eq_true, List.mem_range] at h
  obtain ⟨⟨h1, h2⟩, h3⟩ := h
  refine ⟨h2, fun x hx o ho => ?_, fun j o hj ho hn => ?_, h3⟩
  · have := h1 x.1 (h2 x hx)
    rw [ho] at this
    have ha : vs.any (fun y => y.1 == x.1) = true := List.any_eq_true.2 ⟨x, hx, by simp⟩
    simp only [ha, if_true, Bool.and_eq_true, List.all_eq_true, Option.isNone_iff_eq_none] at this
    have h4 := this.2 x hx
    simp at h4
    exact ⟨this.1.1, this.1.2, h4⟩
  · have := h1 j hj
    rw [ho] at this
    have ha : vs.any (fun y => y.1 == j) = false := by
      rw [List.any_eq_false]
      intro x hx
      simpa using hn x hx
    simp only [ha] at this
    simp only [Bool.false_eq_true, if_false, Bool.and_eq_true, Bool.not_eq_true', List.all_eq_true] at this
    refine ⟨this.1, fun x hx => ?_⟩
    have h4 := this.2 x hx
    simp at h4
    exact ⟨h4.1, h4.2⟩

theorem puts_put {vs : List (Nat × Tmp × Obj)} {β : Nat → Option Nat} {dst : Option Tmp} (v : Value) (h : ∀ x ∈ vs, dst ≠ some x.2.1) : ∀ a : Act, puts vs β (a.put dst v) = (puts vs β a).put dst v := by
  induction vs with
  | nil => intro a; rfl
  | cons x vs ih =>
    intro a
    unfold puts
    have ih' := ih fun y hy => h y (List.mem_cons_of_mem _ hy)
    have hx := h x List.mem_cons_self
    cases hb : β x.1 with
    | none => exact ih' a
    | some b =>
      simp only
      rw [← ih']
      congr 1
      exact Act.put_comm a v _ (fun d hd => by rw [← hd]; exact fun e => hx e.symm)
theorem put_put (a : Act) (dst : Option Tmp) (u v : Value) : (a.put dst u).put dst v = a.put dst v := by
  cases dst with
  | none => rfl
  | some d => simp [Act.put]
theorem puts_new {vs : List (Nat × Tmp × Obj)} {β : Nat → Option Nat} (b : Nat) (hd : vs.Pairwise fun x y => x.1 ≠ y.1 ∧ x.2.1 ≠ y.2.1) (x : Nat × Tmp × Obj) (hx : x ∈ vs) (hn : β x.1 = none) :
    ∀ a : Act, puts vs (fun j => if j = x.1 then some b else β j) (a.put (some x.2.1) undef) = (puts vs β a).put (some x.2.1) (.pointer (some ⟨b, 0, none⟩)) := by
  induction vs with
  | nil => cases hx
  | cons y vs ih =>
    intro a
    rw [List.pairwise_cons] at hd
    unfold puts
    rcases List.mem_cons.1 hx with rfl | hx'
    · simp only [if_true, hn]
      rw [put_put]
      have e : ∀ (zs : List (Nat × Tmp × Obj)), (∀ z ∈ zs, x.1 ≠ z.1) → ∀ a : Act, puts zs (fun j => if j = x.1 then some b else β j) a = puts zs β a := by
        intro zs
        induction zs with
        | nil => intro _ a; rfl
        | cons z zs ih2 =>
          intro hz a
          unfold puts
          have : ¬ z.1 = x.1 := fun e => hz z List.mem_cons_self e.symm
          simp only [this, if_false]
          exact ih2 (fun q hq => hz q (List.mem_cons_of_mem _ hq)) _
      rw [e vs (fun z hz => (hd.1 z hz).1)]
      exact puts_put _ (fun z hz => fun e => (hd.1 z hz).2 (Option.some.inj e)) a
    · have hyx := hd.1 x hx'
      have : ¬ y.1 = x.1 := hyx.1
      simp only [this, if_false]
      cases hb : β y.1 with
      | none => exact ih hd.2 hx' a
      | some c =>
        simp only
        rw [← ih hd.2 hx']
        congr 1
        exact Act.put_comm a _ _ (fun d hd' => by rw [← Option.some.inj hd']; exact fun e => hyx.2 (Option.some.inj e))
theorem exec_puts {vs : List (Nat × Tmp × Obj)} {β : Nat → Option Nat} {o : Oper} (hs : ∀ cs b, o.op ≠ .select cs b) (h : ∀ x ∈ vs, x.2.1 ∉ o.looksAt ops) :
    ∀ a : Act, execOp (puts vs β a).eval o = execOp a.eval o ∧ Region.wanted o (yielded ops (puts vs β a).tmps) = Region.wanted o (yielded ops a.tmps) := by
  induction vs with
  | nil => intro a; exact ⟨rfl, rfl⟩
  | cons x vs ih =>
    intro a
    unfold puts
    have ih' := ih fun y hy => h y (List.mem_cons_of_mem _ hy)
    have hx := h x List.mem_cons_self
    cases hb : β x.1 with
    | none => exact ih' a
    | some b =>
      simp only
      obtain ⟨i1, i2⟩ := ih' (a.put (some x.2.1) (.pointer (some ⟨b, 0, none⟩)))
      rw [i1, i2]
      have hd : ∀ d, some x.2.1 = some d → d ∉ o.looksAt ops := fun d hd => by rw [← Option.some.inj hd]; exact hx
      exact ⟨execOp_put o hs a _ _ hd, wanted_put o a _ _ hd⟩

/-- Where the variables lie that are made. -/
structure AlInv (vs : List (Nat × Tmp × Obj)) (w : World) (β : Nat → Option Nat) (w' : World) : Prop where
  q : Q w w'
  at_ : ∀ x ∈ vs, ∀ b, β x.1 = some b → w.heap.size ≤ b ∧ w'.heap[b]? = some x.2.2
  ne : ∀ x ∈ vs, ∀ y ∈ vs, x.1 ≠ y.1 → ∀ b, β x.1 = some b → β y.1 ≠ some b
theorem AlInv.mono {vs : List (Nat × Tmp × Obj)} {w : World} {β : Nat → Option Nat} {w' w'' : World} (h : AlInv vs w β w') (hq : Q w' w'') : AlInv vs w β w'' := by
  refine ⟨h.q.trans hq, fun x hx b hb => ?_, h.ne⟩
  obtain ⟨h1, h2⟩ := h.at_ x hx b hb
  obtain ⟨k, rfl⟩ := hq
  have : b < w'.heap.size := by
    rcases Nat.lt_or_ge b w'.heap.size with h3 | h3
    · exact h3
    · rw [Array.getElem?_eq_none h3] at h2; cases h2
  exact ⟨h1, by rw [World.block_jk k b this]; exact h2⟩
theorem AlInv.new {vs : List (Nat × Tmp × Obj)} {w : World} {β : Nat → Option Nat} {w' : World} (h : AlInv vs w β w') (hd : vs.Pairwise fun x y => x.1 ≠ y.1 ∧ x.2.1 ≠ y.2.1) (x : Nat × Tmp × Obj) (hx : x ∈ vs) :
    AlInv vs w (fun j => if j = x.1 then some w'.heap.size else β j) (w'.alloc x.2.2) := by
  have hq : Q w' (w'.alloc x.2.2) := (Q.refl w').alloc _
  have hlt : ∀ y ∈ vs, ∀ b, β y.1 = some b → b < w'.heap.size := by
    intro y hy b hb
    have h2 := (h.at_ y hy b hb).2
    rcases Nat.lt_or_ge b w'.heap.size with h3 | h3
    · exact h3
    · rw [Array.getElem?_eq_none h3] at h2; cases h2
  have hsame : ∀ y ∈ vs, y.1 = x.1 → y = x := by
    intro y hy e
    by_cases hxy : y = x
    · exact hxy
    · rcases List.pairwise_iff_getElem.1 hd with hp
      obtain ⟨i, hi, rfl⟩ := List.getElem_of_mem hy
      obtain ⟨j, hj, rfl⟩ := List.getElem_of_mem hx
      rcases Nat.lt_trichotomy i j with hij | hij | hij
      · exact absurd e (hp i j hi hj hij).1
      · subst hij; rfl
      · exact absurd e.symm (hp j i hj hi hij).1
  refine ⟨h.q.trans hq, fun y hy b hb => ?_, fun y hy z hz hyz b hb => ?_⟩
  · split at hb
    · rename_i e
      obtain rfl := hsame y hy e
      obtain rfl := Option.some.inj hb
      refine ⟨?_, heap_alloc_new w' _⟩
      have := h.q.below.size
      exact this
    · exact ((h.mono hq).at_ y hy b hb)
  · split at hb
    · obtain rfl := Option.some.inj hb
      rename_i e
      have : ¬ z.1 = x.1 := fun e2 => hyz (e.trans e2.symm)
      rw [if_neg this]
      intro hc
      have := hlt z hz _ hc
      omega
    · split
      · intro hc
        have hc := Option.some.inj hc
        have := hlt y hy b hb
        omega
      · exact h.ne y hy z hz hyz b hb

theorem al_sim {n g : Nat} {vs : List (Nat × Tmp × Obj)} {R : Exit → Act → World → Prop} {w : World} {K : World → Act → Prop} {f0 : FuncId} {fn0 : Func}
    (h0 : P.funcs[f0]? = some fn0) (hr : fn0.results = #[]) (hi0 : P.inits.idxOf? f0 = none)
    (hok : AlOK ops n vs) (hrun : AlRun P ops vs) (hsel : Region.noSelect ops = true) (hs : Region.sinkB md ops n = true) (hc : Region.chainB md ops n = true) (hn : n < ops.size) (hg : 0 < g)
    (hbase : ∀ listed a u β, Region.seqB md ops g n listed = true → K u a → AlInv vs w β u → (∀ x ∈ vs, ∃ b, β x.1 = some b) → wpAny P md ops R g listed (puts vs β a) u) (f : Nat) :
    ∀ (listed : Array Bool) (aq : Act) (β : Nat → Option Nat) (w' : World), HeadInv md ops n listed → AlInv vs w β w' →
      (∀ x ∈ vs, (listed.getD x.1 true = false → β x.1 = none) ∧ (listed.getD x.1 true = true → ∃ b, β x.1 = some b)) →
      (∀ u, Q w' u → HeadQ P md (ops.map unal) (fun w'' => ∃ k, w'' = u.jk k) n (fun listed' a' => Region.seqB md (ops.map unal) g n listed' = true ∧ K u a') f listed aq) →
      wpAny P md ops R (f + g) listed (puts vs β aq) w' := by
  have hsel' := Region.noSelect_spec hsel
  induction f with
  | zero =>
    intro listed aq β w' inv ha hl H
    obtain ⟨hq, hk⟩ := H w' (Q.refl w')
    rw [seqB_unal] at hq
    rw [Nat.zero_add]
    refine hbase listed aq w' β hq hk ha fun x hx => (hl x hx).2 ?_
    -- all of the head are listed, since the first of the tail is ready
    cases he : listed.getD x.1 true with
    | true => rfl
    | false =>
      exfalso
      have hrn : n ∈ Region.ready md ops listed := by
        obtain ⟨g', rfl⟩ : ∃ g', g = g' + 1 := ⟨g - 1, by omega⟩
        simp only [Region.seqB, Bool.and_eq_true, decide_eq_true_eq] at hq
        rw [hq.1]
        exact List.mem_singleton.2 rfl
      exact tail_waits hs hc hn inv _ x.1 rfl (hok.lt x hx) he n (Nat.le_refl _) hrn
  | succ f ih =>
    intro listed aq β w' inv ha hl H
    rw [show f + 1 + g = (f + g) + 1 by omega]
    have Hw := H w' (Q.refl w')
    refine ⟨fun h => absurd (by rw [ready_unal]; exact h) Hw.1, fun i hi => ?_⟩
    obtain ⟨hun, o, ho, hall⟩ := mem_ready.1 hi
    have hi' : i ∈ Region.ready md (ops.map unal) listed := by rw [ready_unal]; exact hi
    have hin : i < n := (Hw.2 i hi').1
    have hilt : i < listed.size := by rw [inv.size]; exact (Array.getElem?_eq_some_iff.1 ho).1
    have inv' := inv.set hi hin
    have ho' : (ops.map unal)[i]? = some (unal o) := by simp [Array.getElem?_map, ho]
    have hy : ∀ u, Q w' u → ∃ v, YieldsIn P (ops.map unal) (fun w'' => ∃ k, w'' = u.jk k) (unal o) v aq ∧
        HeadQ P md (ops.map unal) (fun w'' => ∃ k, w'' = u.jk k) n (fun listed' a' => Region.seqB md (ops.map unal) g n listed' = true ∧ K u a') f (listed.setIfInBounds i true) (aq.put (unal o).dst v) := fun u hu =>
      yieldsIn_of_qOp ho' ((H u hu).2 i hi').2
    have self : ∀ u : World, ∃ k : Jk, u = u.jk k := fun u => (Q.refl u)
    by_cases hx : ∃ x ∈ vs, x.1 = i
    · obtain ⟨x, hx, rfl⟩ := hx
      obtain ⟨hg', hal, hd⟩ := hok.op x hx o ho
      have hnone := (hl x hx).1 hun
      have hundef : ∀ u, Q w' u → HeadQ P md (ops.map unal) (fun w'' => ∃ k, w'' = u.jk k) n (fun listed' a' => Region.seqB md (ops.map unal) g n listed' = true ∧ K u a') f (listed.setIfInBounds x.1 true) (aq.put (some x.2.1) undef) := by
        intro u hu
        obtain ⟨v, hv, hh⟩ := hy u hu
        rw [unal_dst, hd] at hh
        rcases hv with ⟨_, hv⟩ | ⟨_, rfl⟩
        · have := hv u (self u)
          unfold Oper.quietAt at this
          rw [BigFrame.run_assign _ (unal_of_al hal)] at this
          obtain ⟨_, rfl⟩ := this
          exact hh
        · exact hh
      unfold wpOp
      rw [ho]
      simp only
      rw [if_pos (by simp [Region.wanted, hg'])]
      left
      unfold Oper.wp
      rw [hrun x hx o ho]
      show wpAny P md ops R (f + g) _ ((puts vs β aq).put o.dst _) _
      rw [hd, ← puts_new _ hok.dist x hx hnone]
      refine ih _ _ _ _ inv' (ha.new hok.dist x hx) (fun y hy => ?_) fun u hu => hundef u (Q.trans ((Q.refl w').alloc _) hu)
      by_cases e : y.1 = x.1
      · simp only [e, if_true]
        refine ⟨fun h => ?_, fun _ => ⟨_, rfl⟩⟩
        simp [hilt] at h
      · simp only [e, if_false]
        rw [getD_set_ne true (fun e2 => e e2.symm)]
        exact hl y hy
    · have hx' : ∀ x ∈ vs, x.1 ≠ i := fun x hxm e => hx ⟨x, hxm, e⟩
      obtain ⟨hnal, hlook⟩ := hok.other i o hin ho hx'
      have huo := unal_of_not hnal
      rw [huo] at hy
      obtain ⟨ee, we⟩ := exec_puts (β := β) (ops := ops) (hsel' i o · · ho) (fun x hxm => (hlook x hxm).1) aq
      have hl' : ∀ x ∈ vs, ((listed.setIfInBounds i true).getD x.1 true = false → β x.1 = none) ∧ ((listed.setIfInBounds i true).getD x.1 true = true → ∃ b, β x.1 = some b) := fun x hxm => by
        rw [getD_set_ne true (fun e2 => hx' x hxm e2.symm)]
        exact hl x hxm
      obtain ⟨v, hv, _⟩ := hy w' (Q.refl w')
      -- one value in every cone
      have huni : ∀ u, Q w' u → HeadQ P md (ops.map unal) (fun w'' => ∃ k, w'' = u.jk k) n (fun listed' a' => Region.seqB md (ops.map unal) g n listed' = true ∧ K u a') f (listed.setIfInBounds i true) (aq.put o.dst v) := by
        intro u hu
        obtain ⟨v', hv', hh⟩ := hy u hu
        suffices e : v' = v by rw [← e]; exact hh
        rcases hv with ⟨hw1, hv⟩ | ⟨hw1, rfl⟩
        · rcases hv' with ⟨hw2, hv'⟩ | ⟨hw2, rfl⟩
          · have q1 := hv u hu
            have q2 := hv' u (self u)
            unfold Oper.quietAt at q1 q2
            generalize (execOp aq.eval o).run P u = r at q1 q2
            cases r with
            | ok x w1 =>
              cases x <;> simp only [Oper.quietUpon] at q1 q2
              · exact q2.2.symm.trans q1.2
              · exact q2.2.trans q1.2.symm
              · exact Calls.value_unique h0 hr hi0 q2.2 q1.2
            | halt x w1 => simp only [Oper.quietUpon] at q1
          · rw [hw1] at hw2; cases hw2
        · rcases hv' with ⟨hw2, _⟩ | ⟨_, rfl⟩
          · rw [hw1] at hw2; cases hw2
          · rfl
      have hpp := puts_put (vs := vs) (β := β) (dst := o.dst) v (fun x hxm => (hlook x hxm).2) aq
      unfold wpOp
      rw [ho]
      simp only
      rw [we, ← yielded_unal]
      rcases hv with ⟨hw1, hv⟩ | ⟨hw1, rfl⟩
      · rw [if_pos hw1]
        left
        have q1 := hv w' (self w')
        unfold Oper.quietAt at q1
        unfold Oper.wp
        rw [ee]
        generalize (execOp aq.eval o).run P w' = r at q1
        cases r with
        | ok x w1 =>
          cases x <;> simp only [Oper.quietUpon] at q1 <;> simp only [Oper.upon]
          · obtain ⟨rfl, rfl⟩ := q1
            rw [← hpp]
            exact ih _ _ _ _ inv' ha hl' huni
          · obtain ⟨rfl, rfl⟩ := q1
            rw [← hpp]
            exact ih _ _ _ _ inv' ha hl' huni
          · obtain ⟨rfl, hcall⟩ := q1
            refine hcall.mono fun e w'' ⟨he, hw''⟩ => ?_
            subst he
            show wpAny P md ops R (f + g) _ ((puts vs β aq).put o.dst v) _
            rw [← hpp]
            exact ih _ _ _ _ inv' (ha.mono hw'') hl' fun u hu => huni u (Q.trans hw'' hu)
        | halt x w1 => simp only [Oper.quietUpon] at q1
      · rw [if_neg (by rw [hw1]; exact Bool.false_ne_true)]
        rw [← hpp]
        exact ih _ _ _ _ inv' ha hl' huni

theorem wp_region_al {id : Nat} {R : Exit → Act → World → Prop} {a : Act} {w : World} {l : List Oper} {f0 : FuncId} {fn0 : Func} (n : Nat) (vs : List (Nat × Tmp × Obj))
    (h0 : P.funcs[f0]? = some fn0) (hr : fn0.results = #[]) (hi0 : P.inits.idxOf? f0 = none)
    (hm : P.follows .mixedOrders = true) (hB : Region.lexTailB .any (l.map unal).toArray n = true) (hT : Region.noSelect l.toArray && Region.sinkB .any l.toArray n && Region.chainB .any l.toArray n && decide (n < l.length) = true)
    (hok : alB l.toArray n vs = true) (hrun : AlRun P l.toArray vs)
    (h : ∀ u, Q w u → wpQuiet P (l.map unal).toArray (fun w' => ∃ k, w' = u.jk k) (fun a' => ∀ β, AlInv vs w β u → (∀ x ∈ vs, ∃ b, β x.1 = some b) → wpList P l.toArray R (l.drop n) (puts vs β a') u) ((l.map unal).take n) a) :
    (Code.region id l.toArray true).wp P R a w := by
  simp only [Region.lexTailB, Bool.and_eq_true, decide_eq_true_eq] at hB hT
  obtain ⟨⟨⟨⟨hsel, hn⟩, hs⟩, hc⟩, hlex⟩ := hB
  obtain ⟨⟨⟨hsel2, hs2⟩, hc2⟩, hn2⟩ := hT
  have hn' : n < (l.map unal).length := by simpa using hn
  have htl : ((l.map unal).take n).length = n := by rw [List.length_take]; omega
  have hmap : (l.map unal).toArray = l.toArray.map unal := by simp
  have inv0 : ∀ os : Array Oper, HeadInv .any os n (Array.replicate os.size false) := fun os =>
    ⟨by simp, fun j oj _ hl => (by rw [getD_replicate_false] at hl; cases hl), fun t _ ht => getD_in (by simpa using ht) (getD_replicate_false _ _)⟩
  refine wp_region_any hm ?_
  have hz : l.toArray.size = n + (l.toArray.size - n) := by simp; omega
  have H : ∀ u, Q w u → HeadQ P .any (l.toArray.map unal) (fun w'' => ∃ k, w'' = u.jk k) n (fun listed' a' => Region.seqB .any (l.toArray.map unal) (l.toArray.size - n) n listed' = true ∧ (∀ β, AlInv vs w β u → (∀ x ∈ vs, ∃ b, β x.1 = some b) → wpList P l.toArray R (l.drop n) (puts vs β a') u)) n (Array.replicate l.toArray.size false) a := by
    intro u hu
    have K := HeadQ.lex (P := P) (C := fun w' => ∃ k, w' = u.jk k) (md := .any) (g := (l.map unal).toArray.size - n) hsel hs hc hn ((l.map unal).take n) 0 _ a (fun j hj => by
      rw [htl] at hj
      simp [hj]) (by omega) (inv0 _) (by rw [htl]; exact hlex) (h u hu)
    rw [htl] at K
    rw [hmap] at K
    simpa using K
  have K := al_sim (P := P) (md := .any) (ops := l.toArray) (n := n) (g := l.toArray.size - n) (vs := vs) (R := R) (w := w)
    (K := fun u a' => ∀ β, AlInv vs w β u → (∀ x ∈ vs, ∃ b, β x.1 = some b) → wpList P l.toArray R (l.drop n) (puts vs β a') u)
    h0 hr hi0 (alB_spec hok) hrun hsel2 hs2 hc2 (by simpa using hn2) (by simp; omega)
    (fun listed a' u β hseq hk hinv hall => by
      have := wpAny_of_seq (md := .any) (Q' := R) (l.drop n) n listed (puts vs β a') u (fun j => by simp [List.getElem?_drop]) (by simpa using hseq) (hk β hinv hall)
      simpa using this) n (Array.replicate l.toArray.size false) a (fun _ => none) { w with drawn := w.drawn + 1 } (inv0 _)
    ⟨(Q.refl w).drew, (fun x _ b hb => by cases hb), (fun x _ y _ _ b hb => by cases hb)⟩
    (fun x hx => ⟨fun _ => rfl, fun ht => by
      have hlt := (alB_spec hok).lt x hx
      have : x.1 < l.length := by omega
      simp [this] at ht⟩)
    (fun u hu => H u (Q.trans ((Q.refl w).drew) hu))
  have e : puts vs (fun _ => none) a = a := by
    clear K H h hok hrun
    induction vs generalizing a with
    | nil => rfl
    | cons x vs ih => unfold puts; exact ih
  rw [e, ← hz] at K
  exact K

theorem jk_split {w : World} {k : Jk} {b : Nat} {o : Obj} (h1 : w.heap.size ≤ b) (h2 : (w.jk k).heap[b]? = some o) : ∃ k1 k2 : Jk, w.jk k = ((w.jk k1).alloc o).jk k2 ∧ b = w.heap.size + k1.os.size := by
  have hb : b < w.heap.size + k.os.size := by
    rcases Nat.lt_or_ge b (w.heap.size + k.os.size) with h | h
    · exact h
    · rw [Array.getElem?_eq_none (by rw [World.size_jk]; exact h)] at h2; cases h2
  refine ⟨⟨k.os.extract 0 (b - w.heap.size), 0⟩, ⟨k.os.extract (b - w.heap.size + 1), k.n⟩, ?_, ?_⟩
  · have ho : k.os[b - w.heap.size]? = some o := by
      have : (w.jk k).heap[b]? = k.os[b - w.heap.size]? := by
        simp only [World.jk, Array.getElem?_append]
        rw [if_neg (by omega)]
      rw [← this]; exact h2
    show World.mk _ _ _ _ _ = World.mk _ _ _ _ _
    congr 1
    · simp only [World.jk, World.alloc]
      apply Array.ext_getElem?
      intro j
      simp only [Array.getElem?_append, Array.getElem?_push, Array.size_append, Array.size_push, Array.getElem?_extract, Array.size_extract]
      have em : min (b - w.heap.size) k.os.size = b - w.heap.size := by omega
      by_cases hj : j < w.heap.size
      · have h3 : ¬ j = w.heap.size + (min (b - w.heap.size) k.os.size - 0) := by omega
        have h4 : j < w.heap.size + (min (b - w.heap.size) k.os.size - 0) + 1 := by omega
        rw [if_pos hj, if_pos h4, if_neg h3, if_pos hj]
      · by_cases hjb : j = b
        · subst hjb
          have h3 : j = w.heap.size + (min (j - w.heap.size) k.os.size - 0) := by omega
          have h4 : j < w.heap.size + (min (j - w.heap.size) k.os.size - 0) + 1 := by omega
          rw [if_neg hj, if_pos h4, if_pos h3]
          exact ho
        · by_cases hlt : j < b
          · have h3 : ¬ j = w.heap.size + (min (b - w.heap.size) k.os.size - 0) := by omega
            have h4 : j < w.heap.size + (min (b - w.heap.size) k.os.size - 0) + 1 := by omega
            rw [if_neg hj, if_pos h4, if_neg h3, if_neg hj]
            rw [if_pos (by omega)]
            simp
          · have h4 : ¬ j < w.heap.size + (min (b - w.heap.size) k.os.size - 0) + 1 := by omega
            rw [if_neg hj, if_neg h4]
            by_cases hin : j < w.heap.size + k.os.size
            · rw [if_pos (by omega)]
              congr 1
              omega
            · rw [if_neg (by omega), Array.getElem?_eq_none (by omega)]
  · simp; omega
theorem jk_split2 {w : World} {k : Jk} {b c : Nat} {o q : Obj} (h1 : w.heap.size ≤ b) (h2 : (w.jk k).heap[b]? = some o) (h3 : b < c) (h4 : (w.jk k).heap[c]? = some q) :
    ∃ k1 k2 k3 : Jk, w.jk k = ((((w.jk k1).alloc o).jk k2).alloc q).jk k3 ∧ b = w.heap.size + k1.os.size ∧ c = w.heap.size + k1.os.size + 1 + k2.os.size := by
  obtain ⟨k1, m, e, eb⟩ := jk_split h1 h2
  rw [e] at h4
  have hs : ((w.jk k1).alloc o).heap.size = b + 1 := by simp [World.size_jk]; omega
  obtain ⟨k2, k3, e2, ec⟩ := jk_split (w := (w.jk k1).alloc o) (by rw [hs]; omega) h4
  refine ⟨k1, k2, k3, e.trans e2, eb, ?_⟩
  rw [hs] at ec
  omega

theorem wpQuiet_imp : ∀ (l : List Oper) (a : Act) {C : World → Prop} {K K' : Act → Prop} {ops : Array Oper}, (∀ a, K a → K' a) → wpQuiet P ops C K l a → wpQuiet P ops C K' l a := by
  intro l
  induction l with
  | nil => intro a C K K' ops hk h; exact hk a h
  | cons q l ih =>
    intro a C K K' ops hk h
    show if Region.wanted q (yielded ops a.tmps) then _ else _
    have h : if Region.wanted q (yielded ops a.tmps) then q.quiet P a C (wpQuiet P ops C K l) else wpQuiet P ops C K l (a.put q.dst undef) := h
    split
    · rename_i hw; rw [if_pos hw] at h; exact Oper.quiet_mono (fun a' h' => ih a' hk h') h
    · rename_i hw; rw [if_neg hw] at h; exact ih _ hk h
/-- One new variable. -/
theorem wp_region_al1 {id : Nat} {R : Exit → Act → World → Prop} {a : Act} {w : World} {l : List Oper} {f0 : FuncId} {fn0 : Func} (n : Nat) (i : Nat) (d : Tmp) (o : Obj)
    (h0 : P.funcs[f0]? = some fn0) (hr : fn0.results = #[]) (hi0 : P.inits.idxOf? f0 = none)
    (hm : P.follows .mixedOrders = true) (hB : Region.lexTailB .any (l.map unal).toArray n = true) (hT : Region.noSelect l.toArray && Region.sinkB .any l.toArray n && Region.chainB .any l.toArray n && decide (n < l.length) = true)
    (hok : alB l.toArray n [(i, d, o)] = true) (hrun : ∀ op, l.toArray[i]? = some op → ∀ (a : Act) (w : World), (execOp a.eval op).run P w = .ok (.value (.pointer (some ⟨w.heap.size, 0, none⟩))) (w.alloc o))
    (h : ∀ k0 : Jk, wpQuiet P (l.map unal).toArray (fun w' => ∃ k, w' = (w.jk k0).jk k) (fun a' => ∀ k1 k2 : Jk, w.jk k0 = ((w.jk k1).alloc o).jk k2 →
      wpList P l.toArray R (l.drop n) (a'.put (some d) (.pointer (some ⟨w.heap.size + k1.os.size, 0, none⟩))) (((w.jk k1).alloc o).jk k2)) ((l.map unal).take n) a) :
    (Code.region id l.toArray true).wp P R a w := by
  refine wp_region_al n [(i, d, o)] h0 hr hi0 hm hB hT hok (fun x hx => by
    obtain rfl := List.mem_singleton.1 hx
    exact hrun) ?_
  rintro u ⟨k0, rfl⟩
  refine wpQuiet_imp _ _ (fun a' hk β hinv hall => ?_) (h k0)
  obtain ⟨b, hb⟩ := hall _ List.mem_cons_self
  obtain ⟨q1, q2⟩ := hinv.at_ _ List.mem_cons_self b hb
  obtain ⟨k1, k2, e, rfl⟩ := jk_split q1 q2
  have := hk k1 k2 e
  rw [← e] at this
  simp only [puts]
  simp only at hb
  rw [hb]
  exact this
/-- Two new variables. -/
theorem wp_region_al2 {id : Nat} {R : Exit → Act → World → Prop} {a : Act} {w : World} {l : List Oper} {f0 : FuncId} {fn0 : Func} (n : Nat) (i : Nat) (d : Tmp) (o : Obj) (i' : Nat) (d' : Tmp) (o' : Obj)
    (h0 : P.funcs[f0]? = some fn0) (hr : fn0.results = #[]) (hi0 : P.inits.idxOf? f0 = none)
    (hm : P.follows .mixedOrders = true) (hB : Region.lexTailB .any (l.map unal).toArray n = true) (hT : Region.noSelect l.toArray && Region.sinkB .any l.toArray n && Region.chainB .any l.toArray n && decide (n < l.length) = true)
    (hii : i ≠ i') (hok : alB l.toArray n [(i, d, o), (i', d', o')] = true) (hrun : ∀ op, l.toArray[i]? = some op → ∀ (a : Act) (w : World), (execOp a.eval op).run P w = .ok (.value (.pointer (some ⟨w.heap.size, 0, none⟩))) (w.alloc o))
    (hrun' : ∀ op, l.toArray[i']? = some op → ∀ (a : Act) (w : World), (execOp a.eval op).run P w = .ok (.value (.pointer (some ⟨w.heap.size, 0, none⟩))) (w.alloc o'))
    (h : ∀ k0 : Jk, wpQuiet P (l.map unal).toArray (fun w' => ∃ k, w' = (w.jk k0).jk k) (fun a' =>
      (∀ k1 k2 k3 : Jk, w.jk k0 = ((((w.jk k1).alloc o).jk k2).alloc o').jk k3 →
        wpList P l.toArray R (l.drop n) ((a'.put (some d) (.pointer (some ⟨w.heap.size + k1.os.size, 0, none⟩))).put (some d') (.pointer (some ⟨w.heap.size + k1.os.size + 1 + k2.os.size, 0, none⟩))) (((((w.jk k1).alloc o).jk k2).alloc o').jk k3)) ∧
      (∀ k1 k2 k3 : Jk, w.jk k0 = ((((w.jk k1).alloc o').jk k2).alloc o).jk k3 →
        wpList P l.toArray R (l.drop n) ((a'.put (some d) (.pointer (some ⟨w.heap.size + k1.os.size + 1 + k2.os.size, 0, none⟩))).put (some d') (.pointer (some ⟨w.heap.size + k1.os.size, 0, none⟩))) (((((w.jk k1).alloc o').jk k2).alloc o).jk k3))) ((l.map unal).take n) a) :
    (Code.region id l.toArray true).wp P R a w := by
  refine wp_region_al n [(i, d, o), (i', d', o')] h0 hr hi0 hm hB hT hok (fun x hx => by
    rcases List.mem_cons.1 hx with rfl | hx
    · exact hrun
    · obtain rfl := List.mem_singleton.1 hx
      exact hrun') ?_
  rintro u ⟨k0, rfl⟩
  refine wpQuiet_imp _ _ (fun a' hk β hinv hall => ?_) (h k0)
  obtain ⟨b, hb⟩ := hall (i, d, o) List.mem_cons_self
  obtain ⟨c, hc⟩ := hall (i', d', o') (List.mem_cons_of_mem _ List.mem_cons_self)
  obtain ⟨q1, q2⟩ := hinv.at_ (i, d, o) List.mem_cons_self b hb
  obtain ⟨q3, q4⟩ := hinv.at_ (i', d', o') (List.mem_cons_of_mem _ List.mem_cons_self) c hc
  have hne := hinv.ne (i, d, o) List.mem_cons_self (i', d', o') (List.mem_cons_of_mem _ List.mem_cons_self) hii b hb
  have hbc : b ≠ c := fun e => hne (e ▸ hc)
  simp only [puts]
  simp only at hb hc
  rw [hb, hc]
  rcases Nat.lt_or_gt_of_ne hbc with hlt | hlt
  · obtain ⟨k1, k2, k3, e, rfl, rfl⟩ := jk_split2 q1 q2 hlt q4
    have := hk.1 k1 k2 k3 e
    rw [← e] at this
    exact this
  · obtain ⟨k1, k2, k3, e, rfl, rfl⟩ := jk_split2 q3 q4 hlt q2
    have := hk.2 k1 k2 k3 e
    rw [← e] at this
    exact this
end
end Go

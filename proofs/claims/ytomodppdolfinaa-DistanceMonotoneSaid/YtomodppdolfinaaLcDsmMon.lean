
/- DistanceMonotone returns true for every input, and its arguments read behind the call as they read before. -/
import Derived.Test.YtomodppdolfinaaEqs
import Derived.Test.YtomodppdolfinaaWs
import Derived.Test.YtomodppdolfinaaAl
import Derived.Test.YtomodppdolfinaaDsH
import Derived.Test.YtomodppdolfinaaDsI
import Derived.IntWalk
import Derived.Test.YtomodppdolfinaaJk
import Derived.ProofKit
import Derived.OpenShut
import Derived.Lib.LaidTab
import Derived.Lib.SmallJoins
import Derived.Carry
import Derived.Deep.DeepHandedRow
import Derived.Test.YtomodppdolfinaaRows
import Derived.Test.YtomodppdolfinaaSuPlain
set_option linter.unusedSimpArgs false
set_option linter.unusedVariables false
/- What '==' says of two arrays of bools: as the lists are. -/
namespace Go
open Go.Sub
theorem all_range_bools : ∀ (xs ys : List Bool), xs.length = ys.length → ((List.range xs.length).all fun i => xs.getD i false == ys.getD i false) = (xs == ys)
  | [], [], _ => rfl
  | x :: xs, y :: ys, h => by
    have ih := all_range_bools xs ys (by simpa using h)
    rw [List.length_cons, List.range_succ_eq_map, List.all_cons, List.all_map]
    simp only [List.getD_cons_zero, Function.comp_def, List.getD_cons_succ, ih]
    simp [List.cons_beq_cons]
  | [], _ :: _, h => by simp at h
  | _ :: _, [], h => by simp at h
section
variable {P : Program} (w : World)
theorem run_equalIn_bools (d : Nat) (t e : TypeId) (n : Nat) (ht : P.underlying t = some (.array n e)) (he : P.underlying e = some .bool) (hsz : ∀ w, (sizeOf e).run P w = .ok 1 w)
    (xs ys : List Bool) (hx : xs.length = n) (hy : ys.length = n) :
    (Op.equalIn (d + 2) t (.agg (xs.map Value.bool).toArray) (.agg (ys.map Value.bool).toArray)).run P w = .ok (xs == ys) w := by
  rw [← all_range_bools xs ys (hx.trans hy.symm), hx, List.range_eq_range', Op.equalIn]
  simp only [Sem.run_bind, run_underlying ht, Result.andThen_ok, hsz, Std.Legacy.Range.forIn_eq_forIn_range', Std.Legacy.Range.size, Nat.sub_zero, Nat.add_sub_cancel, Nat.div_one]
  have hl : ∀ i ∈ List.range' 0 n 1, i < n := fun i hi => by simpa using (List.mem_range'_1.1 hi).2
  generalize List.range' 0 n 1 = l at hl ⊢
  induction l with
  | nil => simp
  | cons i l ih =>
    have hi : i < n := hl i (by simp)
    have px : (part e (xs.map Value.bool).toArray (i * 1)).run P w = .ok (.bool (xs.getD i false)) w := by
      simp [part, isAgg, run_underlying he, List.getD, List.getElem?_eq_getElem (show i < xs.length by omega)]
    have py : (part e (ys.map Value.bool).toArray (i * 1)).run P w = .ok (.bool (ys.getD i false)) w := by
      simp [part, isAgg, run_underlying he, List.getD, List.getElem?_eq_getElem (show i < ys.length by omega)]
    have pe : (Op.equalIn (d + 1) e (.bool (xs.getD i false)) (.bool (ys.getD i false))).run P w = .ok (xs.getD i false == ys.getD i false) w := by
      cases xs.getD i false <;> cases ys.getD i false <;> simp [Op.equalIn, run_underlying he]
    simp only [List.forIn_cons, Sem.run_bind, px, py, pe, Result.andThen_ok, List.all_cons]
    cases hb : (xs.getD i false == ys.getD i false)
    · simp
    · simp only [Bool.not_true, Bool.false_eq_true, if_false, Sem.run_pure, Result.andThen_ok, Bool.true_and]
      exact ih fun j hj => hl j (by simp [hj])
theorem run_eql_bools (t e : TypeId) (n : Nat) (ht : P.underlying t = some (.array n e)) (he : P.underlying e = some .bool) (hsz : ∀ w, (sizeOf e).run P w = .ok 1 w)
    (xs ys : List Bool) (hx : xs.length = n) (hy : ys.length = n) :
    (binOp .eql t (.agg (xs.map Value.bool).toArray) (.agg (ys.map Value.bool).toArray)).run P w = .ok (.bool (xs == ys)) w := by
  rw [run_eql_struct, run_equalIn_bools w 9998 t e n ht he hsz xs ys hx hy]
  rfl
end
end Go
/- A region that draws its order, in which one new variable is made and written among reads and calls, in whatever order: one walk in the order of the text. -/
namespace Go
open Go.RowKit
section
variable {P : Program} {ops : Array Oper} {Q' : Exit → Act → World → Prop} {md : Region.Mode}
/-- New blocks behind W; where ia has come up, block b is among them: o, and o' behind the store. -/
def SA (W : World) (ia is : Nat) (o o' : Obj) (b : Nat) (l : Array Bool) (w : World) : Prop :=
  Go.Q W w ∧ (l.getD ia false = true → W.heap.size ≤ b ∧ w.heap[b]? = some (if l.getD is false = true then o' else o))
variable {W : World} {ia is : Nat} {o o' : Obj} {d : Tmp}
theorem SA.idle {b i : Nat} (h1 : i ≠ ia) (h2 : i ≠ is) {l : Array Bool} {w w' : World} (h : SA W ia is o o' b l w) (hq : Go.Q w w') : SA W ia is o o' b (l.setIfInBounds i true) w' := by
  refine ⟨h.1.trans hq, fun ht => ?_⟩
  rw [getD_set_ne false h1] at ht
  rw [getD_set_ne false h2]
  obtain ⟨e1, e2⟩ := h.2 ht
  refine ⟨e1, ?_⟩
  obtain ⟨k, rfl⟩ := hq
  rw [World.block_jk k b (Array.getElem?_eq_some_iff.1 e2).1]
  exact e2
/-- Operation i comes up: the new variable lies at b. -/
def qX (P : Program) (md : Region.Mode) (ops : Array Oper) (S : Array Bool → World → Prop) (ia : Nat) (d : Tmp) (b : Nat) (i : Nat) (K : Act → Prop) (a : Act) : Prop :=
  if i = ia then K (a.put (some d) (.pointer (some ⟨b, 0, none⟩))) else qW P md ops S i K a
def GoX (P : Program) (md : Region.Mode) (ops : Array Oper) (Q' : Exit → Act → World → Prop) (S : Array Bool → World → Prop) (ia : Nat) (d : Tmp) (b : Nat) : Nat → Array Bool → Act → Prop
  | 0, listed, a => Region.ready md ops listed = [] ∧ ∀ w, S listed w → Q' .normal a w
  | f + 1, listed, a => Region.ready md ops listed ≠ [] ∧ ∀ i ∈ Region.ready md ops listed, qX P md ops S ia d b i (GoX P md ops Q' S ia d b f (listed.setIfInBounds i true)) a
theorem qX_mono {S : Array Bool → World → Prop} {b i : Nat} {K K' : Act → Prop} {a : Act} (hk : ∀ a, K a → K' a) (h : qX P md ops S ia d b i K a) : qX P md ops S ia d b i K' a := by
  unfold qX at *
  split
  · rename_i hi; rw [if_pos hi] at h; exact hk _ h
  · rename_i hi; rw [if_neg hi] at h; exact qW_mono hk h
theorem GoX.post {S : Array Bool → World → Prop} {b : Nat} : ∀ (f : Nat) (listed : Array Bool) (a : Act) (w : World), ClosedL md ops listed → listed.getD ia true = true → S listed w → GoX P md ops Q' S ia d b f listed a → wpAny P md ops Q' f listed a w
  | 0, _, _, w, _, _, hs, h => ⟨h.1, h.2 w hs⟩
  | f + 1, listed, a, w, hc, hia, hs, h => by
    refine ⟨fun h0 => absurd h0 h.1, fun i hi => ?_⟩
    have h1 := h.2 i hi
    have hne : i ≠ ia := fun e => by
      subst e
      rw [(mem_ready.1 hi).1] at hia
      cases hia
    unfold qX at h1
    rw [if_neg hne] at h1
    unfold qW at h1
    unfold wpOp
    have hia' : (listed.setIfInBounds i true).getD ia true = true := by rw [getD_set_ne true hne]; exact hia
    split at h1
    · exact h1.elim
    · rename_i oi ho
      rw [ho]
      obtain ⟨v, hy, hk⟩ := h1
      dsimp only
      rcases hy with ⟨hw, hy⟩ | ⟨hw, rfl, hy⟩
      · rw [if_pos hw]
        left
        have h2 := hy listed w ⟨hc, hi, hs⟩
        unfold Oper.wp
        generalize (execOp a.eval oi).run P w = r at h2 ⊢
        cases r with
        | ok n w' =>
          cases n <;> simp only [upW] at h2 <;> simp only [Oper.upon]
          case value u =>
            obtain ⟨hs', rfl⟩ := h2
            exact GoX.post f _ _ _ (hc.set hi) hia' hs' hk
          case skip =>
            obtain ⟨hs', rfl⟩ := h2
            exact GoX.post f _ _ _ (hc.set hi) hia' hs' hk
          case enter fn args =>
            exact h2.mono fun e w'' ⟨he, hs'⟩ => by subst he; exact GoX.post f _ _ _ (hc.set hi) hia' hs' hk
        | halt x w' => simp only [upW] at h2
      · rw [if_neg (by rw [hw]; exact Bool.false_ne_true)]
        exact GoX.post f _ _ _ (hc.set hi) hia' (hy listed w ⟨hc, hi, hs⟩) hk
theorem GoX.pre {f0 : FuncId} {fn0 : Func} (h0 : P.funcs[f0]? = some fn0) (hr0 : fn0.results = #[]) (hi0 : P.inits.idxOf? f0 = none) {oa : Oper} (hoa : ops[ia]? = some oa) (hda : oa.dst = some d) (hga : oa.guard = none)
    (hrun : ∀ (a : Act) (w : World), (execOp a.eval oa).run P w = .ok (.value (.pointer (some ⟨w.heap.size, 0, none⟩))) (w.alloc o)) (hns : is ≠ ia) (hdep : befB md ops 1 ia is = true) :
    ∀ (f : Nat) (listed : Array Bool) (a : Act) (w : World), ClosedL md ops listed → listed.getD ia true = false → Go.Q W w → (∀ b, GoX P md ops Q' (SA W ia is o o' b) ia d b f listed a) → wpAny P md ops Q' f listed a w
  | 0, listed, a, w, hc, hia, hq, h => ⟨(h 0).1, (h 0).2 w ⟨hq, fun ht => by rw [getD_both' hia] at ht; cases ht⟩⟩
  | f + 1, listed, a, w, hc, hia, hq, h => by
    refine ⟨fun h1 => absurd h1 (h 0).1, fun i hi => ?_⟩
    by_cases hne : i = ia
    · subst hne
      have h1 := (h w.heap.size).2 i hi
      unfold qX at h1
      rw [if_pos rfl] at h1
      unfold wpOp
      rw [hoa]
      dsimp only
      rw [if_pos (by unfold Region.wanted; rw [hga])]
      left
      unfold Oper.wp
      rw [hrun]
      show wpAny P md ops Q' f _ (a.put oa.dst _) _
      rw [hda]
      have hil : i < listed.size := by
        rcases Nat.lt_or_ge i listed.size with h6 | h6
        · exact h6
        · simp [Array.getElem?_eq_none h6] at hia
      refine GoX.post (ia := i) f _ _ _ (hc.set hi) (by simp [hil]) ?_ h1
      refine ⟨hq.alloc o, fun _ => ⟨hq.below.size, ?_⟩⟩
      have hsl : (listed.setIfInBounds i true).getD is false = false := by
        rw [getD_set_ne false (Ne.symm hns)]
        cases e : listed.getD is false with
        | false => rfl
        | true =>
          have h7 := bef_true hc 1 i is hdep (.inl e)
          rw [getD_both' hia] at h7
          cases h7
      rw [hsl, if_neg Bool.false_ne_true]
      exact heap_alloc_new w o
    · have hs : ∀ b, SA W ia is o o' b listed w := fun b => ⟨hq, fun ht => by rw [getD_both' hia] at ht; cases ht⟩
      have hia' : (listed.setIfInBounds i true).getD ia true = false := by rw [getD_set_ne true hne]; exact hia
      have hall : ∀ b, qW P md ops (SA W ia is o o' b) i (GoX P md ops Q' (SA W ia is o o' b) ia d b f (listed.setIfInBounds i true)) a := fun b => by
        have h1 := (h b).2 i hi
        unfold qX at h1
        rwa [if_neg hne] at h1
      unfold qW at hall
      unfold wpOp
      cases ho : ops[i]? with
      | none => have h1 := hall 0; rw [ho] at h1; exact h1.elim
      | some oi =>
        have hall' : ∀ b, ∃ v, YieldsW P md ops (SA W ia is o o' b) i oi v a ∧ GoX P md ops Q' (SA W ia is o o' b) ia d b f (listed.setIfInBounds i true) (a.put oi.dst v) := fun b => by
          have h1 := hall b; rwa [ho] at h1
        clear hall
        obtain ⟨v, hy, hk⟩ := hall' 0
        dsimp only
        rcases hy with ⟨hw, hy⟩ | ⟨hw, rfl, hy⟩
        · rw [if_pos hw]
          left
          have h2 := hy listed w ⟨hc, hi, hs 0⟩
          have hother : ∀ b, ∃ vb, upW P vb (SA W ia is o o' b (listed.setIfInBounds i true)) ((execOp a.eval oi).run P w) ∧ GoX P md ops Q' (SA W ia is o o' b) ia d b f (listed.setIfInBounds i true) (a.put oi.dst vb) := fun b => by
            obtain ⟨vb, hyb, hkb⟩ := hall' b
            rcases hyb with ⟨_, hyb⟩ | ⟨hwb, _, _⟩
            · exact ⟨vb, hyb listed w ⟨hc, hi, hs b⟩, hkb⟩
            · rw [hw] at hwb; cases hwb
          unfold Oper.wp
          generalize (execOp a.eval oi).run P w = r at h2 hother ⊢
          cases r with
          | ok n w' =>
            cases n <;> simp only [upW] at h2 hother <;> simp only [Oper.upon]
            case value u =>
              obtain ⟨hs', rfl⟩ := h2
              refine GoX.pre h0 hr0 hi0 hoa hda hga hrun hns hdep f _ _ _ (hc.set hi) hia' hs'.1 fun b => ?_
              obtain ⟨vb, ⟨_, rfl⟩, hkb⟩ := hother b
              exact hkb
            case skip =>
              obtain ⟨hs', rfl⟩ := h2
              refine GoX.pre h0 hr0 hi0 hoa hda hga hrun hns hdep f _ _ _ (hc.set hi) hia' hs'.1 fun b => ?_
              obtain ⟨vb, ⟨_, rfl⟩, hkb⟩ := hother b
              exact hkb
            case enter fn args =>
              have hk2 : ∀ b, GoX P md ops Q' (SA W ia is o o' b) ia d b f (listed.setIfInBounds i true) (a.put oi.dst v) := fun b => by
                obtain ⟨vb, hcb, hkb⟩ := hother b
                have e : v = vb := Calls.value_unique h0 hr0 hi0 h2 hcb
                rw [e]; exact hkb
              exact h2.mono fun e w'' ⟨he, hs'⟩ => by
                subst he
                exact GoX.pre h0 hr0 hi0 hoa hda hga hrun hns hdep f _ _ _ (hc.set hi) hia' hs'.1 hk2
          | halt x w' => simp only [upW] at h2
        · rw [if_neg (by rw [hw]; exact Bool.false_ne_true)]
          refine GoX.pre h0 hr0 hi0 hoa hda hga hrun hns hdep f _ _ _ (hc.set hi) hia' (hy listed w ⟨hc, hi, hs 0⟩).1 fun b => ?_
          obtain ⟨vb, hyb, hkb⟩ := hall' b
          rcases hyb with ⟨hwb, _⟩ | ⟨_, rfl, _⟩
          · rw [hw] at hwb; cases hwb
          · exact hkb
theorem wp_region_A {id : Nat} {a : Act} {w : World} {f0 : FuncId} {fn0 : Func} (n ia is : Nat) (d : Tmp) (o o' : Obj) (h0 : P.funcs[f0]? = some fn0) (hr0 : fn0.results = #[]) (hi0 : P.inits.idxOf? f0 = none) (hn : ops.size = n) (hm : P.follows .mixedOrders = true)
    {oa : Oper} (hoa : ops[ia]? = some oa) (hda : oa.dst = some d) (hga : oa.guard = none)
    (hrun : ∀ (a : Act) (w : World), (execOp a.eval oa).run P w = .ok (.value (.pointer (some ⟨w.heap.size, 0, none⟩))) (w.alloc o)) (hns : is ≠ ia) (hdep : befB .any ops 1 ia is = true)
    (h : ∀ b, GoX P .any ops Q' (SA w ia is o o' b) ia d b n (Array.replicate n false) a) : (Code.region id ops true).wp P Q' a w := by
  subst hn
  have hlt : ia < ops.size := (Array.getElem?_eq_some_iff.1 hoa).1
  exact wp_region_any hm (GoX.pre h0 hr0 hi0 hoa hda hga hrun hns hdep _ _ _ _ (closed_start _) (by simp [hlt]) ((Q.refl w).drew) h)
theorem GoX.first {S : Array Bool → World → Prop} {b i : Nat} {oi : Oper} {v : Value} (hi : ops[i]? = some oi) (hne : i ≠ ia) {oa : Oper} (hoa : ops[ia]? = some oa) (hda : oa.dst = some d) (hsel : ∀ (j : Nat) (o : Oper) cs b, ops[j]? = some o → o.op ≠ .select cs b) : ∀ (f : Nat) (listed : Array Bool) (a : Act),
    (∀ j oj, ops[j]? = some oj → j ≠ i → listed.getD j true = false → (∀ e ∈ oj.after, Region.binds md e = true → e.on ≠ i) → oi.apart ops oj = true) →
    i ∈ Region.ready md ops listed → YieldsW P md ops S i oi v a →
    GoX P md ops Q' S ia d b f (listed.setIfInBounds i true) (a.put oi.dst v) → GoX P md ops Q' S ia d b (f + 1) listed a := by
  intro f
  induction f with
  | zero =>
    intro listed a _ hr hy H
    refine ⟨List.ne_nil_of_mem hr, fun j hj => ?_⟩
    by_cases hji : j = i
    · subst hji
      unfold qX qW
      rw [if_neg hne, hi]
      exact ⟨v, hy, H⟩
    · have := ready_mono hj hji
      rw [H.1] at this
      cases this
  | succ f ih =>
    intro listed a hfree hr hy H
    refine ⟨List.ne_nil_of_mem hr, fun j hj => ?_⟩
    by_cases hji : j = i
    · subst hji
      unfold qX qW
      rw [if_neg hne, hi]
      exact ⟨v, hy, H⟩
    · obtain ⟨hjun, oj, hoj, hall⟩ := mem_ready.1 hj
      have hnot : ∀ e ∈ oj.after, Region.binds md e = true → e.on ≠ i := fun e he hb heq => by
        have h1 := hall e he hb
        have h0 := getD_both' (mem_ready.1 hr).1
        rw [heq, h0] at h1
        cases h1
      have hap := hfree j oj hoj hji hjun hnot
      have hfree' : ∀ k ok, ops[k]? = some ok → k ≠ i → (listed.setIfInBounds j true).getD k true = false → (∀ e ∈ ok.after, Region.binds md e = true → e.on ≠ i) → oi.apart ops ok = true := by
        intro k ok hk hki hun hno
        refine hfree k ok hk hki ?_ hno
        by_cases hjk : j = k
        · subst hjk; exact hjun
        · rwa [getD_set_ne true hjk] at hun
      have hJ := H.2 j (ready_mono hj hji)
      unfold qX at hJ ⊢
      by_cases hja : j = ia
      · rw [if_pos hja] at hJ ⊢
        subst hja
        rw [hoj] at hoa
        obtain rfl := Option.some.inj hoa
        obtain ⟨h1, h2, h3⟩ := Oper.apart_spec hap
        have ea : (a.put oi.dst v).put (some d) (.pointer (some ⟨b, 0, none⟩)) = (a.put (some d) (.pointer (some ⟨b, 0, none⟩))).put oi.dst v := by
          have := Act.put_comm a v (.pointer (some ⟨b, 0, none⟩)) h2
          rw [hda] at this
          exact this
        refine ih _ _ hfree' (ready_mono hr (Ne.symm hji)) (hy.of_same ?_ ?_) ?_
        · have := execOp_put oi (fun cs b => hsel i oi cs b hi) a oj.dst (.pointer (some ⟨b, 0, none⟩)) h3
          rwa [hda] at this
        · have := wanted_put oi a oj.dst (.pointer (some ⟨b, 0, none⟩)) h3
          rwa [hda] at this
        · rw [Array.setIfInBounds_comm _ _ hji, ← ea]
          exact hJ
      · rw [if_neg hja] at hJ ⊢
        have h2 := qW_put hoj hap (fun cs b => hsel i oi cs b hi) (fun cs b => hsel j oj cs b hoj) hy hJ
        refine qW_mono (fun a' h3 => ih _ a' hfree' (ready_mono hr (Ne.symm hji)) h3.1 ?_) h2
        rw [Array.setIfInBounds_comm _ _ hji]
        exact h3.2
/-- The new variable is made. -/
theorem GoX.make {S : Array Bool → World → Prop} {b : Nat} {oa : Oper} (hoa : ops[ia]? = some oa) (hda : oa.dst = some d) (hsel' : Region.noSelect ops = true) : ∀ (f : Nat) (listed : Array Bool) (a : Act),
    Region.free md ops listed ia = true → (Region.ready md ops listed).contains ia = true →
    GoX P md ops Q' S ia d b f (listed.setIfInBounds ia true) (a.put (some d) (.pointer (some ⟨b, 0, none⟩))) → GoX P md ops Q' S ia d b (f + 1) listed a := by
  have hsel := Region.noSelect_spec hsel'
  intro f listed a hf hr H
  have hfree := Region.free_spec hoa hf
  have hr : ia ∈ Region.ready md ops listed := by simpa using hr
  clear hf
  revert listed a
  induction f with
  | zero =>
    intro listed a _ H hfree hr
    refine ⟨List.ne_nil_of_mem hr, fun j hj => ?_⟩
    by_cases hji : j = ia
    · unfold qX
      rw [if_pos hji, hji]
      exact H
    · have := ready_mono hj hji
      rw [H.1] at this
      cases this
  | succ f ih =>
    intro listed a _ H hfree hr
    refine ⟨List.ne_nil_of_mem hr, fun j hj => ?_⟩
    by_cases hji : j = ia
    · unfold qX
      rw [if_pos hji, hji]
      exact H
    · obtain ⟨hjun, oj, hoj, hall⟩ := mem_ready.1 hj
      have hnot : ∀ e ∈ oj.after, Region.binds md e = true → e.on ≠ ia := fun e he hb heq => by
        have h1 := hall e he hb
        have h0 := getD_both' (mem_ready.1 hr).1
        rw [heq, h0] at h1
        cases h1
      have hap := hfree j oj hoj hji hjun hnot
      obtain ⟨h1, h2, h3⟩ := Oper.apart_spec hap
      have hJ := H.2 j (ready_mono hj hji)
      unfold qX at hJ ⊢
      rw [if_neg hji] at hJ ⊢
      unfold qW at hJ ⊢
      rw [hoj] at hJ ⊢
      obtain ⟨u, hu, hK⟩ := hJ
      refine ⟨u, hu.of_same ?_ ?_, ih _ _ (by simpa using ready_mono hr (Ne.symm hji)) ?_ ?_ (ready_mono hr (Ne.symm hji))⟩
      · have := execOp_put oj (fun cs b => hsel j oj cs b hoj) a oa.dst (.pointer (some ⟨b, 0, none⟩)) h1
        rw [hda] at this
        exact this.symm
      · have := wanted_put oj a oa.dst (.pointer (some ⟨b, 0, none⟩)) h1
        rw [hda] at this
        exact this.symm
      · rw [Array.setIfInBounds_comm _ _ hji]
        have := Act.put_comm a (.pointer (some ⟨b, 0, none⟩)) u h2
        rw [hda] at this
        rw [← this]
        exact hK
      · intro k ok hk hki hun hno
        refine hfree k ok hk hki ?_ hno
        by_cases hjk : j = k
        · subst hjk; exact hjun
        · rwa [getD_set_ne true hjk] at hun
section
variable {b f : Nat} {listed : Array Bool} {a : Act} {oa : Oper}
theorem GoX.take {i : Nat} {oi : Oper} (hoa : ops[ia]? = some oa) (hda : oa.dst = some d) (hi : ops[i]? = some oi) (hk : kindB oi = true) (hne : i ≠ ia) (hni : i ≠ is) (hs : Region.noSelect ops = true) (hf : Region.free md ops listed i = true) (hr : (Region.ready md ops listed).contains i = true)
    (h : wpQuiet P ops (fun w => ∃ k : Jk, w = W.jk k) (fun a' => GoX P md ops Q' (SA W ia is o o' b) ia d b f (listed.setIfInBounds i true) a') [oi] a) : GoX P md ops Q' (SA W ia is o o' b) ia d b (f + 1) listed a := by
  have hr' : i ∈ Region.ready md ops listed := by simpa using hr
  have hq : qOp P ops (fun w => ∃ k : Jk, w = W.jk k) i (fun a' => GoX P md ops Q' (SA W ia is o o' b) ia d b f (listed.setIfInBounds i true) a') a := by
    unfold qOp
    rw [hi]
    exact h
  obtain ⟨v, hy, hK⟩ := yieldsIn_of_qOp hi hq
  refine GoX.first (v := v) hi hne hoa hda (Region.noSelect_spec hs) f listed a (Region.free_spec hi hf) hr' ?_ hK
  rcases hy with ⟨hw, hv⟩ | ⟨hw, hv⟩
  · refine .inl ⟨hw, fun l w hcl => ?_⟩
    have h4 := hv w hcl.2.2.1
    unfold Oper.quietAt at h4
    cases hrun : (execOp a.eval oi).run P w with
    | ok n w' =>
      obtain ⟨x, rfl⟩ := kind_value hk hrun
      rw [hrun] at h4
      obtain ⟨rfl, rfl⟩ := h4
      exact ⟨hcl.2.2.idle hne hni (Go.Q.refl _), rfl⟩
    | halt x w' =>
      rw [hrun] at h4
      exact h4.elim
  · exact .inr ⟨hw, hv, fun l w hcl => hcl.2.2.idle hne hni (Go.Q.refl _)⟩
theorem GoX.call {i : Nat} {oi : Oper} {fn : FuncId} {args : Array Value} {v : Value} (hc : ∀ w, Calls P fn args w fun e w' => e = .returned v ∧ Go.Q w w') (hoa : ops[ia]? = some oa) (hda : oa.dst = some d)
    (hi : ops[i]? = some oi) (hne : i ≠ ia) (hni : i ≠ is) (hs : Region.noSelect ops = true) (hf : Region.free md ops listed i = true) (hr : (Region.ready md ops listed).contains i = true)
    (hw : Region.wanted oi (yielded ops a.tmps) = true) (hrun : ∀ w, (execOp a.eval oi).run P w = .ok (.enter fn args) w)
    (h : GoX P md ops Q' (SA W ia is o o' b) ia d b f (listed.setIfInBounds i true) (a.put oi.dst v)) : GoX P md ops Q' (SA W ia is o o' b) ia d b (f + 1) listed a := by
  refine GoX.first (v := v) hi hne hoa hda (Region.noSelect_spec hs) f listed a (Region.free_spec hi hf) (by simpa using hr) (.inl ⟨hw, fun l w hcl => ?_⟩) h
  rw [hrun w]
  exact (hc w).mono fun e w' ⟨he, hq⟩ => ⟨he, hcl.2.2.idle hne hni hq⟩
theorem GoX.val {i : Nat} {oi : Oper} {v : Value} (hoa : ops[ia]? = some oa) (hda : oa.dst = some d)
    (hi : ops[i]? = some oi) (hne : i ≠ ia) (hni : i ≠ is) (hs : Region.noSelect ops = true) (hf : Region.free md ops listed i = true) (hr : (Region.ready md ops listed).contains i = true)
    (hw : Region.wanted oi (yielded ops a.tmps) = true) (hrun : ∀ w, (execOp a.eval oi).run P w = .ok (.value v) w)
    (h : GoX P md ops Q' (SA W ia is o o' b) ia d b f (listed.setIfInBounds i true) (a.put oi.dst v)) : GoX P md ops Q' (SA W ia is o o' b) ia d b (f + 1) listed a := by
  refine GoX.first (v := v) hi hne hoa hda (Region.noSelect_spec hs) f listed a (Region.free_spec hi hf) (by simpa using hr) (.inl ⟨hw, fun l w hcl => ?_⟩) h
  rw [hrun w]
  exact ⟨hcl.2.2.idle hne hni (Go.Q.refl _), rfl⟩
theorem SA.split {l : Array Bool} {w : World} {q : Obj} (h : SA W ia is o o' b l w) (h1 : l.getD ia false = true) (h2 : (if l.getD is false = true then o' else o) = q) : ∃ k1 k2 : Jk, w = ((W.jk k1).alloc q).jk k2 ∧ b = W.heap.size + k1.os.size := by
  obtain ⟨⟨k, rfl⟩, e⟩ := h
  obtain ⟨e1, e2⟩ := e h1
  rw [h2] at e2
  obtain ⟨k1, k2, e3, e4⟩ := jk_split e1 e2
  exact ⟨k1, k2, e3, e4⟩
/-- The new variable is written. -/
theorem GoX.store {oi : Oper} (hoa : ops[ia]? = some oa) (hda : oa.dst = some d) (hi : ops[is]? = some oi) (hk : storeB oi = true) (hne : is ≠ ia) (hs : Region.noSelect ops = true) (hf : Region.free md ops listed is = true) (hr : (Region.ready md ops listed).contains is = true)
    (hdep : befB md ops 1 ia is = true) (hw : Region.wanted oi (yielded ops a.tmps) = true)
    (h : ∀ k1 k2 : Jk, b = W.heap.size + k1.os.size → ∀ K : Act → World → Prop, K (a.put oi.dst undef) (((W.jk k1).alloc o').jk k2) → oi.wp P a (((W.jk k1).alloc o).jk k2) K fun _ _ _ => False)
    (H : GoX P md ops Q' (SA W ia is o o' b) ia d b f (listed.setIfInBounds is true) (a.put oi.dst undef)) : GoX P md ops Q' (SA W ia is o o' b) ia d b (f + 1) listed a := by
  refine GoX.first (v := undef) hi hne hoa hda (Region.noSelect_spec hs) f listed a (Region.free_spec hi hf) (by simpa using hr) (.inl ⟨hw, fun l w hcl => ?_⟩) H
  obtain ⟨g1, g2, g3⟩ := hcl
  have hun := getD_both' (mem_ready.1 g2).1
  have hia := bef_true g1 1 ia is hdep (.inr g2)
  obtain ⟨k1, k2, rfl, hb⟩ := g3.split (q := o) hia (by rw [hun]; rfl)
  have hil : is < l.size := by
    have h5 := (mem_ready.1 g2).1
    rcases Nat.lt_or_ge is l.size with h6 | h6
    · exact h6
    · simp [Array.getElem?_eq_none h6] at h5
  have h3 := h k1 k2 hb (fun a' w' => SA W ia is o o' b (l.setIfInBounds is true) w') ⟨((Go.Q.refl W).jk k1 |>.alloc o').jk k2, fun _ => ⟨by omega, by
    rw [show (l.setIfInBounds is true).getD is false = true by simp [hil], if_pos rfl]
    have hbb : b = (W.jk k1).heap.size := by rw [hb, World.size_jk]
    have h7 : ((W.jk k1).alloc o').heap[b]? = some o' := by rw [hbb]; exact heap_alloc_new _ _
    rw [World.block_jk k2 b (Array.getElem?_eq_some_iff.1 h7).1]
    exact h7⟩⟩
  unfold Oper.wp at h3
  cases hrun : (execOp a.eval oi).run P (((W.jk k1).alloc o).jk k2) with
  | ok nx w' =>
    obtain rfl := store_skip hk hrun
    rw [hrun] at h3
    exact ⟨h3, rfl⟩
  | halt x w' =>
    rw [hrun] at h3
    cases x <;> simp only [Oper.upon] at h3
theorem GoX.done (hr : Region.ready md ops listed = []) (h1 : listed.getD ia false = true) (h2 : listed.getD is false = true)
    (h : ∀ k1 k2 : Jk, b = W.heap.size + k1.os.size → Q' .normal a (((W.jk k1).alloc o').jk k2)) : GoX P md ops Q' (SA W ia is o o' b) ia d b 0 listed a := by
  refine ⟨hr, fun w hs => ?_⟩
  obtain ⟨k1, k2, rfl, hb⟩ := hs.split (q := o') h1 (by rw [h2]; rfl)
  exact h k1 k2 hb
end
end
end Go
/- What the laws of Pickup share: loads out of a case, fine's contract. -/
namespace Go.Sub
/-- A zone in its range. -/
def fz (z : Zn) : Zn := ⟨bif z.on then true else false, bif z.on then z.fwd else false, bif z.on then 1 + z.x % 4000 else 0, bif z.on then z.r % 4001 else 0, bif z.on then z.l % 4001 else 0, 0⟩
end Go.Sub
namespace Go.Proofs.Ytomodppdolfinaa
open Go.RowKit Go.Sub
@[go_sem] theorem run_ld57a {w : World} {n : Nat} {t : TypeId} {fr : Nat × Nat} (x0 x1 x2 x3 x4 x5 x6 x7 x8 x9 x10 x11 x12 x13 x14 x15 x16 x17 x18 x19 x20 x21 x22 x23 x24 x25 x26 x27 x28 x29 x30 x31 x32 x33 x34 x35 x36 x37 x38 x39 x40 x41 x42 x43 x44 x45 x46 x47 x48 x49 x50 x51 x52 x53 x54 x55 x56 : Value) [h : Blk w n (.cells #[x0, x1, x2, x3, x4, x5, x6, x7, x8, x9, x10, x11, x12, x13, x14, x15, x16, x17, x18, x19, x20, x21, x22, x23, x24, x25, x26, x27, x28, x29, x30, x31, x32, x33, x34, x35, x36, x37, x38, x39, x40, x41, x42, x43, x44, x45, x46, x47, x48, x49, x50, x51, x52, x53, x54, x55, x56] t fr)] :
    (bigLoad 24 ⟨n, 0, none⟩).run Try.prog w = .ok (.agg #[x0, x1, x2, x3, x4, x5, x6, x7, x8, x9, x10, x11]) w := by
  have hr := World.rangeAt_of_block h.eq 0 12
  rw [show (#[x0, x1, x2, x3, x4, x5, x6, x7, x8, x9, x10, x11, x12, x13, x14, x15, x16, x17, x18, x19, x20, x21, x22, x23, x24, x25, x26, x27, x28, x29, x30, x31, x32, x33, x34, x35, x36, x37, x38, x39, x40, x41, x42, x43, x44, x45, x46, x47, x48, x49, x50, x51, x52, x53, x54, x55, x56].extract 0 (0 + 12)).toList = [x0, x1, x2, x3, x4, x5, x6, x7, x8, x9, x10, x11] by kernel_rfl] at hr
  exact run_loadVar_mid w n 0 24 [x0, x1, x2, x3, x4, x5, x6, x7, x8, x9, x10, x11] _ hr Try.underlying24 rfl (by kernel_rfl)
@[go_sem] theorem run_ld57b {w : World} {n : Nat} {t : TypeId} {fr : Nat × Nat} (x0 x1 x2 x3 x4 x5 x6 x7 x8 x9 x10 x11 x12 x13 x14 x15 x16 x17 x18 x19 x20 x21 x22 x23 x24 x25 x26 x27 x28 x29 x30 x31 x32 x33 x34 x35 x36 x37 x38 x39 x40 x41 x42 x43 x44 x45 x46 x47 x48 x49 x50 x51 x52 x53 x54 x55 x56 : Value) [h : Blk w n (.cells #[x0, x1, x2, x3, x4, x5, x6, x7, x8, x9, x10, x11, x12, x13, x14, x15, x16, x17, x18, x19, x20, x21, x22, x23, x24, x25, x26, x27, x28, x29, x30, x31, x32, x33, x34, x35, x36, x37, x38, x39, x40, x41, x42, x43, x44, x45, x46, x47, x48, x49, x50, x51, x52, x53, x54, x55, x56] t fr)] :
    (bigLoad 24 ⟨n, 12, none⟩).run Try.prog w = .ok (.agg #[x12, x13, x14, x15, x16, x17, x18, x19, x20, x21, x22, x23]) w := by
  have hr := World.rangeAt_of_block h.eq 12 12
  rw [show (#[x0, x1, x2, x3, x4, x5, x6, x7, x8, x9, x10, x11, x12, x13, x14, x15, x16, x17, x18, x19, x20, x21, x22, x23, x24, x25, x26, x27, x28, x29, x30, x31, x32, x33, x34, x35, x36, x37, x38, x39, x40, x41, x42, x43, x44, x45, x46, x47, x48, x49, x50, x51, x52, x53, x54, x55, x56].extract 12 (12 + 12)).toList = [x12, x13, x14, x15, x16, x17, x18, x19, x20, x21, x22, x23] by kernel_rfl] at hr
  exact run_loadVar_mid w n 12 24 [x12, x13, x14, x15, x16, x17, x18, x19, x20, x21, x22, x23] _ hr Try.underlying24 rfl (by kernel_rfl)
@[go_sem] theorem run_ld57c {w : World} {n : Nat} {t : TypeId} {fr : Nat × Nat} (x0 x1 x2 x3 x4 x5 x6 x7 x8 x9 x10 x11 x12 x13 x14 x15 x16 x17 x18 x19 x20 x21 x22 x23 x24 x25 x26 x27 x28 x29 x30 x31 x32 x33 x34 x35 x36 x37 x38 x39 x40 x41 x42 x43 x44 x45 x46 x47 x48 x49 x50 x51 x52 x53 x54 x55 x56 : Value) [h : Blk w n (.cells #[x0, x1, x2, x3, x4, x5, x6, x7, x8, x9, x10, x11, x12, x13, x14, x15, x16, x17, x18, x19, x20, x21, x22, x23, x24, x25, x26, x27, x28, x29, x30, x31, x32, x33, x34, x35, x36, x37, x38, x39, x40, x41, x42, x43, x44, x45, x46, x47, x48, x49, x50, x51, x52, x53, x54, x55, x56] t fr)] :
    (bigLoad 24 ⟨n, 24, none⟩).run Try.prog w = .ok (.agg #[x24, x25, x26, x27, x28, x29, x30, x31, x32, x33, x34, x35]) w := by
  have hr := World.rangeAt_of_block h.eq 24 12
  rw [show (#[x0, x1, x2, x3, x4, x5, x6, x7, x8, x9, x10, x11, x12, x13, x14, x15, x16, x17, x18, x19, x20, x21, x22, x23, x24, x25, x26, x27, x28, x29, x30, x31, x32, x33, x34, x35, x36, x37, x38, x39, x40, x41, x42, x43, x44, x45, x46, x47, x48, x49, x50, x51, x52, x53, x54, x55, x56].extract 24 (24 + 12)).toList = [x24, x25, x26, x27, x28, x29, x30, x31, x32, x33, x34, x35] by kernel_rfl] at hr
  exact run_loadVar_mid w n 24 24 [x24, x25, x26, x27, x28, x29, x30, x31, x32, x33, x34, x35] _ hr Try.underlying24 rfl (by kernel_rfl)
@[go_sem high] theorem eqlB3 (w : World) (a b c a' b' c' : Bool) :
    (binOp .eql 57 (.agg #[.bool a, .bool b, .bool c]) (.agg #[.bool a', .bool b', .bool c'])).run Try.prog w = .ok (.bool ([a, b, c] == [a', b', c'])) w :=
  run_eql_bools (P := Try.prog) w 57 4 3 Try.underlying57 Try.underlying4 (fun _ => by kernel_rfl) [a, b, c] [a', b', c'] rfl rfl
@[go_sem] theorem beqB3 (a b c : Bool) : ([a, b, c] == [a, b, c]) = true := beq_self_eq_true _
theorem fz_ok (z : Zn) : Zn.OK (fz z) := by
  unfold fz
  cases z.on
  · refine ⟨?_, ?_, ?_, ?_, ?_, ?_⟩ <;> (dsimp only [cond_false]; omega)
  · refine ⟨?_, ?_, ?_, ?_, ?_, ?_⟩ <;> (dsimp only [cond_true]; omega)
theorem fine_c (u v t x y z p q s : Cy) (a b c : Zn) (m r i : Int) (w : World) :
    Calls Try.prog 26 #[.agg #[.int .i64 u.a, .int .i64 u.b, .int .i64 u.c, .int .i64 u.d, .int .i64 v.a, .int .i64 v.b, .int .i64 v.c, .int .i64 v.d, .int .i64 t.a, .int .i64 t.b, .int .i64 t.c, .int .i64 t.d, .int .i64 x.a, .int .i64 x.b, .int .i64 x.c, .int .i64 x.d, .int .i64 y.a, .int .i64 y.b, .int .i64 y.c, .int .i64 y.d, .int .i64 z.a, .int .i64 z.b, .int .i64 z.c, .int .i64 z.d, .int .i64 p.a, .int .i64 p.b, .int .i64 p.c, .int .i64 p.d, .int .i64 q.a, .int .i64 q.b, .int .i64 q.c, .int .i64 q.d, .int .i64 s.a, .int .i64 s.b, .int .i64 s.c, .int .i64 s.d, .bool a.on, .bool a.fwd, .int .i64 a.x, .int .i64 a.r, .int .i64 a.l, .int .i64 a.d, .bool b.on, .bool b.fwd, .int .i64 b.x, .int .i64 b.r, .int .i64 b.l, .int .i64 b.d, .bool c.on, .bool c.fwd, .int .i64 c.x, .int .i64 c.r, .int .i64 c.l, .int .i64 c.d, .int .i64 m, .int .i64 r, .int .i64 i]] w fun e w' => e = .returned (.agg #[.int .i64 (sm22 u).a, .int .i64 (sm22 u).b, .int .i64 (sm22 u).c, .int .i64 (sm22 u).d, .int .i64 (sm22 v).a, .int .i64 (sm22 v).b, .int .i64 (sm22 v).c, .int .i64 (sm22 v).d, .int .i64 (sm22 t).a, .int .i64 (sm22 t).b, .int .i64 (sm22 t).c, .int .i64 (sm22 t).d, .int .i64 (sm22 x).a, .int .i64 (sm22 x).b, .int .i64 (sm22 x).c, .int .i64 (sm22 x).d, .int .i64 (sm22 y).a, .int .i64 (sm22 y).b, .int .i64 (sm22 y).c, .int .i64 (sm22 y).d, .int .i64 (sm22 z).a, .int .i64 (sm22 z).b, .int .i64 (sm22 z).c, .int .i64 (sm22 z).d, .int .i64 (sm22 p).a, .int .i64 (sm22 p).b, .int .i64 (sm22 p).c, .int .i64 (sm22 p).d, .int .i64 (sm22 q).a, .int .i64 (sm22 q).b, .int .i64 (sm22 q).c, .int .i64 (sm22 q).d, .int .i64 (sm22 s).a, .int .i64 (sm22 s).b, .int .i64 (sm22 s).c, .int .i64 (sm22 s).d, .bool (fz a).on, .bool (fz a).fwd, .int .i64 (fz a).x, .int .i64 (fz a).r, .int .i64 (fz a).l, .int .i64 (fz a).d, .bool (fz b).on, .bool (fz b).fwd, .int .i64 (fz b).x, .int .i64 (fz b).r, .int .i64 (fz b).l, .int .i64 (fz b).d, .bool (fz c).on, .bool (fz c).fwd, .int .i64 (fz c).x, .int .i64 (fz c).r, .int .i64 (fz c).l, .int .i64 (fz c).d, .int .i64 (1 + m % 50), .int .i64 (r.tmod 201), .int .i64 (i.tmod 201)]) ∧ Q w w' :=
  fine_core u v t x y z p q s _ _ _ _ _ _ _ _ _ a.on a.fwd a.x a.r a.l a.d (a.x % 4000) (1 + a.x % 4000) (a.r % 4001) (a.l % 4001) b.on b.fwd b.x b.r b.l b.d (b.x % 4000) (1 + b.x % 4000) (b.r % 4001) (b.l % 4001) c.on c.fwd c.x c.r c.l c.d (c.x % 4000) (1 + c.x % 4000) (c.r % 4001) (c.l % 4001) m r i (m % 50) (1 + m % 50) (r.tmod 201) (i.tmod 201) w
    (Lib.hid fun w => small22_c u v t w) (Lib.hid fun w => small22_c x y z w) (Lib.hid fun w => small22_c p q s w)
    (Lib.hid fun w => within22_any m 50 w (by decide) (by decide)) (IntWalk.i64_in _ (by omega)) rfl rfl
    (Lib.hid fun w => within22_any a.x 4000 w (by decide) (by decide)) (IntWalk.i64_in _ (by omega)) (Lib.hid fun w => within22_any a.r 4001 w (by decide) (by decide)) (Lib.hid fun w => within22_any a.l 4001 w (by decide) (by decide)) (Lib.hid fun w => within22_any b.x 4000 w (by decide) (by decide)) (IntWalk.i64_in _ (by omega)) (Lib.hid fun w => within22_any b.r 4001 w (by decide) (by decide)) (Lib.hid fun w => within22_any b.l 4001 w (by decide) (by decide)) (Lib.hid fun w => within22_any c.x 4000 w (by decide) (by decide)) (IntWalk.i64_in _ (by omega)) (Lib.hid fun w => within22_any c.r 4001 w (by decide) (by decide)) (Lib.hid fun w => within22_any c.l 4001 w (by decide) (by decide))
end Go.Proofs.Ytomodppdolfinaa
/- DistanceMonotone: the walk. -/
namespace Go.Proofs.Ytomodppdolfinaa
open Go.RowKit Go.Sub
/-- A zone enlarged. -/
def mz (z : Zn) (g1 g2 g3 : Int) : Zn := ⟨(fz z).on, (fz z).fwd, bif (fz z).on then min ((fz z).x + g1 % 500) 4000 else (fz z).x, bif (fz z).on then min ((fz z).r + g2 % 500) 4000 else (fz z).r, bif (fz z).on then min ((fz z).l + g3 % 500) 4000 else (fz z).l, (fz z).d⟩
theorem mz_ok (z : Zn) (g1 g2 g3 : Int) : Zn.OK (mz z g1 g2 g3) ∧ (fz z).le (mz z g1 g2 g3) := by
  have h := fz_ok z
  have e1 : 0 ≤ g1 % 500 := by omega
  have e2 : 0 ≤ g2 % 500 := by omega
  have e3 : 0 ≤ g3 % 500 := by omega
  obtain ⟨h1, h2, h3, h4, h5, h6⟩ := h
  unfold mz Zn.le
  cases (fz z).on
  · exact ⟨⟨h1, h2, h3, h4, h5, h6⟩, rfl, rfl, Int.le_refl _, Int.le_refl _, Int.le_refl _⟩
  · refine ⟨⟨?_, ?_, ?_, ?_, ?_, ?_⟩, rfl, rfl, ?_, ?_, ?_⟩ <;> (dsimp only [cond_true]; omega)
set_option linter.unusedSimpArgs false in
set_option maxRecDepth 100000 in
set_option maxHeartbeats 8000000 in
theorem mon_core (u v t x y z p q s U V T X Y Z Pn Qn Sn : Cy) (on1 fw1 no1 nf1 : Bool) (zx1 zr1 zl1 zd1 nx1 nr1 nl1 nd1 : Int) (on2 fw2 no2 nf2 : Bool) (zx2 zr2 zl2 zd2 nx2 nr2 nl2 nd2 : Int) (on3 fw3 no3 nf3 : Bool) (zx3 zr3 zl3 zd3 nx3 nr3 nl3 nd3 : Int) (tx1 tr1 tl1 sx1 sr1 sl1 : Int) (tx2 tr2 tl2 sx2 sr2 sl2 : Int) (tx3 tr3 tl3 sx3 sr3 sl3 : Int) (g1 g2 g3 q1 q2 q3 m r i m' r' i' : Int) (a1 a2 a3 b1 b2 b3 : Bool) (w : World)
    (FI : Hid (∀ w, Calls Try.prog 26 #[Value.agg #[Value.int .i64 u.a, Value.int .i64 u.b, Value.int .i64 u.c, Value.int .i64 u.d, Value.int .i64 v.a, Value.int .i64 v.b, Value.int .i64 v.c, Value.int .i64 v.d, Value.int .i64 t.a, Value.int .i64 t.b, Value.int .i64 t.c, Value.int .i64 t.d, Value.int .i64 x.a, Value.int .i64 x.b, Value.int .i64 x.c, Value.int .i64 x.d, Value.int .i64 y.a, Value.int .i64 y.b, Value.int .i64 y.c, Value.int .i64 y.d, Value.int .i64 z.a, Value.int .i64 z.b, Value.int .i64 z.c, Value.int .i64 z.d, Value.int .i64 p.a, Value.int .i64 p.b, Value.int .i64 p.c, Value.int .i64 p.d, Value.int .i64 q.a, Value.int .i64 q.b, Value.int .i64 q.c, Value.int .i64 q.d, Value.int .i64 s.a, Value.int .i64 s.b, Value.int .i64 s.c, Value.int .i64 s.d, Value.bool on1, Value.bool fw1, Value.int .i64 zx1, Value.int .i64 zr1, Value.int .i64 zl1, Value.int .i64 zd1, Value.bool on2, Value.bool fw2, Value.int .i64 zx2, Value.int .i64 zr2, Value.int .i64 zl2, Value.int .i64 zd2, Value.bool on3, Value.bool fw3, Value.int .i64 zx3, Value.int .i64 zr3, Value.int .i64 zl3, Value.int .i64 zd3, Value.int .i64 m, Value.int .i64 r, Value.int .i64 i]] w fun e w' => e = .returned (Value.agg #[Value.int .i64 U.a, Value.int .i64 U.b, Value.int .i64 U.c, Value.int .i64 U.d, Value.int .i64 V.a, Value.int .i64 V.b, Value.int .i64 V.c, Value.int .i64 V.d, Value.int .i64 T.a, Value.int .i64 T.b, Value.int .i64 T.c, Value.int .i64 T.d, Value.int .i64 X.a, Value.int .i64 X.b, Value.int .i64 X.c, Value.int .i64 X.d, Value.int .i64 Y.a, Value.int .i64 Y.b, Value.int .i64 Y.c, Value.int .i64 Y.d, Value.int .i64 Z.a, Value.int .i64 Z.b, Value.int .i64 Z.c, Value.int .i64 Z.d, Value.int .i64 Pn.a, Value.int .i64 Pn.b, Value.int .i64 Pn.c, Value.int .i64 Pn.d, Value.int .i64 Qn.a, Value.int .i64 Qn.b, Value.int .i64 Qn.c, Value.int .i64 Qn.d, Value.int .i64 Sn.a, Value.int .i64 Sn.b, Value.int .i64 Sn.c, Value.int .i64 Sn.d, Value.bool no1, Value.bool nf1, Value.int .i64 nx1, Value.int .i64 nr1, Value.int .i64 nl1, Value.int .i64 nd1, Value.bool no2, Value.bool nf2, Value.int .i64 nx2, Value.int .i64 nr2, Value.int .i64 nl2, Value.int .i64 nd2, Value.bool no3, Value.bool nf3, Value.int .i64 nx3, Value.int .i64 nr3, Value.int .i64 nl3, Value.int .i64 nd3, Value.int .i64 m', Value.int .i64 r', Value.int .i64 i']) ∧ Q w w')) (RL : Hid (∀ w, Calls Try.prog 28 #[Value.agg #[Value.int .i64 U.a, Value.int .i64 U.b, Value.int .i64 U.c, Value.int .i64 U.d, Value.int .i64 V.a, Value.int .i64 V.b, Value.int .i64 V.c, Value.int .i64 V.d, Value.int .i64 T.a, Value.int .i64 T.b, Value.int .i64 T.c, Value.int .i64 T.d, Value.int .i64 X.a, Value.int .i64 X.b, Value.int .i64 X.c, Value.int .i64 X.d, Value.int .i64 Y.a, Value.int .i64 Y.b, Value.int .i64 Y.c, Value.int .i64 Y.d, Value.int .i64 Z.a, Value.int .i64 Z.b, Value.int .i64 Z.c, Value.int .i64 Z.d, Value.int .i64 Pn.a, Value.int .i64 Pn.b, Value.int .i64 Pn.c, Value.int .i64 Pn.d, Value.int .i64 Qn.a, Value.int .i64 Qn.b, Value.int .i64 Qn.c, Value.int .i64 Qn.d, Value.int .i64 Sn.a, Value.int .i64 Sn.b, Value.int .i64 Sn.c, Value.int .i64 Sn.d, Value.bool no1, Value.bool nf1, Value.int .i64 nx1, Value.int .i64 nr1, Value.int .i64 nl1, Value.int .i64 nd1, Value.bool no2, Value.bool nf2, Value.int .i64 nx2, Value.int .i64 nr2, Value.int .i64 nl2, Value.int .i64 nd2, Value.bool no3, Value.bool nf3, Value.int .i64 nx3, Value.int .i64 nr3, Value.int .i64 nl3, Value.int .i64 nd3, Value.int .i64 m', Value.int .i64 r', Value.int .i64 i']] w fun e w' => e = .returned (Value.agg #[Value.string (ByteArray.mk #[]), Value.int .i64 1, Value.int .i64 0, Value.bool no1, Value.bool nf1, Value.int .i64 nx1, Value.int .i64 nr1, Value.int .i64 nl1, Value.int .i64 nd1, Value.bool no2, Value.bool nf2, Value.int .i64 nx2, Value.int .i64 nr2, Value.int .i64 nl2, Value.int .i64 nd2, Value.bool no3, Value.bool nf3, Value.int .i64 nx3, Value.int .i64 nr3, Value.int .i64 nl3, Value.int .i64 nd3, Value.int .i64 m', Value.int .i64 r', Value.int .i64 i', Value.int .i64 0, Value.int .i64 0, Value.int .i64 0, Value.bool false, Value.int .i64 0, Value.int .i64 0, Value.bool false, Value.int .i64 0, Value.int .i64 0, Value.bool false, Value.int .i64 0, Value.int .i64 0, Value.int .i64 0, Value.int .i64 0, Value.int .i64 0, Value.bool false, Value.int .i64 0, Value.int .i64 0, Value.bool false, Value.int .i64 0, Value.int .i64 0, Value.int .i64 0, Value.int .i64 0, Value.int .i64 0, Value.int .i64 0, Value.slice none 0 0, Value.slice none 0 0, Value.slice none 0 0, Value.slice none 0 0]) ∧ Q w w')) (R2 : Hid (∀ w, Calls Try.prog 28 #[Value.agg #[Value.int .i64 U.a, Value.int .i64 U.b, Value.int .i64 U.c, Value.int .i64 U.d, Value.int .i64 V.a, Value.int .i64 V.b, Value.int .i64 V.c, Value.int .i64 V.d, Value.int .i64 T.a, Value.int .i64 T.b, Value.int .i64 T.c, Value.int .i64 T.d, Value.int .i64 X.a, Value.int .i64 X.b, Value.int .i64 X.c, Value.int .i64 X.d, Value.int .i64 Y.a, Value.int .i64 Y.b, Value.int .i64 Y.c, Value.int .i64 Y.d, Value.int .i64 Z.a, Value.int .i64 Z.b, Value.int .i64 Z.c, Value.int .i64 Z.d, Value.int .i64 Pn.a, Value.int .i64 Pn.b, Value.int .i64 Pn.c, Value.int .i64 Pn.d, Value.int .i64 Qn.a, Value.int .i64 Qn.b, Value.int .i64 Qn.c, Value.int .i64 Qn.d, Value.int .i64 Sn.a, Value.int .i64 Sn.b, Value.int .i64 Sn.c, Value.int .i64 Sn.d, Value.bool no1, Value.bool nf1, Value.int .i64 (bif no1 then tx1 else nx1), Value.int .i64 (bif no1 then tr1 else nr1), Value.int .i64 (bif no1 then tl1 else nl1), Value.int .i64 nd1, Value.bool no2, Value.bool nf2, Value.int .i64 (bif no2 then tx2 else nx2), Value.int .i64 (bif no2 then tr2 else nr2), Value.int .i64 (bif no2 then tl2 else nl2), Value.int .i64 nd2, Value.bool no3, Value.bool nf3, Value.int .i64 (bif no3 then tx3 else nx3), Value.int .i64 (bif no3 then tr3 else nr3), Value.int .i64 (bif no3 then tl3 else nl3), Value.int .i64 nd3, Value.int .i64 1, Value.int .i64 r', Value.int .i64 i']] w fun e w' => e = .returned (Value.agg #[Value.string (ByteArray.mk #[]), Value.int .i64 1, Value.int .i64 0, Value.bool no1, Value.bool nf1, Value.int .i64 (bif no1 then tx1 else nx1), Value.int .i64 (bif no1 then tr1 else nr1), Value.int .i64 (bif no1 then tl1 else nl1), Value.int .i64 nd1, Value.bool no2, Value.bool nf2, Value.int .i64 (bif no2 then tx2 else nx2), Value.int .i64 (bif no2 then tr2 else nr2), Value.int .i64 (bif no2 then tl2 else nl2), Value.int .i64 nd2, Value.bool no3, Value.bool nf3, Value.int .i64 (bif no3 then tx3 else nx3), Value.int .i64 (bif no3 then tr3 else nr3), Value.int .i64 (bif no3 then tl3 else nl3), Value.int .i64 nd3, Value.int .i64 1, Value.int .i64 r', Value.int .i64 i', Value.int .i64 0, Value.int .i64 0, Value.int .i64 0, Value.bool false, Value.int .i64 0, Value.int .i64 0, Value.bool false, Value.int .i64 0, Value.int .i64 0, Value.bool false, Value.int .i64 0, Value.int .i64 0, Value.int .i64 0, Value.int .i64 0, Value.int .i64 0, Value.bool false, Value.int .i64 0, Value.int .i64 0, Value.bool false, Value.int .i64 0, Value.int .i64 0, Value.int .i64 0, Value.int .i64 0, Value.int .i64 0, Value.int .i64 0, Value.slice none 0 0, Value.slice none 0 0, Value.slice none 0 0, Value.slice none 0 0]) ∧ Q w w')) (W1 : Hid (∀ w, Calls Try.prog 16 #[Value.int .i64 g1, Value.int .i64 500] w fun e w' => e = .returned (Value.int .i64 q1) ∧ w = w')) (W2 : Hid (∀ w, Calls Try.prog 16 #[Value.int .i64 g2, Value.int .i64 500] w fun e w' => e = .returned (Value.int .i64 q2) ∧ w = w')) (W3 : Hid (∀ w, Calls Try.prog 16 #[Value.int .i64 g3, Value.int .i64 500] w fun e w' => e = .returned (Value.int .i64 q3) ∧ w = w'))
    (_ : IntKind.i64.wrap (nx1 + q1) = sx1) (Mtx1 : (if 4000 < sx1 then 4000 else sx1) = tx1) (_ : IntKind.i64.wrap (nr1 + q2) = sr1) (Mtr1 : (if 4000 < sr1 then 4000 else sr1) = tr1) (_ : IntKind.i64.wrap (nl1 + q3) = sl1) (Mtl1 : (if 4000 < sl1 then 4000 else sl1) = tl1) (_ : IntKind.i64.wrap (nx2 + q1) = sx2) (Mtx2 : (if 4000 < sx2 then 4000 else sx2) = tx2) (_ : IntKind.i64.wrap (nr2 + q2) = sr2) (Mtr2 : (if 4000 < sr2 then 4000 else sr2) = tr2) (_ : IntKind.i64.wrap (nl2 + q3) = sl2) (Mtl2 : (if 4000 < sl2 then 4000 else sl2) = tl2) (_ : IntKind.i64.wrap (nx3 + q1) = sx3) (Mtx3 : (if 4000 < sx3 then 4000 else sx3) = tx3) (_ : IntKind.i64.wrap (nr3 + q2) = sr3) (Mtr3 : (if 4000 < sr3 then 4000 else sr3) = tr3) (_ : IntKind.i64.wrap (nl3 + q3) = sl3) (Mtl3 : (if 4000 < sl3 then 4000 else sl3) = tl3)
    (P0 : Hid (∀ w, Calls Try.prog 27 #[Value.agg #[Value.int .i64 U.a, Value.int .i64 U.b, Value.int .i64 U.c, Value.int .i64 U.d, Value.int .i64 V.a, Value.int .i64 V.b, Value.int .i64 V.c, Value.int .i64 V.d, Value.int .i64 T.a, Value.int .i64 T.b, Value.int .i64 T.c, Value.int .i64 T.d], Value.agg #[Value.int .i64 X.a, Value.int .i64 X.b, Value.int .i64 X.c, Value.int .i64 X.d, Value.int .i64 Y.a, Value.int .i64 Y.b, Value.int .i64 Y.c, Value.int .i64 Y.d, Value.int .i64 Z.a, Value.int .i64 Z.b, Value.int .i64 Z.c, Value.int .i64 Z.d], Value.agg #[Value.int .i64 Pn.a, Value.int .i64 Pn.b, Value.int .i64 Pn.c, Value.int .i64 Pn.d, Value.int .i64 Qn.a, Value.int .i64 Qn.b, Value.int .i64 Qn.c, Value.int .i64 Qn.d, Value.int .i64 Sn.a, Value.int .i64 Sn.b, Value.int .i64 Sn.c, Value.int .i64 Sn.d], Value.agg #[Value.string (ByteArray.mk #[]), Value.int .i64 1, Value.int .i64 0, Value.bool no1, Value.bool nf1, Value.int .i64 nx1, Value.int .i64 nr1, Value.int .i64 nl1, Value.int .i64 nd1, Value.bool no2, Value.bool nf2, Value.int .i64 nx2, Value.int .i64 nr2, Value.int .i64 nl2, Value.int .i64 nd2, Value.bool no3, Value.bool nf3, Value.int .i64 nx3, Value.int .i64 nr3, Value.int .i64 nl3, Value.int .i64 nd3, Value.int .i64 m', Value.int .i64 r', Value.int .i64 i', Value.int .i64 0, Value.int .i64 0, Value.int .i64 0, Value.bool false, Value.int .i64 0, Value.int .i64 0, Value.bool false, Value.int .i64 0, Value.int .i64 0, Value.bool false, Value.int .i64 0, Value.int .i64 0, Value.int .i64 0, Value.int .i64 0, Value.int .i64 0, Value.bool false, Value.int .i64 0, Value.int .i64 0, Value.bool false, Value.int .i64 0, Value.int .i64 0, Value.int .i64 0, Value.int .i64 0, Value.int .i64 0, Value.int .i64 0, Value.slice none 0 0, Value.slice none 0 0, Value.slice none 0 0, Value.slice none 0 0]] w fun e w' => e = .returned (Value.tuple #[Value.agg #[Value.bool a1, Value.bool a2, Value.bool a3], Value.int .i64 0]) ∧ Q w w')) (P1 : Hid (∀ w, Calls Try.prog 27 #[Value.agg #[Value.int .i64 U.a, Value.int .i64 U.b, Value.int .i64 U.c, Value.int .i64 U.d, Value.int .i64 V.a, Value.int .i64 V.b, Value.int .i64 V.c, Value.int .i64 V.d, Value.int .i64 T.a, Value.int .i64 T.b, Value.int .i64 T.c, Value.int .i64 T.d], Value.agg #[Value.int .i64 X.a, Value.int .i64 X.b, Value.int .i64 X.c, Value.int .i64 X.d, Value.int .i64 Y.a, Value.int .i64 Y.b, Value.int .i64 Y.c, Value.int .i64 Y.d, Value.int .i64 Z.a, Value.int .i64 Z.b, Value.int .i64 Z.c, Value.int .i64 Z.d], Value.agg #[Value.int .i64 Pn.a, Value.int .i64 Pn.b, Value.int .i64 Pn.c, Value.int .i64 Pn.d, Value.int .i64 Qn.a, Value.int .i64 Qn.b, Value.int .i64 Qn.c, Value.int .i64 Qn.d, Value.int .i64 Sn.a, Value.int .i64 Sn.b, Value.int .i64 Sn.c, Value.int .i64 Sn.d], Value.agg #[Value.string (ByteArray.mk #[]), Value.int .i64 1, Value.int .i64 0, Value.bool no1, Value.bool nf1, Value.int .i64 (bif no1 then tx1 else nx1), Value.int .i64 (bif no1 then tr1 else nr1), Value.int .i64 (bif no1 then tl1 else nl1), Value.int .i64 nd1, Value.bool no2, Value.bool nf2, Value.int .i64 (bif no2 then tx2 else nx2), Value.int .i64 (bif no2 then tr2 else nr2), Value.int .i64 (bif no2 then tl2 else nl2), Value.int .i64 nd2, Value.bool no3, Value.bool nf3, Value.int .i64 (bif no3 then tx3 else nx3), Value.int .i64 (bif no3 then tr3 else nr3), Value.int .i64 (bif no3 then tl3 else nl3), Value.int .i64 nd3, Value.int .i64 1, Value.int .i64 r', Value.int .i64 i', Value.int .i64 0, Value.int .i64 0, Value.int .i64 0, Value.bool false, Value.int .i64 0, Value.int .i64 0, Value.bool false, Value.int .i64 0, Value.int .i64 0, Value.bool false, Value.int .i64 0, Value.int .i64 0, Value.int .i64 0, Value.int .i64 0, Value.int .i64 0, Value.bool false, Value.int .i64 0, Value.int .i64 0, Value.bool false, Value.int .i64 0, Value.int .i64 0, Value.int .i64 0, Value.int .i64 0, Value.int .i64 0, Value.int .i64 0, Value.slice none 0 0, Value.slice none 0 0, Value.slice none 0 0, Value.slice none 0 0]] w fun e w' => e = .returned (Value.tuple #[Value.agg #[Value.bool b1, Value.bool b2, Value.bool b3], Value.int .i64 0]) ∧ Q w w'))
    (H1 : Hid (a1 = false ∨ (a1 = true ∧ b1 = true))) (H2 : Hid (a2 = false ∨ (a2 = true ∧ b2 = true))) (H3 : Hid (a3 = false ∨ (a3 = true ∧ b3 = true))) :
    Calls Try.prog 9 #[Value.agg #[Value.int .i64 u.a, Value.int .i64 u.b, Value.int .i64 u.c, Value.int .i64 u.d, Value.int .i64 v.a, Value.int .i64 v.b, Value.int .i64 v.c, Value.int .i64 v.d, Value.int .i64 t.a, Value.int .i64 t.b, Value.int .i64 t.c, Value.int .i64 t.d, Value.int .i64 x.a, Value.int .i64 x.b, Value.int .i64 x.c, Value.int .i64 x.d, Value.int .i64 y.a, Value.int .i64 y.b, Value.int .i64 y.c, Value.int .i64 y.d, Value.int .i64 z.a, Value.int .i64 z.b, Value.int .i64 z.c, Value.int .i64 z.d, Value.int .i64 p.a, Value.int .i64 p.b, Value.int .i64 p.c, Value.int .i64 p.d, Value.int .i64 q.a, Value.int .i64 q.b, Value.int .i64 q.c, Value.int .i64 q.d, Value.int .i64 s.a, Value.int .i64 s.b, Value.int .i64 s.c, Value.int .i64 s.d, Value.bool on1, Value.bool fw1, Value.int .i64 zx1, Value.int .i64 zr1, Value.int .i64 zl1, Value.int .i64 zd1, Value.bool on2, Value.bool fw2, Value.int .i64 zx2, Value.int .i64 zr2, Value.int .i64 zl2, Value.int .i64 zd2, Value.bool on3, Value.bool fw3, Value.int .i64 zx3, Value.int .i64 zr3, Value.int .i64 zl3, Value.int .i64 zd3, Value.int .i64 m, Value.int .i64 r, Value.int .i64 i], Value.agg #[Value.int .i64 g1, Value.int .i64 g2, Value.int .i64 g3]] w fun e w' => e = .returned (Value.bool true) ∧ Q w w' := by
  go_enter Try.func9, Try.ntmps9
  go_wp2_with (first | (go_at_call 15; refine (known22 _).mono ?_; rintro e w' ⟨rfl, kA, rfl⟩) | (go_at_call 26; (with_reducible refine (FI.out _).mono ?_); rintro e w' ⟨rfl, kF, rfl⟩))
  go_loopw [6] (fun i wr => (i = Value.int .i64 0 ∧ Q (((((w.alloc (Obj.cells #[Value.int .i64 U.a, Value.int .i64 U.b, Value.int .i64 U.c, Value.int .i64 U.d, Value.int .i64 V.a, Value.int .i64 V.b, Value.int .i64 V.c, Value.int .i64 V.d, Value.int .i64 T.a, Value.int .i64 T.b, Value.int .i64 T.c, Value.int .i64 T.d, Value.int .i64 X.a, Value.int .i64 X.b, Value.int .i64 X.c, Value.int .i64 X.d, Value.int .i64 Y.a, Value.int .i64 Y.b, Value.int .i64 Y.c, Value.int .i64 Y.d, Value.int .i64 Z.a, Value.int .i64 Z.b, Value.int .i64 Z.c, Value.int .i64 Z.d, Value.int .i64 Pn.a, Value.int .i64 Pn.b, Value.int .i64 Pn.c, Value.int .i64 Pn.d, Value.int .i64 Qn.a, Value.int .i64 Qn.b, Value.int .i64 Qn.c, Value.int .i64 Qn.d, Value.int .i64 Sn.a, Value.int .i64 Sn.b, Value.int .i64 Sn.c, Value.int .i64 Sn.d, Value.bool no1, Value.bool nf1, Value.int .i64 nx1, Value.int .i64 nr1, Value.int .i64 nl1, Value.int .i64 nd1, Value.bool no2, Value.bool nf2, Value.int .i64 nx2, Value.int .i64 nr2, Value.int .i64 nl2, Value.int .i64 nd2, Value.bool no3, Value.bool nf3, Value.int .i64 nx3, Value.int .i64 nr3, Value.int .i64 nl3, Value.int .i64 nd3, Value.int .i64 m', Value.int .i64 r', Value.int .i64 i'] 55)).alloc (Obj.cells #[Value.int .i64 g1, Value.int .i64 g2, Value.int .i64 g3] 74)).jk kA).jk kF).alloc (Obj.cells #[Value.int .i64 U.a, Value.int .i64 U.b, Value.int .i64 U.c, Value.int .i64 U.d, Value.int .i64 V.a, Value.int .i64 V.b, Value.int .i64 V.c, Value.int .i64 V.d, Value.int .i64 T.a, Value.int .i64 T.b, Value.int .i64 T.c, Value.int .i64 T.d, Value.int .i64 X.a, Value.int .i64 X.b, Value.int .i64 X.c, Value.int .i64 X.d, Value.int .i64 Y.a, Value.int .i64 Y.b, Value.int .i64 Y.c, Value.int .i64 Y.d, Value.int .i64 Z.a, Value.int .i64 Z.b, Value.int .i64 Z.c, Value.int .i64 Z.d, Value.int .i64 Pn.a, Value.int .i64 Pn.b, Value.int .i64 Pn.c, Value.int .i64 Pn.d, Value.int .i64 Qn.a, Value.int .i64 Qn.b, Value.int .i64 Qn.c, Value.int .i64 Qn.d, Value.int .i64 Sn.a, Value.int .i64 Sn.b, Value.int .i64 Sn.c, Value.int .i64 Sn.d, Value.bool no1, Value.bool nf1, Value.int .i64 nx1, Value.int .i64 nr1, Value.int .i64 nl1, Value.int .i64 nd1, Value.bool no2, Value.bool nf2, Value.int .i64 nx2, Value.int .i64 nr2, Value.int .i64 nl2, Value.int .i64 nd2, Value.bool no3, Value.bool nf3, Value.int .i64 nx3, Value.int .i64 nr3, Value.int .i64 nl3, Value.int .i64 nd3, Value.int .i64 m', Value.int .i64 r', Value.int .i64 i'] 55)) wr) ∨ (i = Value.int .i64 1 ∧ Q (((((w.alloc (Obj.cells #[Value.int .i64 U.a, Value.int .i64 U.b, Value.int .i64 U.c, Value.int .i64 U.d, Value.int .i64 V.a, Value.int .i64 V.b, Value.int .i64 V.c, Value.int .i64 V.d, Value.int .i64 T.a, Value.int .i64 T.b, Value.int .i64 T.c, Value.int .i64 T.d, Value.int .i64 X.a, Value.int .i64 X.b, Value.int .i64 X.c, Value.int .i64 X.d, Value.int .i64 Y.a, Value.int .i64 Y.b, Value.int .i64 Y.c, Value.int .i64 Y.d, Value.int .i64 Z.a, Value.int .i64 Z.b, Value.int .i64 Z.c, Value.int .i64 Z.d, Value.int .i64 Pn.a, Value.int .i64 Pn.b, Value.int .i64 Pn.c, Value.int .i64 Pn.d, Value.int .i64 Qn.a, Value.int .i64 Qn.b, Value.int .i64 Qn.c, Value.int .i64 Qn.d, Value.int .i64 Sn.a, Value.int .i64 Sn.b, Value.int .i64 Sn.c, Value.int .i64 Sn.d, Value.bool no1, Value.bool nf1, Value.int .i64 nx1, Value.int .i64 nr1, Value.int .i64 nl1, Value.int .i64 nd1, Value.bool no2, Value.bool nf2, Value.int .i64 nx2, Value.int .i64 nr2, Value.int .i64 nl2, Value.int .i64 nd2, Value.bool no3, Value.bool nf3, Value.int .i64 nx3, Value.int .i64 nr3, Value.int .i64 nl3, Value.int .i64 nd3, Value.int .i64 m', Value.int .i64 r', Value.int .i64 i'] 55)).alloc (Obj.cells #[Value.int .i64 g1, Value.int .i64 g2, Value.int .i64 g3] 74)).jk kA).jk kF).alloc (Obj.cells #[Value.int .i64 U.a, Value.int .i64 U.b, Value.int .i64 U.c, Value.int .i64 U.d, Value.int .i64 V.a, Value.int .i64 V.b, Value.int .i64 V.c, Value.int .i64 V.d, Value.int .i64 T.a, Value.int .i64 T.b, Value.int .i64 T.c, Value.int .i64 T.d, Value.int .i64 X.a, Value.int .i64 X.b, Value.int .i64 X.c, Value.int .i64 X.d, Value.int .i64 Y.a, Value.int .i64 Y.b, Value.int .i64 Y.c, Value.int .i64 Y.d, Value.int .i64 Z.a, Value.int .i64 Z.b, Value.int .i64 Z.c, Value.int .i64 Z.d, Value.int .i64 Pn.a, Value.int .i64 Pn.b, Value.int .i64 Pn.c, Value.int .i64 Pn.d, Value.int .i64 Qn.a, Value.int .i64 Qn.b, Value.int .i64 Qn.c, Value.int .i64 Qn.d, Value.int .i64 Sn.a, Value.int .i64 Sn.b, Value.int .i64 Sn.c, Value.int .i64 Sn.d, Value.bool no1, Value.bool nf1, Value.int .i64 (bif no1 then tx1 else nx1), Value.int .i64 (bif no1 then tr1 else nr1), Value.int .i64 (bif no1 then tl1 else nl1), Value.int .i64 nd1, Value.bool no2, Value.bool nf2, Value.int .i64 nx2, Value.int .i64 nr2, Value.int .i64 nl2, Value.int .i64 nd2, Value.bool no3, Value.bool nf3, Value.int .i64 nx3, Value.int .i64 nr3, Value.int .i64 nl3, Value.int .i64 nd3, Value.int .i64 m', Value.int .i64 r', Value.int .i64 i'] 55)) wr) ∨ (i = Value.int .i64 2 ∧ Q (((((w.alloc (Obj.cells #[Value.int .i64 U.a, Value.int .i64 U.b, Value.int .i64 U.c, Value.int .i64 U.d, Value.int .i64 V.a, Value.int .i64 V.b, Value.int .i64 V.c, Value.int .i64 V.d, Value.int .i64 T.a, Value.int .i64 T.b, Value.int .i64 T.c, Value.int .i64 T.d, Value.int .i64 X.a, Value.int .i64 X.b, Value.int .i64 X.c, Value.int .i64 X.d, Value.int .i64 Y.a, Value.int .i64 Y.b, Value.int .i64 Y.c, Value.int .i64 Y.d, Value.int .i64 Z.a, Value.int .i64 Z.b, Value.int .i64 Z.c, Value.int .i64 Z.d, Value.int .i64 Pn.a, Value.int .i64 Pn.b, Value.int .i64 Pn.c, Value.int .i64 Pn.d, Value.int .i64 Qn.a, Value.int .i64 Qn.b, Value.int .i64 Qn.c, Value.int .i64 Qn.d, Value.int .i64 Sn.a, Value.int .i64 Sn.b, Value.int .i64 Sn.c, Value.int .i64 Sn.d, Value.bool no1, Value.bool nf1, Value.int .i64 nx1, Value.int .i64 nr1, Value.int .i64 nl1, Value.int .i64 nd1, Value.bool no2, Value.bool nf2, Value.int .i64 nx2, Value.int .i64 nr2, Value.int .i64 nl2, Value.int .i64 nd2, Value.bool no3, Value.bool nf3, Value.int .i64 nx3, Value.int .i64 nr3, Value.int .i64 nl3, Value.int .i64 nd3, Value.int .i64 m', Value.int .i64 r', Value.int .i64 i'] 55)).alloc (Obj.cells #[Value.int .i64 g1, Value.int .i64 g2, Value.int .i64 g3] 74)).jk kA).jk kF).alloc (Obj.cells #[Value.int .i64 U.a, Value.int .i64 U.b, Value.int .i64 U.c, Value.int .i64 U.d, Value.int .i64 V.a, Value.int .i64 V.b, Value.int .i64 V.c, Value.int .i64 V.d, Value.int .i64 T.a, Value.int .i64 T.b, Value.int .i64 T.c, Value.int .i64 T.d, Value.int .i64 X.a, Value.int .i64 X.b, Value.int .i64 X.c, Value.int .i64 X.d, Value.int .i64 Y.a, Value.int .i64 Y.b, Value.int .i64 Y.c, Value.int .i64 Y.d, Value.int .i64 Z.a, Value.int .i64 Z.b, Value.int .i64 Z.c, Value.int .i64 Z.d, Value.int .i64 Pn.a, Value.int .i64 Pn.b, Value.int .i64 Pn.c, Value.int .i64 Pn.d, Value.int .i64 Qn.a, Value.int .i64 Qn.b, Value.int .i64 Qn.c, Value.int .i64 Qn.d, Value.int .i64 Sn.a, Value.int .i64 Sn.b, Value.int .i64 Sn.c, Value.int .i64 Sn.d, Value.bool no1, Value.bool nf1, Value.int .i64 (bif no1 then tx1 else nx1), Value.int .i64 (bif no1 then tr1 else nr1), Value.int .i64 (bif no1 then tl1 else nl1), Value.int .i64 nd1, Value.bool no2, Value.bool nf2, Value.int .i64 (bif no2 then tx2 else nx2), Value.int .i64 (bif no2 then tr2 else nr2), Value.int .i64 (bif no2 then tl2 else nl2), Value.int .i64 nd2, Value.bool no3, Value.bool nf3, Value.int .i64 nx3, Value.int .i64 nr3, Value.int .i64 nl3, Value.int .i64 nd3, Value.int .i64 m', Value.int .i64 r', Value.int .i64 i'] 55)) wr) ∨ (i = Value.int .i64 3 ∧ Q (((((w.alloc (Obj.cells #[Value.int .i64 U.a, Value.int .i64 U.b, Value.int .i64 U.c, Value.int .i64 U.d, Value.int .i64 V.a, Value.int .i64 V.b, Value.int .i64 V.c, Value.int .i64 V.d, Value.int .i64 T.a, Value.int .i64 T.b, Value.int .i64 T.c, Value.int .i64 T.d, Value.int .i64 X.a, Value.int .i64 X.b, Value.int .i64 X.c, Value.int .i64 X.d, Value.int .i64 Y.a, Value.int .i64 Y.b, Value.int .i64 Y.c, Value.int .i64 Y.d, Value.int .i64 Z.a, Value.int .i64 Z.b, Value.int .i64 Z.c, Value.int .i64 Z.d, Value.int .i64 Pn.a, Value.int .i64 Pn.b, Value.int .i64 Pn.c, Value.int .i64 Pn.d, Value.int .i64 Qn.a, Value.int .i64 Qn.b, Value.int .i64 Qn.c, Value.int .i64 Qn.d, Value.int .i64 Sn.a, Value.int .i64 Sn.b, Value.int .i64 Sn.c, Value.int .i64 Sn.d, Value.bool no1, Value.bool nf1, Value.int .i64 nx1, Value.int .i64 nr1, Value.int .i64 nl1, Value.int .i64 nd1, Value.bool no2, Value.bool nf2, Value.int .i64 nx2, Value.int .i64 nr2, Value.int .i64 nl2, Value.int .i64 nd2, Value.bool no3, Value.bool nf3, Value.int .i64 nx3, Value.int .i64 nr3, Value.int .i64 nl3, Value.int .i64 nd3, Value.int .i64 m', Value.int .i64 r', Value.int .i64 i'] 55)).alloc (Obj.cells #[Value.int .i64 g1, Value.int .i64 g2, Value.int .i64 g3] 74)).jk kA).jk kF).alloc (Obj.cells #[Value.int .i64 U.a, Value.int .i64 U.b, Value.int .i64 U.c, Value.int .i64 U.d, Value.int .i64 V.a, Value.int .i64 V.b, Value.int .i64 V.c, Value.int .i64 V.d, Value.int .i64 T.a, Value.int .i64 T.b, Value.int .i64 T.c, Value.int .i64 T.d, Value.int .i64 X.a, Value.int .i64 X.b, Value.int .i64 X.c, Value.int .i64 X.d, Value.int .i64 Y.a, Value.int .i64 Y.b, Value.int .i64 Y.c, Value.int .i64 Y.d, Value.int .i64 Z.a, Value.int .i64 Z.b, Value.int .i64 Z.c, Value.int .i64 Z.d, Value.int .i64 Pn.a, Value.int .i64 Pn.b, Value.int .i64 Pn.c, Value.int .i64 Pn.d, Value.int .i64 Qn.a, Value.int .i64 Qn.b, Value.int .i64 Qn.c, Value.int .i64 Qn.d, Value.int .i64 Sn.a, Value.int .i64 Sn.b, Value.int .i64 Sn.c, Value.int .i64 Sn.d, Value.bool no1, Value.bool nf1, Value.int .i64 (bif no1 then tx1 else nx1), Value.int .i64 (bif no1 then tr1 else nr1), Value.int .i64 (bif no1 then tl1 else nl1), Value.int .i64 nd1, Value.bool no2, Value.bool nf2, Value.int .i64 (bif no2 then tx2 else nx2), Value.int .i64 (bif no2 then tr2 else nr2), Value.int .i64 (bif no2 then tl2 else nl2), Value.int .i64 nd2, Value.bool no3, Value.bool nf3, Value.int .i64 (bif no3 then tx3 else nx3), Value.int .i64 (bif no3 then tr3 else nr3), Value.int .i64 (bif no3 then tl3 else nl3), Value.int .i64 nd3, Value.int .i64 m', Value.int .i64 r', Value.int .i64 i'] 55)) wr)) (fun i _ => 3 - (intOf i).toNat)
  case atStart => exact .inl ⟨rfl, Q.refl _⟩
  case round =>
    rcases hrel with ⟨rfl, kw, rfl⟩ | ⟨rfl, kw, rfl⟩ | ⟨rfl, kw, rfl⟩ | ⟨rfl, kw, rfl⟩
    · cases no1
      · go_wp2_with fail
        go_roundw
        case rel => exact .inr (.inl ⟨rfl, by repeat' (first | exact Q.refl _ | refine Q.alloc ?_ _ | refine Q.jk ?_ _ | refine Q.drew ?_)⟩)
        case measure => simp [intOf]
      · go_wp2_with fail
        refine wp_region_W 27 rfl (StF [22, 24, 26] (fun l : List Bool => (((((((w.alloc (Obj.cells #[Value.int .i64 U.a, Value.int .i64 U.b, Value.int .i64 U.c, Value.int .i64 U.d, Value.int .i64 V.a, Value.int .i64 V.b, Value.int .i64 V.c, Value.int .i64 V.d, Value.int .i64 T.a, Value.int .i64 T.b, Value.int .i64 T.c, Value.int .i64 T.d, Value.int .i64 X.a, Value.int .i64 X.b, Value.int .i64 X.c, Value.int .i64 X.d, Value.int .i64 Y.a, Value.int .i64 Y.b, Value.int .i64 Y.c, Value.int .i64 Y.d, Value.int .i64 Z.a, Value.int .i64 Z.b, Value.int .i64 Z.c, Value.int .i64 Z.d, Value.int .i64 Pn.a, Value.int .i64 Pn.b, Value.int .i64 Pn.c, Value.int .i64 Pn.d, Value.int .i64 Qn.a, Value.int .i64 Qn.b, Value.int .i64 Qn.c, Value.int .i64 Qn.d, Value.int .i64 Sn.a, Value.int .i64 Sn.b, Value.int .i64 Sn.c, Value.int .i64 Sn.d, Value.bool true, Value.bool nf1, Value.int .i64 nx1, Value.int .i64 nr1, Value.int .i64 nl1, Value.int .i64 nd1, Value.bool no2, Value.bool nf2, Value.int .i64 nx2, Value.int .i64 nr2, Value.int .i64 nl2, Value.int .i64 nd2, Value.bool no3, Value.bool nf3, Value.int .i64 nx3, Value.int .i64 nr3, Value.int .i64 nl3, Value.int .i64 nd3, Value.int .i64 m', Value.int .i64 r', Value.int .i64 i'] 55)).alloc (Obj.cells #[Value.int .i64 g1, Value.int .i64 g2, Value.int .i64 g3] 74)).jk kA).jk kF).alloc (Obj.cells #[Value.int .i64 U.a, Value.int .i64 U.b, Value.int .i64 U.c, Value.int .i64 U.d, Value.int .i64 V.a, Value.int .i64 V.b, Value.int .i64 V.c, Value.int .i64 V.d, Value.int .i64 T.a, Value.int .i64 T.b, Value.int .i64 T.c, Value.int .i64 T.d, Value.int .i64 X.a, Value.int .i64 X.b, Value.int .i64 X.c, Value.int .i64 X.d, Value.int .i64 Y.a, Value.int .i64 Y.b, Value.int .i64 Y.c, Value.int .i64 Y.d, Value.int .i64 Z.a, Value.int .i64 Z.b, Value.int .i64 Z.c, Value.int .i64 Z.d, Value.int .i64 Pn.a, Value.int .i64 Pn.b, Value.int .i64 Pn.c, Value.int .i64 Pn.d, Value.int .i64 Qn.a, Value.int .i64 Qn.b, Value.int .i64 Qn.c, Value.int .i64 Qn.d, Value.int .i64 Sn.a, Value.int .i64 Sn.b, Value.int .i64 Sn.c, Value.int .i64 Sn.d, Value.bool true, Value.bool nf1, Value.int .i64 nx1, Value.int .i64 nr1, Value.int .i64 nl1, Value.int .i64 nd1, Value.bool no2, Value.bool nf2, Value.int .i64 nx2, Value.int .i64 nr2, Value.int .i64 nl2, Value.int .i64 nd2, Value.bool no3, Value.bool nf3, Value.int .i64 nx3, Value.int .i64 nr3, Value.int .i64 nl3, Value.int .i64 nd3, Value.int .i64 m', Value.int .i64 r', Value.int .i64 i'] 55)).jk kw).alloc (Obj.cells #[Value.bool true, Value.bool nf1, Value.int .i64 (bif (l.headD false) then tx1 else nx1), Value.int .i64 (bif (l.tail.headD false) then tr1 else nr1), Value.int .i64 (bif (l.tail.tail.headD false) then tl1 else nl1), Value.int .i64 nd1] 33)))) (by kernel_rfl) (StF.of [false, false, false] (by kernel_rfl) (by exact (Q.refl _).drew)) ?_
        refine GoW.take (i := 0) _ (fun l w hc => (StF.any (md := Region.Mode.any) l w hc.1 (mem_ready.1 hc.2.1).1 hc.2.2)) rfl rfl (by kernel_rfl) (by kernel_rfl) (by kernel_rfl) (StF.idle1 (by decide)) ?_
        simp only [List.getElem_toArray, List.getElem_cons_zero]
        go_big_quiet_step (fail)
        refine wpQuiet_nil ?_
        refine GoW.take (i := 1) (fun w' => ∃ qq : JF, w' = ((((((((w.alloc (Obj.cells #[Value.int .i64 U.a, Value.int .i64 U.b, Value.int .i64 U.c, Value.int .i64 U.d, Value.int .i64 V.a, Value.int .i64 V.b, Value.int .i64 V.c, Value.int .i64 V.d, Value.int .i64 T.a, Value.int .i64 T.b, Value.int .i64 T.c, Value.int .i64 T.d, Value.int .i64 X.a, Value.int .i64 X.b, Value.int .i64 X.c, Value.int .i64 X.d, Value.int .i64 Y.a, Value.int .i64 Y.b, Value.int .i64 Y.c, Value.int .i64 Y.d, Value.int .i64 Z.a, Value.int .i64 Z.b, Value.int .i64 Z.c, Value.int .i64 Z.d, Value.int .i64 Pn.a, Value.int .i64 Pn.b, Value.int .i64 Pn.c, Value.int .i64 Pn.d, Value.int .i64 Qn.a, Value.int .i64 Qn.b, Value.int .i64 Qn.c, Value.int .i64 Qn.d, Value.int .i64 Sn.a, Value.int .i64 Sn.b, Value.int .i64 Sn.c, Value.int .i64 Sn.d, Value.bool true, Value.bool nf1, Value.int .i64 nx1, Value.int .i64 nr1, Value.int .i64 nl1, Value.int .i64 nd1, Value.bool no2, Value.bool nf2, Value.int .i64 nx2, Value.int .i64 nr2, Value.int .i64 nl2, Value.int .i64 nd2, Value.bool no3, Value.bool nf3, Value.int .i64 nx3, Value.int .i64 nr3, Value.int .i64 nl3, Value.int .i64 nd3, Value.int .i64 m', Value.int .i64 r', Value.int .i64 i'] 55)).alloc (Obj.cells #[Value.int .i64 g1, Value.int .i64 g2, Value.int .i64 g3] 74)).jk kA).jk kF).alloc (Obj.cells #[Value.int .i64 U.a, Value.int .i64 U.b, Value.int .i64 U.c, Value.int .i64 U.d, Value.int .i64 V.a, Value.int .i64 V.b, Value.int .i64 V.c, Value.int .i64 V.d, Value.int .i64 T.a, Value.int .i64 T.b, Value.int .i64 T.c, Value.int .i64 T.d, Value.int .i64 X.a, Value.int .i64 X.b, Value.int .i64 X.c, Value.int .i64 X.d, Value.int .i64 Y.a, Value.int .i64 Y.b, Value.int .i64 Y.c, Value.int .i64 Y.d, Value.int .i64 Z.a, Value.int .i64 Z.b, Value.int .i64 Z.c, Value.int .i64 Z.d, Value.int .i64 Pn.a, Value.int .i64 Pn.b, Value.int .i64 Pn.c, Value.int .i64 Pn.d, Value.int .i64 Qn.a, Value.int .i64 Qn.b, Value.int .i64 Qn.c, Value.int .i64 Qn.d, Value.int .i64 Sn.a, Value.int .i64 Sn.b, Value.int .i64 Sn.c, Value.int .i64 Sn.d, Value.bool true, Value.bool nf1, Value.int .i64 nx1, Value.int .i64 nr1, Value.int .i64 nl1, Value.int .i64 nd1, Value.bool no2, Value.bool nf2, Value.int .i64 nx2, Value.int .i64 nr2, Value.int .i64 nl2, Value.int .i64 nd2, Value.bool no3, Value.bool nf3, Value.int .i64 nx3, Value.int .i64 nr3, Value.int .i64 nl3, Value.int .i64 nd3, Value.int .i64 m', Value.int .i64 r', Value.int .i64 i'] 55)).jk kw).alloc (Obj.cells #[Value.bool true, Value.bool nf1, Value.int .i64 nx1, Value.int .i64 nr1, Value.int .i64 nl1, Value.int .i64 nd1] 33))).jk qq.k) (StF.cls (n := 30) [some false, some false, some false] (by kernel_rfl)) rfl rfl (by kernel_rfl) (by kernel_rfl) (by kernel_rfl) (StF.idle1 (by decide)) ?_
        simp only [List.getElem_toArray, List.getElem_cons_zero, List.getElem_cons_succ]
        go_big_quiet_step (fail)
        refine wpQuiet_nil ?_
        refine GoW.take (i := 2) _ (fun l w hc => (StF.any (md := Region.Mode.any) l w hc.1 (mem_ready.1 hc.2.1).1 hc.2.2)) rfl rfl (by kernel_rfl) (by kernel_rfl) (by kernel_rfl) (StF.idle1 (by decide)) ?_
        simp only [List.getElem_toArray, List.getElem_cons_zero, List.getElem_cons_succ]
        go_big_quiet_step (fail)
        refine wpQuiet_nil ?_
        refine GoW.take (i := 3) (fun w' => ∃ qq : JF, w' = ((((((((w.alloc (Obj.cells #[Value.int .i64 U.a, Value.int .i64 U.b, Value.int .i64 U.c, Value.int .i64 U.d, Value.int .i64 V.a, Value.int .i64 V.b, Value.int .i64 V.c, Value.int .i64 V.d, Value.int .i64 T.a, Value.int .i64 T.b, Value.int .i64 T.c, Value.int .i64 T.d, Value.int .i64 X.a, Value.int .i64 X.b, Value.int .i64 X.c, Value.int .i64 X.d, Value.int .i64 Y.a, Value.int .i64 Y.b, Value.int .i64 Y.c, Value.int .i64 Y.d, Value.int .i64 Z.a, Value.int .i64 Z.b, Value.int .i64 Z.c, Value.int .i64 Z.d, Value.int .i64 Pn.a, Value.int .i64 Pn.b, Value.int .i64 Pn.c, Value.int .i64 Pn.d, Value.int .i64 Qn.a, Value.int .i64 Qn.b, Value.int .i64 Qn.c, Value.int .i64 Qn.d, Value.int .i64 Sn.a, Value.int .i64 Sn.b, Value.int .i64 Sn.c, Value.int .i64 Sn.d, Value.bool true, Value.bool nf1, Value.int .i64 nx1, Value.int .i64 nr1, Value.int .i64 nl1, Value.int .i64 nd1, Value.bool no2, Value.bool nf2, Value.int .i64 nx2, Value.int .i64 nr2, Value.int .i64 nl2, Value.int .i64 nd2, Value.bool no3, Value.bool nf3, Value.int .i64 nx3, Value.int .i64 nr3, Value.int .i64 nl3, Value.int .i64 nd3, Value.int .i64 m', Value.int .i64 r', Value.int .i64 i'] 55)).alloc (Obj.cells #[Value.int .i64 g1, Value.int .i64 g2, Value.int .i64 g3] 74)).jk kA).jk kF).alloc (Obj.cells #[Value.int .i64 U.a, Value.int .i64 U.b, Value.int .i64 U.c, Value.int .i64 U.d, Value.int .i64 V.a, Value.int .i64 V.b, Value.int .i64 V.c, Value.int .i64 V.d, Value.int .i64 T.a, Value.int .i64 T.b, Value.int .i64 T.c, Value.int .i64 T.d, Value.int .i64 X.a, Value.int .i64 X.b, Value.int .i64 X.c, Value.int .i64 X.d, Value.int .i64 Y.a, Value.int .i64 Y.b, Value.int .i64 Y.c, Value.int .i64 Y.d, Value.int .i64 Z.a, Value.int .i64 Z.b, Value.int .i64 Z.c, Value.int .i64 Z.d, Value.int .i64 Pn.a, Value.int .i64 Pn.b, Value.int .i64 Pn.c, Value.int .i64 Pn.d, Value.int .i64 Qn.a, Value.int .i64 Qn.b, Value.int .i64 Qn.c, Value.int .i64 Qn.d, Value.int .i64 Sn.a, Value.int .i64 Sn.b, Value.int .i64 Sn.c, Value.int .i64 Sn.d, Value.bool true, Value.bool nf1, Value.int .i64 nx1, Value.int .i64 nr1, Value.int .i64 nl1, Value.int .i64 nd1, Value.bool no2, Value.bool nf2, Value.int .i64 nx2, Value.int .i64 nr2, Value.int .i64 nl2, Value.int .i64 nd2, Value.bool no3, Value.bool nf3, Value.int .i64 nx3, Value.int .i64 nr3, Value.int .i64 nl3, Value.int .i64 nd3, Value.int .i64 m', Value.int .i64 r', Value.int .i64 i'] 55)).jk kw).alloc (Obj.cells #[Value.bool true, Value.bool nf1, Value.int .i64 nx1, Value.int .i64 nr1, Value.int .i64 nl1, Value.int .i64 nd1] 33))).jk qq.k) (StF.cls (n := 30) [some false, some false, some false] (by kernel_rfl)) rfl rfl (by kernel_rfl) (by kernel_rfl) (by kernel_rfl) (StF.idle1 (by decide)) ?_
        simp only [List.getElem_toArray, List.getElem_cons_zero, List.getElem_cons_succ]
        go_big_quiet_step (fail)
        refine wpQuiet_nil ?_
        refine GoW.call (i := 4) (fun w => (W1.out w).mono fun _ _ h => ⟨h.1, Q.of_eq h.2⟩) rfl (by kernel_rfl) (by kernel_rfl) (by kernel_rfl) (StF.idleQ (by decide)) rfl (by intro w; simp [go_sem]) ?_
        simp only [List.getElem_toArray, List.getElem_cons_zero, List.getElem_cons_succ, Act.put, List.setIfInBounds_toArray, List.set_cons_succ, List.set_cons_zero]
        refine GoW.take (i := 5) _ (fun l w hc => (StF.any (md := Region.Mode.any) l w hc.1 (mem_ready.1 hc.2.1).1 hc.2.2)) rfl rfl (by kernel_rfl) (by kernel_rfl) (by kernel_rfl) (StF.idle1 (by decide)) ?_
        simp only [List.getElem_toArray, List.getElem_cons_zero, List.getElem_cons_succ]
        go_big_quiet_step (fail)
        refine wpQuiet_nil ?_
        refine GoW.val (i := 6) (v := Value.int .i64 tx1) rfl (by kernel_rfl) (by kernel_rfl) (by kernel_rfl) (StF.idle1 (by decide)) rfl (by intro w; simp [go_sem, Mtx1]) ?_
        simp only [List.getElem_toArray, List.getElem_cons_zero, List.getElem_cons_succ, Act.put, List.setIfInBounds_toArray, List.set_cons_succ, List.set_cons_zero]
        refine GoW.take (i := 7) _ (fun l w hc => (StF.any (md := Region.Mode.any) l w hc.1 (mem_ready.1 hc.2.1).1 hc.2.2)) rfl rfl (by kernel_rfl) (by kernel_rfl) (by kernel_rfl) (StF.idle1 (by decide)) ?_
        simp only [List.getElem_toArray, List.getElem_cons_zero, List.getElem_cons_succ]
        go_big_quiet_step (fail)
        refine wpQuiet_nil ?_
        refine GoW.take (i := 8) (fun w' => ∃ qq : JF, w' = ((((((((w.alloc (Obj.cells #[Value.int .i64 U.a, Value.int .i64 U.b, Value.int .i64 U.c, Value.int .i64 U.d, Value.int .i64 V.a, Value.int .i64 V.b, Value.int .i64 V.c, Value.int .i64 V.d, Value.int .i64 T.a, Value.int .i64 T.b, Value.int .i64 T.c, Value.int .i64 T.d, Value.int .i64 X.a, Value.int .i64 X.b, Value.int .i64 X.c, Value.int .i64 X.d, Value.int .i64 Y.a, Value.int .i64 Y.b, Value.int .i64 Y.c, Value.int .i64 Y.d, Value.int .i64 Z.a, Value.int .i64 Z.b, Value.int .i64 Z.c, Value.int .i64 Z.d, Value.int .i64 Pn.a, Value.int .i64 Pn.b, Value.int .i64 Pn.c, Value.int .i64 Pn.d, Value.int .i64 Qn.a, Value.int .i64 Qn.b, Value.int .i64 Qn.c, Value.int .i64 Qn.d, Value.int .i64 Sn.a, Value.int .i64 Sn.b, Value.int .i64 Sn.c, Value.int .i64 Sn.d, Value.bool true, Value.bool nf1, Value.int .i64 nx1, Value.int .i64 nr1, Value.int .i64 nl1, Value.int .i64 nd1, Value.bool no2, Value.bool nf2, Value.int .i64 nx2, Value.int .i64 nr2, Value.int .i64 nl2, Value.int .i64 nd2, Value.bool no3, Value.bool nf3, Value.int .i64 nx3, Value.int .i64 nr3, Value.int .i64 nl3, Value.int .i64 nd3, Value.int .i64 m', Value.int .i64 r', Value.int .i64 i'] 55)).alloc (Obj.cells #[Value.int .i64 g1, Value.int .i64 g2, Value.int .i64 g3] 74)).jk kA).jk kF).alloc (Obj.cells #[Value.int .i64 U.a, Value.int .i64 U.b, Value.int .i64 U.c, Value.int .i64 U.d, Value.int .i64 V.a, Value.int .i64 V.b, Value.int .i64 V.c, Value.int .i64 V.d, Value.int .i64 T.a, Value.int .i64 T.b, Value.int .i64 T.c, Value.int .i64 T.d, Value.int .i64 X.a, Value.int .i64 X.b, Value.int .i64 X.c, Value.int .i64 X.d, Value.int .i64 Y.a, Value.int .i64 Y.b, Value.int .i64 Y.c, Value.int .i64 Y.d, Value.int .i64 Z.a, Value.int .i64 Z.b, Value.int .i64 Z.c, Value.int .i64 Z.d, Value.int .i64 Pn.a, Value.int .i64 Pn.b, Value.int .i64 Pn.c, Value.int .i64 Pn.d, Value.int .i64 Qn.a, Value.int .i64 Qn.b, Value.int .i64 Qn.c, Value.int .i64 Qn.d, Value.int .i64 Sn.a, Value.int .i64 Sn.b, Value.int .i64 Sn.c, Value.int .i64 Sn.d, Value.bool true, Value.bool nf1, Value.int .i64 nx1, Value.int .i64 nr1, Value.int .i64 nl1, Value.int .i64 nd1, Value.bool no2, Value.bool nf2, Value.int .i64 nx2, Value.int .i64 nr2, Value.int .i64 nl2, Value.int .i64 nd2, Value.bool no3, Value.bool nf3, Value.int .i64 nx3, Value.int .i64 nr3, Value.int .i64 nl3, Value.int .i64 nd3, Value.int .i64 m', Value.int .i64 r', Value.int .i64 i'] 55)).jk kw).alloc (Obj.cells #[Value.bool true, Value.bool nf1, Value.int .i64 nx1, Value.int .i64 nr1, Value.int .i64 nl1, Value.int .i64 nd1] 33))).jk qq.k) (StF.cls (n := 30) [some false, some false, some false] (by kernel_rfl)) rfl rfl (by kernel_rfl) (by kernel_rfl) (by kernel_rfl) (StF.idle1 (by decide)) ?_
        simp only [List.getElem_toArray, List.getElem_cons_zero, List.getElem_cons_succ]
        go_big_quiet_step (fail)
        refine wpQuiet_nil ?_
        refine GoW.take (i := 9) _ (fun l w hc => (StF.any (md := Region.Mode.any) l w hc.1 (mem_ready.1 hc.2.1).1 hc.2.2)) rfl rfl (by kernel_rfl) (by kernel_rfl) (by kernel_rfl) (StF.idle1 (by decide)) ?_
        simp only [List.getElem_toArray, List.getElem_cons_zero, List.getElem_cons_succ]
        go_big_quiet_step (fail)
        refine wpQuiet_nil ?_
        refine GoW.take (i := 10) (fun w' => ∃ qq : JF, w' = ((((((((w.alloc (Obj.cells #[Value.int .i64 U.a, Value.int .i64 U.b, Value.int .i64 U.c, Value.int .i64 U.d, Value.int .i64 V.a, Value.int .i64 V.b, Value.int .i64 V.c, Value.int .i64 V.d, Value.int .i64 T.a, Value.int .i64 T.b, Value.int .i64 T.c, Value.int .i64 T.d, Value.int .i64 X.a, Value.int .i64 X.b, Value.int .i64 X.c, Value.int .i64 X.d, Value.int .i64 Y.a, Value.int .i64 Y.b, Value.int .i64 Y.c, Value.int .i64 Y.d, Value.int .i64 Z.a, Value.int .i64 Z.b, Value.int .i64 Z.c, Value.int .i64 Z.d, Value.int .i64 Pn.a, Value.int .i64 Pn.b, Value.int .i64 Pn.c, Value.int .i64 Pn.d, Value.int .i64 Qn.a, Value.int .i64 Qn.b, Value.int .i64 Qn.c, Value.int .i64 Qn.d, Value.int .i64 Sn.a, Value.int .i64 Sn.b, Value.int .i64 Sn.c, Value.int .i64 Sn.d, Value.bool true, Value.bool nf1, Value.int .i64 nx1, Value.int .i64 nr1, Value.int .i64 nl1, Value.int .i64 nd1, Value.bool no2, Value.bool nf2, Value.int .i64 nx2, Value.int .i64 nr2, Value.int .i64 nl2, Value.int .i64 nd2, Value.bool no3, Value.bool nf3, Value.int .i64 nx3, Value.int .i64 nr3, Value.int .i64 nl3, Value.int .i64 nd3, Value.int .i64 m', Value.int .i64 r', Value.int .i64 i'] 55)).alloc (Obj.cells #[Value.int .i64 g1, Value.int .i64 g2, Value.int .i64 g3] 74)).jk kA).jk kF).alloc (Obj.cells #[Value.int .i64 U.a, Value.int .i64 U.b, Value.int .i64 U.c, Value.int .i64 U.d, Value.int .i64 V.a, Value.int .i64 V.b, Value.int .i64 V.c, Value.int .i64 V.d, Value.int .i64 T.a, Value.int .i64 T.b, Value.int .i64 T.c, Value.int .i64 T.d, Value.int .i64 X.a, Value.int .i64 X.b, Value.int .i64 X.c, Value.int .i64 X.d, Value.int .i64 Y.a, Value.int .i64 Y.b, Value.int .i64 Y.c, Value.int .i64 Y.d, Value.int .i64 Z.a, Value.int .i64 Z.b, Value.int .i64 Z.c, Value.int .i64 Z.d, Value.int .i64 Pn.a, Value.int .i64 Pn.b, Value.int .i64 Pn.c, Value.int .i64 Pn.d, Value.int .i64 Qn.a, Value.int .i64 Qn.b, Value.int .i64 Qn.c, Value.int .i64 Qn.d, Value.int .i64 Sn.a, Value.int .i64 Sn.b, Value.int .i64 Sn.c, Value.int .i64 Sn.d, Value.bool true, Value.bool nf1, Value.int .i64 nx1, Value.int .i64 nr1, Value.int .i64 nl1, Value.int .i64 nd1, Value.bool no2, Value.bool nf2, Value.int .i64 nx2, Value.int .i64 nr2, Value.int .i64 nl2, Value.int .i64 nd2, Value.bool no3, Value.bool nf3, Value.int .i64 nx3, Value.int .i64 nr3, Value.int .i64 nl3, Value.int .i64 nd3, Value.int .i64 m', Value.int .i64 r', Value.int .i64 i'] 55)).jk kw).alloc (Obj.cells #[Value.bool true, Value.bool nf1, Value.int .i64 nx1, Value.int .i64 nr1, Value.int .i64 nl1, Value.int .i64 nd1] 33))).jk qq.k) (StF.cls (n := 30) [some false, some false, some false] (by kernel_rfl)) rfl rfl (by kernel_rfl) (by kernel_rfl) (by kernel_rfl) (StF.idle1 (by decide)) ?_
        simp only [List.getElem_toArray, List.getElem_cons_zero, List.getElem_cons_succ]
        go_big_quiet_step (fail)
        refine wpQuiet_nil ?_
        refine GoW.call (i := 11) (fun w => (W2.out w).mono fun _ _ h => ⟨h.1, Q.of_eq h.2⟩) rfl (by kernel_rfl) (by kernel_rfl) (by kernel_rfl) (StF.idleQ (by decide)) rfl (by intro w; simp [go_sem]) ?_
        simp only [List.getElem_toArray, List.getElem_cons_zero, List.getElem_cons_succ, Act.put, List.setIfInBounds_toArray, List.set_cons_succ, List.set_cons_zero]
        refine GoW.take (i := 12) _ (fun l w hc => (StF.any (md := Region.Mode.any) l w hc.1 (mem_ready.1 hc.2.1).1 hc.2.2)) rfl rfl (by kernel_rfl) (by kernel_rfl) (by kernel_rfl) (StF.idle1 (by decide)) ?_
        simp only [List.getElem_toArray, List.getElem_cons_zero, List.getElem_cons_succ]
        go_big_quiet_step (fail)
        refine wpQuiet_nil ?_
        refine GoW.val (i := 13) (v := Value.int .i64 tr1) rfl (by kernel_rfl) (by kernel_rfl) (by kernel_rfl) (StF.idle1 (by decide)) rfl (by intro w; simp [go_sem, Mtr1]) ?_
        simp only [List.getElem_toArray, List.getElem_cons_zero, List.getElem_cons_succ, Act.put, List.setIfInBounds_toArray, List.set_cons_succ, List.set_cons_zero]
        refine GoW.take (i := 14) _ (fun l w hc => (StF.any (md := Region.Mode.any) l w hc.1 (mem_ready.1 hc.2.1).1 hc.2.2)) rfl rfl (by kernel_rfl) (by kernel_rfl) (by kernel_rfl) (StF.idle1 (by decide)) ?_
        simp only [List.getElem_toArray, List.getElem_cons_zero, List.getElem_cons_succ]
        go_big_quiet_step (fail)
        refine wpQuiet_nil ?_
        refine GoW.take (i := 15) (fun w' => ∃ qq : JF, w' = ((((((((w.alloc (Obj.cells #[Value.int .i64 U.a, Value.int .i64 U.b, Value.int .i64 U.c, Value.int .i64 U.d, Value.int .i64 V.a, Value.int .i64 V.b, Value.int .i64 V.c, Value.int .i64 V.d, Value.int .i64 T.a, Value.int .i64 T.b, Value.int .i64 T.c, Value.int .i64 T.d, Value.int .i64 X.a, Value.int .i64 X.b, Value.int .i64 X.c, Value.int .i64 X.d, Value.int .i64 Y.a, Value.int .i64 Y.b, Value.int .i64 Y.c, Value.int .i64 Y.d, Value.int .i64 Z.a, Value.int .i64 Z.b, Value.int .i64 Z.c, Value.int .i64 Z.d, Value.int .i64 Pn.a, Value.int .i64 Pn.b, Value.int .i64 Pn.c, Value.int .i64 Pn.d, Value.int .i64 Qn.a, Value.int .i64 Qn.b, Value.int .i64 Qn.c, Value.int .i64 Qn.d, Value.int .i64 Sn.a, Value.int .i64 Sn.b, Value.int .i64 Sn.c, Value.int .i64 Sn.d, Value.bool true, Value.bool nf1, Value.int .i64 nx1, Value.int .i64 nr1, Value.int .i64 nl1, Value.int .i64 nd1, Value.bool no2, Value.bool nf2, Value.int .i64 nx2, Value.int .i64 nr2, Value.int .i64 nl2, Value.int .i64 nd2, Value.bool no3, Value.bool nf3, Value.int .i64 nx3, Value.int .i64 nr3, Value.int .i64 nl3, Value.int .i64 nd3, Value.int .i64 m', Value.int .i64 r', Value.int .i64 i'] 55)).alloc (Obj.cells #[Value.int .i64 g1, Value.int .i64 g2, Value.int .i64 g3] 74)).jk kA).jk kF).alloc (Obj.cells #[Value.int .i64 U.a, Value.int .i64 U.b, Value.int .i64 U.c, Value.int .i64 U.d, Value.int .i64 V.a, Value.int .i64 V.b, Value.int .i64 V.c, Value.int .i64 V.d, Value.int .i64 T.a, Value.int .i64 T.b, Value.int .i64 T.c, Value.int .i64 T.d, Value.int .i64 X.a, Value.int .i64 X.b, Value.int .i64 X.c, Value.int .i64 X.d, Value.int .i64 Y.a, Value.int .i64 Y.b, Value.int .i64 Y.c, Value.int .i64 Y.d, Value.int .i64 Z.a, Value.int .i64 Z.b, Value.int .i64 Z.c, Value.int .i64 Z.d, Value.int .i64 Pn.a, Value.int .i64 Pn.b, Value.int .i64 Pn.c, Value.int .i64 Pn.d, Value.int .i64 Qn.a, Value.int .i64 Qn.b, Value.int .i64 Qn.c, Value.int .i64 Qn.d, Value.int .i64 Sn.a, Value.int .i64 Sn.b, Value.int .i64 Sn.c, Value.int .i64 Sn.d, Value.bool true, Value.bool nf1, Value.int .i64 nx1, Value.int .i64 nr1, Value.int .i64 nl1, Value.int .i64 nd1, Value.bool no2, Value.bool nf2, Value.int .i64 nx2, Value.int .i64 nr2, Value.int .i64 nl2, Value.int .i64 nd2, Value.bool no3, Value.bool nf3, Value.int .i64 nx3, Value.int .i64 nr3, Value.int .i64 nl3, Value.int .i64 nd3, Value.int .i64 m', Value.int .i64 r', Value.int .i64 i'] 55)).jk kw).alloc (Obj.cells #[Value.bool true, Value.bool nf1, Value.int .i64 nx1, Value.int .i64 nr1, Value.int .i64 nl1, Value.int .i64 nd1] 33))).jk qq.k) (StF.cls (n := 30) [some false, some false, some false] (by kernel_rfl)) rfl rfl (by kernel_rfl) (by kernel_rfl) (by kernel_rfl) (StF.idle1 (by decide)) ?_
        simp only [List.getElem_toArray, List.getElem_cons_zero, List.getElem_cons_succ]
        go_big_quiet_step (fail)
        refine wpQuiet_nil ?_
        refine GoW.take (i := 16) _ (fun l w hc => (StF.any (md := Region.Mode.any) l w hc.1 (mem_ready.1 hc.2.1).1 hc.2.2)) rfl rfl (by kernel_rfl) (by kernel_rfl) (by kernel_rfl) (StF.idle1 (by decide)) ?_
        simp only [List.getElem_toArray, List.getElem_cons_zero, List.getElem_cons_succ]
        go_big_quiet_step (fail)
        refine wpQuiet_nil ?_
        refine GoW.take (i := 17) (fun w' => ∃ qq : JF, w' = ((((((((w.alloc (Obj.cells #[Value.int .i64 U.a, Value.int .i64 U.b, Value.int .i64 U.c, Value.int .i64 U.d, Value.int .i64 V.a, Value.int .i64 V.b, Value.int .i64 V.c, Value.int .i64 V.d, Value.int .i64 T.a, Value.int .i64 T.b, Value.int .i64 T.c, Value.int .i64 T.d, Value.int .i64 X.a, Value.int .i64 X.b, Value.int .i64 X.c, Value.int .i64 X.d, Value.int .i64 Y.a, Value.int .i64 Y.b, Value.int .i64 Y.c, Value.int .i64 Y.d, Value.int .i64 Z.a, Value.int .i64 Z.b, Value.int .i64 Z.c, Value.int .i64 Z.d, Value.int .i64 Pn.a, Value.int .i64 Pn.b, Value.int .i64 Pn.c, Value.int .i64 Pn.d, Value.int .i64 Qn.a, Value.int .i64 Qn.b, Value.int .i64 Qn.c, Value.int .i64 Qn.d, Value.int .i64 Sn.a, Value.int .i64 Sn.b, Value.int .i64 Sn.c, Value.int .i64 Sn.d, Value.bool true, Value.bool nf1, Value.int .i64 nx1, Value.int .i64 nr1, Value.int .i64 nl1, Value.int .i64 nd1, Value.bool no2, Value.bool nf2, Value.int .i64 nx2, Value.int .i64 nr2, Value.int .i64 nl2, Value.int .i64 nd2, Value.bool no3, Value.bool nf3, Value.int .i64 nx3, Value.int .i64 nr3, Value.int .i64 nl3, Value.int .i64 nd3, Value.int .i64 m', Value.int .i64 r', Value.int .i64 i'] 55)).alloc (Obj.cells #[Value.int .i64 g1, Value.int .i64 g2, Value.int .i64 g3] 74)).jk kA).jk kF).alloc (Obj.cells #[Value.int .i64 U.a, Value.int .i64 U.b, Value.int .i64 U.c, Value.int .i64 U.d, Value.int .i64 V.a, Value.int .i64 V.b, Value.int .i64 V.c, Value.int .i64 V.d, Value.int .i64 T.a, Value.int .i64 T.b, Value.int .i64 T.c, Value.int .i64 T.d, Value.int .i64 X.a, Value.int .i64 X.b, Value.int .i64 X.c, Value.int .i64 X.d, Value.int .i64 Y.a, Value.int .i64 Y.b, Value.int .i64 Y.c, Value.int .i64 Y.d, Value.int .i64 Z.a, Value.int .i64 Z.b, Value.int .i64 Z.c, Value.int .i64 Z.d, Value.int .i64 Pn.a, Value.int .i64 Pn.b, Value.int .i64 Pn.c, Value.int .i64 Pn.d, Value.int .i64 Qn.a, Value.int .i64 Qn.b, Value.int .i64 Qn.c, Value.int .i64 Qn.d, Value.int .i64 Sn.a, Value.int .i64 Sn.b, Value.int .i64 Sn.c, Value.int .i64 Sn.d, Value.bool true, Value.bool nf1, Value.int .i64 nx1, Value.int .i64 nr1, Value.int .i64 nl1, Value.int .i64 nd1, Value.bool no2, Value.bool nf2, Value.int .i64 nx2, Value.int .i64 nr2, Value.int .i64 nl2, Value.int .i64 nd2, Value.bool no3, Value.bool nf3, Value.int .i64 nx3, Value.int .i64 nr3, Value.int .i64 nl3, Value.int .i64 nd3, Value.int .i64 m', Value.int .i64 r', Value.int .i64 i'] 55)).jk kw).alloc (Obj.cells #[Value.bool true, Value.bool nf1, Value.int .i64 nx1, Value.int .i64 nr1, Value.int .i64 nl1, Value.int .i64 nd1] 33))).jk qq.k) (StF.cls (n := 30) [some false, some false, some false] (by kernel_rfl)) rfl rfl (by kernel_rfl) (by kernel_rfl) (by kernel_rfl) (StF.idle1 (by decide)) ?_
        simp only [List.getElem_toArray, List.getElem_cons_zero, List.getElem_cons_succ]
        go_big_quiet_step (fail)
        refine wpQuiet_nil ?_
        refine GoW.call (i := 18) (fun w => (W3.out w).mono fun _ _ h => ⟨h.1, Q.of_eq h.2⟩) rfl (by kernel_rfl) (by kernel_rfl) (by kernel_rfl) (StF.idleQ (by decide)) rfl (by intro w; simp [go_sem]) ?_
        simp only [List.getElem_toArray, List.getElem_cons_zero, List.getElem_cons_succ, Act.put, List.setIfInBounds_toArray, List.set_cons_succ, List.set_cons_zero]
        refine GoW.take (i := 19) _ (fun l w hc => (StF.any (md := Region.Mode.any) l w hc.1 (mem_ready.1 hc.2.1).1 hc.2.2)) rfl rfl (by kernel_rfl) (by kernel_rfl) (by kernel_rfl) (StF.idle1 (by decide)) ?_
        simp only [List.getElem_toArray, List.getElem_cons_zero, List.getElem_cons_succ]
        go_big_quiet_step (fail)
        refine wpQuiet_nil ?_
        refine GoW.val (i := 20) (v := Value.int .i64 tl1) rfl (by kernel_rfl) (by kernel_rfl) (by kernel_rfl) (StF.idle1 (by decide)) rfl (by intro w; simp [go_sem, Mtl1]) ?_
        simp only [List.getElem_toArray, List.getElem_cons_zero, List.getElem_cons_succ, Act.put, List.setIfInBounds_toArray, List.set_cons_succ, List.set_cons_zero]
        refine GoW.take (i := 21) _ (fun l w hc => (StF.any (md := Region.Mode.any) l w hc.1 (mem_ready.1 hc.2.1).1 hc.2.2)) rfl rfl (by kernel_rfl) (by kernel_rfl) (by kernel_rfl) (StF.idle1 (by decide)) ?_
        simp only [List.getElem_toArray, List.getElem_cons_zero, List.getElem_cons_succ]
        go_big_quiet_step (fail)
        refine wpQuiet_nil ?_
        refine GoW.store (i := 22) (n := 30) [false, false, false] rfl rfl (by kernel_rfl) (by kernel_rfl) (by kernel_rfl) (by kernel_rfl) rfl ?_ ?_
        · intro k K hK
          simp only [List.getElem_toArray, List.getElem_cons_zero, List.getElem_cons_succ]
          simp only [List.headD_cons, List.tail_cons, cond_true, cond_false]
          go_simp
          refine hK _ ?_
          simp only [setFl, List.headD_cons, List.tail_cons, cond_true, cond_false, beq_self_eq_true, Nat.reduceBEq, if_true, Bool.false_eq_true, if_false]
          exact (Q.refl _).jk k
        simp only [List.getElem_toArray, List.getElem_cons_zero, List.getElem_cons_succ, Act.put, List.setIfInBounds_toArray, List.set_cons_succ, List.set_cons_zero]
        refine GoW.take (i := 23) _ (fun l w hc => (StF.any (md := Region.Mode.any) l w hc.1 (mem_ready.1 hc.2.1).1 hc.2.2)) rfl rfl (by kernel_rfl) (by kernel_rfl) (by kernel_rfl) (StF.idle1 (by decide)) ?_
        simp only [List.getElem_toArray, List.getElem_cons_zero, List.getElem_cons_succ]
        go_big_quiet_step (fail)
        refine wpQuiet_nil ?_
        refine GoW.store (i := 24) (n := 30) [true, false, false] rfl rfl (by kernel_rfl) (by kernel_rfl) (by kernel_rfl) (by kernel_rfl) rfl ?_ ?_
        · intro k K hK
          simp only [List.getElem_toArray, List.getElem_cons_zero, List.getElem_cons_succ]
          simp only [List.headD_cons, List.tail_cons, cond_true, cond_false]
          go_simp
          refine hK _ ?_
          simp only [setFl, List.headD_cons, List.tail_cons, cond_true, cond_false, beq_self_eq_true, Nat.reduceBEq, if_true, Bool.false_eq_true, if_false]
          exact (Q.refl _).jk k
        simp only [List.getElem_toArray, List.getElem_cons_zero, List.getElem_cons_succ, Act.put, List.setIfInBounds_toArray, List.set_cons_succ, List.set_cons_zero]
        refine GoW.take (i := 25) _ (fun l w hc => (StF.any (md := Region.Mode.any) l w hc.1 (mem_ready.1 hc.2.1).1 hc.2.2)) rfl rfl (by kernel_rfl) (by kernel_rfl) (by kernel_rfl) (StF.idle1 (by decide)) ?_
        simp only [List.getElem_toArray, List.getElem_cons_zero, List.getElem_cons_succ]
        go_big_quiet_step (fail)
        refine wpQuiet_nil ?_
        refine GoW.store (i := 26) (n := 30) [true, true, false] rfl rfl (by kernel_rfl) (by kernel_rfl) (by kernel_rfl) (by kernel_rfl) rfl ?_ ?_
        · intro k K hK
          simp only [List.getElem_toArray, List.getElem_cons_zero, List.getElem_cons_succ]
          simp only [List.headD_cons, List.tail_cons, cond_true, cond_false]
          go_simp
          refine hK _ ?_
          simp only [setFl, List.headD_cons, List.tail_cons, cond_true, cond_false, beq_self_eq_true, Nat.reduceBEq, if_true, Bool.false_eq_true, if_false]
          exact (Q.refl _).jk k
        simp only [List.getElem_toArray, List.getElem_cons_zero, List.getElem_cons_succ, Act.put, List.setIfInBounds_toArray, List.set_cons_succ, List.set_cons_zero]
        refine GoW.done (by kernel_rfl) ?_
        intro _ hw'
        obtain ⟨kq, rfl⟩ : ∃ k, _ = ((((((((w.alloc (Obj.cells #[Value.int .i64 U.a, Value.int .i64 U.b, Value.int .i64 U.c, Value.int .i64 U.d, Value.int .i64 V.a, Value.int .i64 V.b, Value.int .i64 V.c, Value.int .i64 V.d, Value.int .i64 T.a, Value.int .i64 T.b, Value.int .i64 T.c, Value.int .i64 T.d, Value.int .i64 X.a, Value.int .i64 X.b, Value.int .i64 X.c, Value.int .i64 X.d, Value.int .i64 Y.a, Value.int .i64 Y.b, Value.int .i64 Y.c, Value.int .i64 Y.d, Value.int .i64 Z.a, Value.int .i64 Z.b, Value.int .i64 Z.c, Value.int .i64 Z.d, Value.int .i64 Pn.a, Value.int .i64 Pn.b, Value.int .i64 Pn.c, Value.int .i64 Pn.d, Value.int .i64 Qn.a, Value.int .i64 Qn.b, Value.int .i64 Qn.c, Value.int .i64 Qn.d, Value.int .i64 Sn.a, Value.int .i64 Sn.b, Value.int .i64 Sn.c, Value.int .i64 Sn.d, Value.bool true, Value.bool nf1, Value.int .i64 nx1, Value.int .i64 nr1, Value.int .i64 nl1, Value.int .i64 nd1, Value.bool no2, Value.bool nf2, Value.int .i64 nx2, Value.int .i64 nr2, Value.int .i64 nl2, Value.int .i64 nd2, Value.bool no3, Value.bool nf3, Value.int .i64 nx3, Value.int .i64 nr3, Value.int .i64 nl3, Value.int .i64 nd3, Value.int .i64 m', Value.int .i64 r', Value.int .i64 i'] 55)).alloc (Obj.cells #[Value.int .i64 g1, Value.int .i64 g2, Value.int .i64 g3] 74)).jk kA).jk kF).alloc (Obj.cells #[Value.int .i64 U.a, Value.int .i64 U.b, Value.int .i64 U.c, Value.int .i64 U.d, Value.int .i64 V.a, Value.int .i64 V.b, Value.int .i64 V.c, Value.int .i64 V.d, Value.int .i64 T.a, Value.int .i64 T.b, Value.int .i64 T.c, Value.int .i64 T.d, Value.int .i64 X.a, Value.int .i64 X.b, Value.int .i64 X.c, Value.int .i64 X.d, Value.int .i64 Y.a, Value.int .i64 Y.b, Value.int .i64 Y.c, Value.int .i64 Y.d, Value.int .i64 Z.a, Value.int .i64 Z.b, Value.int .i64 Z.c, Value.int .i64 Z.d, Value.int .i64 Pn.a, Value.int .i64 Pn.b, Value.int .i64 Pn.c, Value.int .i64 Pn.d, Value.int .i64 Qn.a, Value.int .i64 Qn.b, Value.int .i64 Qn.c, Value.int .i64 Qn.d, Value.int .i64 Sn.a, Value.int .i64 Sn.b, Value.int .i64 Sn.c, Value.int .i64 Sn.d, Value.bool true, Value.bool nf1, Value.int .i64 nx1, Value.int .i64 nr1, Value.int .i64 nl1, Value.int .i64 nd1, Value.bool no2, Value.bool nf2, Value.int .i64 nx2, Value.int .i64 nr2, Value.int .i64 nl2, Value.int .i64 nd2, Value.bool no3, Value.bool nf3, Value.int .i64 nx3, Value.int .i64 nr3, Value.int .i64 nl3, Value.int .i64 nd3, Value.int .i64 m', Value.int .i64 r', Value.int .i64 i'] 55)).jk kw).alloc (Obj.cells #[Value.bool true, Value.bool nf1, Value.int .i64 tx1, Value.int .i64 tr1, Value.int .i64 tl1, Value.int .i64 nd1] 33))).jk k := hw'
        go_wp2_with fail
        go_roundw
        case rel => exact .inr (.inl ⟨rfl, by repeat' (first | exact Q.refl _ | refine Q.alloc ?_ _ | refine Q.jk ?_ _ | refine Q.drew ?_)⟩)
        case measure => simp [intOf]
    · cases no2
      · go_wp2_with fail
        go_roundw
        case rel => exact .inr (.inr (.inl ⟨rfl, by repeat' (first | exact Q.refl _ | refine Q.alloc ?_ _ | refine Q.jk ?_ _ | refine Q.drew ?_)⟩))
        case measure => simp [intOf]
      · go_wp2_with fail
        refine wp_region_W 27 rfl (StF [22, 24, 26] (fun l : List Bool => (((((((w.alloc (Obj.cells #[Value.int .i64 U.a, Value.int .i64 U.b, Value.int .i64 U.c, Value.int .i64 U.d, Value.int .i64 V.a, Value.int .i64 V.b, Value.int .i64 V.c, Value.int .i64 V.d, Value.int .i64 T.a, Value.int .i64 T.b, Value.int .i64 T.c, Value.int .i64 T.d, Value.int .i64 X.a, Value.int .i64 X.b, Value.int .i64 X.c, Value.int .i64 X.d, Value.int .i64 Y.a, Value.int .i64 Y.b, Value.int .i64 Y.c, Value.int .i64 Y.d, Value.int .i64 Z.a, Value.int .i64 Z.b, Value.int .i64 Z.c, Value.int .i64 Z.d, Value.int .i64 Pn.a, Value.int .i64 Pn.b, Value.int .i64 Pn.c, Value.int .i64 Pn.d, Value.int .i64 Qn.a, Value.int .i64 Qn.b, Value.int .i64 Qn.c, Value.int .i64 Qn.d, Value.int .i64 Sn.a, Value.int .i64 Sn.b, Value.int .i64 Sn.c, Value.int .i64 Sn.d, Value.bool no1, Value.bool nf1, Value.int .i64 nx1, Value.int .i64 nr1, Value.int .i64 nl1, Value.int .i64 nd1, Value.bool true, Value.bool nf2, Value.int .i64 nx2, Value.int .i64 nr2, Value.int .i64 nl2, Value.int .i64 nd2, Value.bool no3, Value.bool nf3, Value.int .i64 nx3, Value.int .i64 nr3, Value.int .i64 nl3, Value.int .i64 nd3, Value.int .i64 m', Value.int .i64 r', Value.int .i64 i'] 55)).alloc (Obj.cells #[Value.int .i64 g1, Value.int .i64 g2, Value.int .i64 g3] 74)).jk kA).jk kF).alloc (Obj.cells #[Value.int .i64 U.a, Value.int .i64 U.b, Value.int .i64 U.c, Value.int .i64 U.d, Value.int .i64 V.a, Value.int .i64 V.b, Value.int .i64 V.c, Value.int .i64 V.d, Value.int .i64 T.a, Value.int .i64 T.b, Value.int .i64 T.c, Value.int .i64 T.d, Value.int .i64 X.a, Value.int .i64 X.b, Value.int .i64 X.c, Value.int .i64 X.d, Value.int .i64 Y.a, Value.int .i64 Y.b, Value.int .i64 Y.c, Value.int .i64 Y.d, Value.int .i64 Z.a, Value.int .i64 Z.b, Value.int .i64 Z.c, Value.int .i64 Z.d, Value.int .i64 Pn.a, Value.int .i64 Pn.b, Value.int .i64 Pn.c, Value.int .i64 Pn.d, Value.int .i64 Qn.a, Value.int .i64 Qn.b, Value.int .i64 Qn.c, Value.int .i64 Qn.d, Value.int .i64 Sn.a, Value.int .i64 Sn.b, Value.int .i64 Sn.c, Value.int .i64 Sn.d, Value.bool no1, Value.bool nf1, Value.int .i64 (bif no1 then tx1 else nx1), Value.int .i64 (bif no1 then tr1 else nr1), Value.int .i64 (bif no1 then tl1 else nl1), Value.int .i64 nd1, Value.bool true, Value.bool nf2, Value.int .i64 nx2, Value.int .i64 nr2, Value.int .i64 nl2, Value.int .i64 nd2, Value.bool no3, Value.bool nf3, Value.int .i64 nx3, Value.int .i64 nr3, Value.int .i64 nl3, Value.int .i64 nd3, Value.int .i64 m', Value.int .i64 r', Value.int .i64 i'] 55)).jk kw).alloc (Obj.cells #[Value.bool true, Value.bool nf2, Value.int .i64 (bif (l.headD false) then tx2 else nx2), Value.int .i64 (bif (l.tail.headD false) then tr2 else nr2), Value.int .i64 (bif (l.tail.tail.headD false) then tl2 else nl2), Value.int .i64 nd2] 33)))) (by kernel_rfl) (StF.of [false, false, false] (by kernel_rfl) (by exact (Q.refl _).drew)) ?_
        refine GoW.take (i := 0) _ (fun l w hc => (StF.any (md := Region.Mode.any) l w hc.1 (mem_ready.1 hc.2.1).1 hc.2.2)) rfl rfl (by kernel_rfl) (by kernel_rfl) (by kernel_rfl) (StF.idle1 (by decide)) ?_
        simp only [List.getElem_toArray, List.getElem_cons_zero]
        go_big_quiet_step (fail)
        refine wpQuiet_nil ?_
        refine GoW.take (i := 1) (fun w' => ∃ qq : JF, w' = ((((((((w.alloc (Obj.cells #[Value.int .i64 U.a, Value.int .i64 U.b, Value.int .i64 U.c, Value.int .i64 U.d, Value.int .i64 V.a, Value.int .i64 V.b, Value.int .i64 V.c, Value.int .i64 V.d, Value.int .i64 T.a, Value.int .i64 T.b, Value.int .i64 T.c, Value.int .i64 T.d, Value.int .i64 X.a, Value.int .i64 X.b, Value.int .i64 X.c, Value.int .i64 X.d, Value.int .i64 Y.a, Value.int .i64 Y.b, Value.int .i64 Y.c, Value.int .i64 Y.d, Value.int .i64 Z.a, Value.int .i64 Z.b, Value.int .i64 Z.c, Value.int .i64 Z.d, Value.int .i64 Pn.a, Value.int .i64 Pn.b, Value.int .i64 Pn.c, Value.int .i64 Pn.d, Value.int .i64 Qn.a, Value.int .i64 Qn.b, Value.int .i64 Qn.c, Value.int .i64 Qn.d, Value.int .i64 Sn.a, Value.int .i64 Sn.b, Value.int .i64 Sn.c, Value.int .i64 Sn.d, Value.bool no1, Value.bool nf1, Value.int .i64 nx1, Value.int .i64 nr1, Value.int .i64 nl1, Value.int .i64 nd1, Value.bool true, Value.bool nf2, Value.int .i64 nx2, Value.int .i64 nr2, Value.int .i64 nl2, Value.int .i64 nd2, Value.bool no3, Value.bool nf3, Value.int .i64 nx3, Value.int .i64 nr3, Value.int .i64 nl3, Value.int .i64 nd3, Value.int .i64 m', Value.int .i64 r', Value.int .i64 i'] 55)).alloc (Obj.cells #[Value.int .i64 g1, Value.int .i64 g2, Value.int .i64 g3] 74)).jk kA).jk kF).alloc (Obj.cells #[Value.int .i64 U.a, Value.int .i64 U.b, Value.int .i64 U.c, Value.int .i64 U.d, Value.int .i64 V.a, Value.int .i64 V.b, Value.int .i64 V.c, Value.int .i64 V.d, Value.int .i64 T.a, Value.int .i64 T.b, Value.int .i64 T.c, Value.int .i64 T.d, Value.int .i64 X.a, Value.int .i64 X.b, Value.int .i64 X.c, Value.int .i64 X.d, Value.int .i64 Y.a, Value.int .i64 Y.b, Value.int .i64 Y.c, Value.int .i64 Y.d, Value.int .i64 Z.a, Value.int .i64 Z.b, Value.int .i64 Z.c, Value.int .i64 Z.d, Value.int .i64 Pn.a, Value.int .i64 Pn.b, Value.int .i64 Pn.c, Value.int .i64 Pn.d, Value.int .i64 Qn.a, Value.int .i64 Qn.b, Value.int .i64 Qn.c, Value.int .i64 Qn.d, Value.int .i64 Sn.a, Value.int .i64 Sn.b, Value.int .i64 Sn.c, Value.int .i64 Sn.d, Value.bool no1, Value.bool nf1, Value.int .i64 (bif no1 then tx1 else nx1), Value.int .i64 (bif no1 then tr1 else nr1), Value.int .i64 (bif no1 then tl1 else nl1), Value.int .i64 nd1, Value.bool true, Value.bool nf2, Value.int .i64 nx2, Value.int .i64 nr2, Value.int .i64 nl2, Value.int .i64 nd2, Value.bool no3, Value.bool nf3, Value.int .i64 nx3, Value.int .i64 nr3, Value.int .i64 nl3, Value.int .i64 nd3, Value.int .i64 m', Value.int .i64 r', Value.int .i64 i'] 55)).jk kw).alloc (Obj.cells #[Value.bool true, Value.bool nf2, Value.int .i64 nx2, Value.int .i64 nr2, Value.int .i64 nl2, Value.int .i64 nd2] 33))).jk qq.k) (StF.cls (n := 30) [some false, some false, some false] (by kernel_rfl)) rfl rfl (by kernel_rfl) (by kernel_rfl) (by kernel_rfl) (StF.idle1 (by decide)) ?_
        simp only [List.getElem_toArray, List.getElem_cons_zero, List.getElem_cons_succ]
        go_big_quiet_step (fail)
        refine wpQuiet_nil ?_
        refine GoW.take (i := 2) _ (fun l w hc => (StF.any (md := Region.Mode.any) l w hc.1 (mem_ready.1 hc.2.1).1 hc.2.2)) rfl rfl (by kernel_rfl) (by kernel_rfl) (by kernel_rfl) (StF.idle1 (by decide)) ?_
        simp only [List.getElem_toArray, List.getElem_cons_zero, List.getElem_cons_succ]
        go_big_quiet_step (fail)
        refine wpQuiet_nil ?_
        refine GoW.take (i := 3) (fun w' => ∃ qq : JF, w' = ((((((((w.alloc (Obj.cells #[Value.int .i64 U.a, Value.int .i64 U.b, Value.int .i64 U.c, Value.int .i64 U.d, Value.int .i64 V.a, Value.int .i64 V.b, Value.int .i64 V.c, Value.int .i64 V.d, Value.int .i64 T.a, Value.int .i64 T.b, Value.int .i64 T.c, Value.int .i64 T.d, Value.int .i64 X.a, Value.int .i64 X.b, Value.int .i64 X.c, Value.int .i64 X.d, Value.int .i64 Y.a, Value.int .i64 Y.b, Value.int .i64 Y.c, Value.int .i64 Y.d, Value.int .i64 Z.a, Value.int .i64 Z.b, Value.int .i64 Z.c, Value.int .i64 Z.d, Value.int .i64 Pn.a, Value.int .i64 Pn.b, Value.int .i64 Pn.c, Value.int .i64 Pn.d, Value.int .i64 Qn.a, Value.int .i64 Qn.b, Value.int .i64 Qn.c, Value.int .i64 Qn.d, Value.int .i64 Sn.a, Value.int .i64 Sn.b, Value.int .i64 Sn.c, Value.int .i64 Sn.d, Value.bool no1, Value.bool nf1, Value.int .i64 nx1, Value.int .i64 nr1, Value.int .i64 nl1, Value.int .i64 nd1, Value.bool true, Value.bool nf2, Value.int .i64 nx2, Value.int .i64 nr2, Value.int .i64 nl2, Value.int .i64 nd2, Value.bool no3, Value.bool nf3, Value.int .i64 nx3, Value.int .i64 nr3, Value.int .i64 nl3, Value.int .i64 nd3, Value.int .i64 m', Value.int .i64 r', Value.int .i64 i'] 55)).alloc (Obj.cells #[Value.int .i64 g1, Value.int .i64 g2, Value.int .i64 g3] 74)).jk kA).jk kF).alloc (Obj.cells #[Value.int .i64 U.a, Value.int .i64 U.b, Value.int .i64 U.c, Value.int .i64 U.d, Value.int .i64 V.a, Value.int .i64 V.b, Value.int .i64 V.c, Value.int .i64 V.d, Value.int .i64 T.a, Value.int .i64 T.b, Value.int .i64 T.c, Value.int .i64 T.d, Value.int .i64 X.a, Value.int .i64 X.b, Value.int .i64 X.c, Value.int .i64 X.d, Value.int .i64 Y.a, Value.int .i64 Y.b, Value.int .i64 Y.c, Value.int .i64 Y.d, Value.int .i64 Z.a, Value.int .i64 Z.b, Value.int .i64 Z.c, Value.int .i64 Z.d, Value.int .i64 Pn.a, Value.int .i64 Pn.b, Value.int .i64 Pn.c, Value.int .i64 Pn.d, Value.int .i64 Qn.a, Value.int .i64 Qn.b, Value.int .i64 Qn.c, Value.int .i64 Qn.d, Value.int .i64 Sn.a, Value.int .i64 Sn.b, Value.int .i64 Sn.c, Value.int .i64 Sn.d, Value.bool no1, Value.bool nf1, Value.int .i64 (bif no1 then tx1 else nx1), Value.int .i64 (bif no1 then tr1 else nr1), Value.int .i64 (bif no1 then tl1 else nl1), Value.int .i64 nd1, Value.bool true, Value.bool nf2, Value.int .i64 nx2, Value.int .i64 nr2, Value.int .i64 nl2, Value.int .i64 nd2, Value.bool no3, Value.bool nf3, Value.int .i64 nx3, Value.int .i64 nr3, Value.int .i64 nl3, Value.int .i64 nd3, Value.int .i64 m', Value.int .i64 r', Value.int .i64 i'] 55)).jk kw).alloc (Obj.cells #[Value.bool true, Value.bool nf2, Value.int .i64 nx2, Value.int .i64 nr2, Value.int .i64 nl2, Value.int .i64 nd2] 33))).jk qq.k) (StF.cls (n := 30) [some false, some false, some false] (by kernel_rfl)) rfl rfl (by kernel_rfl) (by kernel_rfl) (by kernel_rfl) (StF.idle1 (by decide)) ?_
        simp only [List.getElem_toArray, List.getElem_cons_zero, List.getElem_cons_succ]
        go_big_quiet_step (fail)
        refine wpQuiet_nil ?_
        refine GoW.call (i := 4) (fun w => (W1.out w).mono fun _ _ h => ⟨h.1, Q.of_eq h.2⟩) rfl (by kernel_rfl) (by kernel_rfl) (by kernel_rfl) (StF.idleQ (by decide)) rfl (by intro w; simp [go_sem]) ?_
        simp only [List.getElem_toArray, List.getElem_cons_zero, List.getElem_cons_succ, Act.put, List.setIfInBounds_toArray, List.set_cons_succ, List.set_cons_zero]
        refine GoW.take (i := 5) _ (fun l w hc => (StF.any (md := Region.Mode.any) l w hc.1 (mem_ready.1 hc.2.1).1 hc.2.2)) rfl rfl (by kernel_rfl) (by kernel_rfl) (by kernel_rfl) (StF.idle1 (by decide)) ?_
        simp only [List.getElem_toArray, List.getElem_cons_zero, List.getElem_cons_succ]
        go_big_quiet_step (fail)
        refine wpQuiet_nil ?_
        refine GoW.val (i := 6) (v := Value.int .i64 tx2) rfl (by kernel_rfl) (by kernel_rfl) (by kernel_rfl) (StF.idle1 (by decide)) rfl (by intro w; simp [go_sem, Mtx2]) ?_
        simp only [List.getElem_toArray, List.getElem_cons_zero, List.getElem_cons_succ, Act.put, List.setIfInBounds_toArray, List.set_cons_succ, List.set_cons_zero]
        refine GoW.take (i := 7) _ (fun l w hc => (StF.any (md := Region.Mode.any) l w hc.1 (mem_ready.1 hc.2.1).1 hc.2.2)) rfl rfl (by kernel_rfl) (by kernel_rfl) (by kernel_rfl) (StF.idle1 (by decide)) ?_
        simp only [List.getElem_toArray, List.getElem_cons_zero, List.getElem_cons_succ]
        go_big_quiet_step (fail)
        refine wpQuiet_nil ?_
        refine GoW.take (i := 8) (fun w' => ∃ qq : JF, w' = ((((((((w.alloc (Obj.cells #[Value.int .i64 U.a, Value.int .i64 U.b, Value.int .i64 U.c, Value.int .i64 U.d, Value.int .i64 V.a, Value.int .i64 V.b, Value.int .i64 V.c, Value.int .i64 V.d, Value.int .i64 T.a, Value.int .i64 T.b, Value.int .i64 T.c, Value.int .i64 T.d, Value.int .i64 X.a, Value.int .i64 X.b, Value.int .i64 X.c, Value.int .i64 X.d, Value.int .i64 Y.a, Value.int .i64 Y.b, Value.int .i64 Y.c, Value.int .i64 Y.d, Value.int .i64 Z.a, Value.int .i64 Z.b, Value.int .i64 Z.c, Value.int .i64 Z.d, Value.int .i64 Pn.a, Value.int .i64 Pn.b, Value.int .i64 Pn.c, Value.int .i64 Pn.d, Value.int .i64 Qn.a, Value.int .i64 Qn.b, Value.int .i64 Qn.c, Value.int .i64 Qn.d, Value.int .i64 Sn.a, Value.int .i64 Sn.b, Value.int .i64 Sn.c, Value.int .i64 Sn.d, Value.bool no1, Value.bool nf1, Value.int .i64 nx1, Value.int .i64 nr1, Value.int .i64 nl1, Value.int .i64 nd1, Value.bool true, Value.bool nf2, Value.int .i64 nx2, Value.int .i64 nr2, Value.int .i64 nl2, Value.int .i64 nd2, Value.bool no3, Value.bool nf3, Value.int .i64 nx3, Value.int .i64 nr3, Value.int .i64 nl3, Value.int .i64 nd3, Value.int .i64 m', Value.int .i64 r', Value.int .i64 i'] 55)).alloc (Obj.cells #[Value.int .i64 g1, Value.int .i64 g2, Value.int .i64 g3] 74)).jk kA).jk kF).alloc (Obj.cells #[Value.int .i64 U.a, Value.int .i64 U.b, Value.int .i64 U.c, Value.int .i64 U.d, Value.int .i64 V.a, Value.int .i64 V.b, Value.int .i64 V.c, Value.int .i64 V.d, Value.int .i64 T.a, Value.int .i64 T.b, Value.int .i64 T.c, Value.int .i64 T.d, Value.int .i64 X.a, Value.int .i64 X.b, Value.int .i64 X.c, Value.int .i64 X.d, Value.int .i64 Y.a, Value.int .i64 Y.b, Value.int .i64 Y.c, Value.int .i64 Y.d, Value.int .i64 Z.a, Value.int .i64 Z.b, Value.int .i64 Z.c, Value.int .i64 Z.d, Value.int .i64 Pn.a, Value.int .i64 Pn.b, Value.int .i64 Pn.c, Value.int .i64 Pn.d, Value.int .i64 Qn.a, Value.int .i64 Qn.b, Value.int .i64 Qn.c, Value.int .i64 Qn.d, Value.int .i64 Sn.a, Value.int .i64 Sn.b, Value.int .i64 Sn.c, Value.int .i64 Sn.d, Value.bool no1, Value.bool nf1, Value.int .i64 (bif no1 then tx1 else nx1), Value.int .i64 (bif no1 then tr1 else nr1), Value.int .i64 (bif no1 then tl1 else nl1), Value.int .i64 nd1, Value.bool true, Value.bool nf2, Value.int .i64 nx2, Value.int .i64 nr2, Value.int .i64 nl2, Value.int .i64 nd2, Value.bool no3, Value.bool nf3, Value.int .i64 nx3, Value.int .i64 nr3, Value.int .i64 nl3, Value.int .i64 nd3, Value.int .i64 m', Value.int .i64 r', Value.int .i64 i'] 55)).jk kw).alloc (Obj.cells #[Value.bool true, Value.bool nf2, Value.int .i64 nx2, Value.int .i64 nr2, Value.int .i64 nl2, Value.int .i64 nd2] 33))).jk qq.k) (StF.cls (n := 30) [some false, some false, some false] (by kernel_rfl)) rfl rfl (by kernel_rfl) (by kernel_rfl) (by kernel_rfl) (StF.idle1 (by decide)) ?_
        simp only [List.getElem_toArray, List.getElem_cons_zero, List.getElem_cons_succ]
        go_big_quiet_step (fail)
        refine wpQuiet_nil ?_
        refine GoW.take (i := 9) _ (fun l w hc => (StF.any (md := Region.Mode.any) l w hc.1 (mem_ready.1 hc.2.1).1 hc.2.2)) rfl rfl (by kernel_rfl) (by kernel_rfl) (by kernel_rfl) (StF.idle1 (by decide)) ?_
        simp only [List.getElem_toArray, List.getElem_cons_zero, List.getElem_cons_succ]
        go_big_quiet_step (fail)
        refine wpQuiet_nil ?_
        refine GoW.take (i := 10) (fun w' => ∃ qq : JF, w' = ((((((((w.alloc (Obj.cells #[Value.int .i64 U.a, Value.int .i64 U.b, Value.int .i64 U.c, Value.int .i64 U.d, Value.int .i64 V.a, Value.int .i64 V.b, Value.int .i64 V.c, Value.int .i64 V.d, Value.int .i64 T.a, Value.int .i64 T.b, Value.int .i64 T.c, Value.int .i64 T.d, Value.int .i64 X.a, Value.int .i64 X.b, Value.int .i64 X.c, Value.int .i64 X.d, Value.int .i64 Y.a, Value.int .i64 Y.b, Value.int .i64 Y.c, Value.int .i64 Y.d, Value.int .i64 Z.a, Value.int .i64 Z.b, Value.int .i64 Z.c, Value.int .i64 Z.d, Value.int .i64 Pn.a, Value.int .i64 Pn.b, Value.int .i64 Pn.c, Value.int .i64 Pn.d, Value.int .i64 Qn.a, Value.int .i64 Qn.b, Value.int .i64 Qn.c, Value.int .i64 Qn.d, Value.int .i64 Sn.a, Value.int .i64 Sn.b, Value.int .i64 Sn.c, Value.int .i64 Sn.d, Value.bool no1, Value.bool nf1, Value.int .i64 nx1, Value.int .i64 nr1, Value.int .i64 nl1, Value.int .i64 nd1, Value.bool true, Value.bool nf2, Value.int .i64 nx2, Value.int .i64 nr2, Value.int .i64 nl2, Value.int .i64 nd2, Value.bool no3, Value.bool nf3, Value.int .i64 nx3, Value.int .i64 nr3, Value.int .i64 nl3, Value.int .i64 nd3, Value.int .i64 m', Value.int .i64 r', Value.int .i64 i'] 55)).alloc (Obj.cells #[Value.int .i64 g1, Value.int .i64 g2, Value.int .i64 g3] 74)).jk kA).jk kF).alloc (Obj.cells #[Value.int .i64 U.a, Value.int .i64 U.b, Value.int .i64 U.c, Value.int .i64 U.d, Value.int .i64 V.a, Value.int .i64 V.b, Value.int .i64 V.c, Value.int .i64 V.d, Value.int .i64 T.a, Value.int .i64 T.b, Value.int .i64 T.c, Value.int .i64 T.d, Value.int .i64 X.a, Value.int .i64 X.b, Value.int .i64 X.c, Value.int .i64 X.d, Value.int .i64 Y.a, Value.int .i64 Y.b, Value.int .i64 Y.c, Value.int .i64 Y.d, Value.int .i64 Z.a, Value.int .i64 Z.b, Value.int .i64 Z.c, Value.int .i64 Z.d, Value.int .i64 Pn.a, Value.int .i64 Pn.b, Value.int .i64 Pn.c, Value.int .i64 Pn.d, Value.int .i64 Qn.a, Value.int .i64 Qn.b, Value.int .i64 Qn.c, Value.int .i64 Qn.d, Value.int .i64 Sn.a, Value.int .i64 Sn.b, Value.int .i64 Sn.c, Value.int .i64 Sn.d, Value.bool no1, Value.bool nf1, Value.int .i64 (bif no1 then tx1 else nx1), Value.int .i64 (bif no1 then tr1 else nr1), Value.int .i64 (bif no1 then tl1 else nl1), Value.int .i64 nd1, Value.bool true, Value.bool nf2, Value.int .i64 nx2, Value.int .i64 nr2, Value.int .i64 nl2, Value.int .i64 nd2, Value.bool no3, Value.bool nf3, Value.int .i64 nx3, Value.int .i64 nr3, Value.int .i64 nl3, Value.int .i64 nd3, Value.int .i64 m', Value.int .i64 r', Value.int .i64 i'] 55)).jk kw).alloc (Obj.cells #[Value.bool true, Value.bool nf2, Value.int .i64 nx2, Value.int .i64 nr2, Value.int .i64 nl2, Value.int .i64 nd2] 33))).jk qq.k) (StF.cls (n := 30) [some false, some false, some false] (by kernel_rfl)) rfl rfl (by kernel_rfl) (by kernel_rfl) (by kernel_rfl) (StF.idle1 (by decide)) ?_
        simp only [List.getElem_toArray, List.getElem_cons_zero, List.getElem_cons_succ]
        go_big_quiet_step (fail)
        refine wpQuiet_nil ?_
        refine GoW.call (i := 11) (fun w => (W2.out w).mono fun _ _ h => ⟨h.1, Q.of_eq h.2⟩) rfl (by kernel_rfl) (by kernel_rfl) (by kernel_rfl) (StF.idleQ (by decide)) rfl (by intro w; simp [go_sem]) ?_
        simp only [List.getElem_toArray, List.getElem_cons_zero, List.getElem_cons_succ, Act.put, List.setIfInBounds_toArray, List.set_cons_succ, List.set_cons_zero]
        refine GoW.take (i := 12) _ (fun l w hc => (StF.any (md := Region.Mode.any) l w hc.1 (mem_ready.1 hc.2.1).1 hc.2.2)) rfl rfl (by kernel_rfl) (by kernel_rfl) (by kernel_rfl) (StF.idle1 (by decide)) ?_
        simp only [List.getElem_toArray, List.getElem_cons_zero, List.getElem_cons_succ]
        go_big_quiet_step (fail)
        refine wpQuiet_nil ?_
        refine GoW.val (i := 13) (v := Value.int .i64 tr2) rfl (by kernel_rfl) (by kernel_rfl) (by kernel_rfl) (StF.idle1 (by decide)) rfl (by intro w; simp [go_sem, Mtr2]) ?_
        simp only [List.getElem_toArray, List.getElem_cons_zero, List.getElem_cons_succ, Act.put, List.setIfInBounds_toArray, List.set_cons_succ, List.set_cons_zero]
        refine GoW.take (i := 14) _ (fun l w hc => (StF.any (md := Region.Mode.any) l w hc.1 (mem_ready.1 hc.2.1).1 hc.2.2)) rfl rfl (by kernel_rfl) (by kernel_rfl) (by kernel_rfl) (StF.idle1 (by decide)) ?_
        simp only [List.getElem_toArray, List.getElem_cons_zero, List.getElem_cons_succ]
        go_big_quiet_step (fail)
        refine wpQuiet_nil ?_
        refine GoW.take (i := 15) (fun w' => ∃ qq : JF, w' = ((((((((w.alloc (Obj.cells #[Value.int .i64 U.a, Value.int .i64 U.b, Value.int .i64 U.c, Value.int .i64 U.d, Value.int .i64 V.a, Value.int .i64 V.b, Value.int .i64 V.c, Value.int .i64 V.d, Value.int .i64 T.a, Value.int .i64 T.b, Value.int .i64 T.c, Value.int .i64 T.d, Value.int .i64 X.a, Value.int .i64 X.b, Value.int .i64 X.c, Value.int .i64 X.d, Value.int .i64 Y.a, Value.int .i64 Y.b, Value.int .i64 Y.c, Value.int .i64 Y.d, Value.int .i64 Z.a, Value.int .i64 Z.b, Value.int .i64 Z.c, Value.int .i64 Z.d, Value.int .i64 Pn.a, Value.int .i64 Pn.b, Value.int .i64 Pn.c, Value.int .i64 Pn.d, Value.int .i64 Qn.a, Value.int .i64 Qn.b, Value.int .i64 Qn.c, Value.int .i64 Qn.d, Value.int .i64 Sn.a, Value.int .i64 Sn.b, Value.int .i64 Sn.c, Value.int .i64 Sn.d, Value.bool no1, Value.bool nf1, Value.int .i64 nx1, Value.int .i64 nr1, Value.int .i64 nl1, Value.int .i64 nd1, Value.bool true, Value.bool nf2, Value.int .i64 nx2, Value.int .i64 nr2, Value.int .i64 nl2, Value.int .i64 nd2, Value.bool no3, Value.bool nf3, Value.int .i64 nx3, Value.int .i64 nr3, Value.int .i64 nl3, Value.int .i64 nd3, Value.int .i64 m', Value.int .i64 r', Value.int .i64 i'] 55)).alloc (Obj.cells #[Value.int .i64 g1, Value.int .i64 g2, Value.int .i64 g3] 74)).jk kA).jk kF).alloc (Obj.cells #[Value.int .i64 U.a, Value.int .i64 U.b, Value.int .i64 U.c, Value.int .i64 U.d, Value.int .i64 V.a, Value.int .i64 V.b, Value.int .i64 V.c, Value.int .i64 V.d, Value.int .i64 T.a, Value.int .i64 T.b, Value.int .i64 T.c, Value.int .i64 T.d, Value.int .i64 X.a, Value.int .i64 X.b, Value.int .i64 X.c, Value.int .i64 X.d, Value.int .i64 Y.a, Value.int .i64 Y.b, Value.int .i64 Y.c, Value.int .i64 Y.d, Value.int .i64 Z.a, Value.int .i64 Z.b, Value.int .i64 Z.c, Value.int .i64 Z.d, Value.int .i64 Pn.a, Value.int .i64 Pn.b, Value.int .i64 Pn.c, Value.int .i64 Pn.d, Value.int .i64 Qn.a, Value.int .i64 Qn.b, Value.int .i64 Qn.c, Value.int .i64 Qn.d, Value.int .i64 Sn.a, Value.int .i64 Sn.b, Value.int .i64 Sn.c, Value.int .i64 Sn.d, Value.bool no1, Value.bool nf1, Value.int .i64 (bif no1 then tx1 else nx1), Value.int .i64 (bif no1 then tr1 else nr1), Value.int .i64 (bif no1 then tl1 else nl1), Value.int .i64 nd1, Value.bool true, Value.bool nf2, Value.int .i64 nx2, Value.int .i64 nr2, Value.int .i64 nl2, Value.int .i64 nd2, Value.bool no3, Value.bool nf3, Value.int .i64 nx3, Value.int .i64 nr3, Value.int .i64 nl3, Value.int .i64 nd3, Value.int .i64 m', Value.int .i64 r', Value.int .i64 i'] 55)).jk kw).alloc (Obj.cells #[Value.bool true, Value.bool nf2, Value.int .i64 nx2, Value.int .i64 nr2, Value.int .i64 nl2, Value.int .i64 nd2] 33))).jk qq.k) (StF.cls (n := 30) [some false, some false, some false] (by kernel_rfl)) rfl rfl (by kernel_rfl) (by kernel_rfl) (by kernel_rfl) (StF.idle1 (by decide)) ?_
        simp only [List.getElem_toArray, List.getElem_cons_zero, List.getElem_cons_succ]
        go_big_quiet_step (fail)
        refine wpQuiet_nil ?_
        refine GoW.take (i := 16) _ (fun l w hc => (StF.any (md := Region.Mode.any) l w hc.1 (mem_ready.1 hc.2.1).1 hc.2.2)) rfl rfl (by kernel_rfl) (by kernel_rfl) (by kernel_rfl) (StF.idle1 (by decide)) ?_
        simp only [List.getElem_toArray, List.getElem_cons_zero, List.getElem_cons_succ]
        go_big_quiet_step (fail)
        refine wpQuiet_nil ?_
        refine GoW.take (i := 17) (fun w' => ∃ qq : JF, w' = ((((((((w.alloc (Obj.cells #[Value.int .i64 U.a, Value.int .i64 U.b, Value.int .i64 U.c, Value.int .i64 U.d, Value.int .i64 V.a, Value.int .i64 V.b, Value.int .i64 V.c, Value.int .i64 V.d, Value.int .i64 T.a, Value.int .i64 T.b, Value.int .i64 T.c, Value.int .i64 T.d, Value.int .i64 X.a, Value.int .i64 X.b, Value.int .i64 X.c, Value.int .i64 X.d, Value.int .i64 Y.a, Value.int .i64 Y.b, Value.int .i64 Y.c, Value.int .i64 Y.d, Value.int .i64 Z.a, Value.int .i64 Z.b, Value.int .i64 Z.c, Value.int .i64 Z.d, Value.int .i64 Pn.a, Value.int .i64 Pn.b, Value.int .i64 Pn.c, Value.int .i64 Pn.d, Value.int .i64 Qn.a, Value.int .i64 Qn.b, Value.int .i64 Qn.c, Value.int .i64 Qn.d, Value.int .i64 Sn.a, Value.int .i64 Sn.b, Value.int .i64 Sn.c, Value.int .i64 Sn.d, Value.bool no1, Value.bool nf1, Value.int .i64 nx1, Value.int .i64 nr1, Value.int .i64 nl1, Value.int .i64 nd1, Value.bool true, Value.bool nf2, Value.int .i64 nx2, Value.int .i64 nr2, Value.int .i64 nl2, Value.int .i64 nd2, Value.bool no3, Value.bool nf3, Value.int .i64 nx3, Value.int .i64 nr3, Value.int .i64 nl3, Value.int .i64 nd3, Value.int .i64 m', Value.int .i64 r', Value.int .i64 i'] 55)).alloc (Obj.cells #[Value.int .i64 g1, Value.int .i64 g2, Value.int .i64 g3] 74)).jk kA).jk kF).alloc (Obj.cells #[Value.int .i64 U.a, Value.int .i64 U.b, Value.int .i64 U.c, Value.int .i64 U.d, Value.int .i64 V.a, Value.int .i64 V.b, Value.int .i64 V.c, Value.int .i64 V.d, Value.int .i64 T.a, Value.int .i64 T.b, Value.int .i64 T.c, Value.int .i64 T.d, Value.int .i64 X.a, Value.int .i64 X.b, Value.int .i64 X.c, Value.int .i64 X.d, Value.int .i64 Y.a, Value.int .i64 Y.b, Value.int .i64 Y.c, Value.int .i64 Y.d, Value.int .i64 Z.a, Value.int .i64 Z.b, Value.int .i64 Z.c, Value.int .i64 Z.d, Value.int .i64 Pn.a, Value.int .i64 Pn.b, Value.int .i64 Pn.c, Value.int .i64 Pn.d, Value.int .i64 Qn.a, Value.int .i64 Qn.b, Value.int .i64 Qn.c, Value.int .i64 Qn.d, Value.int .i64 Sn.a, Value.int .i64 Sn.b, Value.int .i64 Sn.c, Value.int .i64 Sn.d, Value.bool no1, Value.bool nf1, Value.int .i64 (bif no1 then tx1 else nx1), Value.int .i64 (bif no1 then tr1 else nr1), Value.int .i64 (bif no1 then tl1 else nl1), Value.int .i64 nd1, Value.bool true, Value.bool nf2, Value.int .i64 nx2, Value.int .i64 nr2, Value.int .i64 nl2, Value.int .i64 nd2, Value.bool no3, Value.bool nf3, Value.int .i64 nx3, Value.int .i64 nr3, Value.int .i64 nl3, Value.int .i64 nd3, Value.int .i64 m', Value.int .i64 r', Value.int .i64 i'] 55)).jk kw).alloc (Obj.cells #[Value.bool true, Value.bool nf2, Value.int .i64 nx2, Value.int .i64 nr2, Value.int .i64 nl2, Value.int .i64 nd2] 33))).jk qq.k) (StF.cls (n := 30) [some false, some false, some false] (by kernel_rfl)) rfl rfl (by kernel_rfl) (by kernel_rfl) (by kernel_rfl) (StF.idle1 (by decide)) ?_
        simp only [List.getElem_toArray, List.getElem_cons_zero, List.getElem_cons_succ]
        go_big_quiet_step (fail)
        refine wpQuiet_nil ?_
        refine GoW.call (i := 18) (fun w => (W3.out w).mono fun _ _ h => ⟨h.1, Q.of_eq h.2⟩) rfl (by kernel_rfl) (by kernel_rfl) (by kernel_rfl) (StF.idleQ (by decide)) rfl (by intro w; simp [go_sem]) ?_
        simp only [List.getElem_toArray, List.getElem_cons_zero, List.getElem_cons_succ, Act.put, List.setIfInBounds_toArray, List.set_cons_succ, List.set_cons_zero]
        refine GoW.take (i := 19) _ (fun l w hc => (StF.any (md := Region.Mode.any) l w hc.1 (mem_ready.1 hc.2.1).1 hc.2.2)) rfl rfl (by kernel_rfl) (by kernel_rfl) (by kernel_rfl) (StF.idle1 (by decide)) ?_
        simp only [List.getElem_toArray, List.getElem_cons_zero, List.getElem_cons_succ]
        go_big_quiet_step (fail)
        refine wpQuiet_nil ?_
        refine GoW.val (i := 20) (v := Value.int .i64 tl2) rfl (by kernel_rfl) (by kernel_rfl) (by kernel_rfl) (StF.idle1 (by decide)) rfl (by intro w; simp [go_sem, Mtl2]) ?_
        simp only [List.getElem_toArray, List.getElem_cons_zero, List.getElem_cons_succ, Act.put, List.setIfInBounds_toArray, List.set_cons_succ, List.set_cons_zero]
        refine GoW.take (i := 21) _ (fun l w hc => (StF.any (md := Region.Mode.any) l w hc.1 (mem_ready.1 hc.2.1).1 hc.2.2)) rfl rfl (by kernel_rfl) (by kernel_rfl) (by kernel_rfl) (StF.idle1 (by decide)) ?_
        simp only [List.getElem_toArray, List.getElem_cons_zero, List.getElem_cons_succ]
        go_big_quiet_step (fail)
        refine wpQuiet_nil ?_
        refine GoW.store (i := 22) (n := 30) [false, false, false] rfl rfl (by kernel_rfl) (by kernel_rfl) (by kernel_rfl) (by kernel_rfl) rfl ?_ ?_
        · intro k K hK
          simp only [List.getElem_toArray, List.getElem_cons_zero, List.getElem_cons_succ]
          simp only [List.headD_cons, List.tail_cons, cond_true, cond_false]
          go_simp
          refine hK _ ?_
          simp only [setFl, List.headD_cons, List.tail_cons, cond_true, cond_false, beq_self_eq_true, Nat.reduceBEq, if_true, Bool.false_eq_true, if_false]
          exact (Q.refl _).jk k
        simp only [List.getElem_toArray, List.getElem_cons_zero, List.getElem_cons_succ, Act.put, List.setIfInBounds_toArray, List.set_cons_succ, List.set_cons_zero]
        refine GoW.take (i := 23) _ (fun l w hc => (StF.any (md := Region.Mode.any) l w hc.1 (mem_ready.1 hc.2.1).1 hc.2.2)) rfl rfl (by kernel_rfl) (by kernel_rfl) (by kernel_rfl) (StF.idle1 (by decide)) ?_
        simp only [List.getElem_toArray, List.getElem_cons_zero, List.getElem_cons_succ]
        go_big_quiet_step (fail)
        refine wpQuiet_nil ?_
        refine GoW.store (i := 24) (n := 30) [true, false, false] rfl rfl (by kernel_rfl) (by kernel_rfl) (by kernel_rfl) (by kernel_rfl) rfl ?_ ?_
        · intro k K hK
          simp only [List.getElem_toArray, List.getElem_cons_zero, List.getElem_cons_succ]
          simp only [List.headD_cons, List.tail_cons, cond_true, cond_false]
          go_simp
          refine hK _ ?_
          simp only [setFl, List.headD_cons, List.tail_cons, cond_true, cond_false, beq_self_eq_true, Nat.reduceBEq, if_true, Bool.false_eq_true, if_false]
          exact (Q.refl _).jk k
        simp only [List.getElem_toArray, List.getElem_cons_zero, List.getElem_cons_succ, Act.put, List.setIfInBounds_toArray, List.set_cons_succ, List.set_cons_zero]
        refine GoW.take (i := 25) _ (fun l w hc => (StF.any (md := Region.Mode.any) l w hc.1 (mem_ready.1 hc.2.1).1 hc.2.2)) rfl rfl (by kernel_rfl) (by kernel_rfl) (by kernel_rfl) (StF.idle1 (by decide)) ?_
        simp only [List.getElem_toArray, List.getElem_cons_zero, List.getElem_cons_succ]
        go_big_quiet_step (fail)
        refine wpQuiet_nil ?_
        refine GoW.store (i := 26) (n := 30) [true, true, false] rfl rfl (by kernel_rfl) (by kernel_rfl) (by kernel_rfl) (by kernel_rfl) rfl ?_ ?_
        · intro k K hK
          simp only [List.getElem_toArray, List.getElem_cons_zero, List.getElem_cons_succ]
          simp only [List.headD_cons, List.tail_cons, cond_true, cond_false]
          go_simp
          refine hK _ ?_
          simp only [setFl, List.headD_cons, List.tail_cons, cond_true, cond_false, beq_self_eq_true, Nat.reduceBEq, if_true, Bool.false_eq_true, if_false]
          exact (Q.refl _).jk k
        simp only [List.getElem_toArray, List.getElem_cons_zero, List.getElem_cons_succ, Act.put, List.setIfInBounds_toArray, List.set_cons_succ, List.set_cons_zero]
        refine GoW.done (by kernel_rfl) ?_
        intro _ hw'
        obtain ⟨kq, rfl⟩ : ∃ k, _ = ((((((((w.alloc (Obj.cells #[Value.int .i64 U.a, Value.int .i64 U.b, Value.int .i64 U.c, Value.int .i64 U.d, Value.int .i64 V.a, Value.int .i64 V.b, Value.int .i64 V.c, Value.int .i64 V.d, Value.int .i64 T.a, Value.int .i64 T.b, Value.int .i64 T.c, Value.int .i64 T.d, Value.int .i64 X.a, Value.int .i64 X.b, Value.int .i64 X.c, Value.int .i64 X.d, Value.int .i64 Y.a, Value.int .i64 Y.b, Value.int .i64 Y.c, Value.int .i64 Y.d, Value.int .i64 Z.a, Value.int .i64 Z.b, Value.int .i64 Z.c, Value.int .i64 Z.d, Value.int .i64 Pn.a, Value.int .i64 Pn.b, Value.int .i64 Pn.c, Value.int .i64 Pn.d, Value.int .i64 Qn.a, Value.int .i64 Qn.b, Value.int .i64 Qn.c, Value.int .i64 Qn.d, Value.int .i64 Sn.a, Value.int .i64 Sn.b, Value.int .i64 Sn.c, Value.int .i64 Sn.d, Value.bool no1, Value.bool nf1, Value.int .i64 nx1, Value.int .i64 nr1, Value.int .i64 nl1, Value.int .i64 nd1, Value.bool true, Value.bool nf2, Value.int .i64 nx2, Value.int .i64 nr2, Value.int .i64 nl2, Value.int .i64 nd2, Value.bool no3, Value.bool nf3, Value.int .i64 nx3, Value.int .i64 nr3, Value.int .i64 nl3, Value.int .i64 nd3, Value.int .i64 m', Value.int .i64 r', Value.int .i64 i'] 55)).alloc (Obj.cells #[Value.int .i64 g1, Value.int .i64 g2, Value.int .i64 g3] 74)).jk kA).jk kF).alloc (Obj.cells #[Value.int .i64 U.a, Value.int .i64 U.b, Value.int .i64 U.c, Value.int .i64 U.d, Value.int .i64 V.a, Value.int .i64 V.b, Value.int .i64 V.c, Value.int .i64 V.d, Value.int .i64 T.a, Value.int .i64 T.b, Value.int .i64 T.c, Value.int .i64 T.d, Value.int .i64 X.a, Value.int .i64 X.b, Value.int .i64 X.c, Value.int .i64 X.d, Value.int .i64 Y.a, Value.int .i64 Y.b, Value.int .i64 Y.c, Value.int .i64 Y.d, Value.int .i64 Z.a, Value.int .i64 Z.b, Value.int .i64 Z.c, Value.int .i64 Z.d, Value.int .i64 Pn.a, Value.int .i64 Pn.b, Value.int .i64 Pn.c, Value.int .i64 Pn.d, Value.int .i64 Qn.a, Value.int .i64 Qn.b, Value.int .i64 Qn.c, Value.int .i64 Qn.d, Value.int .i64 Sn.a, Value.int .i64 Sn.b, Value.int .i64 Sn.c, Value.int .i64 Sn.d, Value.bool no1, Value.bool nf1, Value.int .i64 (bif no1 then tx1 else nx1), Value.int .i64 (bif no1 then tr1 else nr1), Value.int .i64 (bif no1 then tl1 else nl1), Value.int .i64 nd1, Value.bool true, Value.bool nf2, Value.int .i64 nx2, Value.int .i64 nr2, Value.int .i64 nl2, Value.int .i64 nd2, Value.bool no3, Value.bool nf3, Value.int .i64 nx3, Value.int .i64 nr3, Value.int .i64 nl3, Value.int .i64 nd3, Value.int .i64 m', Value.int .i64 r', Value.int .i64 i'] 55)).jk kw).alloc (Obj.cells #[Value.bool true, Value.bool nf2, Value.int .i64 tx2, Value.int .i64 tr2, Value.int .i64 tl2, Value.int .i64 nd2] 33))).jk k := hw'
        go_wp2_with fail
        go_roundw
        case rel => exact .inr (.inr (.inl ⟨rfl, by repeat' (first | exact Q.refl _ | refine Q.alloc ?_ _ | refine Q.jk ?_ _ | refine Q.drew ?_)⟩))
        case measure => simp [intOf]
    · cases no3
      · go_wp2_with fail
        go_roundw
        case rel => exact .inr (.inr (.inr (⟨rfl, by repeat' (first | exact Q.refl _ | refine Q.alloc ?_ _ | refine Q.jk ?_ _ | refine Q.drew ?_)⟩)))
        case measure => simp [intOf]
      · go_wp2_with fail
        refine wp_region_W 27 rfl (StF [22, 24, 26] (fun l : List Bool => (((((((w.alloc (Obj.cells #[Value.int .i64 U.a, Value.int .i64 U.b, Value.int .i64 U.c, Value.int .i64 U.d, Value.int .i64 V.a, Value.int .i64 V.b, Value.int .i64 V.c, Value.int .i64 V.d, Value.int .i64 T.a, Value.int .i64 T.b, Value.int .i64 T.c, Value.int .i64 T.d, Value.int .i64 X.a, Value.int .i64 X.b, Value.int .i64 X.c, Value.int .i64 X.d, Value.int .i64 Y.a, Value.int .i64 Y.b, Value.int .i64 Y.c, Value.int .i64 Y.d, Value.int .i64 Z.a, Value.int .i64 Z.b, Value.int .i64 Z.c, Value.int .i64 Z.d, Value.int .i64 Pn.a, Value.int .i64 Pn.b, Value.int .i64 Pn.c, Value.int .i64 Pn.d, Value.int .i64 Qn.a, Value.int .i64 Qn.b, Value.int .i64 Qn.c, Value.int .i64 Qn.d, Value.int .i64 Sn.a, Value.int .i64 Sn.b, Value.int .i64 Sn.c, Value.int .i64 Sn.d, Value.bool no1, Value.bool nf1, Value.int .i64 nx1, Value.int .i64 nr1, Value.int .i64 nl1, Value.int .i64 nd1, Value.bool no2, Value.bool nf2, Value.int .i64 nx2, Value.int .i64 nr2, Value.int .i64 nl2, Value.int .i64 nd2, Value.bool true, Value.bool nf3, Value.int .i64 nx3, Value.int .i64 nr3, Value.int .i64 nl3, Value.int .i64 nd3, Value.int .i64 m', Value.int .i64 r', Value.int .i64 i'] 55)).alloc (Obj.cells #[Value.int .i64 g1, Value.int .i64 g2, Value.int .i64 g3] 74)).jk kA).jk kF).alloc (Obj.cells #[Value.int .i64 U.a, Value.int .i64 U.b, Value.int .i64 U.c, Value.int .i64 U.d, Value.int .i64 V.a, Value.int .i64 V.b, Value.int .i64 V.c, Value.int .i64 V.d, Value.int .i64 T.a, Value.int .i64 T.b, Value.int .i64 T.c, Value.int .i64 T.d, Value.int .i64 X.a, Value.int .i64 X.b, Value.int .i64 X.c, Value.int .i64 X.d, Value.int .i64 Y.a, Value.int .i64 Y.b, Value.int .i64 Y.c, Value.int .i64 Y.d, Value.int .i64 Z.a, Value.int .i64 Z.b, Value.int .i64 Z.c, Value.int .i64 Z.d, Value.int .i64 Pn.a, Value.int .i64 Pn.b, Value.int .i64 Pn.c, Value.int .i64 Pn.d, Value.int .i64 Qn.a, Value.int .i64 Qn.b, Value.int .i64 Qn.c, Value.int .i64 Qn.d, Value.int .i64 Sn.a, Value.int .i64 Sn.b, Value.int .i64 Sn.c, Value.int .i64 Sn.d, Value.bool no1, Value.bool nf1, Value.int .i64 (bif no1 then tx1 else nx1), Value.int .i64 (bif no1 then tr1 else nr1), Value.int .i64 (bif no1 then tl1 else nl1), Value.int .i64 nd1, Value.bool no2, Value.bool nf2, Value.int .i64 (bif no2 then tx2 else nx2), Value.int .i64 (bif no2 then tr2 else nr2), Value.int .i64 (bif no2 then tl2 else nl2), Value.int .i64 nd2, Value.bool true, Value.bool nf3, Value.int .i64 nx3, Value.int .i64 nr3, Value.int .i64 nl3, Value.int .i64 nd3, Value.int .i64 m', Value.int .i64 r', Value.int .i64 i'] 55)).jk kw).alloc (Obj.cells #[Value.bool true, Value.bool nf3, Value.int .i64 (bif (l.headD false) then tx3 else nx3), Value.int .i64 (bif (l.tail.headD false) then tr3 else nr3), Value.int .i64 (bif (l.tail.tail.headD false) then tl3 else nl3), Value.int .i64 nd3] 33)))) (by kernel_rfl) (StF.of [false, false, false] (by kernel_rfl) (by exact (Q.refl _).drew)) ?_
        refine GoW.take (i := 0) _ (fun l w hc => (StF.any (md := Region.Mode.any) l w hc.1 (mem_ready.1 hc.2.1).1 hc.2.2)) rfl rfl (by kernel_rfl) (by kernel_rfl) (by kernel_rfl) (StF.idle1 (by decide)) ?_
        simp only [List.getElem_toArray, List.getElem_cons_zero]
        go_big_quiet_step (fail)
        refine wpQuiet_nil ?_
        refine GoW.take (i := 1) (fun w' => ∃ qq : JF, w' = ((((((((w.alloc (Obj.cells #[Value.int .i64 U.a, Value.int .i64 U.b, Value.int .i64 U.c, Value.int .i64 U.d, Value.int .i64 V.a, Value.int .i64 V.b, Value.int .i64 V.c, Value.int .i64 V.d, Value.int .i64 T.a, Value.int .i64 T.b, Value.int .i64 T.c, Value.int .i64 T.d, Value.int .i64 X.a, Value.int .i64 X.b, Value.int .i64 X.c, Value.int .i64 X.d, Value.int .i64 Y.a, Value.int .i64 Y.b, Value.int .i64 Y.c, Value.int .i64 Y.d, Value.int .i64 Z.a, Value.int .i64 Z.b, Value.int .i64 Z.c, Value.int .i64 Z.d, Value.int .i64 Pn.a, Value.int .i64 Pn.b, Value.int .i64 Pn.c, Value.int .i64 Pn.d, Value.int .i64 Qn.a, Value.int .i64 Qn.b, Value.int .i64 Qn.c, Value.int .i64 Qn.d, Value.int .i64 Sn.a, Value.int .i64 Sn.b, Value.int .i64 Sn.c, Value.int .i64 Sn.d, Value.bool no1, Value.bool nf1, Value.int .i64 nx1, Value.int .i64 nr1, Value.int .i64 nl1, Value.int .i64 nd1, Value.bool no2, Value.bool nf2, Value.int .i64 nx2, Value.int .i64 nr2, Value.int .i64 nl2, Value.int .i64 nd2, Value.bool true, Value.bool nf3, Value.int .i64 nx3, Value.int .i64 nr3, Value.int .i64 nl3, Value.int .i64 nd3, Value.int .i64 m', Value.int .i64 r', Value.int .i64 i'] 55)).alloc (Obj.cells #[Value.int .i64 g1, Value.int .i64 g2, Value.int .i64 g3] 74)).jk kA).jk kF).alloc (Obj.cells #[Value.int .i64 U.a, Value.int .i64 U.b, Value.int .i64 U.c, Value.int .i64 U.d, Value.int .i64 V.a, Value.int .i64 V.b, Value.int .i64 V.c, Value.int .i64 V.d, Value.int .i64 T.a, Value.int .i64 T.b, Value.int .i64 T.c, Value.int .i64 T.d, Value.int .i64 X.a, Value.int .i64 X.b, Value.int .i64 X.c, Value.int .i64 X.d, Value.int .i64 Y.a, Value.int .i64 Y.b, Value.int .i64 Y.c, Value.int .i64 Y.d, Value.int .i64 Z.a, Value.int .i64 Z.b, Value.int .i64 Z.c, Value.int .i64 Z.d, Value.int .i64 Pn.a, Value.int .i64 Pn.b, Value.int .i64 Pn.c, Value.int .i64 Pn.d, Value.int .i64 Qn.a, Value.int .i64 Qn.b, Value.int .i64 Qn.c, Value.int .i64 Qn.d, Value.int .i64 Sn.a, Value.int .i64 Sn.b, Value.int .i64 Sn.c, Value.int .i64 Sn.d, Value.bool no1, Value.bool nf1, Value.int .i64 (bif no1 then tx1 else nx1), Value.int .i64 (bif no1 then tr1 else nr1), Value.int .i64 (bif no1 then tl1 else nl1), Value.int .i64 nd1, Value.bool no2, Value.bool nf2, Value.int .i64 (bif no2 then tx2 else nx2), Value.int .i64 (bif no2 then tr2 else nr2), Value.int .i64 (bif no2 then tl2 else nl2), Value.int .i64 nd2, Value.bool true, Value.bool nf3, Value.int .i64 nx3, Value.int .i64 nr3, Value.int .i64 nl3, Value.int .i64 nd3, Value.int .i64 m', Value.int .i64 r', Value.int .i64 i'] 55)).jk kw).alloc (Obj.cells #[Value.bool true, Value.bool nf3, Value.int .i64 nx3, Value.int .i64 nr3, Value.int .i64 nl3, Value.int .i64 nd3] 33))).jk qq.k) (StF.cls (n := 30) [some false, some false, some false] (by kernel_rfl)) rfl rfl (by kernel_rfl) (by kernel_rfl) (by kernel_rfl) (StF.idle1 (by decide)) ?_
        simp only [List.getElem_toArray, List.getElem_cons_zero, List.getElem_cons_succ]
        go_big_quiet_step (fail)
        refine wpQuiet_nil ?_
        refine GoW.take (i := 2) _ (fun l w hc => (StF.any (md := Region.Mode.any) l w hc.1 (mem_ready.1 hc.2.1).1 hc.2.2)) rfl rfl (by kernel_rfl) (by kernel_rfl) (by kernel_rfl) (StF.idle1 (by decide)) ?_
        simp only [List.getElem_toArray, List.getElem_cons_zero, List.getElem_cons_succ]
        go_big_quiet_step (fail)
        refine wpQuiet_nil ?_
        refine GoW.take (i := 3) (fun w' => ∃ qq : JF, w' = ((((((((w.alloc (Obj.cells #[Value.int .i64 U.a, Value.int .i64 U.b, Value.int .i64 U.c, Value.int .i64 U.d, Value.int .i64 V.a, Value.int .i64 V.b, Value.int .i64 V.c, Value.int .i64 V.d, Value.int .i64 T.a, Value.int .i64 T.b, Value.int .i64 T.c, Value.int .i64 T.d, Value.int .i64 X.a, Value.int .i64 X.b, Value.int .i64 X.c, Value.int .i64 X.d, Value.int .i64 Y.a, Value.int .i64 Y.b, Value.int .i64 Y.c, Value.int .i64 Y.d, Value.int .i64 Z.a, Value.int .i64 Z.b, Value.int .i64 Z.c, Value.int .i64 Z.d, Value.int .i64 Pn.a, Value.int .i64 Pn.b, Value.int .i64 Pn.c, Value.int .i64 Pn.d, Value.int .i64 Qn.a, Value.int .i64 Qn.b, Value.int .i64 Qn.c, Value.int .i64 Qn.d, Value.int .i64 Sn.a, Value.int .i64 Sn.b, Value.int .i64 Sn.c, Value.int .i64 Sn.d, Value.bool no1, Value.bool nf1, Value.int .i64 nx1, Value.int .i64 nr1, Value.int .i64 nl1, Value.int .i64 nd1, Value.bool no2, Value.bool nf2, Value.int .i64 nx2, Value.int .i64 nr2, Value.int .i64 nl2, Value.int .i64 nd2, Value.bool true, Value.bool nf3, Value.int .i64 nx3, Value.int .i64 nr3, Value.int .i64 nl3, Value.int .i64 nd3, Value.int .i64 m', Value.int .i64 r', Value.int .i64 i'] 55)).alloc (Obj.cells #[Value.int .i64 g1, Value.int .i64 g2, Value.int .i64 g3] 74)).jk kA).jk kF).alloc (Obj.cells #[Value.int .i64 U.a, Value.int .i64 U.b, Value.int .i64 U.c, Value.int .i64 U.d, Value.int .i64 V.a, Value.int .i64 V.b, Value.int .i64 V.c, Value.int .i64 V.d, Value.int .i64 T.a, Value.int .i64 T.b, Value.int .i64 T.c, Value.int .i64 T.d, Value.int .i64 X.a, Value.int .i64 X.b, Value.int .i64 X.c, Value.int .i64 X.d, Value.int .i64 Y.a, Value.int .i64 Y.b, Value.int .i64 Y.c, Value.int .i64 Y.d, Value.int .i64 Z.a, Value.int .i64 Z.b, Value.int .i64 Z.c, Value.int .i64 Z.d, Value.int .i64 Pn.a, Value.int .i64 Pn.b, Value.int .i64 Pn.c, Value.int .i64 Pn.d, Value.int .i64 Qn.a, Value.int .i64 Qn.b, Value.int .i64 Qn.c, Value.int .i64 Qn.d, Value.int .i64 Sn.a, Value.int .i64 Sn.b, Value.int .i64 Sn.c, Value.int .i64 Sn.d, Value.bool no1, Value.bool nf1, Value.int .i64 (bif no1 then tx1 else nx1), Value.int .i64 (bif no1 then tr1 else nr1), Value.int .i64 (bif no1 then tl1 else nl1), Value.int .i64 nd1, Value.bool no2, Value.bool nf2, Value.int .i64 (bif no2 then tx2 else nx2), Value.int .i64 (bif no2 then tr2 else nr2), Value.int .i64 (bif no2 then tl2 else nl2), Value.int .i64 nd2, Value.bool true, Value.bool nf3, Value.int .i64 nx3, Value.int .i64 nr3, Value.int .i64 nl3, Value.int .i64 nd3, Value.int .i64 m', Value.int .i64 r', Value.int .i64 i'] 55)).jk kw).alloc (Obj.cells #[Value.bool true, Value.bool nf3, Value.int .i64 nx3, Value.int .i64 nr3, Value.int .i64 nl3, Value.int .i64 nd3] 33))).jk qq.k) (StF.cls (n := 30) [some false, some false, some false] (by kernel_rfl)) rfl rfl (by kernel_rfl) (by kernel_rfl) (by kernel_rfl) (StF.idle1 (by decide)) ?_
        simp only [List.getElem_toArray, List.getElem_cons_zero, List.getElem_cons_succ]
        go_big_quiet_step (fail)
        refine wpQuiet_nil ?_
        refine GoW.call (i := 4) (fun w => (W1.out w).mono fun _ _ h => ⟨h.1, Q.of_eq h.2⟩) rfl (by kernel_rfl) (by kernel_rfl) (by kernel_rfl) (StF.idleQ (by decide)) rfl (by intro w; simp [go_sem]) ?_
        simp only [List.getElem_toArray, List.getElem_cons_zero, List.getElem_cons_succ, Act.put, List.setIfInBounds_toArray, List.set_cons_succ, List.set_cons_zero]
        refine GoW.take (i := 5) _ (fun l w hc => (StF.any (md := Region.Mode.any) l w hc.1 (mem_ready.1 hc.2.1).1 hc.2.2)) rfl rfl (by kernel_rfl) (by kernel_rfl) (by kernel_rfl) (StF.idle1 (by decide)) ?_
        simp only [List.getElem_toArray, List.getElem_cons_zero, List.getElem_cons_succ]
        go_big_quiet_step (fail)
        refine wpQuiet_nil ?_
        refine GoW.val (i := 6) (v := Value.int .i64 tx3) rfl (by kernel_rfl) (by kernel_rfl) (by kernel_rfl) (StF.idle1 (by decide)) rfl (by intro w; simp [go_sem, Mtx3]) ?_
        simp only [List.getElem_toArray, List.getElem_cons_zero, List.getElem_cons_succ, Act.put, List.setIfInBounds_toArray, List.set_cons_succ, List.set_cons_zero]
        refine GoW.take (i := 7) _ (fun l w hc => (StF.any (md := Region.Mode.any) l w hc.1 (mem_ready.1 hc.2.1).1 hc.2.2)) rfl rfl (by kernel_rfl) (by kernel_rfl) (by kernel_rfl) (StF.idle1 (by decide)) ?_
        simp only [List.getElem_toArray, List.getElem_cons_zero, List.getElem_cons_succ]
        go_big_quiet_step (fail)
        refine wpQuiet_nil ?_
        refine GoW.take (i := 8) (fun w' => ∃ qq : JF, w' = ((((((((w.alloc (Obj.cells #[Value.int .i64 U.a, Value.int .i64 U.b, Value.int .i64 U.c, Value.int .i64 U.d, Value.int .i64 V.a, Value.int .i64 V.b, Value.int .i64 V.c, Value.int .i64 V.d, Value.int .i64 T.a, Value.int .i64 T.b, Value.int .i64 T.c, Value.int .i64 T.d, Value.int .i64 X.a, Value.int .i64 X.b, Value.int .i64 X.c, Value.int .i64 X.d, Value.int .i64 Y.a, Value.int .i64 Y.b, Value.int .i64 Y.c, Value.int .i64 Y.d, Value.int .i64 Z.a, Value.int .i64 Z.b, Value.int .i64 Z.c, Value.int .i64 Z.d, Value.int .i64 Pn.a, Value.int .i64 Pn.b, Value.int .i64 Pn.c, Value.int .i64 Pn.d, Value.int .i64 Qn.a, Value.int .i64 Qn.b, Value.int .i64 Qn.c, Value.int .i64 Qn.d, Value.int .i64 Sn.a, Value.int .i64 Sn.b, Value.int .i64 Sn.c, Value.int .i64 Sn.d, Value.bool no1, Value.bool nf1, Value.int .i64 nx1, Value.int .i64 nr1, Value.int .i64 nl1, Value.int .i64 nd1, Value.bool no2, Value.bool nf2, Value.int .i64 nx2, Value.int .i64 nr2, Value.int .i64 nl2, Value.int .i64 nd2, Value.bool true, Value.bool nf3, Value.int .i64 nx3, Value.int .i64 nr3, Value.int .i64 nl3, Value.int .i64 nd3, Value.int .i64 m', Value.int .i64 r', Value.int .i64 i'] 55)).alloc (Obj.cells #[Value.int .i64 g1, Value.int .i64 g2, Value.int .i64 g3] 74)).jk kA).jk kF).alloc (Obj.cells #[Value.int .i64 U.a, Value.int .i64 U.b, Value.int .i64 U.c, Value.int .i64 U.d, Value.int .i64 V.a, Value.int .i64 V.b, Value.int .i64 V.c, Value.int .i64 V.d, Value.int .i64 T.a, Value.int .i64 T.b, Value.int .i64 T.c, Value.int .i64 T.d, Value.int .i64 X.a, Value.int .i64 X.b, Value.int .i64 X.c, Value.int .i64 X.d, Value.int .i64 Y.a, Value.int .i64 Y.b, Value.int .i64 Y.c, Value.int .i64 Y.d, Value.int .i64 Z.a, Value.int .i64 Z.b, Value.int .i64 Z.c, Value.int .i64 Z.d, Value.int .i64 Pn.a, Value.int .i64 Pn.b, Value.int .i64 Pn.c, Value.int .i64 Pn.d, Value.int .i64 Qn.a, Value.int .i64 Qn.b, Value.int .i64 Qn.c, Value.int .i64 Qn.d, Value.int .i64 Sn.a, Value.int .i64 Sn.b, Value.int .i64 Sn.c, Value.int .i64 Sn.d, Value.bool no1, Value.bool nf1, Value.int .i64 (bif no1 then tx1 else nx1), Value.int .i64 (bif no1 then tr1 else nr1), Value.int .i64 (bif no1 then tl1 else nl1), Value.int .i64 nd1, Value.bool no2, Value.bool nf2, Value.int .i64 (bif no2 then tx2 else nx2), Value.int .i64 (bif no2 then tr2 else nr2), Value.int .i64 (bif no2 then tl2 else nl2), Value.int .i64 nd2, Value.bool true, Value.bool nf3, Value.int .i64 nx3, Value.int .i64 nr3, Value.int .i64 nl3, Value.int .i64 nd3, Value.int .i64 m', Value.int .i64 r', Value.int .i64 i'] 55)).jk kw).alloc (Obj.cells #[Value.bool true, Value.bool nf3, Value.int .i64 nx3, Value.int .i64 nr3, Value.int .i64 nl3, Value.int .i64 nd3] 33))).jk qq.k) (StF.cls (n := 30) [some false, some false, some false] (by kernel_rfl)) rfl rfl (by kernel_rfl) (by kernel_rfl) (by kernel_rfl) (StF.idle1 (by decide)) ?_
        simp only [List.getElem_toArray, List.getElem_cons_zero, List.getElem_cons_succ]
        go_big_quiet_step (fail)
        refine wpQuiet_nil ?_
        refine GoW.take (i := 9) _ (fun l w hc => (StF.any (md := Region.Mode.any) l w hc.1 (mem_ready.1 hc.2.1).1 hc.2.2)) rfl rfl (by kernel_rfl) (by kernel_rfl) (by kernel_rfl) (StF.idle1 (by decide)) ?_
        simp only [List.getElem_toArray, List.getElem_cons_zero, List.getElem_cons_succ]
        go_big_quiet_step (fail)
        refine wpQuiet_nil ?_
        refine GoW.take (i := 10) (fun w' => ∃ qq : JF, w' = ((((((((w.alloc (Obj.cells #[Value.int .i64 U.a, Value.int .i64 U.b, Value.int .i64 U.c, Value.int .i64 U.d, Value.int .i64 V.a, Value.int .i64 V.b, Value.int .i64 V.c, Value.int .i64 V.d, Value.int .i64 T.a, Value.int .i64 T.b, Value.int .i64 T.c, Value.int .i64 T.d, Value.int .i64 X.a, Value.int .i64 X.b, Value.int .i64 X.c, Value.int .i64 X.d, Value.int .i64 Y.a, Value.int .i64 Y.b, Value.int .i64 Y.c, Value.int .i64 Y.d, Value.int .i64 Z.a, Value.int .i64 Z.b, Value.int .i64 Z.c, Value.int .i64 Z.d, Value.int .i64 Pn.a, Value.int .i64 Pn.b, Value.int .i64 Pn.c, Value.int .i64 Pn.d, Value.int .i64 Qn.a, Value.int .i64 Qn.b, Value.int .i64 Qn.c, Value.int .i64 Qn.d, Value.int .i64 Sn.a, Value.int .i64 Sn.b, Value.int .i64 Sn.c, Value.int .i64 Sn.d, Value.bool no1, Value.bool nf1, Value.int .i64 nx1, Value.int .i64 nr1, Value.int .i64 nl1, Value.int .i64 nd1, Value.bool no2, Value.bool nf2, Value.int .i64 nx2, Value.int .i64 nr2, Value.int .i64 nl2, Value.int .i64 nd2, Value.bool true, Value.bool nf3, Value.int .i64 nx3, Value.int .i64 nr3, Value.int .i64 nl3, Value.int .i64 nd3, Value.int .i64 m', Value.int .i64 r', Value.int .i64 i'] 55)).alloc (Obj.cells #[Value.int .i64 g1, Value.int .i64 g2, Value.int .i64 g3] 74)).jk kA).jk kF).alloc (Obj.cells #[Value.int .i64 U.a, Value.int .i64 U.b, Value.int .i64 U.c, Value.int .i64 U.d, Value.int .i64 V.a, Value.int .i64 V.b, Value.int .i64 V.c, Value.int .i64 V.d, Value.int .i64 T.a, Value.int .i64 T.b, Value.int .i64 T.c, Value.int .i64 T.d, Value.int .i64 X.a, Value.int .i64 X.b, Value.int .i64 X.c, Value.int .i64 X.d, Value.int .i64 Y.a, Value.int .i64 Y.b, Value.int .i64 Y.c, Value.int .i64 Y.d, Value.int .i64 Z.a, Value.int .i64 Z.b, Value.int .i64 Z.c, Value.int .i64 Z.d, Value.int .i64 Pn.a, Value.int .i64 Pn.b, Value.int .i64 Pn.c, Value.int .i64 Pn.d, Value.int .i64 Qn.a, Value.int .i64 Qn.b, Value.int .i64 Qn.c, Value.int .i64 Qn.d, Value.int .i64 Sn.a, Value.int .i64 Sn.b, Value.int .i64 Sn.c, Value.int .i64 Sn.d, Value.bool no1, Value.bool nf1, Value.int .i64 (bif no1 then tx1 else nx1), Value.int .i64 (bif no1 then tr1 else nr1), Value.int .i64 (bif no1 then tl1 else nl1), Value.int .i64 nd1, Value.bool no2, Value.bool nf2, Value.int .i64 (bif no2 then tx2 else nx2), Value.int .i64 (bif no2 then tr2 else nr2), Value.int .i64 (bif no2 then tl2 else nl2), Value.int .i64 nd2, Value.bool true, Value.bool nf3, Value.int .i64 nx3, Value.int .i64 nr3, Value.int .i64 nl3, Value.int .i64 nd3, Value.int .i64 m', Value.int .i64 r', Value.int .i64 i'] 55)).jk kw).alloc (Obj.cells #[Value.bool true, Value.bool nf3, Value.int .i64 nx3, Value.int .i64 nr3, Value.int .i64 nl3, Value.int .i64 nd3] 33))).jk qq.k) (StF.cls (n := 30) [some false, some false, some false] (by kernel_rfl)) rfl rfl (by kernel_rfl) (by kernel_rfl) (by kernel_rfl) (StF.idle1 (by decide)) ?_
        simp only [List.getElem_toArray, List.getElem_cons_zero, List.getElem_cons_succ]
        go_big_quiet_step (fail)
        refine wpQuiet_nil ?_
        refine GoW.call (i := 11) (fun w => (W2.out w).mono fun _ _ h => ⟨h.1, Q.of_eq h.2⟩) rfl (by kernel_rfl) (by kernel_rfl) (by kernel_rfl) (StF.idleQ (by decide)) rfl (by intro w; simp [go_sem]) ?_
        simp only [List.getElem_toArray, List.getElem_cons_zero, List.getElem_cons_succ, Act.put, List.setIfInBounds_toArray, List.set_cons_succ, List.set_cons_zero]
        refine GoW.take (i := 12) _ (fun l w hc => (StF.any (md := Region.Mode.any) l w hc.1 (mem_ready.1 hc.2.1).1 hc.2.2)) rfl rfl (by kernel_rfl) (by kernel_rfl) (by kernel_rfl) (StF.idle1 (by decide)) ?_
        simp only [List.getElem_toArray, List.getElem_cons_zero, List.getElem_cons_succ]
        go_big_quiet_step (fail)
        refine wpQuiet_nil ?_
        refine GoW.val (i := 13) (v := Value.int .i64 tr3) rfl (by kernel_rfl) (by kernel_rfl) (by kernel_rfl) (StF.idle1 (by decide)) rfl (by intro w; simp [go_sem, Mtr3]) ?_
        simp only [List.getElem_toArray, List.getElem_cons_zero, List.getElem_cons_succ, Act.put, List.setIfInBounds_toArray, List.set_cons_succ, List.set_cons_zero]
        refine GoW.take (i := 14) _ (fun l w hc => (StF.any (md := Region.Mode.any) l w hc.1 (mem_ready.1 hc.2.1).1 hc.2.2)) rfl rfl (by kernel_rfl) (by kernel_rfl) (by kernel_rfl) (StF.idle1 (by decide)) ?_
        simp only [List.getElem_toArray, List.getElem_cons_zero, List.getElem_cons_succ]
        go_big_quiet_step (fail)
        refine wpQuiet_nil ?_
        refine GoW.take (i := 15) (fun w' => ∃ qq : JF, w' = ((((((((w.alloc (Obj.cells #[Value.int .i64 U.a, Value.int .i64 U.b, Value.int .i64 U.c, Value.int .i64 U.d, Value.int .i64 V.a, Value.int .i64 V.b, Value.int .i64 V.c, Value.int .i64 V.d, Value.int .i64 T.a, Value.int .i64 T.b, Value.int .i64 T.c, Value.int .i64 T.d, Value.int .i64 X.a, Value.int .i64 X.b, Value.int .i64 X.c, Value.int .i64 X.d, Value.int .i64 Y.a, Value.int .i64 Y.b, Value.int .i64 Y.c, Value.int .i64 Y.d, Value.int .i64 Z.a, Value.int .i64 Z.b, Value.int .i64 Z.c, Value.int .i64 Z.d, Value.int .i64 Pn.a, Value.int .i64 Pn.b, Value.int .i64 Pn.c, Value.int .i64 Pn.d, Value.int .i64 Qn.a, Value.int .i64 Qn.b, Value.int .i64 Qn.c, Value.int .i64 Qn.d, Value.int .i64 Sn.a, Value.int .i64 Sn.b, Value.int .i64 Sn.c, Value.int .i64 Sn.d, Value.bool no1, Value.bool nf1, Value.int .i64 nx1, Value.int .i64 nr1, Value.int .i64 nl1, Value.int .i64 nd1, Value.bool no2, Value.bool nf2, Value.int .i64 nx2, Value.int .i64 nr2, Value.int .i64 nl2, Value.int .i64 nd2, Value.bool true, Value.bool nf3, Value.int .i64 nx3, Value.int .i64 nr3, Value.int .i64 nl3, Value.int .i64 nd3, Value.int .i64 m', Value.int .i64 r', Value.int .i64 i'] 55)).alloc (Obj.cells #[Value.int .i64 g1, Value.int .i64 g2, Value.int .i64 g3] 74)).jk kA).jk kF).alloc (Obj.cells #[Value.int .i64 U.a, Value.int .i64 U.b, Value.int .i64 U.c, Value.int .i64 U.d, Value.int .i64 V.a, Value.int .i64 V.b, Value.int .i64 V.c, Value.int .i64 V.d, Value.int .i64 T.a, Value.int .i64 T.b, Value.int .i64 T.c, Value.int .i64 T.d, Value.int .i64 X.a, Value.int .i64 X.b, Value.int .i64 X.c, Value.int .i64 X.d, Value.int .i64 Y.a, Value.int .i64 Y.b, Value.int .i64 Y.c, Value.int .i64 Y.d, Value.int .i64 Z.a, Value.int .i64 Z.b, Value.int .i64 Z.c, Value.int .i64 Z.d, Value.int .i64 Pn.a, Value.int .i64 Pn.b, Value.int .i64 Pn.c, Value.int .i64 Pn.d, Value.int .i64 Qn.a, Value.int .i64 Qn.b, Value.int .i64 Qn.c, Value.int .i64 Qn.d, Value.int .i64 Sn.a, Value.int .i64 Sn.b, Value.int .i64 Sn.c, Value.int .i64 Sn.d, Value.bool no1, Value.bool nf1, Value.int .i64 (bif no1 then tx1 else nx1), Value.int .i64 (bif no1 then tr1 else nr1), Value.int .i64 (bif no1 then tl1 else nl1), Value.int .i64 nd1, Value.bool no2, Value.bool nf2, Value.int .i64 (bif no2 then tx2 else nx2), Value.int .i64 (bif no2 then tr2 else nr2), Value.int .i64 (bif no2 then tl2 else nl2), Value.int .i64 nd2, Value.bool true, Value.bool nf3, Value.int .i64 nx3, Value.int .i64 nr3, Value.int .i64 nl3, Value.int .i64 nd3, Value.int .i64 m', Value.int .i64 r', Value.int .i64 i'] 55)).jk kw).alloc (Obj.cells #[Value.bool true, Value.bool nf3, Value.int .i64 nx3, Value.int .i64 nr3, Value.int .i64 nl3, Value.int .i64 nd3] 33))).jk qq.k) (StF.cls (n := 30) [some false, some false, some false] (by kernel_rfl)) rfl rfl (by kernel_rfl) (by kernel_rfl) (by kernel_rfl) (StF.idle1 (by decide)) ?_
        simp only [List.getElem_toArray, List.getElem_cons_zero, List.getElem_cons_succ]
        go_big_quiet_step (fail)
        refine wpQuiet_nil ?_
        refine GoW.take (i := 16) _ (fun l w hc => (StF.any (md := Region.Mode.any) l w hc.1 (mem_ready.1 hc.2.1).1 hc.2.2)) rfl rfl (by kernel_rfl) (by kernel_rfl) (by kernel_rfl) (StF.idle1 (by decide)) ?_
        simp only [List.getElem_toArray, List.getElem_cons_zero, List.getElem_cons_succ]
        go_big_quiet_step (fail)
        refine wpQuiet_nil ?_
        refine GoW.take (i := 17) (fun w' => ∃ qq : JF, w' = ((((((((w.alloc (Obj.cells #[Value.int .i64 U.a, Value.int .i64 U.b, Value.int .i64 U.c, Value.int .i64 U.d, Value.int .i64 V.a, Value.int .i64 V.b, Value.int .i64 V.c, Value.int .i64 V.d, Value.int .i64 T.a, Value.int .i64 T.b, Value.int .i64 T.c, Value.int .i64 T.d, Value.int .i64 X.a, Value.int .i64 X.b, Value.int .i64 X.c, Value.int .i64 X.d, Value.int .i64 Y.a, Value.int .i64 Y.b, Value.int .i64 Y.c, Value.int .i64 Y.d, Value.int .i64 Z.a, Value.int .i64 Z.b, Value.int .i64 Z.c, Value.int .i64 Z.d, Value.int .i64 Pn.a, Value.int .i64 Pn.b, Value.int .i64 Pn.c, Value.int .i64 Pn.d, Value.int .i64 Qn.a, Value.int .i64 Qn.b, Value.int .i64 Qn.c, Value.int .i64 Qn.d, Value.int .i64 Sn.a, Value.int .i64 Sn.b, Value.int .i64 Sn.c, Value.int .i64 Sn.d, Value.bool no1, Value.bool nf1, Value.int .i64 nx1, Value.int .i64 nr1, Value.int .i64 nl1, Value.int .i64 nd1, Value.bool no2, Value.bool nf2, Value.int .i64 nx2, Value.int .i64 nr2, Value.int .i64 nl2, Value.int .i64 nd2, Value.bool true, Value.bool nf3, Value.int .i64 nx3, Value.int .i64 nr3, Value.int .i64 nl3, Value.int .i64 nd3, Value.int .i64 m', Value.int .i64 r', Value.int .i64 i'] 55)).alloc (Obj.cells #[Value.int .i64 g1, Value.int .i64 g2, Value.int .i64 g3] 74)).jk kA).jk kF).alloc (Obj.cells #[Value.int .i64 U.a, Value.int .i64 U.b, Value.int .i64 U.c, Value.int .i64 U.d, Value.int .i64 V.a, Value.int .i64 V.b, Value.int .i64 V.c, Value.int .i64 V.d, Value.int .i64 T.a, Value.int .i64 T.b, Value.int .i64 T.c, Value.int .i64 T.d, Value.int .i64 X.a, Value.int .i64 X.b, Value.int .i64 X.c, Value.int .i64 X.d, Value.int .i64 Y.a, Value.int .i64 Y.b, Value.int .i64 Y.c, Value.int .i64 Y.d, Value.int .i64 Z.a, Value.int .i64 Z.b, Value.int .i64 Z.c, Value.int .i64 Z.d, Value.int .i64 Pn.a, Value.int .i64 Pn.b, Value.int .i64 Pn.c, Value.int .i64 Pn.d, Value.int .i64 Qn.a, Value.int .i64 Qn.b, Value.int .i64 Qn.c, Value.int .i64 Qn.d, Value.int .i64 Sn.a, Value.int .i64 Sn.b, Value.int .i64 Sn.c, Value.int .i64 Sn.d, Value.bool no1, Value.bool nf1, Value.int .i64 (bif no1 then tx1 else nx1), Value.int .i64 (bif no1 then tr1 else nr1), Value.int .i64 (bif no1 then tl1 else nl1), Value.int .i64 nd1, Value.bool no2, Value.bool nf2, Value.int .i64 (bif no2 then tx2 else nx2), Value.int .i64 (bif no2 then tr2 else nr2), Value.int .i64 (bif no2 then tl2 else nl2), Value.int .i64 nd2, Value.bool true, Value.bool nf3, Value.int .i64 nx3, Value.int .i64 nr3, Value.int .i64 nl3, Value.int .i64 nd3, Value.int .i64 m', Value.int .i64 r', Value.int .i64 i'] 55)).jk kw).alloc (Obj.cells #[Value.bool true, Value.bool nf3, Value.int .i64 nx3, Value.int .i64 nr3, Value.int .i64 nl3, Value.int .i64 nd3] 33))).jk qq.k) (StF.cls (n := 30) [some false, some false, some false] (by kernel_rfl)) rfl rfl (by kernel_rfl) (by kernel_rfl) (by kernel_rfl) (StF.idle1 (by decide)) ?_
        simp only [List.getElem_toArray, List.getElem_cons_zero, List.getElem_cons_succ]
        go_big_quiet_step (fail)
        refine wpQuiet_nil ?_
        refine GoW.call (i := 18) (fun w => (W3.out w).mono fun _ _ h => ⟨h.1, Q.of_eq h.2⟩) rfl (by kernel_rfl) (by kernel_rfl) (by kernel_rfl) (StF.idleQ (by decide)) rfl (by intro w; simp [go_sem]) ?_
        simp only [List.getElem_toArray, List.getElem_cons_zero, List.getElem_cons_succ, Act.put, List.setIfInBounds_toArray, List.set_cons_succ, List.set_cons_zero]
        refine GoW.take (i := 19) _ (fun l w hc => (StF.any (md := Region.Mode.any) l w hc.1 (mem_ready.1 hc.2.1).1 hc.2.2)) rfl rfl (by kernel_rfl) (by kernel_rfl) (by kernel_rfl) (StF.idle1 (by decide)) ?_
        simp only [List.getElem_toArray, List.getElem_cons_zero, List.getElem_cons_succ]
        go_big_quiet_step (fail)
        refine wpQuiet_nil ?_
        refine GoW.val (i := 20) (v := Value.int .i64 tl3) rfl (by kernel_rfl) (by kernel_rfl) (by kernel_rfl) (StF.idle1 (by decide)) rfl (by intro w; simp [go_sem, Mtl3]) ?_
        simp only [List.getElem_toArray, List.getElem_cons_zero, List.getElem_cons_succ, Act.put, List.setIfInBounds_toArray, List.set_cons_succ, List.set_cons_zero]
        refine GoW.take (i := 21) _ (fun l w hc => (StF.any (md := Region.Mode.any) l w hc.1 (mem_ready.1 hc.2.1).1 hc.2.2)) rfl rfl (by kernel_rfl) (by kernel_rfl) (by kernel_rfl) (StF.idle1 (by decide)) ?_
        simp only [List.getElem_toArray, List.getElem_cons_zero, List.getElem_cons_succ]
        go_big_quiet_step (fail)
        refine wpQuiet_nil ?_
        refine GoW.store (i := 22) (n := 30) [false, false, false] rfl rfl (by kernel_rfl) (by kernel_rfl) (by kernel_rfl) (by kernel_rfl) rfl ?_ ?_
        · intro k K hK
          simp only [List.getElem_toArray, List.getElem_cons_zero, List.getElem_cons_succ]
          simp only [List.headD_cons, List.tail_cons, cond_true, cond_false]
          go_simp
          refine hK _ ?_
          simp only [setFl, List.headD_cons, List.tail_cons, cond_true, cond_false, beq_self_eq_true, Nat.reduceBEq, if_true, Bool.false_eq_true, if_false]
          exact (Q.refl _).jk k
        simp only [List.getElem_toArray, List.getElem_cons_zero, List.getElem_cons_succ, Act.put, List.setIfInBounds_toArray, List.set_cons_succ, List.set_cons_zero]
        refine GoW.take (i := 23) _ (fun l w hc => (StF.any (md := Region.Mode.any) l w hc.1 (mem_ready.1 hc.2.1).1 hc.2.2)) rfl rfl (by kernel_rfl) (by kernel_rfl) (by kernel_rfl) (StF.idle1 (by decide)) ?_
        simp only [List.getElem_toArray, List.getElem_cons_zero, List.getElem_cons_succ]
        go_big_quiet_step (fail)
        refine wpQuiet_nil ?_
        refine GoW.store (i := 24) (n := 30) [true, false, false] rfl rfl (by kernel_rfl) (by kernel_rfl) (by kernel_rfl) (by kernel_rfl) rfl ?_ ?_
        · intro k K hK
          simp only [List.getElem_toArray, List.getElem_cons_zero, List.getElem_cons_succ]
          simp only [List.headD_cons, List.tail_cons, cond_true, cond_false]
          go_simp
          refine hK _ ?_
          simp only [setFl, List.headD_cons, List.tail_cons, cond_true, cond_false, beq_self_eq_true, Nat.reduceBEq, if_true, Bool.false_eq_true, if_false]
          exact (Q.refl _).jk k
        simp only [List.getElem_toArray, List.getElem_cons_zero, List.getElem_cons_succ, Act.put, List.setIfInBounds_toArray, List.set_cons_succ, List.set_cons_zero]
        refine GoW.take (i := 25) _ (fun l w hc => (StF.any (md := Region.Mode.any) l w hc.1 (mem_ready.1 hc.2.1).1 hc.2.2)) rfl rfl (by kernel_rfl) (by kernel_rfl) (by kernel_rfl) (StF.idle1 (by decide)) ?_
        simp only [List.getElem_toArray, List.getElem_cons_zero, List.getElem_cons_succ]
        go_big_quiet_step (fail)
        refine wpQuiet_nil ?_
        refine GoW.store (i := 26) (n := 30) [true, true, false] rfl rfl (by kernel_rfl) (by kernel_rfl) (by kernel_rfl) (by kernel_rfl) rfl ?_ ?_
        · intro k K hK
          simp only [List.getElem_toArray, List.getElem_cons_zero, List.getElem_cons_succ]
          simp only [List.headD_cons, List.tail_cons, cond_true, cond_false]
          go_simp
          refine hK _ ?_
          simp only [setFl, List.headD_cons, List.tail_cons, cond_true, cond_false, beq_self_eq_true, Nat.reduceBEq, if_true, Bool.false_eq_true, if_false]
          exact (Q.refl _).jk k
        simp only [List.getElem_toArray, List.getElem_cons_zero, List.getElem_cons_succ, Act.put, List.setIfInBounds_toArray, List.set_cons_succ, List.set_cons_zero]
        refine GoW.done (by kernel_rfl) ?_
        intro _ hw'
        obtain ⟨kq, rfl⟩ : ∃ k, _ = ((((((((w.alloc (Obj.cells #[Value.int .i64 U.a, Value.int .i64 U.b, Value.int .i64 U.c, Value.int .i64 U.d, Value.int .i64 V.a, Value.int .i64 V.b, Value.int .i64 V.c, Value.int .i64 V.d, Value.int .i64 T.a, Value.int .i64 T.b, Value.int .i64 T.c, Value.int .i64 T.d, Value.int .i64 X.a, Value.int .i64 X.b, Value.int .i64 X.c, Value.int .i64 X.d, Value.int .i64 Y.a, Value.int .i64 Y.b, Value.int .i64 Y.c, Value.int .i64 Y.d, Value.int .i64 Z.a, Value.int .i64 Z.b, Value.int .i64 Z.c, Value.int .i64 Z.d, Value.int .i64 Pn.a, Value.int .i64 Pn.b, Value.int .i64 Pn.c, Value.int .i64 Pn.d, Value.int .i64 Qn.a, Value.int .i64 Qn.b, Value.int .i64 Qn.c, Value.int .i64 Qn.d, Value.int .i64 Sn.a, Value.int .i64 Sn.b, Value.int .i64 Sn.c, Value.int .i64 Sn.d, Value.bool no1, Value.bool nf1, Value.int .i64 nx1, Value.int .i64 nr1, Value.int .i64 nl1, Value.int .i64 nd1, Value.bool no2, Value.bool nf2, Value.int .i64 nx2, Value.int .i64 nr2, Value.int .i64 nl2, Value.int .i64 nd2, Value.bool true, Value.bool nf3, Value.int .i64 nx3, Value.int .i64 nr3, Value.int .i64 nl3, Value.int .i64 nd3, Value.int .i64 m', Value.int .i64 r', Value.int .i64 i'] 55)).alloc (Obj.cells #[Value.int .i64 g1, Value.int .i64 g2, Value.int .i64 g3] 74)).jk kA).jk kF).alloc (Obj.cells #[Value.int .i64 U.a, Value.int .i64 U.b, Value.int .i64 U.c, Value.int .i64 U.d, Value.int .i64 V.a, Value.int .i64 V.b, Value.int .i64 V.c, Value.int .i64 V.d, Value.int .i64 T.a, Value.int .i64 T.b, Value.int .i64 T.c, Value.int .i64 T.d, Value.int .i64 X.a, Value.int .i64 X.b, Value.int .i64 X.c, Value.int .i64 X.d, Value.int .i64 Y.a, Value.int .i64 Y.b, Value.int .i64 Y.c, Value.int .i64 Y.d, Value.int .i64 Z.a, Value.int .i64 Z.b, Value.int .i64 Z.c, Value.int .i64 Z.d, Value.int .i64 Pn.a, Value.int .i64 Pn.b, Value.int .i64 Pn.c, Value.int .i64 Pn.d, Value.int .i64 Qn.a, Value.int .i64 Qn.b, Value.int .i64 Qn.c, Value.int .i64 Qn.d, Value.int .i64 Sn.a, Value.int .i64 Sn.b, Value.int .i64 Sn.c, Value.int .i64 Sn.d, Value.bool no1, Value.bool nf1, Value.int .i64 (bif no1 then tx1 else nx1), Value.int .i64 (bif no1 then tr1 else nr1), Value.int .i64 (bif no1 then tl1 else nl1), Value.int .i64 nd1, Value.bool no2, Value.bool nf2, Value.int .i64 (bif no2 then tx2 else nx2), Value.int .i64 (bif no2 then tr2 else nr2), Value.int .i64 (bif no2 then tl2 else nl2), Value.int .i64 nd2, Value.bool true, Value.bool nf3, Value.int .i64 nx3, Value.int .i64 nr3, Value.int .i64 nl3, Value.int .i64 nd3, Value.int .i64 m', Value.int .i64 r', Value.int .i64 i'] 55)).jk kw).alloc (Obj.cells #[Value.bool true, Value.bool nf3, Value.int .i64 tx3, Value.int .i64 tr3, Value.int .i64 tl3, Value.int .i64 nd3] 33))).jk k := hw'
        go_wp2_with fail
        go_roundw
        case rel => exact .inr (.inr (.inr (⟨rfl, by repeat' (first | exact Q.refl _ | refine Q.alloc ?_ _ | refine Q.jk ?_ _ | refine Q.drew ?_)⟩)))
        case measure => simp [intOf]
    · go_wp2_with fail
      try simp only [List.append]
      refine wp_region_A 15 12 13 8 (Obj.cells #[Value.bool false, Value.bool false, Value.bool false] 57) (Obj.cells #[Value.bool a1, Value.bool a2, Value.bool a3] 57) Try.func0 rfl (by kernel_rfl) rfl (by kernel_rfl) rfl rfl rfl (by intro a w; simp [go_sem]) (by decide) (by kernel_rfl) ?_
      intro b
      refine GoX.take (i := 0) rfl rfl rfl rfl (by decide) (by decide) (by kernel_rfl) (by kernel_rfl) (by kernel_rfl) ?_
      simp only [List.getElem_toArray, List.getElem_cons_zero]
      go_big_quiet_step (fail)
      refine wpQuiet_nil ?_
      refine GoX.take (i := 1) rfl rfl rfl rfl (by decide) (by decide) (by kernel_rfl) (by kernel_rfl) (by kernel_rfl) ?_
      simp only [List.getElem_toArray, List.getElem_cons_zero, List.getElem_cons_succ]
      go_big_quiet_step (fail)
      refine wpQuiet_nil ?_
      refine GoX.take (i := 2) rfl rfl rfl rfl (by decide) (by decide) (by kernel_rfl) (by kernel_rfl) (by kernel_rfl) ?_
      simp only [List.getElem_toArray, List.getElem_cons_zero, List.getElem_cons_succ]
      go_big_quiet_step (fail)
      refine wpQuiet_nil ?_
      refine GoX.take (i := 3) rfl rfl rfl rfl (by decide) (by decide) (by kernel_rfl) (by kernel_rfl) (by kernel_rfl) ?_
      simp only [List.getElem_toArray, List.getElem_cons_zero, List.getElem_cons_succ]
      go_big_quiet_step (fail)
      refine wpQuiet_nil ?_
      refine GoX.take (i := 4) rfl rfl rfl rfl (by decide) (by decide) (by kernel_rfl) (by kernel_rfl) (by kernel_rfl) ?_
      simp only [List.getElem_toArray, List.getElem_cons_zero, List.getElem_cons_succ]
      go_big_quiet_step (fail)
      refine wpQuiet_nil ?_
      refine GoX.take (i := 5) rfl rfl rfl rfl (by decide) (by decide) (by kernel_rfl) (by kernel_rfl) (by kernel_rfl) ?_
      simp only [List.getElem_toArray, List.getElem_cons_zero, List.getElem_cons_succ]
      go_big_quiet_step (fail)
      refine wpQuiet_nil ?_
      refine GoX.take (i := 6) rfl rfl rfl rfl (by decide) (by decide) (by kernel_rfl) (by kernel_rfl) (by kernel_rfl) ?_
      simp only [List.getElem_toArray, List.getElem_cons_zero, List.getElem_cons_succ]
      go_big_quiet_step (fail)
      refine wpQuiet_nil ?_
      refine GoX.call (i := 7) RL.out rfl rfl rfl (by decide) (by decide) (by kernel_rfl) (by kernel_rfl) (by kernel_rfl) rfl (by intro w; simp [go_sem]) ?_
      simp only [List.getElem_toArray, List.getElem_cons_zero, List.getElem_cons_succ, Act.put, List.setIfInBounds_toArray, List.set_cons_succ, List.set_cons_zero]
      refine GoX.call (i := 8) P0.out rfl rfl rfl (by decide) (by decide) (by kernel_rfl) (by kernel_rfl) (by kernel_rfl) rfl (by intro w; simp [go_sem]) ?_
      simp only [List.getElem_toArray, List.getElem_cons_zero, List.getElem_cons_succ, Act.put, List.setIfInBounds_toArray, List.set_cons_succ, List.set_cons_zero]
      refine GoX.take (i := 9) rfl rfl rfl rfl (by decide) (by decide) (by kernel_rfl) (by kernel_rfl) (by kernel_rfl) ?_
      simp only [List.getElem_toArray, List.getElem_cons_zero, List.getElem_cons_succ]
      go_big_quiet_step (fail)
      refine wpQuiet_nil ?_
      refine GoX.take (i := 10) rfl rfl rfl rfl (by decide) (by decide) (by kernel_rfl) (by kernel_rfl) (by kernel_rfl) ?_
      simp only [List.getElem_toArray, List.getElem_cons_zero, List.getElem_cons_succ]
      go_big_quiet_step (fail)
      refine wpQuiet_nil ?_
      refine GoX.take (i := 11) rfl rfl rfl rfl (by decide) (by decide) (by kernel_rfl) (by kernel_rfl) (by kernel_rfl) ?_
      simp only [List.getElem_toArray, List.getElem_cons_zero, List.getElem_cons_succ]
      go_big_quiet_step (fail)
      refine wpQuiet_nil ?_
      refine GoX.make rfl rfl (by kernel_rfl) _ _ _ (by kernel_rfl) (by kernel_rfl) ?_
      simp only [List.getElem_toArray, List.getElem_cons_zero, List.getElem_cons_succ, Act.put, List.setIfInBounds_toArray, List.set_cons_succ, List.set_cons_zero]
      refine GoX.store rfl rfl rfl rfl (by decide) (by kernel_rfl) (by kernel_rfl) (by kernel_rfl) (by kernel_rfl) rfl ?_ ?_
      · intro k1 k2 hb K hK
        subst hb
        simp only [List.getElem_toArray, List.getElem_cons_zero, List.getElem_cons_succ]
        go_simp
        first | exact hK | (simp only [Act.put] at hK; exact hK) | (refine cast ?_ hK; simp [Act.put, go_sem])
      simp only [List.getElem_toArray, List.getElem_cons_zero, List.getElem_cons_succ, Act.put, List.setIfInBounds_toArray, List.set_cons_succ, List.set_cons_zero]
      refine GoX.take (i := 14) rfl rfl rfl rfl (by decide) (by decide) (by kernel_rfl) (by kernel_rfl) (by kernel_rfl) ?_
      simp only [List.getElem_toArray, List.getElem_cons_zero, List.getElem_cons_succ]
      go_big_quiet_step (fail)
      refine wpQuiet_nil ?_
      refine GoX.done (by kernel_rfl) (by kernel_rfl) (by kernel_rfl) ?_
      intro k1 k2 hb
      subst hb
      go_wp2_with fail
      try simp only [List.append]
      refine wp_region_A 15 12 13 10 (Obj.cells #[Value.bool false, Value.bool false, Value.bool false] 57) (Obj.cells #[Value.bool b1, Value.bool b2, Value.bool b3] 57) Try.func0 rfl (by kernel_rfl) rfl (by kernel_rfl) rfl rfl rfl (by intro a w; simp [go_sem]) (by decide) (by kernel_rfl) ?_
      intro b
      refine GoX.take (i := 0) rfl rfl rfl rfl (by decide) (by decide) (by kernel_rfl) (by kernel_rfl) (by kernel_rfl) ?_
      simp only [List.getElem_toArray, List.getElem_cons_zero]
      go_big_quiet_step (fail)
      refine wpQuiet_nil ?_
      refine GoX.take (i := 1) rfl rfl rfl rfl (by decide) (by decide) (by kernel_rfl) (by kernel_rfl) (by kernel_rfl) ?_
      simp only [List.getElem_toArray, List.getElem_cons_zero, List.getElem_cons_succ]
      go_big_quiet_step (fail)
      refine wpQuiet_nil ?_
      refine GoX.take (i := 2) rfl rfl rfl rfl (by decide) (by decide) (by kernel_rfl) (by kernel_rfl) (by kernel_rfl) ?_
      simp only [List.getElem_toArray, List.getElem_cons_zero, List.getElem_cons_succ]
      go_big_quiet_step (fail)
      refine wpQuiet_nil ?_
      refine GoX.take (i := 3) rfl rfl rfl rfl (by decide) (by decide) (by kernel_rfl) (by kernel_rfl) (by kernel_rfl) ?_
      simp only [List.getElem_toArray, List.getElem_cons_zero, List.getElem_cons_succ]
      go_big_quiet_step (fail)
      refine wpQuiet_nil ?_
      refine GoX.take (i := 4) rfl rfl rfl rfl (by decide) (by decide) (by kernel_rfl) (by kernel_rfl) (by kernel_rfl) ?_
      simp only [List.getElem_toArray, List.getElem_cons_zero, List.getElem_cons_succ]
      go_big_quiet_step (fail)
      refine wpQuiet_nil ?_
      refine GoX.take (i := 5) rfl rfl rfl rfl (by decide) (by decide) (by kernel_rfl) (by kernel_rfl) (by kernel_rfl) ?_
      simp only [List.getElem_toArray, List.getElem_cons_zero, List.getElem_cons_succ]
      go_big_quiet_step (fail)
      refine wpQuiet_nil ?_
      refine GoX.take (i := 6) rfl rfl rfl rfl (by decide) (by decide) (by kernel_rfl) (by kernel_rfl) (by kernel_rfl) ?_
      simp only [List.getElem_toArray, List.getElem_cons_zero, List.getElem_cons_succ]
      go_big_quiet_step (fail)
      refine wpQuiet_nil ?_
      refine GoX.call (i := 7) R2.out rfl rfl rfl (by decide) (by decide) (by kernel_rfl) (by kernel_rfl) (by kernel_rfl) rfl (by intro w; simp [go_sem]) ?_
      simp only [List.getElem_toArray, List.getElem_cons_zero, List.getElem_cons_succ, Act.put, List.setIfInBounds_toArray, List.set_cons_succ, List.set_cons_zero]
      refine GoX.call (i := 8) P1.out rfl rfl rfl (by decide) (by decide) (by kernel_rfl) (by kernel_rfl) (by kernel_rfl) rfl (by intro w; simp [go_sem]) ?_
      simp only [List.getElem_toArray, List.getElem_cons_zero, List.getElem_cons_succ, Act.put, List.setIfInBounds_toArray, List.set_cons_succ, List.set_cons_zero]
      refine GoX.take (i := 9) rfl rfl rfl rfl (by decide) (by decide) (by kernel_rfl) (by kernel_rfl) (by kernel_rfl) ?_
      simp only [List.getElem_toArray, List.getElem_cons_zero, List.getElem_cons_succ]
      go_big_quiet_step (fail)
      refine wpQuiet_nil ?_
      refine GoX.take (i := 10) rfl rfl rfl rfl (by decide) (by decide) (by kernel_rfl) (by kernel_rfl) (by kernel_rfl) ?_
      simp only [List.getElem_toArray, List.getElem_cons_zero, List.getElem_cons_succ]
      go_big_quiet_step (fail)
      refine wpQuiet_nil ?_
      refine GoX.take (i := 11) rfl rfl rfl rfl (by decide) (by decide) (by kernel_rfl) (by kernel_rfl) (by kernel_rfl) ?_
      simp only [List.getElem_toArray, List.getElem_cons_zero, List.getElem_cons_succ]
      go_big_quiet_step (fail)
      refine wpQuiet_nil ?_
      refine GoX.make rfl rfl (by kernel_rfl) _ _ _ (by kernel_rfl) (by kernel_rfl) ?_
      simp only [List.getElem_toArray, List.getElem_cons_zero, List.getElem_cons_succ, Act.put, List.setIfInBounds_toArray, List.set_cons_succ, List.set_cons_zero]
      refine GoX.store rfl rfl rfl rfl (by decide) (by kernel_rfl) (by kernel_rfl) (by kernel_rfl) (by kernel_rfl) rfl ?_ ?_
      · intro k1 k2 hb K hK
        subst hb
        simp only [List.getElem_toArray, List.getElem_cons_zero, List.getElem_cons_succ]
        go_simp
        first | exact hK | (simp only [Act.put] at hK; exact hK) | (refine cast ?_ hK; simp [Act.put, go_sem])
      simp only [List.getElem_toArray, List.getElem_cons_zero, List.getElem_cons_succ, Act.put, List.setIfInBounds_toArray, List.set_cons_succ, List.set_cons_zero]
      refine GoX.take (i := 14) rfl rfl rfl rfl (by decide) (by decide) (by kernel_rfl) (by kernel_rfl) (by kernel_rfl) ?_
      simp only [List.getElem_toArray, List.getElem_cons_zero, List.getElem_cons_succ]
      go_big_quiet_step (fail)
      refine wpQuiet_nil ?_
      refine GoX.done (by kernel_rfl) (by kernel_rfl) (by kernel_rfl) ?_
      intro k1 k2 hb
      subst hb
      go_wp2_with fail
      go_loop [12] (fun i => i = Value.int .i64 0 ∨ i = Value.int .i64 1 ∨ i = Value.int .i64 2 ∨ i = Value.int .i64 3) (fun i => 3 - (intOf i).toNat)
      case atStart => exact .inl rfl
      case round =>
        rcases hrel with rfl | rfl | rfl | rfl
        · rcases H1.out with rfl | ⟨rfl, rfl⟩
          all_goals
            go_wp2_with fail
            go_round
            case rel => exact .inr (.inl rfl)
            case measure => simp [intOf]
        · rcases H2.out with rfl | ⟨rfl, rfl⟩
          all_goals
            go_wp2_with fail
            go_round
            case rel => exact .inr (.inr (.inl rfl))
            case measure => simp [intOf]
        · rcases H3.out with rfl | ⟨rfl, rfl⟩
          all_goals
            go_wp2_with fail
            go_round
            case rel => exact .inr (.inr (.inr rfl))
            case measure => simp [intOf]
        · go_wp2_with fail
          go_ret
          refine ⟨rfl, ?_⟩
          repeat' (first | exact Q.refl _ | refine Q.alloc ?_ _ | refine Q.jk ?_ _ | refine Q.drew ?_)
theorem mono_or {a b : Bool} (h : a = true → b = true) : a = false ∨ (a = true ∧ b = true) := by
  cases a
  · exact .inl rfl
  · exact .inr ⟨rfl, h rfl⟩
theorem mon_walk (u v t x y z p q s : Cy) (on1 fw1 : Bool) (zx1 zr1 zl1 zd1 : Int) (on2 fw2 : Bool) (zx2 zr2 zl2 zd2 : Int) (on3 fw3 : Bool) (zx3 zr3 zl3 zd3 : Int) (m r i g1 g2 g3 : Int) (w : World) :
    Calls Try.prog 9 #[Value.agg #[Value.int .i64 u.a, Value.int .i64 u.b, Value.int .i64 u.c, Value.int .i64 u.d, Value.int .i64 v.a, Value.int .i64 v.b, Value.int .i64 v.c, Value.int .i64 v.d, Value.int .i64 t.a, Value.int .i64 t.b, Value.int .i64 t.c, Value.int .i64 t.d, Value.int .i64 x.a, Value.int .i64 x.b, Value.int .i64 x.c, Value.int .i64 x.d, Value.int .i64 y.a, Value.int .i64 y.b, Value.int .i64 y.c, Value.int .i64 y.d, Value.int .i64 z.a, Value.int .i64 z.b, Value.int .i64 z.c, Value.int .i64 z.d, Value.int .i64 p.a, Value.int .i64 p.b, Value.int .i64 p.c, Value.int .i64 p.d, Value.int .i64 q.a, Value.int .i64 q.b, Value.int .i64 q.c, Value.int .i64 q.d, Value.int .i64 s.a, Value.int .i64 s.b, Value.int .i64 s.c, Value.int .i64 s.d, Value.bool on1, Value.bool fw1, Value.int .i64 zx1, Value.int .i64 zr1, Value.int .i64 zl1, Value.int .i64 zd1, Value.bool on2, Value.bool fw2, Value.int .i64 zx2, Value.int .i64 zr2, Value.int .i64 zl2, Value.int .i64 zd2, Value.bool on3, Value.bool fw3, Value.int .i64 zx3, Value.int .i64 zr3, Value.int .i64 zl3, Value.int .i64 zd3, Value.int .i64 m, Value.int .i64 r, Value.int .i64 i], Value.agg #[Value.int .i64 g1, Value.int .i64 g2, Value.int .i64 g3]] w fun e w' => e = .returned (Value.bool true) ∧ Q w w' := by
  have I : ∀ v : Cy, (sm22 v).In 65536 := fun v => (sm22_in v).mono (by decide)
  have hm0 : 1 ≤ 1 + m % 50 := by omega
  have hm1 : 1 + m % 50 ≤ 16383 := by omega
  have hr := tmod_bd r 201 (by decide)
  have hi := tmod_bd i 201 (by decide)
  have hw : ∀ z g : Int, 0 ≤ z → z ≤ 4000 → IntKind.i64.wrap (z + g % 500) = z + g % 500 := fun z g h0 h1 => IntWalk.i64_in _ (by omega)
  have hmin : ∀ e : Int, (if 4000 < e then 4000 else e) = min e 4000 := fun e => by split <;> omega
  have h1 := fz_ok ⟨on1, fw1, zx1, zr1, zl1, zd1⟩
  have h2 := fz_ok ⟨on2, fw2, zx2, zr2, zl2, zd2⟩
  have h3 := fz_ok ⟨on3, fw3, zx3, zr3, zl3, zd3⟩
  have M1 := mz_ok ⟨on1, fw1, zx1, zr1, zl1, zd1⟩ g1 g2 g3
  have M2 := mz_ok ⟨on2, fw2, zx2, zr2, zl2, zd2⟩ g1 g2 g3
  have M3 := mz_ok ⟨on3, fw3, zx3, zr3, zl3, zd3⟩ g1 g2 g3
  refine mon_core u v t x y z p q s (sm22 u) (sm22 v) (sm22 t) (sm22 x) (sm22 y) (sm22 z) (sm22 p) (sm22 q) (sm22 s) on1 fw1 (fz ⟨on1, fw1, zx1, zr1, zl1, zd1⟩).on (fz ⟨on1, fw1, zx1, zr1, zl1, zd1⟩).fwd zx1 zr1 zl1 zd1 (fz ⟨on1, fw1, zx1, zr1, zl1, zd1⟩).x (fz ⟨on1, fw1, zx1, zr1, zl1, zd1⟩).r (fz ⟨on1, fw1, zx1, zr1, zl1, zd1⟩).l (fz ⟨on1, fw1, zx1, zr1, zl1, zd1⟩).d on2 fw2 (fz ⟨on2, fw2, zx2, zr2, zl2, zd2⟩).on (fz ⟨on2, fw2, zx2, zr2, zl2, zd2⟩).fwd zx2 zr2 zl2 zd2 (fz ⟨on2, fw2, zx2, zr2, zl2, zd2⟩).x (fz ⟨on2, fw2, zx2, zr2, zl2, zd2⟩).r (fz ⟨on2, fw2, zx2, zr2, zl2, zd2⟩).l (fz ⟨on2, fw2, zx2, zr2, zl2, zd2⟩).d on3 fw3 (fz ⟨on3, fw3, zx3, zr3, zl3, zd3⟩).on (fz ⟨on3, fw3, zx3, zr3, zl3, zd3⟩).fwd zx3 zr3 zl3 zd3 (fz ⟨on3, fw3, zx3, zr3, zl3, zd3⟩).x (fz ⟨on3, fw3, zx3, zr3, zl3, zd3⟩).r (fz ⟨on3, fw3, zx3, zr3, zl3, zd3⟩).l (fz ⟨on3, fw3, zx3, zr3, zl3, zd3⟩).d (min ((fz ⟨on1, fw1, zx1, zr1, zl1, zd1⟩).x + g1 % 500) 4000) (min ((fz ⟨on1, fw1, zx1, zr1, zl1, zd1⟩).r + g2 % 500) 4000) (min ((fz ⟨on1, fw1, zx1, zr1, zl1, zd1⟩).l + g3 % 500) 4000) ((fz ⟨on1, fw1, zx1, zr1, zl1, zd1⟩).x + g1 % 500) ((fz ⟨on1, fw1, zx1, zr1, zl1, zd1⟩).r + g2 % 500) ((fz ⟨on1, fw1, zx1, zr1, zl1, zd1⟩).l + g3 % 500) (min ((fz ⟨on2, fw2, zx2, zr2, zl2, zd2⟩).x + g1 % 500) 4000) (min ((fz ⟨on2, fw2, zx2, zr2, zl2, zd2⟩).r + g2 % 500) 4000) (min ((fz ⟨on2, fw2, zx2, zr2, zl2, zd2⟩).l + g3 % 500) 4000) ((fz ⟨on2, fw2, zx2, zr2, zl2, zd2⟩).x + g1 % 500) ((fz ⟨on2, fw2, zx2, zr2, zl2, zd2⟩).r + g2 % 500) ((fz ⟨on2, fw2, zx2, zr2, zl2, zd2⟩).l + g3 % 500) (min ((fz ⟨on3, fw3, zx3, zr3, zl3, zd3⟩).x + g1 % 500) 4000) (min ((fz ⟨on3, fw3, zx3, zr3, zl3, zd3⟩).r + g2 % 500) 4000) (min ((fz ⟨on3, fw3, zx3, zr3, zl3, zd3⟩).l + g3 % 500) 4000) ((fz ⟨on3, fw3, zx3, zr3, zl3, zd3⟩).x + g1 % 500) ((fz ⟨on3, fw3, zx3, zr3, zl3, zd3⟩).r + g2 % 500) ((fz ⟨on3, fw3, zx3, zr3, zl3, zd3⟩).l + g3 % 500) g1 g2 g3 (g1 % 500) (g2 % 500) (g3 % 500) m r i (1 + m % 50) (r.tmod 201) (i.tmod 201) (pickB (loopV (sm22 u) (sm22 v) (sm22 t)) (loopI (sm22 x) (sm22 y) (sm22 z) (r.tmod 201) (i.tmod 201)) (sixC (sm22 p) (sm22 q) (sm22 s)) (fun n => aboveB (sixC (sm22 x) (sm22 y) (sm22 z) n) (1 + m % 50)) (fz ⟨on1, fw1, zx1, zr1, zl1, zd1⟩) 6) (pickB (loopV (sm22 u) (sm22 v) (sm22 t)) (loopI (sm22 x) (sm22 y) (sm22 z) (r.tmod 201) (i.tmod 201)) (sixC (sm22 p) (sm22 q) (sm22 s)) (fun n => aboveB (sixC (sm22 x) (sm22 y) (sm22 z) n) (1 + m % 50)) (fz ⟨on2, fw2, zx2, zr2, zl2, zd2⟩) 6) (pickB (loopV (sm22 u) (sm22 v) (sm22 t)) (loopI (sm22 x) (sm22 y) (sm22 z) (r.tmod 201) (i.tmod 201)) (sixC (sm22 p) (sm22 q) (sm22 s)) (fun n => aboveB (sixC (sm22 x) (sm22 y) (sm22 z) n) (1 + m % 50)) (fz ⟨on3, fw3, zx3, zr3, zl3, zd3⟩) 6) (pickB (loopV (sm22 u) (sm22 v) (sm22 t)) (loopI (sm22 x) (sm22 y) (sm22 z) (r.tmod 201) (i.tmod 201)) (sixC (sm22 p) (sm22 q) (sm22 s)) (fun n => aboveB (sixC (sm22 x) (sm22 y) (sm22 z) n) 1) (mz ⟨on1, fw1, zx1, zr1, zl1, zd1⟩ g1 g2 g3) 6) (pickB (loopV (sm22 u) (sm22 v) (sm22 t)) (loopI (sm22 x) (sm22 y) (sm22 z) (r.tmod 201) (i.tmod 201)) (sixC (sm22 p) (sm22 q) (sm22 s)) (fun n => aboveB (sixC (sm22 x) (sm22 y) (sm22 z) n) 1) (mz ⟨on2, fw2, zx2, zr2, zl2, zd2⟩ g1 g2 g3) 6) (pickB (loopV (sm22 u) (sm22 v) (sm22 t)) (loopI (sm22 x) (sm22 y) (sm22 z) (r.tmod 201) (i.tmod 201)) (sixC (sm22 p) (sm22 q) (sm22 s)) (fun n => aboveB (sixC (sm22 x) (sm22 y) (sm22 z) n) 1) (mz ⟨on3, fw3, zx3, zr3, zl3, zd3⟩ g1 g2 g3) 6) w
    (Lib.hid fun w => fine_c u v t x y z p q s ⟨on1, fw1, zx1, zr1, zl1, zd1⟩ ⟨on2, fw2, zx2, zr2, zl2, zd2⟩ ⟨on3, fw3, zx3, zr3, zl3, zd3⟩ m r i w) (Lib.hid fun w => relay_core _ _ _ _ _ _ _ _ _ _ _ _ _ _ _ _ _ _ _ _ _ _ _ _ _ _ _ _ _ _ w) (Lib.hid fun w => relay_core _ _ _ _ _ _ _ _ _ _ _ _ _ _ _ _ _ _ _ _ _ _ _ _ _ _ _ _ _ _ w) (Lib.hid fun w => within22_any g1 500 w (by decide) (by decide)) (Lib.hid fun w => within22_any g2 500 w (by decide) (by decide)) (Lib.hid fun w => within22_any g3 500 w (by decide) (by decide))
    (hw _ _ h1.x0 h1.x1) (hmin _) (hw _ _ h1.r0 h1.r1) (hmin _) (hw _ _ h1.l0 h1.l1) (hmin _) (hw _ _ h2.x0 h2.x1) (hmin _) (hw _ _ h2.r0 h2.r1) (hmin _) (hw _ _ h2.l0 h2.l1) (hmin _) (hw _ _ h3.x0 h3.x1) (hmin _) (hw _ _ h3.r0 h3.r1) (hmin _) (hw _ _ h3.l0 h3.l1) (hmin _)
    (Lib.hid fun w => pickup_c (sm22 u) (sm22 v) (sm22 t) (sm22 x) (sm22 y) (sm22 z) (sm22 p) (sm22 q) (sm22 s) (fz ⟨on1, fw1, zx1, zr1, zl1, zd1⟩) (fz ⟨on2, fw2, zx2, zr2, zl2, zd2⟩) (fz ⟨on3, fw3, zx3, zr3, zl3, zd3⟩) (1 + m % 50) (r.tmod 201) (i.tmod 201) w (I u) (I v) (I t) (I x) (I y) (I z) (I p) (I q) (I s) (fz_ok _) (fz_ok _) (fz_ok _) hm0 hm1 (by omega) (by omega) (by omega) (by omega)) (Lib.hid fun w => ?_) (Lib.hid (mono_or fun h => ?_)) (Lib.hid (mono_or fun h => ?_)) (Lib.hid (mono_or fun h => ?_))
  · exact pickup_c (sm22 u) (sm22 v) (sm22 t) (sm22 x) (sm22 y) (sm22 z) (sm22 p) (sm22 q) (sm22 s) (mz ⟨on1, fw1, zx1, zr1, zl1, zd1⟩ g1 g2 g3) (mz ⟨on2, fw2, zx2, zr2, zl2, zd2⟩ g1 g2 g3) (mz ⟨on3, fw3, zx3, zr3, zl3, zd3⟩ g1 g2 g3) 1 (r.tmod 201) (i.tmod 201) w (I u) (I v) (I t) (I x) (I y) (I z) (I p) (I q) (I s) M1.1 M2.1 M3.1 (by decide) (by decide) (by omega) (by omega) (by omega) (by omega)
  · exact pick_mono M1.2 (by decide) hm0 h
  · exact pick_mono M2.2 (by decide) hm0 h
  · exact pick_mono M3.2 (by decide) hm0 h
end Go.Proofs.Ytomodppdolfinaa
/- Helpers of the frame of a law's proof, of no program: arrays of integers opened; a call that leaves all that was there meets the specification 'true, and the arguments read as they did'. -/
namespace Go
open Go.ChangeShapes Go.WideShapes Go.ChangeAt Go.RowKit
section
variable {H : Type} {enc : TypeId × Value → H} {P : Program} {w : World} {base : Nat} {spare : Nat → Bool} {held : Bool}

theorem okWide_arr {r : Reach} {b0 : Nat} {t : TypeId} {v : Value} {n : Nat} {e : TypeId} (ht : P.underlying t = some (.array n e)) (h : Value.okWide P w r b0 t v) : ∃ cs, v = .agg cs ∧ cs.size = P.cellsOf t := by
  simp only [Value.okWide, ht] at h
  obtain ⟨cs, h1, h2, _⟩ := h
  exact ⟨cs, h1, h2⟩

/-- An array of ints, opened. -/
theorem trod_arr_ints {fuel : Nat} {t e : TypeId} {n : Nat} {cs : List Value} {x : DataW H × List MemPlace} (ht : P.underlying t = some (.array n e)) (he : P.underlying e = some (.int .i64)) (hce : P.cellsOf e = 1) (hct : P.cellsOf t = n)
    (h : DataW.trod enc P w base spare held fuel t cs = some x) :
    ∃ ks : List Int, ks.length = n ∧ cs = ks.map (Value.int .i64) ∧ x = (.agg (ks.map fun k => .lit (.int .i64 k)), []) ∧ ∀ k ∈ ks, (Lit.int .i64 k).wf = true := by
  obtain ⟨xs, m, rfl, rfl, hl, hxs, hel⟩ := DataW.trod_array ht h
  rw [hct] at hl
  rw [hce] at hel
  have one : ∀ i, i < n → ∃ k, cs[i]? = some (.int .i64 k) ∧ xs[i]? = some (.lit (.int .i64 k), []) ∧ (Lit.int .i64 k).wf = true := by
    intro i hi
    have h1 := hel i hi
    obtain ⟨y, hy⟩ : ∃ y, xs[i]? = some y := ⟨_, List.getElem?_eq_getElem (by omega)⟩
    rw [hy] at h1
    obtain ⟨k, hk, rfl, hw⟩ := DataW.trod_int he h1
    refine ⟨k, ?_, hy, hw⟩
    have := congrArg (·[0]?) hk
    simpa [List.getElem?_take, List.getElem?_drop] using this
  refine ⟨cs.map intOf, by simp [hl], ?_, ?_, ?_⟩
  · apply List.ext_getElem?
    intro i
    by_cases hi : i < n
    · obtain ⟨k, h1, _, _⟩ := one i hi
      simp [h1, intOf]
    · rw [List.getElem?_eq_none (by omega), List.getElem?_eq_none (by simp; omega)]
  · have e1 : xs.map (·.1) = (cs.map intOf).map fun k => (DataW.lit (.int .i64 k) : DataW H) := by
      apply List.ext_getElem?
      intro i
      by_cases hi : i < n
      · obtain ⟨k, h1, h2, _⟩ := one i hi
        simp [h1, h2, intOf]
      · rw [List.getElem?_eq_none (by simp; omega), List.getElem?_eq_none (by simp; omega)]
    have e2 : xs.flatMap (·.2) = [] := by
      rw [List.flatMap_eq_nil_iff]
      intro y hy
      obtain ⟨i, hi, rfl⟩ := List.getElem_of_mem hy
      obtain ⟨k, _, h2, _⟩ := one i (by omega)
      rw [List.getElem?_eq_getElem hi] at h2
      rw [Option.some.inj h2]
    rw [e1, e2]
  · intro k hk
    obtain ⟨v, hv, rfl⟩ := List.mem_map.1 hk
    obtain ⟨i, hi, rfl⟩ := List.getElem_of_mem hv
    obtain ⟨k, h1, _, hw⟩ := one i (by omega)
    rw [List.getElem?_eq_getElem hi] at h1
    rw [Option.some.inj h1]
    exact hw

theorem wf_i64 {k : Int} (h : (Lit.int .i64 k).wf = true) : -9223372036854775808 ≤ k ∧ k ≤ 9223372036854775807 := by
  simpa [Lit.wf, IntKind.min, IntKind.max, IntKind.signed, IntKind.bits] using h

/-- An argument that is an array of four ints. -/
theorem open_arr4 {r : Reach} {b0 : Nat} {t e : TypeId} {v : Value} {d : DataW H} {ps : List MemPlace} (ht : P.underlying t = some (.array 4 e)) (he : P.underlying e = some (.int .i64)) (hce : P.cellsOf e = 1) (hct : P.cellsOf t = 4)
    (hval : Value.okWide P w r b0 t v) (hd : DataW.Trod enc P w base spare held t v d ps) :
    ∃ k0 k1 k2 k3 : Int, v = .agg #[.int .i64 k0, .int .i64 k1, .int .i64 k2, .int .i64 k3] ∧ ps = [] := by
  obtain ⟨cs, rfl, hsz⟩ := okWide_arr ht hval
  obtain ⟨fuel, hf⟩ := hd
  obtain ⟨ks, hl, hcs, hx, hw⟩ := trod_arr_ints ht he hce hct hf
  obtain ⟨l⟩ := cs
  simp only [Value.cells] at hcs
  simp only [Prod.mk.injEq] at hx
  match ks, hl, hcs, hx with
  | [k0, k1, k2, k3], _, hcs, hx =>
    refine ⟨k0, k1, k2, k3, ?_, hx.2⟩
    have : l = [.int .i64 k0, .int .i64 k1, .int .i64 k2, .int .i64 k3] := by simpa using hcs
    rw [this]

/-- All arguments read behind the call as they did before. -/
theorem trodAll_stays {W W' : World} (hl : laidOutB P = true) (hb : Below W.heap.size W W') : ∀ {ts : List TypeId} {vs : List Value} {ds : List (DataW H)} {ps : List MemPlace} {sp : Nat → Bool},
    (∀ t ∈ ts, P.readableRec t = true ∧ t < P.types.size) → DataW.TrodAll enc P W 0 (fun _ => true) true ts vs ds ps → (∀ x ∈ ps, x.block < W.heap.size) → (∀ x ∈ ps, sp x.block = true) →
    DataW.TrodAll enc P W' 0 sp true ts vs ds ps
  | [], [], [], _, _, _, h, _, _ => h
  | t :: ts, v :: vs, d :: ds, ps, sp, ht, h, hlt, hsp => by
    obtain ⟨p, q, h0, h1, rfl⟩ := h
    refine ⟨p, q, ?_, trodAll_stays hl hb (fun t' ht' => ht t' (List.mem_cons_of_mem _ ht')) h1 (fun x hx => hlt x (List.mem_append_right _ hx)) (fun x hx => hsp x (List.mem_append_right _ hx)), rfl⟩
    have := ht t (List.mem_cons_self ..)
    exact WideElems.Trod_stays hl this.1 this.2 h0 (fun x hx => hb.same (hlt x (List.mem_append_left _ hx))) (fun x hx => hsp x (List.mem_append_left _ hx))
  | [], _ :: _, _, _, _, _, h, _, _ => by exact h.elim
  | _ :: _, [], _, _, _, _, h, _, _ => by exact h.elim
  | [], [], _ :: _, _, _, _, h, _, _ => by exact h.elim
  | _ :: _, _ :: _, [], _, _, _, h, _, _ => by exact h.elim

/-- THE END OF A LAW's PROOF: it returned true and left all that was there. -/
theorem law_post {f : Func} {s : ChangeSpec} {W W' : World} {args : Array Value} {ds : List (DataW H)} {before : List MemPlace} {tb : TypeId}
    (hl : laidOutB P = true) (hts : ∀ t ∈ f.params.toList, P.readableRec t = true ∧ t < P.types.size) (hr : f.resultTypes = #[tb]) (hbool : P.underlying tb = some .bool) (hvars : s.vars = [])
    (hfn : ∀ ds' : List (DataW H), ds'.length = f.params.size → s.fn H ds' = { results := [.lit (.bool true)], args := ds' })
    (hW : DataW.Whole enc P f.params.toList s.vars false W args.toList ds [] before) (hb : Below W.heap.size W W') (hlen : ds.length = f.params.size) :
    s.post enc P f false true false false W args (.bool true) W' := by
  have hlt : ∀ p ∈ before, p.block < W.heap.size := fun p hp => hW.lt p hp
  have hW' := hW
  obtain ⟨p, q, hA, hV, rfl, hz, hn⟩ := hW
  rw [hvars] at hV
  obtain ⟨_, rfl⟩ := trodVars_none hV
  simp only [List.append_nil] at hlt hz hn hW'
  have efn := hfn ds hlen
  have hold : ∀ x ∈ p, (fun b => decide (b < W.heap.size)) x.block = true := fun x hx => by simpa using hlt x hx
  have hargs : ∀ sp : Nat → Bool, (∀ x ∈ p, sp x.block = true) → DataW.TrodAll enc P W' 0 sp true f.params.toList args.toList ds p := fun sp hsp => trodAll_stays hl hb hts hA hlt hsp
  have hres : ∀ (b : Nat) (sp : Nat → Bool) (hd : Bool), DataW.TrodAll enc P W' b sp hd f.resultTypes.toList ((Value.bool true).resultList f.resultTypes.size) [.lit (.bool true)] [] := by
    intro b sp hd
    rw [hr]
    exact trodAll_cons_mk (shut_bool hbool _) trodAll_mk0
  refine ⟨ds, [], p, [], p, [], hW', ?_, ?_, ?_, ?_, fun h => by cases h⟩
  · rw [List.append_nil, efn]; exact hres _ _ _
  · rw [List.append_nil, efn]; exact hargs _ hold
  · rw [List.append_nil, efn, hvars]; rfl
  · exact World.keptBut_mono (fun x hx => ⟨hx, by simpa using hx⟩) (hb.frame (· ∈ p))
end
end Go
/- The frame of a law's proof over a seat without a table: the argument A + B*sqrt(3) opened. -/
namespace Go.Proofs.Ytomodppdolfinaa
open Go.ChangeShapes Go.WideShapes Go.ChangeAt Go.RowKit Go.Sub Go.Joins
theorem cellsInt : Try.prog.cellsOf 3 = 1 := by kernel_rfl
theorem own : ownKnob Try.prog.godebug = none := by kernel_rfl
theorem cellsCyc : Try.prog.cellsOf 23 = 4 := by kernel_rfl
section
variable {H : Type} {enc : TypeId × Value → H} {w : World} {base : Nat} {spare : Nat → Bool} {held : Bool}
set_option maxRecDepth 100000 in
theorem open_surd {r : Reach} {b0 : Nat} {v : Value} {d : DataW H} {p : List MemPlace} (hval : Value.okWide Try.prog w r b0 89 v) (h : DataW.Trod enc Try.prog w base spare held 89 v d p) :
    ∃ a b : Int, v = .agg #[.int .i64 a, .int .i64 b] ∧ (-9223372036854775808 ≤ a ∧ a ≤ 9223372036854775807) ∧ (-9223372036854775808 ≤ b ∧ b ≤ 9223372036854775807) := by
  obtain ⟨c0, c1, y0, y1, m, rfl, rfl, rfl, hy0, hy1⟩ := open_agg2 Try.underlying89 (by kernel_rfl) (by kernel_rfl) hval h
  obtain ⟨a, ha, _, wa⟩ := DataW.trod_int Try.underlying3 hy0
  obtain ⟨b, hb, _, wb⟩ := DataW.trod_int Try.underlying3 hy1
  refine ⟨a, b, ?_, wf_i64 wa, wf_i64 wb⟩
  simp only [List.cons.injEq, and_true] at ha hb
  rw [ha, hb]
end
end Go.Proofs.Ytomodppdolfinaa
/- Arguments that are built of integers and bools alone (arrays and structures of them), opened all at once. -/
namespace Go
open Go.ChangeShapes Go.WideShapes Go.ChangeAt Go.RowKit
/-- The cells are as the leaves say: true for an integer, false for a bool. -/
def Opens : List Bool → List Value → Prop
  | [], cs => cs = []
  | true :: ls, cs => ∃ k : Int, (-9223372036854775808 ≤ k ∧ k ≤ 9223372036854775807) ∧ ∃ r, cs = .int .i64 k :: r ∧ Opens ls r
  | false :: ls, cs => ∃ b : Bool, ∃ r, cs = .bool b :: r ∧ Opens ls r
theorem Opens.append : ∀ {l m : List Bool} {cs ds : List Value}, Opens l cs → Opens m ds → Opens (l ++ m) (cs ++ ds)
  | [], _, _, _, h, h' => by
    have h : _ = _ := h
    subst h
    exact h'
  | true :: _, _, _, _, h, h' => by
    obtain ⟨k, hk, r, rfl, hr⟩ := h
    exact ⟨k, hk, _, rfl, hr.append h'⟩
  | false :: _, _, _, _, h, h' => by
    obtain ⟨k, r, rfl, hr⟩ := h
    exact ⟨k, _, rfl, hr.append h'⟩
theorem Opens.length : ∀ {l : List Bool} {cs : List Value}, Opens l cs → cs.length = l.length
  | [], _, h => by
    have h : _ = _ := h
    subst h
    rfl
  | true :: _, _, h => by
    obtain ⟨k, hk, r, rfl, hr⟩ := h
    simp [hr.length]
  | false :: _, _, h => by
    obtain ⟨k, r, rfl, hr⟩ := h
    simp [hr.length]
/-- The leaves of the fields, one behind the other. -/
def flatFs (P : Program) (fl : TypeId → Option (List Bool)) : List Field → Nat → Option (List Bool)
  | [], _ => some []
  | f :: fs, off => match fl f.type with
    | some l => if f.offset = off ∧ P.cellsOf f.type = l.length then (flatFs P fl fs (off + l.length)).map (l ++ ·) else none
    | none => none
/-- The leaves of a type. -/
def flat (P : Program) : Nat → TypeId → Option (List Bool)
  | 0, _ => none
  | n + 1, t => match P.underlying t with
    | some (.int .i64) => some [true]
    | some .bool => some [false]
    | some (.array m e) => match flat P n e with
      | some l => if P.cellsOf e = l.length ∧ P.cellsOf t = m * l.length then some (List.replicate m l).flatten else none
      | none => none
    | some (.struct fs) => match flatFs P (flat P n) fs.toList 0 with
      | some l => if P.cellsOf t = l.length then some l else none
      | none => none
    | _ => none
section
variable {H : Type} {enc : TypeId × Value → H} {P : Program} {w : World} {base : Nat} {spare : Nat → Bool} {held : Bool}
theorem opens_array {l : List Bool} {xs : List Value} : ∀ (m : Nat) (cs : List Value), cs.length = m * l.length → (∀ i, i < m → Opens l ((cs.drop (i * l.length)).take l.length)) → Opens (List.replicate m l).flatten cs
  | 0, cs, hl, _ => by
    have : cs = [] := List.eq_nil_of_length_eq_zero (by simpa using hl)
    subst this
    rfl
  | m + 1, cs, hl, h => by
    rw [List.replicate_succ, List.flatten_cons]
    have e : cs = cs.take l.length ++ cs.drop l.length := (List.take_append_drop _ _).symm
    rw [e]
    have h0 := h 0 (by omega)
    rw [Nat.zero_mul, List.drop_zero] at h0
    refine h0.append (opens_array (xs := xs) m _ ?_ fun i hi => ?_)
    · rw [List.length_drop, hl, Nat.succ_mul]; omega
    · have := h (i + 1) (by omega)
      rw [Nat.succ_mul] at this
      rw [List.drop_drop]
      rwa [Nat.add_comm] at this
theorem opens_fields {fl : TypeId → Option (List Bool)} {tr : TypeId → List Value → Prop} (hfl : ∀ t l cs, fl t = some l → tr t cs → Opens l cs) :
    ∀ (fs : List Field) (off : Nat) (ls : List Bool) (cs : List Value), flatFs P fl fs off = some ls → cs.length = off + ls.length →
      (∀ f ∈ fs, tr f.type ((cs.drop f.offset).take (P.cellsOf f.type))) → Opens ls (cs.drop off)
  | [], off, ls, cs, h, hl, _ => by
    simp only [flatFs, Option.some.injEq] at h
    subst h
    have : cs.drop off = [] := List.drop_of_length_le (by simpa using Nat.le_of_eq hl)
    rw [this]
    rfl
  | f :: fs, off, ls, cs, h, hl, ht => by
    simp only [flatFs] at h
    split at h
    · rename_i l hfle
      split at h
      · rename_i hc
        obtain ⟨h1, h2⟩ := hc
        obtain ⟨r, hr, rfl⟩ := Option.map_eq_some_iff.1 h
        have h3 := hfl _ _ _ hfle (ht f List.mem_cons_self)
        rw [h1, h2] at h3
        have h4 := opens_fields hfl fs (off + l.length) r cs hr (by rw [hl, List.length_append]; omega) fun g hg => ht g (List.mem_cons_of_mem _ hg)
        have e : cs.drop off = (cs.drop off).take l.length ++ cs.drop (off + l.length) := by
          rw [← List.drop_drop]
          exact (List.take_append_drop _ _).symm
        rw [e]
        exact h3.append h4
      · cases h
    · cases h
theorem flat_opens : ∀ (n : Nat) (t : TypeId) (ls : List Bool), flat P n t = some ls → ∀ (fuel : Nat) (cs : List Value) (x : DataW H × List MemPlace), DataW.trod enc P w base spare held fuel t cs = some x → Opens ls cs
  | 0, _, _, h => by cases h
  | n + 1, t, ls, h => by
    intro fuel cs x hd
    simp only [flat] at h
    split at h
    · rename_i hu
      obtain rfl := Option.some.inj h
      obtain ⟨k, rfl, _, hw⟩ := DataW.trod_int hu hd
      exact ⟨k, wf_i64 hw, [], rfl, rfl⟩
    · rename_i hu
      obtain rfl := Option.some.inj h
      obtain ⟨b, rfl, _⟩ := DataW.trod_bool hu hd
      exact ⟨b, [], rfl, rfl⟩
    · rename_i m e hu
      split at h
      · rename_i l hl
        split at h
        · rename_i hc
          obtain rfl := Option.some.inj h
          obtain ⟨xs, k, _, _, hlen, hxs, hel⟩ := DataW.trod_array hu hd
          refine opens_array (xs := []) m cs (by rw [hlen]; exact hc.2) fun i hi => ?_
          have h1 := hel i hi
          obtain ⟨y, hy⟩ : ∃ y, xs[i]? = some y := ⟨_, List.getElem?_eq_getElem (by omega)⟩
          rw [hy, hc.1] at h1
          exact flat_opens n e l hl _ _ _ h1
        · cases h
      · cases h
    · rename_i fs hu
      split at h
      · rename_i l hl
        split at h
        · rename_i hc
          obtain rfl := Option.some.inj h
          obtain ⟨xs, k, _, _, hlen, hxs, hf⟩ := DataW.trod_struct hu hd
          have := opens_fields (P := P) (fl := flat P n) (tr := fun t cs => ∃ x, DataW.trod enc P w base spare held k t cs = some x) (fun t l cs h1 ⟨x, h2⟩ => flat_opens n t l h1 _ _ _ h2) fs.toList 0 l cs hl (by rw [hlen, hc]; omega) fun f hf' => by
            obtain ⟨i, hi, rfl⟩ := List.getElem_of_mem hf'
            have hi' : i < fs.size := by simpa using hi
            have h1 := hf i _ (Array.getElem?_eq_getElem hi')
            rw [List.getElem?_eq_getElem (by omega)] at h1
            exact ⟨_, h1⟩
          rwa [List.drop_zero] at this
        · cases h
      · cases h
    · cases h
end
end Go
/- An argument of integers and bools, opened as two functions of the place: long ones at once. -/
namespace Go
open Go.ChangeShapes Go.WideShapes Go.ChangeAt Go.RowKit
def leafs (ks : Nat → Int) (bs : Nat → Bool) : List Bool → Nat → List Value
  | [], _ => []
  | true :: ls, n => .int .i64 (ks n) :: leafs ks bs ls (n + 1)
  | false :: ls, n => .bool (bs n) :: leafs ks bs ls (n + 1)
theorem leafs_congr {ks ks' : Nat → Int} {bs bs' : Nat → Bool} : ∀ (ls : List Bool) (n : Nat), (∀ i, n ≤ i → ks i = ks' i ∧ bs i = bs' i) → leafs ks bs ls n = leafs ks' bs' ls n
  | [], _, _ => rfl
  | true :: ls, n, h => by
    show Value.int .i64 (ks n) :: _ = Value.int .i64 (ks' n) :: _
    rw [(h n (Nat.le_refl _)).1, leafs_congr ls (n + 1) fun i hi => h i (by omega)]
  | false :: ls, n, h => by
    show Value.bool (bs n) :: _ = Value.bool (bs' n) :: _
    rw [(h n (Nat.le_refl _)).2, leafs_congr ls (n + 1) fun i hi => h i (by omega)]
theorem Opens.fn : ∀ (ls : List Bool) (cs : List Value) (n : Nat), Opens ls cs → ∃ (ks : Nat → Int) (bs : Nat → Bool), (∀ i, -9223372036854775808 ≤ ks i ∧ ks i ≤ 9223372036854775807) ∧ cs = leafs ks bs ls n
  | [], cs, n, h => ⟨fun _ => 0, fun _ => false, fun _ => ⟨by dsimp only; decide, by dsimp only; decide⟩, h⟩
  | true :: ls, cs, n, h => by
    obtain ⟨k, hk, r, rfl, hr⟩ := h
    obtain ⟨ks, bs, h1, rfl⟩ := Opens.fn ls r (n + 1) hr
    refine ⟨fun i => if i = n then k else ks i, bs, fun i => ?_, ?_⟩
    · show _ ≤ (if i = n then k else ks i) ∧ (if i = n then k else ks i) ≤ _
      split
      · exact hk
      · exact h1 i
    · show _ = Value.int .i64 (if n = n then k else ks n) :: _
      rw [if_pos rfl]
      congr 1
      refine leafs_congr ls (n + 1) fun i hi => ⟨?_, rfl⟩
      show ks i = if i = n then k else ks i
      rw [if_neg (by omega)]
  | false :: ls, cs, n, h => by
    obtain ⟨k, r, rfl, hr⟩ := h
    obtain ⟨ks, bs, h1, rfl⟩ := Opens.fn ls r (n + 1) hr
    refine ⟨ks, fun i => if i = n then k else bs i, h1, ?_⟩
    show _ = Value.bool (if n = n then k else bs n) :: _
    rw [if_pos rfl]
    congr 1
    refine leafs_congr ls (n + 1) fun i hi => ⟨rfl, ?_⟩
    show bs i = if i = n then k else bs i
    rw [if_neg (by omega)]
end Go
/- DistanceMonotone returns true for every input, and its arguments read behind the call as they read before. -/
namespace Go.Proofs.Ytomodppdolfinaa.distanceMonotone
open Go.ChangeShapes Go.WideShapes Go.ChangeAt Go.RowKit Go.Sub Go.Joins
theorem laidOut : laidOutB Try.prog = true := by kernel_rfl

set_option maxRecDepth 100000 in
theorem contract (H : Type) (enc : TypeId × Value → H) (W : World) (base : Nat) (args : Array Value) (ds gs : List (DataW H)) (before : List MemPlace)
    (hval : ∀ (j : Nat) t v, Try.f9.params[j]? = some t → args[j]? = some v → Value.okWide Try.prog W .any base t v)
    (hW : DataW.Whole enc Try.prog Try.f9.params.toList Rows.distanceMonotoneSpec.vars false W args.toList ds gs before) :
    Calls Try.prog 9 args W fun e W' => ∃ v, e = .returned v ∧ Rows.distanceMonotoneSpec.post enc Try.prog Try.f9 false true false false W args v W' := by
  have hW' := hW
  obtain ⟨p, q, hA0, hV, rfl, hfz, hnd⟩ := hW
  have hA : DataW.TrodAll enc Try.prog W 0 (fun _ => true) true Try.f9.params.toList args.toList ds p := hA0
  rw [Try.params9] at hA hval
  obtain ⟨rfl, rfl⟩ := trodVars_none hV
  obtain ⟨v0, vs0, d0, ds0, p0, q0, hargs, rfl, rfl, h0, r0⟩ := trodAll_cons hA
  obtain ⟨v1, vs1, d1, ds1, p1, q1, rfl, rfl, rfl, h1, r1⟩ := trodAll_cons r0
  obtain ⟨rfl, rfl, rfl⟩ := trodAll_nil r1
  obtain rfl : args = #[v0, v1] := by cases args; simp_all
  obtain ⟨cs0, rfl, _⟩ := okWide_struct Try.underlying55 (hval 0 55 v0 rfl rfl)
  obtain ⟨fu0, hf0⟩ := h0
  obtain ⟨l0⟩ := cs0
  obtain ⟨ks0, bs0, hk0, rfl⟩ := Opens.fn _ _ 0 (flat_opens 8 55 [true, true, true, true, true, true, true, true, true, true, true, true, true, true, true, true, true, true, true, true, true, true, true, true, true, true, true, true, true, true, true, true, true, true, true, true, false, false, true, true, true, true, false, false, true, true, true, true, false, false, true, true, true, true, true, true, true] (by kernel_rfl) _ _ _ hf0)
  obtain ⟨cs1, rfl, _⟩ := okWide_arr Try.underlying74 (hval 1 74 v1 rfl rfl)
  obtain ⟨fu1, hf1⟩ := h1
  obtain ⟨l1⟩ := cs1
  obtain ⟨x1n0, wx1n0, _, rfl, x1n1, wx1n1, _, rfl, x1n2, wx1n2, _, rfl, rfl⟩ := flat_opens 8 74 [true, true, true] (by kernel_rfl) _ _ _ hf1
  refine (mon_walk ⟨(ks0 0), (ks0 1), (ks0 2), (ks0 3)⟩ ⟨(ks0 4), (ks0 5), (ks0 6), (ks0 7)⟩ ⟨(ks0 8), (ks0 9), (ks0 10), (ks0 11)⟩ ⟨(ks0 12), (ks0 13), (ks0 14), (ks0 15)⟩ ⟨(ks0 16), (ks0 17), (ks0 18), (ks0 19)⟩ ⟨(ks0 20), (ks0 21), (ks0 22), (ks0 23)⟩ ⟨(ks0 24), (ks0 25), (ks0 26), (ks0 27)⟩ ⟨(ks0 28), (ks0 29), (ks0 30), (ks0 31)⟩ ⟨(ks0 32), (ks0 33), (ks0 34), (ks0 35)⟩ (bs0 36) (bs0 37) (ks0 38) (ks0 39) (ks0 40) (ks0 41) (bs0 42) (bs0 43) (ks0 44) (ks0 45) (ks0 46) (ks0 47) (bs0 48) (bs0 49) (ks0 50) (ks0 51) (ks0 52) (ks0 53) (ks0 54) (ks0 55) (ks0 56) x1n0 x1n1 x1n2 W).mono fun e W' ⟨he, hq⟩ => ?_
  subst he
  refine ⟨_, rfl, law_post laidOut ?_ (by kernel_rfl) Try.underlying4 rfl ?_ hW' hq.below (by rw [Try.params9]; rfl)⟩
  · rw [Try.params9]
    intro t ht
    simp only [List.mem_cons, List.mem_nil_iff, or_false] at ht
    rcases ht with rfl | rfl
    · exact ⟨by kernel_rfl, of_decide_eq_true (by kernel_rfl)⟩
    · exact ⟨by kernel_rfl, of_decide_eq_true (by kernel_rfl)⟩
  · intro ds' hd
    rw [Try.params9] at hd
    match ds', hd with
    | [e0, e1], _ => rfl

set_option maxRecDepth 100000 in
theorem lifted (os : Os) (started : os.Started) (H : Type) (enc : TypeId × Value → H) :
    ReturnsInHanded {} Try.checked os 9 .any (Rows.distanceMonotoneSpec.pre6 enc Try.prog Try.f9 Rows.distanceMonotoneRow.domain false) (Rows.distanceMonotoneSpec.post enc Try.prog Try.f9 false true false false) := by
  refine returnsInHanded_of_change (C := Try.checked) own started (by kernel_rfl) Try.func9
    (ChangeSpec.witness6 (enc := enc) (C := Try.checked) false ⟨#[], #[Value.agg #[Value.int .i64 0, Value.int .i64 0, Value.int .i64 0, Value.int .i64 0, Value.int .i64 0, Value.int .i64 0, Value.int .i64 0, Value.int .i64 0, Value.int .i64 0, Value.int .i64 0, Value.int .i64 0, Value.int .i64 0, Value.int .i64 0, Value.int .i64 0, Value.int .i64 0, Value.int .i64 0, Value.int .i64 0, Value.int .i64 0, Value.int .i64 0, Value.int .i64 0, Value.int .i64 0, Value.int .i64 0, Value.int .i64 0, Value.int .i64 0, Value.int .i64 0, Value.int .i64 0, Value.int .i64 0, Value.int .i64 0, Value.int .i64 0, Value.int .i64 0, Value.int .i64 0, Value.int .i64 0, Value.int .i64 0, Value.int .i64 0, Value.int .i64 0, Value.int .i64 0, Value.bool false, Value.bool false, Value.int .i64 0, Value.int .i64 0, Value.int .i64 0, Value.int .i64 0, Value.bool false, Value.bool false, Value.int .i64 0, Value.int .i64 0, Value.int .i64 0, Value.int .i64 0, Value.bool false, Value.bool false, Value.int .i64 0, Value.int .i64 0, Value.int .i64 0, Value.int .i64 0, Value.int .i64 0, Value.int .i64 0, Value.int .i64 0], Value.agg #[Value.int .i64 0, Value.int .i64 0, Value.int .i64 0]], []⟩ 8 (by kernel_rfl) (by kernel_rfl) (by kernel_rfl) (by kernel_rfl)) ?_
  intro W base args ds gs before hval hW _ _
  exact contract H enc W base args ds gs before hval hW
/-- The statement. -/
theorem said : Rows.DistanceMonotoneSaid :=
  OpenClaim.holds_of_wide 9 Try.f9 rfl rfl rfl rfl rfl rfl rfl ⟨rfl, rfl, rfl, rfl, rfl⟩ rfl rfl rfl rfl rfl (by kernel_rfl) Try.func9 (by kernel_rfl)
    (of_decide_eq_true (by kernel_rfl)) (by unfold Func.isWrapper; first | (rw [if_pos (by decide +kernel)]; kernel_rfl) | (rw [if_neg (by decide +kernel)]; exact ⟨rfl, rfl⟩))
    (fun os started H enc _ => lifted os started H enc)
#print axioms said
end Go.Proofs.Ytomodppdolfinaa.distanceMonotone

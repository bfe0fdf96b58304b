
/- BusBalances returns true for every input, and its arguments read behind the call as they read before. -/
import Derived.Test.YtfdpnephjpcnbaaDoorBz12
import Derived.Test.YtfdpnephjpcnbaaDoorBz01
import Derived.WideShapes
import Derived.Test.YtfdpnephjpcnbaaDoorCards
import Derived.Test.YtfdpnephjpcnbaaDoorTie
import Derived.Test.YtfdpnephjpcnbaaDoorBz43
set_option linter.unusedSimpArgs false
set_option linter.unusedVariables false
/- Arguments that are built of integers and bools alone (arrays and structures of them), opened all at once. -/
namespace Go
open Go.ChangeShapes Go.WideShapes Go.ChangeAt Go.RowKit
/-- The cells are as the leaves say: true for an integer, false for a bool. -/
def Opens : List Bool → List Value → Prop
  | [], cs => cs = []
  | true :: ls, cs => ∃ k : Int, (-9223372036854775808 ≤ k ∧ k ≤ 9223372036854775807) ∧ ∃ r, cs = .int .i64 k :: r ∧ Opens ls r
  | false :: ls, cs => ∃ b : Bool, ∃ r, cs = .bool b :: r ∧ Opens ls r
theorem Opens.append : ∀ {l m : List Bool} {cs ds : List Value}, Opens l cs → Opens m ds → Opens (l ++ m) (cs ++ ds)
  | [], _, _, _, h, h' => by
    have h : _ = _ := h
    subst h
    exact h'
  | true :: _, _, _, _, h, h' => by
    obtain ⟨k, hk, r, rfl, hr⟩ := h
    exact ⟨k, hk, _, rfl, hr.append h'⟩
  | false :: _, _, _, _, h, h' => by
    obtain ⟨k, r, rfl, hr⟩ := h
    exact ⟨k, _, rfl, hr.append h'⟩
theorem Opens.length : ∀ {l : List Bool} {cs : List Value}, Opens l cs → cs.length = l.length
  | [], _, h => by
    have h : _ = _ := h
    subst h
    rfl
  | true :: _, _, h => by
    obtain ⟨k, hk, r, rfl, hr⟩ := h
    simp [hr.length]
  | false :: _, _, h => by
    obtain ⟨k, r, rfl, hr⟩ := h
    simp [hr.length]
/-- The leaves of the fields, one behind the other. -/
def flatFs (P : Program) (fl : TypeId → Option (List Bool)) : List Field → Nat → Option (List Bool)
  | [], _ => some []
  | f :: fs, off => match fl f.type with
    | some l => if f.offset = off ∧ P.cellsOf f.type = l.length then (flatFs P fl fs (off + l.length)).map (l ++ ·) else none
    | none => none
/-- The leaves of a type. -/
def flat (P : Program) : Nat → TypeId → Option (List Bool)
  | 0, _ => none
  | n + 1, t => match P.underlying t with
    | some (.int .i64) => some [true]
    | some .bool => some [false]
    | some (.array m e) => match flat P n e with
      | some l => if P.cellsOf e = l.length ∧ P.cellsOf t = m * l.length then some (List.replicate m l).flatten else none
      | none => none
    | some (.struct fs) => match flatFs P (flat P n) fs.toList 0 with
      | some l => if P.cellsOf t = l.length then some l else none
      | none => none
    | _ => none
section
variable {H : Type} {enc : TypeId × Value → H} {P : Program} {w : World} {base : Nat} {spare : Nat → Bool} {held : Bool}
theorem opens_array {l : List Bool} {xs : List Value} : ∀ (m : Nat) (cs : List Value), cs.length = m * l.length → (∀ i, i < m → Opens l ((cs.drop (i * l.length)).take l.length)) → Opens (List.replicate m l).flatten cs
  | 0, cs, hl, _ => by
    have : cs = [] := List.eq_nil_of_length_eq_zero (by simpa using hl)
    subst this
    rfl
  | m + 1, cs, hl, h => by
    rw [List.replicate_succ, List.flatten_cons]
    have e : cs = cs.take l.length ++ cs.drop l.length := (List.take_append_drop _ _).symm
    rw [e]
    have h0 := h 0 (by omega)
    rw [Nat.zero_mul, List.drop_zero] at h0
    refine h0.append (opens_array (xs := xs) m _ ?_ fun i hi => ?_)
    · rw [List.length_drop, hl, Nat.succ_mul]; omega
    · have := h (i + 1) (by omega)
      rw [Nat.succ_mul] at this
      rw [List.drop_drop]
      rwa [Nat.add_comm] at this
theorem opens_fields {fl : TypeId → Option (List Bool)} {tr : TypeId → List Value → Prop} (hfl : ∀ t l cs, fl t = some l → tr t cs → Opens l cs) :
    ∀ (fs : List Field) (off : Nat) (ls : List Bool) (cs : List Value), flatFs P fl fs off = some ls → cs.length = off + ls.length →
      (∀ f ∈ fs, tr f.type ((cs.drop f.offset).take (P.cellsOf f.type))) → Opens ls (cs.drop off)
  | [], off, ls, cs, h, hl, _ => by
    simp only [flatFs, Option.some.injEq] at h
    subst h
    have : cs.drop off = [] := List.drop_of_length_le (by simpa using Nat.le_of_eq hl)
    rw [this]
    rfl
  | f :: fs, off, ls, cs, h, hl, ht => by
    simp only [flatFs] at h
    split at h
    · rename_i l hfle
      split at h
      · rename_i hc
        obtain ⟨h1, h2⟩ := hc
        obtain ⟨r, hr, rfl⟩ := Option.map_eq_some_iff.1 h
        have h3 := hfl _ _ _ hfle (ht f List.mem_cons_self)
        rw [h1, h2] at h3
        have h4 := opens_fields hfl fs (off + l.length) r cs hr (by rw [hl, List.length_append]; omega) fun g hg => ht g (List.mem_cons_of_mem _ hg)
        have e : cs.drop off = (cs.drop off).take l.length ++ cs.drop (off + l.length) := by
          rw [← List.drop_drop]
          exact (List.take_append_drop _ _).symm
        rw [e]
        exact h3.append h4
      · cases h
    · cases h
theorem flat_opens : ∀ (n : Nat) (t : TypeId) (ls : List Bool), flat P n t = some ls → ∀ (fuel : Nat) (cs : List Value) (x : DataW H × List MemPlace), DataW.trod enc P w base spare held fuel t cs = some x → Opens ls cs
  | 0, _, _, h => by cases h
  | n + 1, t, ls, h => by
    intro fuel cs x hd
    simp only [flat] at h
    split at h
    · rename_i hu
      obtain rfl := Option.some.inj h
      obtain ⟨k, rfl, _, hw⟩ := DataW.trod_int hu hd
      exact ⟨k, wf_i64 hw, [], rfl, rfl⟩
    · rename_i hu
      obtain rfl := Option.some.inj h
      obtain ⟨b, rfl, _⟩ := DataW.trod_bool hu hd
      exact ⟨b, [], rfl, rfl⟩
    · rename_i m e hu
      split at h
      · rename_i l hl
        split at h
        · rename_i hc
          obtain rfl := Option.some.inj h
          obtain ⟨xs, k, _, _, hlen, hxs, hel⟩ := DataW.trod_array hu hd
          refine opens_array (xs := []) m cs (by rw [hlen]; exact hc.2) fun i hi => ?_
          have h1 := hel i hi
          obtain ⟨y, hy⟩ : ∃ y, xs[i]? = some y := ⟨_, List.getElem?_eq_getElem (by omega)⟩
          rw [hy, hc.1] at h1
          exact flat_opens n e l hl _ _ _ h1
        · cases h
      · cases h
    · rename_i fs hu
      split at h
      · rename_i l hl
        split at h
        · rename_i hc
          obtain rfl := Option.some.inj h
          obtain ⟨xs, k, _, _, hlen, hxs, hf⟩ := DataW.trod_struct hu hd
          have := opens_fields (P := P) (fl := flat P n) (tr := fun t cs => ∃ x, DataW.trod enc P w base spare held k t cs = some x) (fun t l cs h1 ⟨x, h2⟩ => flat_opens n t l h1 _ _ _ h2) fs.toList 0 l cs hl (by rw [hlen, hc]; omega) fun f hf' => by
            obtain ⟨i, hi, rfl⟩ := List.getElem_of_mem hf'
            have hi' : i < fs.size := by simpa using hi
            have h1 := hf i _ (Array.getElem?_eq_getElem hi')
            rw [List.getElem?_eq_getElem (by omega)] at h1
            exact ⟨_, h1⟩
          rwa [List.drop_zero] at this
        · cases h
      · cases h
    · cases h
end
end Go
/- An argument of integers and bools, opened as two functions of the place: long ones at once. -/
namespace Go
open Go.ChangeShapes Go.WideShapes Go.ChangeAt Go.RowKit
def leafs (ks : Nat → Int) (bs : Nat → Bool) : List Bool → Nat → List Value
  | [], _ => []
  | true :: ls, n => .int .i64 (ks n) :: leafs ks bs ls (n + 1)
  | false :: ls, n => .bool (bs n) :: leafs ks bs ls (n + 1)
theorem leafs_congr {ks ks' : Nat → Int} {bs bs' : Nat → Bool} : ∀ (ls : List Bool) (n : Nat), (∀ i, n ≤ i → ks i = ks' i ∧ bs i = bs' i) → leafs ks bs ls n = leafs ks' bs' ls n
  | [], _, _ => rfl
  | true :: ls, n, h => by
    show Value.int .i64 (ks n) :: _ = Value.int .i64 (ks' n) :: _
    rw [(h n (Nat.le_refl _)).1, leafs_congr ls (n + 1) fun i hi => h i (by omega)]
  | false :: ls, n, h => by
    show Value.bool (bs n) :: _ = Value.bool (bs' n) :: _
    rw [(h n (Nat.le_refl _)).2, leafs_congr ls (n + 1) fun i hi => h i (by omega)]
theorem Opens.fn : ∀ (ls : List Bool) (cs : List Value) (n : Nat), Opens ls cs → ∃ (ks : Nat → Int) (bs : Nat → Bool), (∀ i, -9223372036854775808 ≤ ks i ∧ ks i ≤ 9223372036854775807) ∧ cs = leafs ks bs ls n
  | [], cs, n, h => ⟨fun _ => 0, fun _ => false, fun _ => ⟨by dsimp only; decide, by dsimp only; decide⟩, h⟩
  | true :: ls, cs, n, h => by
    obtain ⟨k, hk, r, rfl, hr⟩ := h
    obtain ⟨ks, bs, h1, rfl⟩ := Opens.fn ls r (n + 1) hr
    refine ⟨fun i => if i = n then k else ks i, bs, fun i => ?_, ?_⟩
    · show _ ≤ (if i = n then k else ks i) ∧ (if i = n then k else ks i) ≤ _
      split
      · exact hk
      · exact h1 i
    · show _ = Value.int .i64 (if n = n then k else ks n) :: _
      rw [if_pos rfl]
      congr 1
      refine leafs_congr ls (n + 1) fun i hi => ⟨?_, rfl⟩
      show ks i = if i = n then k else ks i
      rw [if_neg (by omega)]
  | false :: ls, cs, n, h => by
    obtain ⟨k, r, rfl, hr⟩ := h
    obtain ⟨ks, bs, h1, rfl⟩ := Opens.fn ls r (n + 1) hr
    refine ⟨ks, fun i => if i = n then k else bs i, h1, ?_⟩
    show _ = Value.bool (if n = n then k else bs n) :: _
    rw [if_pos rfl]
    congr 1
    refine leafs_congr ls (n + 1) fun i hi => ⟨rfl, ?_⟩
    show bs i = if i = n then k else bs i
    rw [if_neg (by omega)]
end Go
/- Arguments that are the feeders of a bus, opened. -/
set_option linter.unusedVariables false
set_option linter.unusedSimpArgs false
namespace Go.Proofs.YtfdpnephjpcnbaaDoor
open Go.ChangeShapes Go.WideShapes Go.ChangeAt Go.RowKit Go.Sub
section
variable {H : Type} {enc : TypeId × Value → H} {w : World} {base : Nat} {spare : Nat → Bool} {held : Bool}
theorem cellsWin : Tryd.prog.cellsOf 24 = 12 := by kernel_rfl
set_option maxRecDepth 100000 in
/-- A slice of windows. -/
theorem open_wins {fuel : Nat} {cs : List Value} {x : DataW H × List MemPlace} (hf : DataW.trod enc Tryd.prog w base spare held fuel 46 cs = some x) :
    ∃ (A : Option Addr) (n cap : Nat) (vs : List Value) (X : Nat → Nat → Int), cs = [.slice A n cap] ∧ RdV w A n cap 12 vs ∧ (∀ i k, i < n → k < 12 → vs[i * 12 + k]? = some (.int .i64 (X i k))) ∧ n ≤ 9223372036854775807 := by
  rcases DataW.trod_slice Tryd.underlying46 hf with ⟨rfl, _⟩ | ⟨a, len, cap, elems, rest, n, _, rfl, _, _, hlc, hcm, hel, hcells, _, _⟩
  · exact ⟨none, 0, 0, [], fun _ _ => 0, rfl, RdV.nil w 12, fun i k hi => absurd hi (Nat.not_lt_zero _), by decide⟩
  · have hn : len ≤ 9223372036854775807 := by
      unfold maxLen at hcm
      omega
    have each : ∀ i, i < len → ∃ ks : List Int, ks.length = 12 ∧ ∀ j, j < 12 → w.cell? ((a.add (i * 12)).add j) = some (.int .i64 (ks.getD j 0)) := by
      intro i hi
      have h1 := hcells i hi
      rw [List.getElem?_eq_getElem (by omega), cellsWin] at h1
      obtain ⟨cs, h2, h3⟩ := Option.bind_eq_some_iff.1 h1
      obtain ⟨ks, hkl, rfl, _, _⟩ := trod_arr_ints Tryd.underlying24 Tryd.underlying3 cellsInt cellsWin h3
      refine ⟨ks, hkl, fun j hj => ?_⟩
      rw [(World.cells?_some h2).2.2 j hj, List.getElem?_map, List.getElem?_eq_getElem (by omega), List.getD_eq_getElem?_getD, List.getElem?_eq_getElem (by omega)]
      rfl
    rcases Nat.eq_zero_or_pos len with h0 | h0
    · subst h0
      exact ⟨_, 0, cap, [], fun _ _ => 0, rfl, RdV.nil' w 12 a cap, fun i k hi => absurd hi (Nat.not_lt_zero _), by decide⟩
    · obtain ⟨b, o, sp⟩ := a
      have hsp : sp = none := by
        obtain ⟨ks, _, hc⟩ := each 0 h0
        have h1 := hc 0 (by decide)
        cases sp with
        | none => rfl
        | some s =>
          simp only [Addr.add, World.cell?] at h1
          split at h1
          · simp at h1
          · cases h1
      subst hsp
      have addE : ∀ i j : Nat, ((⟨b, o, none⟩ : Addr).add i).add j = ⟨b, o + i + j, none⟩ := by
        have one : ∀ o i : Nat, (⟨b, o, none⟩ : Addr).add i = ⟨b, o + i, none⟩ := by intro o i; unfold Addr.add; split <;> simp_all
        intro i j
        rw [one, one]
      let f : Nat → List Int := fun i => if h : i < len then Classical.choose (each i h) else []
      have hfs : ∀ i (h : i < len), ∀ j, j < 12 → w.cell? ⟨b, o + i * 12 + j, none⟩ = some (.int .i64 ((f i).getD j 0)) := by
        intro i h j hj
        have := (Classical.choose_spec (each i h)).2 j hj
        rw [addE] at this
        rw [this]
        simp only [f, h, dif_pos]
      refine ⟨_, len, cap, (List.range (len * 12)).map (fun j => .int .i64 ((f (j / 12)).getD (j % 12) 0)), fun i k => (f i).getD k 0, rfl, ⟨by simp, hlc, fun _ => ⟨b, o, rfl, ?_, ?_⟩, fun e => by cases e⟩, ?_, hn⟩
      · exact World.block_lt_of_cell? w ⟨b, o + 0 * 12 + 0, none⟩ (hfs 0 h0 0 (by decide))
      · intro j u hj
        obtain ⟨hlt, he⟩ := List.getElem?_eq_some_iff.1 hj
        have hlt' : j < len * 12 := by simpa using hlt
        have e : u = .int .i64 ((f (j / 12)).getD (j % 12) 0) := by rw [← he]; simp
        subst e
        have := hfs (j / 12) (by omega) (j % 12) (by omega)
        rwa [show o + j / 12 * 12 + j % 12 = o + j by omega] at this
      · intro i k hi hk
        rw [List.getElem?_map, List.getElem?_range (by omega), Option.map_some, show (i * 12 + k) / 12 = i by omega, show (i * 12 + k) % 12 = k by omega]
set_option maxRecDepth 100000 in
theorem open_feed {r : Reach} {b0 : Nat} {v : Value} {d : DataW H} {ps : List MemPlace}
    (hval : Value.okWide Tryd.prog w r b0 48 v) (hd : DataW.Trod enc Tryd.prog w base spare held 48 v d ps) :
    ∃ (A : Option Addr) (n ca : Nat) (vs : List Value) (X : Nat → Nat → Int) (F : Nat → Int) (a b d : Int) (cs : Array Value), v = .agg cs ∧ cs.size = 16 ∧ cs[0]? = some (.slice A n ca) ∧ (∀ k, k < 12 → cs[1 + k]? = some (.int .i64 (F k))) ∧
      cs[13]? = some (.int .i64 a) ∧ cs[14]? = some (.int .i64 b) ∧ cs[15]? = some (.int .i64 d) ∧ RdV w A n ca 12 vs ∧ (∀ i k, i < n → k < 12 → vs[i * 12 + k]? = some (.int .i64 (X i k))) ∧ n ≤ 9223372036854775807 := by
  obtain ⟨cs, rfl, hsz⟩ := okWide_struct Tryd.underlying48 hval
  obtain ⟨fuel, hf⟩ := hd
  obtain ⟨l⟩ := cs
  obtain ⟨xs, n, _, _, hl, hlen, hf'⟩ := DataW.trod_struct Tryd.underlying48 hf
  simp only [Value.cells] at hl hf'
  rw [show Tryd.prog.cellsOf 48 = 16 by kernel_rfl] at hl
  obtain ⟨y0, y1, y2, y3, y4, rfl⟩ : ∃ y0 y1 y2 y3 y4, xs = [y0, y1, y2, y3, y4] := by
    match xs, hlen with
    | [y0, y1, y2, y3, y4], _ => exact ⟨y0, y1, y2, y3, y4, rfl⟩
  have h0 : DataW.trod enc Tryd.prog w base spare held n 46 ((l.drop 0).take (Tryd.prog.cellsOf 46)) = some y0 := hf' 0 _ rfl
  have h1 : DataW.trod enc Tryd.prog w base spare held n 24 ((l.drop 1).take (Tryd.prog.cellsOf 24)) = some y1 := hf' 1 _ rfl
  have h2 : DataW.trod enc Tryd.prog w base spare held n 3 ((l.drop 13).take (Tryd.prog.cellsOf 3)) = some y2 := hf' 2 _ rfl
  have h3 : DataW.trod enc Tryd.prog w base spare held n 3 ((l.drop 14).take (Tryd.prog.cellsOf 3)) = some y3 := hf' 3 _ rfl
  have h4 : DataW.trod enc Tryd.prog w base spare held n 3 ((l.drop 15).take (Tryd.prog.cellsOf 3)) = some y4 := hf' 4 _ rfl
  obtain ⟨A, m, ca, vs, X, hA, hR, hX, hn⟩ := open_wins h0
  obtain ⟨ks, hkl, hk, _, _⟩ := trod_arr_ints Tryd.underlying24 Tryd.underlying3 cellsInt cellsWin h1
  obtain ⟨a, ha, _, _⟩ := DataW.trod_int Tryd.underlying3 h2
  obtain ⟨b, hb, _, _⟩ := DataW.trod_int Tryd.underlying3 h3
  obtain ⟨e, he, _, _⟩ := DataW.trod_int Tryd.underlying3 h4
  rw [cellsInt] at ha hb he
  rw [cellsWin] at hk
  rw [show Tryd.prog.cellsOf 46 = 1 by kernel_rfl] at hA
  have gA := congrArg (·[0]?) hA
  have ga := congrArg (·[0]?) ha
  have gb := congrArg (·[0]?) hb
  have ge := congrArg (·[0]?) he
  refine ⟨A, m, ca, vs, X, fun k => ks.getD k 0, a, b, e, ⟨l⟩, rfl, by simpa using hl, ?_, fun k hk' => ?_, ?_, ?_, ?_, hR, hX, hn⟩
  · simpa using gA
  · have e := congrArg (·[k]?) hk
    simp only [List.getElem?_take, List.getElem?_drop] at e
    rw [if_pos hk', List.getElem?_map, (List.getElem?_eq_getElem (by omega) : ks[k]? = some ks[k])] at e
    rw [List.getElem?_toArray, e]
    show some (Value.int .i64 ks[k]) = some (Value.int .i64 (ks.getD k 0))
    rw [List.getD_eq_getElem?_getD, (List.getElem?_eq_getElem (by omega) : ks[k]? = some ks[k])]
    rfl
  · simpa [List.getElem?_take, List.getElem?_drop] using ga
  · simpa [List.getElem?_take, List.getElem?_drop] using gb
  · simpa [List.getElem?_take, List.getElem?_drop] using ge
end
end Go.Proofs.YtfdpnephjpcnbaaDoor
namespace Go.Proofs.YtfdpnephjpcnbaaDoor.busBalances
open Go.ChangeShapes Go.WideShapes Go.ChangeAt Go.RowKit Go.Sub

set_option maxRecDepth 100000 in
theorem contract (H : Type) (enc : TypeId × Value → H) (W : World) (base : Nat) (args : Array Value) (ds gs : List (DataW H)) (before : List MemPlace)
    (hval : ∀ (j : Nat) t v, Tryd.f4.params[j]? = some t → args[j]? = some v → Value.okWide Tryd.prog W .any base t v)
    (hW : DataW.Whole enc Tryd.prog Tryd.f4.params.toList Rows.busBalancesSpec.vars false W args.toList ds gs before) (hL : laidMetH Tryd.prog Rows.busBalancesRow.laid W) :
    Calls Tryd.prog 4 args W fun e W' => ∃ v, e = .returned v ∧ Rows.busBalancesSpec.post enc Tryd.prog Tryd.f4 false true false false W args v W' := by
  have hW' := hW
  obtain ⟨p, q, hA0, hV, rfl, hfz, hnd⟩ := hW
  have hA : DataW.TrodAll enc Tryd.prog W 0 (fun _ => true) true Tryd.f4.params.toList args.toList ds p := hA0
  rw [Tryd.params4] at hA hval
  obtain ⟨rfl, rfl⟩ := trodVars_none hV
  obtain ⟨v0, vs0, d0, ds0, p0, q0, hargs, rfl, rfl, h0, r0⟩ := trodAll_cons hA
  obtain ⟨v1, vs1, d1, ds1, p1, q1, rfl, rfl, rfl, h1, r1⟩ := trodAll_cons r0
  obtain ⟨rfl, rfl, rfl⟩ := trodAll_nil r1
  obtain rfl : args = #[v0, v1] := by cases args; simp_all
  obtain ⟨A0, n0, ca0, vs0, X0, F0, a0, b0, d0, cs0, rfl, hz0, h00, hF0, ha0, hb0, hd0, hRw0, hX0, hn0⟩ := open_feed (hval 0 48 v0 rfl rfl) h0
  obtain ⟨cs1, rfl, _⟩ := okWide_struct Tryd.underlying23 (hval 1 23 v1 rfl rfl)
  obtain ⟨fu1, hf1⟩ := h1
  obtain ⟨l1⟩ := cs1
  obtain ⟨ks1, bs1, hk1, rfl⟩ := Opens.fn _ _ 0 (flat_opens 8 23 [true, true, true, true] (by kernel_rfl) _ _ _ hf1)
  refine (bal_walk A0 n0 ca0 vs0 X0 F0 a0 b0 d0 cs0 (ks1 0) (ks1 1) (ks1 2) (ks1 3) W (roots_of_laid hL) hz0 h00 hF0 ha0 hb0 hd0 hRw0 hX0 hn0).mono fun e W' ⟨he, hq⟩ => ?_
  subst he
  refine ⟨_, rfl, law_post laidOut ?_ (by kernel_rfl) Tryd.underlying4 rfl ?_ hW' hq.below (by rw [Tryd.params4]; rfl)⟩
  · rw [Tryd.params4]
    intro t ht
    simp only [List.mem_cons, List.mem_nil_iff, or_false] at ht
    rcases ht with rfl | rfl
    · exact ⟨by kernel_rfl, of_decide_eq_true (by kernel_rfl)⟩
    · exact ⟨by kernel_rfl, of_decide_eq_true (by kernel_rfl)⟩
  · intro ds' hd
    rw [Tryd.params4] at hd
    match ds', hd with
    | [e0, e1], _ => rfl

theorem laid_met (os : Os) : laidMet Tryd.prog Rows.busBalancesRow.laid ((laidWorld os).forCall (fun _ _ => 0) ⟨#[], #[.agg #[Value.slice none 0 0, Value.int .i64 0, Value.int .i64 0, Value.int .i64 0, Value.int .i64 0, Value.int .i64 0, Value.int .i64 0, Value.int .i64 0, Value.int .i64 0, Value.int .i64 0, Value.int .i64 0, Value.int .i64 0, Value.int .i64 0, Value.int .i64 0, Value.int .i64 0, Value.int .i64 0], .agg #[.int .i64 0, .int .i64 0, .int .i64 0, .int .i64 0]], []⟩).memory :=
  laidMet_of_run' 8 (by kernel_rfl) (by kernel_rfl)
theorem reads (os : Os) {H : Type} (enc : TypeId × Value → H) : ∃ places, DataW.whole enc Tryd.prog ((laidWorld os).forCall (fun _ _ => 0) ⟨#[], #[.agg #[Value.slice none 0 0, Value.int .i64 0, Value.int .i64 0, Value.int .i64 0, Value.int .i64 0, Value.int .i64 0, Value.int .i64 0, Value.int .i64 0, Value.int .i64 0, Value.int .i64 0, Value.int .i64 0, Value.int .i64 0, Value.int .i64 0, Value.int .i64 0, Value.int .i64 0, Value.int .i64 0], .agg #[.int .i64 0, .int .i64 0, .int .i64 0, .int .i64 0]], []⟩).memory Tryd.f4.params.toList Rows.busBalancesSpec.vars false (#[.agg #[Value.slice none 0 0, Value.int .i64 0, Value.int .i64 0, Value.int .i64 0, Value.int .i64 0, Value.int .i64 0, Value.int .i64 0, Value.int .i64 0, Value.int .i64 0, Value.int .i64 0, Value.int .i64 0, Value.int .i64 0, Value.int .i64 0, Value.int .i64 0, Value.int .i64 0, Value.int .i64 0], .agg #[.int .i64 0, .int .i64 0, .int .i64 0, .int .i64 0]] : Array Value).toList 8 = some ([.agg [.nil, .agg [.lit (.int .i64 0), .lit (.int .i64 0), .lit (.int .i64 0), .lit (.int .i64 0), .lit (.int .i64 0), .lit (.int .i64 0), .lit (.int .i64 0), .lit (.int .i64 0), .lit (.int .i64 0), .lit (.int .i64 0), .lit (.int .i64 0), .lit (.int .i64 0)], .lit (.int .i64 0), .lit (.int .i64 0), .lit (.int .i64 0)], .agg [.lit (.int .i64 0), .lit (.int .i64 0), .lit (.int .i64 0), .lit (.int .i64 0)]], [], places) :=
  ⟨[], by kernel_rfl⟩
set_option maxRecDepth 100000 in
theorem lifted (os : Os) (started : os.Started) (H : Type) (enc : TypeId × Value → H) (F : Stop.Interp) :
    ReturnsInHanded {} Tryd.checked os 4 .any ((OpenSpec.ofChange Rows.busBalancesSpec).preRow enc Tryd.prog Tryd.f4 Rows.busBalancesRow.domain false Rows.busBalancesRow.laid) (((OpenSpec.ofChange Rows.busBalancesSpec).at F).post enc Tryd.prog Tryd.f4 false true false false) := by
  obtain ⟨places, hx⟩ := reads os enc
  refine returnsInHanded_of_row (C := Tryd.checked) (s := OpenSpec.ofChange Rows.busBalancesSpec) own started (by kernel_rfl) Tryd.func4
    (witness_row_at (enc := enc) (C := Tryd.checked) false (laidWorld os) #[.agg #[Value.slice none 0 0, Value.int .i64 0, Value.int .i64 0, Value.int .i64 0, Value.int .i64 0, Value.int .i64 0, Value.int .i64 0, Value.int .i64 0, Value.int .i64 0, Value.int .i64 0, Value.int .i64 0, Value.int .i64 0, Value.int .i64 0, Value.int .i64 0, Value.int .i64 0, Value.int .i64 0], .agg #[.int .i64 0, .int .i64 0, .int .i64 0, .int .i64 0]] rfl (by kernel_rfl) (by kernel_rfl) (by kernel_rfl)
      (OpenSpec.preRow_of_cond 8 hx (by kernel_rfl) (fun k hk => by cases hk) (by kernel_rfl) (laid_met os))) ?_
  intro W base args ds gs before hval hW _ _ _ hL _ _
  exact contract H enc W base args ds gs before hval hW hL
theorem said : Rows.BusBalancesSaid :=
  OpenClaim.holds_of_cond 4 Tryd.f4 rfl rfl rfl rfl rfl rfl rfl ⟨rfl, rfl, rfl, rfl, rfl⟩ rfl rfl rfl rfl rfl (by kernel_rfl) Tryd.func4 (by kernel_rfl)
    (of_decide_eq_true (by kernel_rfl)) (by unfold Func.isWrapper; first | (rw [if_pos (by decide +kernel)]; kernel_rfl) | (rw [if_neg (by decide +kernel)]; exact ⟨rfl, rfl⟩))
    (fun os started H enc _ F => by rw [OpenClaim.pre_eq_preRow]; exact lifted os started H enc F)
theorem plain (f : FuncId) (fn : Func) (hf : Tryd.pinned.checked.prog.funcNamed "substation/substationtop.BusBalances" = some f) (hfn : Tryd.pinned.checked.prog.funcs[f]? = some fn) :
    false = Tryd.pinned.checked.prog.looks [] ∧ ∀ (j : Nat) t, fn.params[j]? = some t → Tryd.pinned.checked.prog.wantsStandIn t = false := by
  obtain rfl : f = 4 := Option.some.inj ((show Tryd.prog.funcNamed "substation/substationtop.BusBalances" = some 4 by kernel_rfl).symm.trans hf) |>.symm
  obtain rfl : fn = Tryd.f4 := (Option.some.inj (Tryd.func4.symm.trans hfn)).symm
  refine ⟨by kernel_rfl, fun j t ht => ?_⟩
  rw [Tryd.params4] at ht
  have hm := Array.mem_of_getElem? ht
  simp only [List.mem_toArray, List.mem_cons, List.mem_nil_iff, or_false] at hm
  rcases hm with rfl | rfl
  · exact (show Tryd.prog.wantsStandIn 48 = false by kernel_rfl)
  · exact (show Tryd.prog.wantsStandIn 23 = false by kernel_rfl)
/-- The card. -/
theorem card : Rows.BusBalancesCardSaid :=
  Claim7.holds_tied_plain_at .later [] _ _ _ _ said (fun _ h => by cases h) (by kernel_rfl) (fun _ h => by cases h) busBalances_row_tie rfl ⟨rfl, rfl⟩ (by kernel_rfl) rfl plain (by kernel_rfl)
#print axioms card
end Go.Proofs.YtfdpnephjpcnbaaDoor.busBalances

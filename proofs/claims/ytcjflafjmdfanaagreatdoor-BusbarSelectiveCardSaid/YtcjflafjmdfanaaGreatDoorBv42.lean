
/- The case of a law of the bus relay as an argument, opened. -/
import Derived.Test.YtcjflafjmdfanaaGreatDoorBv10
import Derived.Test.YtcjflafjmdfanaaGreatDoorBv11
import Derived.Test.YtcjflafjmdfanaaGreatDoorBv35
import Derived.WideShapes
set_option maxRecDepth 100000
set_option linter.unusedSimpArgs false
set_option linter.unusedVariables false
/- Arguments with slices in them, opened: the leaves of a type, the elements of a slice as a list. -/
namespace Go
open Go.ChangeShapes Go.WideShapes Go.ChangeAt Go.RowKit
def Leafy : List Nat → List Value → Prop
 | [], cs => cs = []
 | 0 :: ls, cs => ∃ (k : Int) (r : List Value), cs = .int .i64 k :: r ∧ Leafy ls r
 | 1 :: ls, cs => ∃ (b : Bool) (r : List Value), cs = .bool b :: r ∧ Leafy ls r
 | 2 :: ls, cs => ∃ (s : ByteArray) (r : List Value), cs = .string s :: r ∧ s.size ≤ maxLen ∧ Leafy ls r
 | _ :: ls, cs => ∃ (A : Option Addr) (n c : Nat) (r : List Value), cs = .slice A n c :: r ∧ Leafy ls r
theorem Leafy.append : ∀ {l m : List Nat} {cs ds : List Value}, Leafy l cs → Leafy m ds → Leafy (l ++ m) (cs ++ ds)
 | [], _, _, _, h, h' => by
  have h : _ = _ := h
  subst h
  exact h'
 | 0 :: _, _, _, _, h, h' => by
  obtain ⟨k, r, rfl, hr⟩ := h
  exact ⟨k, _, rfl, hr.append h'⟩
 | 1 :: _, _, _, _, h, h' => by
  obtain ⟨k, r, rfl, hr⟩ := h
  exact ⟨k, _, rfl, hr.append h'⟩
 | 2 :: _, _, _, _, h, h' => by
  obtain ⟨k, r, rfl, hk, hr⟩ := h
  exact ⟨k, _, rfl, hk, hr.append h'⟩
 | (_ + 3) :: _, _, _, _, h, h' => by
  obtain ⟨A, n, c, r, rfl, hr⟩ := h
  exact ⟨A, n, c, _, rfl, hr.append h'⟩
theorem Leafy.length : ∀ {l : List Nat} {cs : List Value}, Leafy l cs → cs.length = l.length
 | [], _, h => by
  have h : _ = _ := h
  subst h
  rfl
 | 0 :: _, _, h => by
  obtain ⟨k, r, rfl, hr⟩ := h
  simp [hr.length]
 | 1 :: _, _, h => by
  obtain ⟨k, r, rfl, hr⟩ := h
  simp [hr.length]
 | 2 :: _, _, h => by
  obtain ⟨k, r, rfl, hk, hr⟩ := h
  simp [hr.length]
 | (_ + 3) :: _, _, h => by
  obtain ⟨A, n, c, r, rfl, hr⟩ := h
  simp [hr.length]
theorem Leafy.one : ∀ {l : List Nat} {cs : List Value}, Leafy l cs → ∀ u ∈ cs, u.oneCell' = true
 | [], _, h => by
  have h : _ = _ := h
  subst h
  intro u hu
  cases hu
 | 0 :: _, _, h => by
  obtain ⟨k, r, rfl, hr⟩ := h
  intro u hu
  rcases List.mem_cons.1 hu with rfl | hu
  ·rfl
  ·exact hr.one u hu
 | 1 :: _, _, h => by
  obtain ⟨k, r, rfl, hr⟩ := h
  intro u hu
  rcases List.mem_cons.1 hu with rfl | hu
  ·rfl
  ·exact hr.one u hu
 | 2 :: _, _, h => by
  obtain ⟨k, r, rfl, hk, hr⟩ := h
  intro u hu
  rcases List.mem_cons.1 hu with rfl | hu
  ·rfl
  ·exact hr.one u hu
 | (_ + 3) :: _, _, h => by
  obtain ⟨A, n, c, r, rfl, hr⟩ := h
  intro u hu
  rcases List.mem_cons.1 hu with rfl | hu
  ·rfl
  ·exact hr.one u hu
theorem Leafy.int_at : ∀ {l : List Nat} {cs : List Value}, Leafy l cs → ∀ i : Nat, l[i]? = some 0 → ∃ k : Int, cs[i]? = some (Value.int .i64 k)
 | [], _, _, i, h => by simp at h
 | 0 :: _, _, h, i, hi => by
  obtain ⟨k, r, rfl, hr⟩ := h
  cases i with
  | zero => exact ⟨k, rfl⟩
  | succ i => exact hr.int_at i hi
 | 1 :: _, _, h, i, hi => by
  obtain ⟨k, r, rfl, hr⟩ := h
  cases i with
  | zero => cases hi
  | succ i => exact hr.int_at i hi
 | 2 :: _, _, h, i, hi => by
  obtain ⟨k, r, rfl, hk, hr⟩ := h
  cases i with
  | zero => cases hi
  | succ i => exact hr.int_at i hi
 | (_ + 3) :: _, _, h, i, hi => by
  obtain ⟨A, m, c, r, rfl, hr⟩ := h
  cases i with
  | zero => simp at hi
  | succ i => exact hr.int_at i hi
def leafFs (P : Program) (fl : TypeId → Option (List Nat)) : List Field → Nat → Option (List Nat)
 | [], _ => some []
 | f :: fs, off => match fl f.type with
  | some l => if f.offset = off ∧ P.cellsOf f.type = l.length then (leafFs P fl fs (off + l.length)).map (l ++ ·) else none
  | none => none
def leaves (P : Program) : Nat → TypeId → Option (List Nat)
 | 0, _ => none
 | n + 1, t => match P.underlying t with
  | some (.int .i64) => some [0]
  | some .bool => some [1]
  | some .string => some [2]
  | some (.slice _) => some [3]
  | some (.array m e) => match leaves P n e with
   | some l => if P.cellsOf e = l.length ∧ P.cellsOf t = m * l.length then some (List.replicate m l).flatten else none
   | none => none
  | some (.struct fs) => match leafFs P (leaves P n) fs.toList 0 with
   | some l => if P.cellsOf t = l.length then some l else none
   | none => none
  | _ => none
section
variable {H : Type} {enc : TypeId × Value → H} {P : Program} {w : World} {base : Nat} {spare : Nat → Bool} {held : Bool}
theorem leafy_array {l : List Nat} : ∀ (m : Nat) (cs : List Value), cs.length = m * l.length → (∀ i, i < m → Leafy l ((cs.drop (i * l.length)).take l.length)) → Leafy (List.replicate m l).flatten cs
 | 0, cs, hl, _ => by
  have : cs = [] := List.eq_nil_of_length_eq_zero (by simpa using hl)
  subst this
  rfl
 | m + 1, cs, hl, h => by
  rw [List.replicate_succ, List.flatten_cons]
  have e : cs = cs.take l.length ++ cs.drop l.length := (List.take_append_drop _ _).symm
  rw [e]
  have h0 := h 0 (by omega)
  rw [Nat.zero_mul, List.drop_zero] at h0
  refine h0.append (leafy_array m _ ?_ fun i hi => ?_)
  ·rw [List.length_drop, hl, Nat.succ_mul]; omega
  ·have := h (i + 1) (by omega)
   rw [Nat.succ_mul] at this
   rw [List.drop_drop]
   rwa [Nat.add_comm] at this
theorem leafy_fields {fl : TypeId → Option (List Nat)} {tr : TypeId → List Value → Prop} (hfl : ∀ t l cs, fl t = some l → tr t cs → Leafy l cs) :
  ∀ (fs : List Field) (off : Nat) (ls : List Nat) (cs : List Value), leafFs P fl fs off = some ls → cs.length = off + ls.length →
   (∀ f ∈ fs, tr f.type ((cs.drop f.offset).take (P.cellsOf f.type))) → Leafy ls (cs.drop off)
 | [], off, ls, cs, h, hl, _ => by
  simp only [leafFs, Option.some.injEq] at h
  subst h
  have : cs.drop off = [] := List.drop_of_length_le (by simpa using Nat.le_of_eq hl)
  rw [this]
  rfl
 | f :: fs, off, ls, cs, h, hl, ht => by
  simp only [leafFs] at h
  split at h
  ·rename_i l hfle
   split at h
   ·rename_i hc
    obtain ⟨h1, h2⟩ := hc
    obtain ⟨r, hr, rfl⟩ := Option.map_eq_some_iff.1 h
    have h3 := hfl _ _ _ hfle (ht f List.mem_cons_self)
    rw [h1, h2] at h3
    have h4 := leafy_fields hfl fs (off + l.length) r cs hr (by rw [hl, List.length_append]; omega) fun g hg => ht g (List.mem_cons_of_mem _ hg)
    have e : cs.drop off = (cs.drop off).take l.length ++ cs.drop (off + l.length) := by
     rw [← List.drop_drop]
     exact (List.take_append_drop _ _).symm
    rw [e]
    exact h3.append h4
   ·cases h
  ·cases h
theorem leaves_leafy : ∀ (n : Nat) (t : TypeId) (ls : List Nat), leaves P n t = some ls → ∀ (fuel : Nat) (cs : List Value) (x : DataW H × List MemPlace), DataW.trod enc P w base spare held fuel t cs = some x → Leafy ls cs
 | 0, _, _, h => by cases h
 | n + 1, t, ls, h => by
  intro fuel cs x hd
  simp only [leaves] at h
  split at h
  ·rename_i hu
   obtain rfl := Option.some.inj h
   obtain ⟨k, rfl, _, hw⟩ := DataW.trod_int hu hd
   exact ⟨k, [], rfl, rfl⟩
  ·rename_i hu
   obtain rfl := Option.some.inj h
   obtain ⟨b, rfl, _⟩ := DataW.trod_bool hu hd
   exact ⟨b, [], rfl, rfl⟩
  ·rename_i hu
   obtain rfl := Option.some.inj h
   obtain ⟨b, rfl, _, hb⟩ := DataW.trod_string hu hd
   exact ⟨b, [], rfl, hb, rfl⟩
  ·rename_i e hu
   obtain rfl := Option.some.inj h
   rcases DataW.trod_slice hu hd with ⟨rfl, _⟩ | ⟨a, len, cap, elems, rest, n, _, rfl, _⟩
   ·exact ⟨none, 0, 0, [], rfl, rfl⟩
   ·exact ⟨some a, len, cap, [], rfl, rfl⟩
  ·rename_i m e hu
   split at h
   ·rename_i l hl
    split at h
    ·rename_i hc
     obtain rfl := Option.some.inj h
     obtain ⟨xs, k, _, _, hlen, hxs, hel⟩ := DataW.trod_array hu hd
     refine leafy_array m cs (by rw [hlen]; exact hc.2) fun i hi => ?_
     have h1 := hel i hi
     obtain ⟨y, hy⟩ : ∃ y, xs[i]? = some y := ⟨_, List.getElem?_eq_getElem (by omega)⟩
     rw [hy, hc.1] at h1
     exact leaves_leafy n e l hl _ _ _ h1
    ·cases h
   ·cases h
  ·rename_i fs hu
   split at h
   ·rename_i l hl
    split at h
    ·rename_i hc
     obtain rfl := Option.some.inj h
     obtain ⟨xs, k, _, _, hlen, hxs, hf⟩ := DataW.trod_struct hu hd
     have := leafy_fields (P := P) (fl := leaves P n) (tr := fun t cs => ∃ x, DataW.trod enc P w base spare held k t cs = some x) (fun t l cs h1 ⟨x, h2⟩ => leaves_leafy n t l h1 _ _ _ h2) fs.toList 0 l cs hl (by rw [hlen, hc]; omega) fun f hf' => by
      obtain ⟨i, hi, rfl⟩ := List.getElem_of_mem hf'
      have hi' : i < fs.size := by simpa using hi
      have h1 := hf i _ (Array.getElem?_eq_getElem hi')
      rw [List.getElem?_eq_getElem (by omega)] at h1
      exact ⟨_, h1⟩
     rwa [List.drop_zero] at this
    ·cases h
   ·cases h
  ·cases h
theorem trod_field {t : TypeId} {fs : Array Field} (ht : P.underlying t = some (.struct fs)) {fuel : Nat} {cs : List Value} {x : DataW H × List MemPlace} (h : DataW.trod enc P w base spare held fuel t cs = some x) (i : Nat) (f : Field) (hf : fs[i]? = some f) :
  ∃ fuel x, DataW.trod enc P w base spare held fuel f.type ((cs.drop f.offset).take (P.cellsOf f.type)) = some x := by
 obtain ⟨xs, n, _, _, _, hlen, hf'⟩ := DataW.trod_struct ht h
 have h1 := hf' i f hf
 have hi : i < fs.size := (Array.getElem?_eq_some_iff.1 hf).1
 rw [List.getElem?_eq_getElem (by omega)] at h1
 exact ⟨_, _, h1⟩
theorem flat_get' {α : Type} (f : α → List Value) {m : Nat} (hm : ∀ c, (f c).length = m) : ∀ (l : List α) (k j : Nat) (c : α), l[k]? = some c → j < m → (l.flatMap f)[k * m + j]? = (f c)[j]?
 | [], k, _, _, h, _ => by simp at h
 | a :: l, 0, j, c, h, hj => by
  obtain rfl := Option.some.inj h
  rw [List.flatMap_cons, Nat.zero_mul, Nat.zero_add, List.getElem?_append_left (by rw [hm]; exact hj)]
 | a :: l, k + 1, j, c, h, hj => by
  rw [List.flatMap_cons, List.getElem?_append_right (by rw [hm, Nat.succ_mul]; omega), hm, show (k + 1) * m + j - m = k * m + j by rw [Nat.succ_mul]; omega]
  exact flat_get' f hm l k j c h hj
theorem open_slice {t e : TypeId} {m : Nat} (ht : P.underlying t = some (.slice e)) (hm : P.cellsOf e = m) (hm0 : 0 < m) {fuel : Nat} {cs : List Value} {x : DataW H × List MemPlace} (hf : DataW.trod enc P w base spare held fuel t cs = some x) :
  ∃ (A : Option Addr) (n cap : Nat) (vs : List Value), cs = [.slice A n cap] ∧ RdV w A n cap m vs ∧ n ≤ 9223372036854775807 ∧ ∀ i, i < n → ∃ fuel x, DataW.trod enc P w base spare held fuel e ((vs.drop (i * m)).take m) = some x := by
 subst hm
 rcases DataW.trod_slice ht hf with ⟨rfl, _⟩ | ⟨a, len, cap, elems, rest, n, _, rfl, _, _, hlc, hcm, hel, hcells, _, _⟩
 ·exact ⟨none, 0, 0, [], rfl, RdV.nil w _, by decide, fun i hi => absurd hi (Nat.not_lt_zero _)⟩
 have hn : len ≤ 9223372036854775807 := by
  unfold maxLen at hcm
  omega
 have each : ∀ i, ∃ ks : List Value, ks.length = P.cellsOf e ∧ (i < len → (∀ j, j < P.cellsOf e → w.cell? ((a.add (i * P.cellsOf e)).add j) = ks[j]?) ∧ ∃ fuel x, DataW.trod enc P w base spare held fuel e ks = some x) := by
  intro i
  by_cases hi : i < len
  rotate_left
  ·exact ⟨List.replicate (P.cellsOf e) undef, by simp, fun h => absurd h hi⟩
  have h1 := hcells i hi
  rw [List.getElem?_eq_getElem (by omega)] at h1
  obtain ⟨cs, h2, h3⟩ := Option.bind_eq_some_iff.1 h1
  have h4 := World.cells?_some h2
  exact ⟨cs, h4.2.1, fun _ => ⟨h4.2.2, _, _, h3⟩⟩
 obtain ⟨f, hfl⟩ := Classical.axiomOfChoice each
 have hlen : ∀ i, (f i).length = P.cellsOf e := fun i => (hfl i).1
 have hget : ∀ i, i < len → ∀ j, j < P.cellsOf e → ((List.range len).flatMap f)[i * P.cellsOf e + j]? = (f i)[j]? := fun i hi j hj =>
  flat_get' f hlen _ i j i (List.getElem?_range hi) hj
 have htot : ((List.range len).flatMap f).length = len * P.cellsOf e := by
  rw [List.length_flatMap]
  have : (List.range len).map (fun i => (f i).length) = List.replicate len (P.cellsOf e) := by
   apply List.ext_getElem?
   intro i
   rw [List.getElem?_map, List.getElem?_replicate]
   by_cases hi : i < len
   ·rw [List.getElem?_range hi, if_pos hi, Option.map_some, hlen]
   rw [if_neg hi, List.getElem?_eq_none (by simp; omega)]
   rfl
  rw [this]
  simp
 have hpart : ∀ i, i < len → (((List.range len).flatMap f).drop (i * P.cellsOf e)).take (P.cellsOf e) = f i := by
  intro i hi
  apply List.ext_getElem?
  intro j
  rw [List.getElem?_take, List.getElem?_drop]
  by_cases hj : j < P.cellsOf e
  ·rw [if_pos hj, hget i hi j hj]
  rw [if_neg hj, List.getElem?_eq_none (by rw [hlen]; omega)]
 refine ⟨some a, len, cap, (List.range len).flatMap f, rfl, ?_, hn, fun i hi => ?_⟩
 ·rcases Nat.eq_zero_or_pos len with h0 | h0
  ·subst h0
   exact RdV.nil' w _ a cap
  obtain ⟨b, o, sp⟩ := a
  have hsp : sp = none := by
   have h1 := ((hfl 0).2 h0).1 0 hm0
   rw [List.getElem?_eq_getElem (by rw [hlen]; exact hm0)] at h1
   cases sp with
   | none => rfl
   | some s =>
    simp only [Addr.add, World.cell?] at h1
    split at h1
    ·simp at h1
    cases h1
  subst hsp
  have one : ∀ o i : Nat, (⟨b, o, none⟩ : Addr).add i = ⟨b, o + i, none⟩ := by intro o i; unfold Addr.add; split <;> simp_all
  refine ⟨htot, hlc, fun _ => ⟨b, o, rfl, ?_, fun i u hi => ?_⟩, fun e => by cases e⟩
  ·have h1 := ((hfl 0).2 h0).1 0 hm0
   rw [one, one, List.getElem?_eq_getElem (by rw [hlen]; exact hm0)] at h1
   exact World.block_lt_of_cell? w ⟨b, o + 0 * P.cellsOf e + 0, none⟩ h1
  have hlt : i < len * P.cellsOf e := by rw [← htot]; exact (List.getElem?_eq_some_iff.1 hi).1
  have hq : i / P.cellsOf e < len := Nat.div_lt_of_lt_mul (by rwa [Nat.mul_comm])
  have hr : i % P.cellsOf e < P.cellsOf e := Nat.mod_lt _ hm0
  have e1 : i / P.cellsOf e * P.cellsOf e + i % P.cellsOf e = i := by rw [Nat.mul_comm]; exact Nat.div_add_mod _ _
  have h1 := ((hfl _).2 hq).1 _ hr
  rw [one, one, Nat.add_assoc, e1] at h1
  rw [h1, ← hget _ hq _ hr, e1, hi]
 rw [hpart i hi]
 exact ((hfl i).2 hi).2
theorem list_of {α : Type} (f : α → List Value) (R : α → Prop) {m : Nat} : ∀ (n : Nat) (vs : List Value), vs.length = n * m → (∀ i, i < n → ∃ d, (vs.drop (i * m)).take m = f d ∧ R d) → ∃ l : List α, l.length = n ∧ vs = l.flatMap f ∧ ∀ d ∈ l, R d
 | 0, vs, hl, _ => by
  have : vs = [] := List.eq_nil_of_length_eq_zero (by simpa using hl)
  subst this
  exact ⟨[], rfl, rfl, fun d hd => by cases hd⟩
 | n + 1, vs, hl, h => by
  obtain ⟨d, hd, hr⟩ := h 0 (by omega)
  rw [Nat.zero_mul, List.drop_zero] at hd
  obtain ⟨l, h1, h2, h3⟩ := list_of (m := m) f R n (vs.drop m) (by rw [List.length_drop, hl, Nat.succ_mul]; omega) (fun i hi => by
   obtain ⟨d, hd, hr⟩ := h (i + 1) (by omega)
   rw [Nat.succ_mul] at hd
   refine ⟨d, ?_, hr⟩
   rw [List.drop_drop, Nat.add_comm]
   exact hd)
  refine ⟨d :: l, by simp [h1], ?_, ?_⟩
  ·rw [List.flatMap_cons, ← hd, ← h2, List.take_append_drop]
  ·intro e he
   rcases List.mem_cons.1 he with rfl | he
   ·exact hr
   ·exact h3 e he
end
end Go
namespace Go.Proofs.YtcjflafjmdfanaaGreatDoor
open Go.ChangeShapes Go.WideShapes Go.ChangeAt Go.RowKit Go.Sub
theorem fm_one {α : Type} (f : α → Value) : ∀ l : List α, (l.flatMap fun x => [f x]) = l.map f
 | [] => rfl
 | a :: l => by rw [List.flatMap_cons, fm_one f l]; rfl
theorem max_big {n : Nat} (h : n ≤ maxLen) : (n : Int) ≤ 9223372036854775807 := by unfold maxLen at h; omega
section
variable {H : Type} {enc : TypeId × Value → H} {w : World} {base : Nat} {spare : Nat → Bool} {held : Bool} {fuel : Nat} {cs : List Value} {x : DataW H × List MemPlace}
theorem open_strL (hf : DataW.trod enc Tryz.prog w base spare held fuel 22 cs = some x) : ∃ (A : Option Addr) (c : Nat) (l : List ByteArray), cs = [.slice A l.length c] ∧ RdV w A l.length c 1 (l.map Value.string) ∧ (∀ s ∈ l, (s.size : Int) ≤ 9223372036854775807) ∧ (l.length : Int) ≤ 9223372036854775807 := by
 obtain ⟨A, n, c, vs, rfl, hr, hn, he⟩ := open_slice (m := 1) Tryz.underlying22 (by kernel_rfl) (by decide) hf
 obtain ⟨l, hl, rfl, hb⟩ := list_of (fun s => [Value.string s]) (fun s : ByteArray => (s.size : Int) ≤ 9223372036854775807) n vs hr.1 (fun i hi => by
  obtain ⟨f, y, h⟩ := he i hi
  obtain ⟨s, e, _, hs⟩ := DataW.trod_string Tryz.underlying9 h
  exact ⟨s, e, max_big hs⟩)
 subst hl
 rw [fm_one] at hr
 exact ⟨A, c, l, rfl, hr, hb, by omega⟩
theorem open_lineL (hf : DataW.trod enc Tryz.prog w base spare held fuel 23 cs = some x) : ∃ (A : Option Addr) (c : Nat) (l : List Lnr), cs = [.slice A l.length c] ∧ RdV w A l.length c 5 (l.flatMap lnC) ∧ (∀ s ∈ l, (s.nm.size : Int) ≤ 9223372036854775807) ∧ (l.length : Int) ≤ 9223372036854775807 := by
 obtain ⟨A, n, c, vs, rfl, hr, hn, he⟩ := open_slice (m := 5) Tryz.underlying23 (by kernel_rfl) (by decide) hf
 obtain ⟨l, hl, rfl, hb⟩ := list_of lnC (fun s : Lnr => (s.nm.size : Int) ≤ 9223372036854775807) n vs hr.1 (fun i hi => by
  obtain ⟨f, y, h⟩ := he i hi
  obtain ⟨s, _, e, hs, z0, _, rfl, z1, _, rfl, z2, _, rfl, z3, _, rfl, q⟩ := leaves_leafy 8 115 [2, 0, 0, 0, 0] (by kernel_rfl) _ _ _ h
  have q : _ = _ := q
  subst q
  exact ⟨⟨s, ⟨z0, z1⟩, ⟨z2, z3⟩⟩, e, max_big hs⟩)
 subst hl
 exact ⟨A, c, l, rfl, hr, hb, by omega⟩
theorem open_srcL (hf : DataW.trod enc Tryz.prog w base spare held fuel 24 cs = some x) : ∃ (A : Option Addr) (c : Nat) (l : List Srr), cs = [.slice A l.length c] ∧ RdV w A l.length c 6 (l.flatMap srC) ∧ (∀ s ∈ l, (s.nm.size : Int) ≤ 9223372036854775807) ∧ (l.length : Int) ≤ 9223372036854775807 := by
 obtain ⟨A, n, c, vs, rfl, hr, hn, he⟩ := open_slice (m := 6) Tryz.underlying24 (by kernel_rfl) (by decide) hf
 obtain ⟨l, hl, rfl, hb⟩ := list_of srC (fun s : Srr => (s.nm.size : Int) ≤ 9223372036854775807) n vs hr.1 (fun i hi => by
  obtain ⟨f, y, h⟩ := he i hi
  obtain ⟨s, _, e, hs, zE, _, rfl, z0, _, rfl, z1, _, rfl, z2, _, rfl, z3, _, rfl, q⟩ := leaves_leafy 8 95 [2, 0, 0, 0, 0, 0] (by kernel_rfl) _ _ _ h
  have q : _ = _ := q
  subst q
  exact ⟨⟨s, zE, ⟨z0, z1⟩, ⟨z2, z3⟩⟩, e, max_big hs⟩)
 subst hl
 exact ⟨A, c, l, rfl, hr, hb, by omega⟩
theorem open_linkL (hf : DataW.trod enc Tryz.prog w base spare held fuel 89 cs = some x) : ∃ (A : Option Addr) (c : Nat) (l : List Lk), cs = [.slice A l.length c] ∧ RdV w A l.length c 2 (l.flatMap lkC) ∧ l.length ≤ 9223372036854775807 := by
 obtain ⟨A, n, c, vs, rfl, hr, hn, he⟩ := open_slice (m := 2) Tryz.underlying89 (by kernel_rfl) (by decide) hf
 obtain ⟨l, hl, rfl, hb⟩ := list_of lkC (fun _ : Lk => True) n vs hr.1 (fun i hi => by
  obtain ⟨f, y, h⟩ := he i hi
  obtain ⟨z0, _, e, z1, _, rfl, q⟩ := leaves_leafy 8 97 [0, 0] (by kernel_rfl) _ _ _ h
  have q : _ = _ := q
  subst q
  exact ⟨⟨z0, z1⟩, e, trivial⟩)
 subst hl
 exact ⟨A, c, l, rfl, hr, hn⟩
theorem open_bayL (hf : DataW.trod enc Tryz.prog w base spare held fuel 25 cs = some x) : ∃ (A : Option Addr) (c : Nat) (l : List Byr) (lks : Nat → List Lk), cs = [.slice A l.length c] ∧ RdV w A l.length c 12 (l.flatMap byC) ∧ (∀ s ∈ l, (s.nm.size : Int) ≤ 9223372036854775807) ∧ (l.length : Int) ≤ 9223372036854775807 ∧
  ∀ k y, l[k]? = some y → LkAt w y (lks k) ∧ (lks k).length ≤ 9223372036854775807 := by
 obtain ⟨A, n, c, vs, rfl, hr, hn, he⟩ := open_slice (m := 12) Tryz.underlying25 (by kernel_rfl) (by decide) hf
 obtain ⟨l, hl, rfl, hb⟩ := list_of byC (fun s : Byr => (s.nm.size : Int) ≤ 9223372036854775807 ∧ ∃ lk, LkAt w s lk ∧ lk.length ≤ 9223372036854775807) n vs hr.1 (fun i hi => by
  obtain ⟨f, y, h⟩ := he i hi
  obtain ⟨s, _, e, hs, kd, _, rfl, of, _, rfl, en, _, rfl, zr, _, rfl, zx, _, rfl, la, ln, lc, _, rfl, cl, _, rfl, ct, _, rfl, vt, _, rfl, sa, _, rfl, tr, _, rfl, q⟩ := leaves_leafy 8 91 [2, 0, 0, 0, 0, 0, 3, 1, 0, 0, 0, 0] (by kernel_rfl) _ _ _ h
  have q : _ = _ := q
  subst q
  obtain ⟨f2, y2, h2⟩ := trod_field Tryz.underlying91 h 5 _ rfl
  rw [e] at h2
  obtain ⟨A2, c2, lk, e2, r2, l2⟩ := open_linkL (cs := [.slice la ln lc]) h2
  injection e2 with e2
  injection e2 with e3 e4 e5
  subst e3 e4 e5
  exact ⟨⟨s, kd, of, en, zr, zx, la, lk.length, lc, cl, ct, vt, sa, tr⟩, e, max_big hs, lk, ⟨r2, rfl⟩, l2⟩)
 subst hl
 have ch : ∀ k : Nat, ∃ lk : List Lk, ∀ y, l[k]? = some y → LkAt w y lk ∧ lk.length ≤ 9223372036854775807 := fun k => by
  cases hk : l[k]? with
  | none => exact ⟨[], fun y hy => by cases hy⟩
  | some y =>
   obtain ⟨lk, h1⟩ := (hb y (List.mem_of_getElem? hk)).2
   exact ⟨lk, fun y' hy => by cases hy; exact h1⟩
 obtain ⟨lks, hlk⟩ := Classical.axiomOfChoice ch
 exact ⟨A, c, l, lks, rfl, hr, fun s hs => (hb s hs).1, by omega, hlk⟩
theorem open_boolL (hf : DataW.trod enc Tryz.prog w base spare held fuel 28 cs = some x) : ∃ (A : Option Addr) (c : Nat) (l : List Bool), cs = [.slice A l.length c] ∧ RdV w A l.length c 1 (l.map Value.bool) ∧ (l.length : Int) ≤ 9223372036854775807 := by
 obtain ⟨A, n, c, vs, rfl, hr, hn, he⟩ := open_slice (m := 1) Tryz.underlying28 (by kernel_rfl) (by decide) hf
 obtain ⟨l, hl, rfl, hb⟩ := list_of (fun b => [Value.bool b]) (fun _ : Bool => True) n vs hr.1 (fun i hi => by
  obtain ⟨f, y, h⟩ := he i hi
  obtain ⟨s, e, _⟩ := DataW.trod_bool Tryz.underlying4 h
  exact ⟨s, e, trivial⟩)
 subst hl
 rw [fm_one] at hr
 exact ⟨A, c, l, rfl, hr, by omega⟩
theorem open_intL (hf : DataW.trod enc Tryz.prog w base spare held fuel 61 cs = some x) : ∃ (A : Option Addr) (c : Nat) (l : List Int), cs = [.slice A l.length c] ∧ RdN w A l.length c .i64 l ∧ (l.length : Int) ≤ 9223372036854775807 := by
 obtain ⟨A, n, c, vs, rfl, hr, hn, he⟩ := open_slice (m := 1) Tryz.underlying61 (by kernel_rfl) (by decide) hf
 obtain ⟨l, hl, rfl, hb⟩ := list_of (fun b => [Value.int .i64 b]) (fun _ : Int => True) n vs hr.1 (fun i hi => by
  obtain ⟨f, y, h⟩ := he i hi
  obtain ⟨s, e, _⟩ := DataW.trod_int Tryz.underlying3 h
  exact ⟨s, e, trivial⟩)
 subst hl
 rw [fm_one] at hr
 exact ⟨A, c, l, rfl, hr, by omega⟩
theorem open_rowL (hf : DataW.trod enc Tryz.prog w base spare held fuel 29 cs = some x) : ∃ (A : Option Addr) (c : Nat) (l : List Ro), cs = [.slice A l.length c] ∧ RdV w A l.length c 1 (l.map roC) ∧ (l.length : Int) ≤ 9223372036854775807 ∧ ∀ r ∈ l, RdN w r.ad r.l.length r.cap .i64 r.l ∧ (r.l.length : Int) ≤ 9223372036854775807 := by
 obtain ⟨A, n, c, vs, rfl, hr, hn, he⟩ := open_slice (m := 1) Tryz.underlying29 (by kernel_rfl) (by decide) hf
 obtain ⟨l, hl, rfl, hb⟩ := list_of (fun b => [roC b]) (fun r : Ro => RdN w r.ad r.l.length r.cap .i64 r.l ∧ (r.l.length : Int) ≤ 9223372036854775807) n vs hr.1 (fun i hi => by
  obtain ⟨f, y, h⟩ := he i hi
  obtain ⟨A2, c2, l2, e, r2, h2⟩ := open_intL h
  exact ⟨⟨A2, c2, l2⟩, e, r2, h2⟩)
 subst hl
 rw [fm_one] at hr
 exact ⟨A, c, l, rfl, hr, by omega, hb⟩
theorem ints_of : ∀ (n : Nat) (cs : List Value), Leafy (List.replicate n 0) cs → ∃ ks : List Int, ks.length = n ∧ cs = ks.map (Value.int .i64)
 | 0, cs, h => by
  have h : _ = _ := h
  subst h
  exact ⟨[], rfl, rfl⟩
 | n + 1, cs, h => by
  obtain ⟨k, r, rfl, hr⟩ := h
  obtain ⟨ks, h1, rfl⟩ := ints_of n r hr
  exact ⟨k :: ks, by simp [h1], rfl⟩
theorem open_waveL (hf : DataW.trod enc Tryz.prog w base spare held fuel 45 cs = some x) : ∃ (A : Option Addr) (n c : Nat) (W : List Int), cs = [.slice A n c] ∧ WvAt w A n c W := by
 obtain ⟨A, n, c, vs, rfl, hr, hn, he⟩ := open_slice (m := 72) Tryz.underlying45 (by kernel_rfl) (by decide) hf
 obtain ⟨l, hl, rfl, hb⟩ := list_of (fun ks : List Int => ks.map (Value.int .i64)) (fun ks => ks.length = 72) n vs hr.1 (fun i hi => by
  obtain ⟨f, y, h⟩ := he i hi
  obtain ⟨ks, h1, h2⟩ := ints_of 72 _ (leaves_leafy 8 72 _ (by kernel_rfl) _ _ _ h)
  exact ⟨ks, h2, h1⟩)
 refine ⟨A, n, c, l.flatten, rfl, ?_, by omega⟩
 have e : (l.flatMap fun ks : List Int => ks.map (Value.int .i64)) = l.flatten.map (Value.int .i64) := by
  rw [List.map_flatten]
  rfl
 rwa [e] at hr
end
section
variable {H : Type} {enc : TypeId × Value → H} {w : World} {base : Nat} {spare : Nat → Bool} {held : Bool}
theorem slice_at {l : List Value} {i : Nat} {v : Value} (h : (l.drop i).take 1 = [v]) : l[i]? = some v := by
 have := congrArg (·[0]?) h
 simpa [List.getElem?_take, List.getElem?_drop] using this
theorem open_case34 {r : Reach} {b0 : Nat} {v : Value} {d : DataW H} {ps : List MemPlace}
  (hval : Value.okWide Tryz.prog w r b0 47 v) (hd : DataW.Trod enc Tryz.prog w base spare held 47 v d ps) :
  ∃ (s : Sta) (p : Pos) (cs : Array Value) (rl : Rel) (aW : Option Addr) (nW cW : Nat) (W : List Int) (aG : Option Addr) (nG cG : Nat) (G : List Bool),
   v = .agg (caseC (.string s.nm) (.slice s.aB s.buses.length s.cB) (.slice s.aL s.lines.length s.cL) (.slice s.aS s.srcs.length s.cS) (.slice s.aY s.bays.length s.cY) (.slice p.aC p.closed.length p.cC) (.slice p.aK p.rows.length p.cK) cs (.slice aW nW cW) (.slice aG nG cG)) ∧
   RelC cs rl ∧ Ones53 cs ∧ StAt w s ∧ PosAt w p ∧ WvAt w aW nW cW W ∧ GdAt w aG nG cG G := by
 obtain ⟨cs, rfl, hsz⟩ := okWide_struct Tryz.underlying47 hval
 obtain ⟨fuel, hf⟩ := hd
 obtain ⟨l⟩ := cs
 have hf : DataW.trod enc Tryz.prog w base spare held fuel 47 l = some (d, ps) := hf
 have hl : l.length = 62 := by
  have : l.length = Tryz.prog.cellsOf 47 := by simpa using hsz
  exact this.trans (show Tryz.prog.cellsOf 47 = 62 by kernel_rfl)
 obtain ⟨f0, y0, h0⟩ := trod_field Tryz.underlying47 hf 0 _ rfl
 obtain ⟨f1, y1, h1⟩ := trod_field Tryz.underlying47 hf 1 _ rfl
 obtain ⟨f2, y2, h2⟩ := trod_field Tryz.underlying47 hf 2 _ rfl
 obtain ⟨f3, y3, h3⟩ := trod_field Tryz.underlying47 hf 3 _ rfl
 obtain ⟨f4, y4, h4⟩ := trod_field Tryz.underlying47 hf 4 _ rfl
 have h0 : DataW.trod enc Tryz.prog w base spare held f0 27 ((l.drop 0).take (Tryz.prog.cellsOf 27)) = some y0 := h0
 have h1 : DataW.trod enc Tryz.prog w base spare held f1 31 ((l.drop 5).take (Tryz.prog.cellsOf 31)) = some y1 := h1
 have h2 : DataW.trod enc Tryz.prog w base spare held f2 44 ((l.drop 7).take (Tryz.prog.cellsOf 44)) = some y2 := h2
 have h3 : DataW.trod enc Tryz.prog w base spare held f3 45 ((l.drop 60).take (Tryz.prog.cellsOf 45)) = some y3 := h3
 have h4 : DataW.trod enc Tryz.prog w base spare held f4 28 ((l.drop 61).take (Tryz.prog.cellsOf 28)) = some y4 := h4
 rw [show Tryz.prog.cellsOf 27 = 5 by kernel_rfl] at h0
 rw [show Tryz.prog.cellsOf 31 = 2 by kernel_rfl] at h1
 rw [show Tryz.prog.cellsOf 44 = 53 by kernel_rfl] at h2
 rw [show Tryz.prog.cellsOf 45 = 1 by kernel_rfl] at h3
 rw [show Tryz.prog.cellsOf 28 = 1 by kernel_rfl] at h4
 obtain ⟨g0, z0, k0⟩ := trod_field Tryz.underlying27 h0 0 _ rfl
 obtain ⟨g1, z1, k1⟩ := trod_field Tryz.underlying27 h0 1 _ rfl
 obtain ⟨g2, z2, k2⟩ := trod_field Tryz.underlying27 h0 2 _ rfl
 obtain ⟨g3, z3, k3⟩ := trod_field Tryz.underlying27 h0 3 _ rfl
 obtain ⟨g4, z4, k4⟩ := trod_field Tryz.underlying27 h0 4 _ rfl
 obtain ⟨g5, z5, k5⟩ := trod_field Tryz.underlying31 h1 0 _ rfl
 obtain ⟨g6, z6, k6⟩ := trod_field Tryz.underlying31 h1 1 _ rfl
 obtain ⟨nm, e0, _, b0⟩ := DataW.trod_string Tryz.underlying9 k0
 obtain ⟨aB, cB, buses, e1, r1, zB, lB⟩ := open_strL k1
 obtain ⟨aL, cL, lines, e2, r2, zL, lL⟩ := open_lineL k2
 obtain ⟨aS, cS, srcs, e3, r3, zS, lS⟩ := open_srcL k3
 obtain ⟨aY, cY, bays, lks, e4, r4, zY, lY, hlk⟩ := open_bayL k4
 obtain ⟨aC, cC, closed, e5, r5, lC⟩ := open_boolL k5
 obtain ⟨aK, cK, rows, e6, r6, lK, hrow⟩ := open_rowL k6
 obtain ⟨aW, nW, cW, W, e7, hW⟩ := open_waveL h3
 obtain ⟨aG, cG, G, e8, r8, l8⟩ := open_boolL h4
 have e0 : (((l.drop 0).take 5).drop 0).take 1 = [Value.string nm] := e0
 have e1 : (((l.drop 0).take 5).drop 1).take 1 = _ := e1
 have e2 : (((l.drop 0).take 5).drop 2).take 1 = _ := e2
 have e3 : (((l.drop 0).take 5).drop 3).take 1 = _ := e3
 have e4 : (((l.drop 0).take 5).drop 4).take 1 = _ := e4
 have e5 : (((l.drop 5).take 2).drop 0).take 1 = _ := e5
 have e6 : (((l.drop 5).take 2).drop 1).take 1 = _ := e6
 have e0 := slice_at e0
 have e1 := slice_at e1
 have e2 := slice_at e2
 have e3 := slice_at e3
 have e4 := slice_at e4
 have e5 := slice_at e5
 have e6 := slice_at e6
 have e7 := slice_at e7
 have e8 := slice_at e8
 simp only [List.getElem?_take, List.getElem?_drop, Nat.zero_add, Nat.add_zero] at e0 e1 e2 e3 e4 e5 e6
 rw [if_pos (by decide)] at e0 e1 e2 e3 e4 e5 e6
 have lf := leaves_leafy 8 44 [2, 0, 0, 1, 1, 0, 0, 0, 0, 1, 1, 0, 0, 0, 0, 1, 1, 0, 0, 0, 0, 0, 0, 0, 0, 0, 0, 1, 0, 0, 1, 0, 0, 1, 0, 0, 0, 0, 0, 1, 0, 0, 1, 0, 0, 0, 0, 0, 0, 3, 3, 3, 3] (by kernel_rfl) _ _ _ h2
 obtain ⟨q1, i1⟩ := lf.int_at 1 (by decide)
 obtain ⟨q45, i45⟩ := lf.int_at 45 (by decide)
 obtain ⟨q46, i46⟩ := lf.int_at 46 (by decide)
 obtain ⟨q47, i47⟩ := lf.int_at 47 (by decide)
 obtain ⟨q48, i48⟩ := lf.int_at 48 (by decide)
 have hll : ((l.drop 7).take 53).length = 53 := lf.length
 refine ⟨⟨nm, buses, lines, srcs, bays, lks, aB, cB, aL, cL, aS, cS, aY, cY⟩, ⟨closed, rows, aC, cC, aK, cK⟩, ((l.drop 7).take 53).toArray, ⟨q1, q45, q46, q47, q48⟩, aW, nW, cW, W, aG, G.length, cG, G, ?_, ⟨by simpa using hll, by simpa using i1, by simpa using i45, by simpa using i46, by simpa using i47, by simpa using i48⟩, ⟨?_⟩,
  ⟨r1, r2, r3, r4, hlk, max_big b0, zB, zL, zS, zY, lB, lL, lS, lY⟩, ⟨r5, r6, hrow, lC, lK⟩, hW, ⟨r8, l8⟩⟩
 ·congr 1
  apply Array.ext'
  show l = _
  unfold caseC
  simp only [Array.toList_append]
  apply List.ext_getElem?
  intro i
  rcases (by omega : i < 7 ∨ (7 ≤ i ∧ i < 60) ∨ i = 60 ∨ i = 61 ∨ 62 ≤ i) with h | h | rfl | rfl | h
  ·rw [List.getElem?_append_left (by simp; omega), List.getElem?_append_left (by simp; omega)]
   rcases (by omega : i = 0 ∨ i = 1 ∨ i = 2 ∨ i = 3 ∨ i = 4 ∨ i = 5 ∨ i = 6) with rfl | rfl | rfl | rfl | rfl | rfl | rfl
   ·exact e0
   ·exact e1
   ·exact e2
   ·exact e3
   ·exact e4
   ·exact e5
   exact e6
  ·rw [List.getElem?_append_left (by simp only [List.length_append, hll]; simp; omega), List.getElem?_append_right (by simp; omega)]
   simp only [List.length_cons, List.length_nil]
   rw [List.getElem?_take, if_pos (by omega), List.getElem?_drop]
   congr 1
   omega
  ·rw [List.getElem?_append_right (by simp only [List.length_append, hll]; simp)]
   simp only [List.length_append, hll]
   exact e7
  ·rw [List.getElem?_append_right (by simp only [List.length_append, hll]; simp)]
   simp only [List.length_append, hll]
   exact e8
  rw [List.getElem?_eq_none (by omega), List.getElem?_eq_none (by simp only [List.length_append, hll]; simp; omega)]
 rw [← Array.all_toList, List.all_eq_true]
 exact lf.one
end
end Go.Proofs.YtcjflafjmdfanaaGreatDoor

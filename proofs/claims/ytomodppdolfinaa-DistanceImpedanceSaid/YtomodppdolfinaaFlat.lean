
/- Arguments that are built of integers and bools alone (arrays and structures of them), opened all at once. -/
import Derived.Test.YtomodppdolfinaaFrame
namespace Go
open Go.ChangeShapes Go.WideShapes Go.ChangeAt Go.RowKit
/-- The cells are as the leaves say: true for an integer, false for a bool. -/
def Opens : List Bool → List Value → Prop
  | [], cs => cs = []
  | true :: ls, cs => ∃ k : Int, (-9223372036854775808 ≤ k ∧ k ≤ 9223372036854775807) ∧ ∃ r, cs = .int .i64 k :: r ∧ Opens ls r
  | false :: ls, cs => ∃ b : Bool, ∃ r, cs = .bool b :: r ∧ Opens ls r
theorem Opens.append : ∀ {l m : List Bool} {cs ds : List Value}, Opens l cs → Opens m ds → Opens (l ++ m) (cs ++ ds)
  | [], _, _, _, h, h' => by
    have h : _ = _ := h
    subst h
    exact h'
  | true :: _, _, _, _, h, h' => by
    obtain ⟨k, hk, r, rfl, hr⟩ := h
    exact ⟨k, hk, _, rfl, hr.append h'⟩
  | false :: _, _, _, _, h, h' => by
    obtain ⟨k, r, rfl, hr⟩ := h
    exact ⟨k, _, rfl, hr.append h'⟩
theorem Opens.length : ∀ {l : List Bool} {cs : List Value}, Opens l cs → cs.length = l.length
  | [], _, h => by
    have h : _ = _ := h
    subst h
    rfl
  | true :: _, _, h => by
    obtain ⟨k, hk, r, rfl, hr⟩ := h
    simp [hr.length]
  | false :: _, _, h => by
    obtain ⟨k, r, rfl, hr⟩ := h
    simp [hr.length]
/-- The leaves of the fields, one behind the other. -/
def flatFs (P : Program) (fl : TypeId → Option (List Bool)) : List Field → Nat → Option (List Bool)
  | [], _ => some []
  | f :: fs, off => match fl f.type with
    | some l => if f.offset = off ∧ P.cellsOf f.type = l.length then (flatFs P fl fs (off + l.length)).map (l ++ ·) else none
    | none => none
/-- The leaves of a type. -/
def flat (P : Program) : Nat → TypeId → Option (List Bool)
  | 0, _ => none
  | n + 1, t => match P.underlying t with
    | some (.int .i64) => some [true]
    | some .bool => some [false]
    | some (.array m e) => match flat P n e with
      | some l => if P.cellsOf e = l.length ∧ P.cellsOf t = m * l.length then some (List.replicate m l).flatten else none
      | none => none
    | some (.struct fs) => match flatFs P (flat P n) fs.toList 0 with
      | some l => if P.cellsOf t = l.length then some l else none
      | none => none
    | _ => none
section
variable {H : Type} {enc : TypeId × Value → H} {P : Program} {w : World} {base : Nat} {spare : Nat → Bool} {held : Bool}
theorem opens_array {l : List Bool} {xs : List Value} : ∀ (m : Nat) (cs : List Value), cs.length = m * l.length → (∀ i, i < m → Opens l ((cs.drop (i * l.length)).take l.length)) → Opens (List.replicate m l).flatten cs
  | 0, cs, hl, _ => by
    have : cs = [] := List.eq_nil_of_length_eq_zero (by simpa using hl)
    subst this
    rfl
  | m + 1, cs, hl, h => by
    rw [List.replicate_succ, List.flatten_cons]
    have e : cs = cs.take l.length ++ cs.drop l.length := (List.take_append_drop _ _).symm
    rw [e]
    have h0 := h 0 (by omega)
    rw [Nat.zero_mul, List.drop_zero] at h0
    refine h0.append (opens_array (xs := xs) m _ ?_ fun i hi => ?_)
    · rw [List.length_drop, hl, Nat.succ_mul]; omega
    · have := h (i + 1) (by omega)
      rw [Nat.succ_mul] at this
      rw [List.drop_drop]
      rwa [Nat.add_comm] at this
theorem opens_fields {fl : TypeId → Option (List Bool)} {tr : TypeId → List Value → Prop} (hfl : ∀ t l cs, fl t = some l → tr t cs → Opens l cs) :
    ∀ (fs : List Field) (off : Nat) (ls : List Bool) (cs : List Value), flatFs P fl fs off = some ls → cs.length = off + ls.length →
      (∀ f ∈ fs, tr f.type ((cs.drop f.offset).take (P.cellsOf f.type))) → Opens ls (cs.drop off)
  | [], off, ls, cs, h, hl, _ => by
    simp only [flatFs, Option.some.injEq] at h
    subst h
    have : cs.drop off = [] := List.drop_of_length_le (by simpa using Nat.le_of_eq hl)
    rw [this]
    rfl
  | f :: fs, off, ls, cs, h, hl, ht => by
    simp only [flatFs] at h
    split at h
    · rename_i l hfle
      split at h
      · rename_i hc
        obtain ⟨h1, h2⟩ := hc
        obtain ⟨r, hr, rfl⟩ := Option.map_eq_some_iff.1 h
        have h3 := hfl _ _ _ hfle (ht f List.mem_cons_self)
        rw [h1, h2] at h3
        have h4 := opens_fields hfl fs (off + l.length) r cs hr (by rw [hl, List.length_append]; omega) fun g hg => ht g (List.mem_cons_of_mem _ hg)
        have e : cs.drop off = (cs.drop off).take l.length ++ cs.drop (off + l.length) := by
          rw [← List.drop_drop]
          exact (List.take_append_drop _ _).symm
        rw [e]
        exact h3.append h4
      · cases h
    · cases h
theorem flat_opens : ∀ (n : Nat) (t : TypeId) (ls : List Bool), flat P n t = some ls → ∀ (fuel : Nat) (cs : List Value) (x : DataW H × List MemPlace), DataW.trod enc P w base spare held fuel t cs = some x → Opens ls cs
  | 0, _, _, h => by cases h
  | n + 1, t, ls, h => by
    intro fuel cs x hd
    simp only [flat] at h
    split at h
    · rename_i hu
      obtain rfl := Option.some.inj h
      obtain ⟨k, rfl, _, hw⟩ := DataW.trod_int hu hd
      exact ⟨k, wf_i64 hw, [], rfl, rfl⟩
    · rename_i hu
      obtain rfl := Option.some.inj h
      obtain ⟨b, rfl, _⟩ := DataW.trod_bool hu hd
      exact ⟨b, [], rfl, rfl⟩
    · rename_i m e hu
      split at h
      · rename_i l hl
        split at h
        · rename_i hc
          obtain rfl := Option.some.inj h
          obtain ⟨xs, k, _, _, hlen, hxs, hel⟩ := DataW.trod_array hu hd
          refine opens_array (xs := []) m cs (by rw [hlen]; exact hc.2) fun i hi => ?_
          have h1 := hel i hi
          obtain ⟨y, hy⟩ : ∃ y, xs[i]? = some y := ⟨_, List.getElem?_eq_getElem (by omega)⟩
          rw [hy, hc.1] at h1
          exact flat_opens n e l hl _ _ _ h1
        · cases h
      · cases h
    · rename_i fs hu
      split at h
      · rename_i l hl
        split at h
        · rename_i hc
          obtain rfl := Option.some.inj h
          obtain ⟨xs, k, _, _, hlen, hxs, hf⟩ := DataW.trod_struct hu hd
          have := opens_fields (P := P) (fl := flat P n) (tr := fun t cs => ∃ x, DataW.trod enc P w base spare held k t cs = some x) (fun t l cs h1 ⟨x, h2⟩ => flat_opens n t l h1 _ _ _ h2) fs.toList 0 l cs hl (by rw [hlen, hc]; omega) fun f hf' => by
            obtain ⟨i, hi, rfl⟩ := List.getElem_of_mem hf'
            have hi' : i < fs.size := by simpa using hi
            have h1 := hf i _ (Array.getElem?_eq_getElem hi')
            rw [List.getElem?_eq_getElem (by omega)] at h1
            exact ⟨_, h1⟩
          rwa [List.drop_zero] at this
        · cases h
      · cases h
    · cases h
end
end Go

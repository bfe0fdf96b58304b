
/- Arguments that are a current, a slice of currents, or an array of three ints, opened. -/
import Derived.Test.YtlhapbajllpcnaaFrP
import Derived.Test.YtlhapbajllpcnaaFrO
import Derived.Test.YtlhapbajllpcnaaDfD
namespace Go
open Go.ChangeShapes Go.WideShapes Go.ChangeAt Go.RowKit
theorem open_arr3 {H : Type} {enc : TypeId × Value → H} {P : Program} {w : World} {base : Nat} {spare : Nat → Bool} {held : Bool} {r : Reach} {b0 : Nat} {t e : TypeId} {v : Value} {d : DataW H} {ps : List MemPlace} (ht : P.underlying t = some (.array 3 e)) (he : P.underlying e = some (.int .i64)) (hce : P.cellsOf e = 1) (hct : P.cellsOf t = 3)
    (hval : Value.okWide P w r b0 t v) (hd : DataW.Trod enc P w base spare held t v d ps) :
    ∃ k0 k1 k2 : Int, v = .agg #[.int .i64 k0, .int .i64 k1, .int .i64 k2] := by
  obtain ⟨cs, rfl, hsz⟩ := okWide_arr ht hval
  obtain ⟨fuel, hf⟩ := hd
  obtain ⟨ks, hl, hcs, hx, hw⟩ := trod_arr_ints ht he hce hct hf
  obtain ⟨l⟩ := cs
  simp only [Value.cells] at hcs
  match ks, hl, hcs with
  | [k0, k1, k2], _, hcs =>
    refine ⟨k0, k1, k2, ?_⟩
    have : l = [.int .i64 k0, .int .i64 k1, .int .i64 k2] := by simpa using hcs
    rw [this]
end Go
namespace Go.Proofs.Ytlhapbajllpcnaa
open Go.ChangeShapes Go.WideShapes Go.ChangeAt Go.RowKit Go.Sub Go.Joins
section
variable {H : Type} {enc : TypeId × Value → H} {w : World} {base : Nat} {spare : Nat → Bool} {held : Bool}
theorem cellsCur : Try.prog.cellsOf 59 = 6 := by kernel_rfl
set_option maxRecDepth 100000 in
theorem cur_of_trod {fuel : Nat} {cs : List Value} {x : DataW H × List MemPlace} (h : DataW.trod enc Try.prog w base spare held fuel 59 cs = some x) : ∃ c : Cur, cs = curCells c := by
  obtain ⟨xs, n, _, _, hl, hlen, hf⟩ := DataW.trod_struct Try.underlying59 h
  rw [cellsCur] at hl
  obtain ⟨y0, y1, y2, rfl⟩ : ∃ y0 y1 y2, xs = [y0, y1, y2] := by
    match xs, hlen with
    | [y0, y1, y2], _ => exact ⟨y0, y1, y2, rfl⟩
  have h0 : DataW.trod enc Try.prog w base spare held n 23 ((cs.drop 0).take (Try.prog.cellsOf 23)) = some y0 := hf 0 _ rfl
  have h1 : DataW.trod enc Try.prog w base spare held n 3 ((cs.drop 4).take (Try.prog.cellsOf 3)) = some y1 := hf 1 _ rfl
  have h2 : DataW.trod enc Try.prog w base spare held n 4 ((cs.drop 5).take (Try.prog.cellsOf 4)) = some y2 := hf 2 _ rfl
  obtain ⟨ks, hkl, hk, _, _⟩ := trod_arr_ints Try.underlying23 Try.underlying3 cellsInt cellsCyc h0
  obtain ⟨r, hr, _, _⟩ := DataW.trod_int Try.underlying3 h1
  obtain ⟨b, hb, _⟩ := DataW.trod_bool Try.underlying4 h2
  match cs, hl with
  | [v0, v1, v2, v3, v4, v5], _ =>
    match ks, hkl with
    | [a, b', c, d], _ =>
      refine ⟨⟨⟨a, b', c, d⟩, r, b⟩, ?_⟩
      rw [cellsCyc] at hk
      rw [cellsInt] at hr
      rw [show Try.prog.cellsOf 4 = 1 by kernel_rfl] at hb
      simp only [List.drop_zero, List.take_succ_cons, List.take_zero, List.map_cons, List.map_nil, List.cons.injEq, and_true, List.drop_succ_cons] at hk hr hb
      obtain ⟨rfl, rfl, rfl, rfl⟩ := hk
      subst hr
      subst hb
      rfl
set_option maxRecDepth 100000 in
theorem open_cur {r : Reach} {b0 : Nat} {v : Value} {d : DataW H} {ps : List MemPlace}
    (hval : Value.okWide Try.prog w r b0 59 v) (hd : DataW.Trod enc Try.prog w base spare held 59 v d ps) : ∃ c : Cur, v = .agg #[.int .i64 c.i.a, .int .i64 c.i.b, .int .i64 c.i.c, .int .i64 c.i.d, .int .i64 c.r, .bool c.v] := by
  obtain ⟨cs, rfl, _⟩ := okWide_struct Try.underlying59 hval
  obtain ⟨fuel, hf⟩ := hd
  obtain ⟨c, hc⟩ := cur_of_trod hf
  obtain ⟨l⟩ := cs
  simp only [Value.cells] at hc
  exact ⟨c, by rw [show l = curCells c from hc]; rfl⟩
set_option maxRecDepth 100000 in
theorem open_curs {r : Reach} {b0 : Nat} {v : Value} {d : DataW H} {ps : List MemPlace}
    (hval : Value.okWide Try.prog w r b0 50 v) (hd : DataW.Trod enc Try.prog w base spare held 50 v d ps) :
    ∃ (A : Option Addr) (n cap : Nat) (l : List Cur), v = .slice A n cap ∧ l.length = n ∧ CurArg w A l ∧ n ≤ 9223372036854775807 := by
  obtain ⟨a0, len, cap, rfl⟩ := okWide_slice Try.underlying50 hval
  obtain ⟨fuel, hf⟩ := hd
  rcases DataW.trod_slice Try.underlying50 hf with ⟨h, _⟩ | ⟨a, len', cap', elems, rest, n, _, h, _, _, hlc, hcm, hel, hcells, _, _⟩
  · simp only [Value.cells, List.cons.injEq, Value.slice.injEq, and_true] at h
    obtain ⟨rfl, rfl, rfl⟩ := h
    exact ⟨none, 0, 0, [], rfl, rfl, fun h => absurd rfl h, by decide⟩
  · simp only [Value.cells, List.cons.injEq, Value.slice.injEq, and_true] at h
    obtain ⟨rfl, rfl, rfl⟩ := h
    have hn : len ≤ 9223372036854775807 := by
      unfold maxLen at hcm
      omega
    have each : ∀ i, i < len → ∃ c : Cur, ∀ j, j < 6 → w.cell? ((a.add (i * 6)).add j) = (curCells c)[j]? := by
      intro i hi
      have h1 := hcells i hi
      rw [List.getElem?_eq_getElem (by omega), cellsCur] at h1
      obtain ⟨cs, h2, h3⟩ := Option.bind_eq_some_iff.1 h1
      obtain ⟨c, rfl⟩ := cur_of_trod h3
      exact ⟨c, fun j hj => (World.cells?_some h2).2.2 j hj⟩
    rcases Nat.eq_zero_or_pos len with h0 | h0
    · subst h0
      exact ⟨_, 0, cap, [], rfl, rfl, fun h => absurd rfl h, by decide⟩
    · obtain ⟨b, o, sp⟩ := a
      have hsp : sp = none := by
        obtain ⟨c, hc⟩ := each 0 h0
        have h1 := hc 0 (by decide)
        cases sp with
        | none => rfl
        | some s =>
          simp only [Addr.add, World.cell?, curCells, List.getElem?_cons_zero] at h1
          split at h1
          · simp at h1
          · cases h1
      subst hsp
      have addE : ∀ i j : Nat, ((⟨b, o, none⟩ : Addr).add i).add j = ⟨b, o + i + j, none⟩ := by
        have one : ∀ o i : Nat, (⟨b, o, none⟩ : Addr).add i = ⟨b, o + i, none⟩ := by intro o i; unfold Addr.add; split <;> simp_all
        intro i j
        rw [one, one]
      let f : Nat → Cur := fun i => if h : i < len then Classical.choose (each i h) else ⟨⟨0, 0, 0, 0⟩, 0, false⟩
      have hfs : ∀ i (h : i < len), ∀ j, j < 6 → w.cell? ⟨b, o + i * 6 + j, none⟩ = (curCells (f i))[j]? := by
        intro i h j hj
        have := Classical.choose_spec (each i h) j hj
        rw [addE] at this
        rw [this]
        simp only [f, h, dif_pos]
      refine ⟨_, len, cap, (List.range len).map f, rfl, by simp, fun _ => ⟨b, o, rfl, ?_⟩, hn⟩
      intro k c hk
      obtain ⟨hlt, he⟩ := List.getElem?_eq_some_iff.1 hk
      have hlt' : k < len := by simpa using hlt
      have e : c = f k := by rw [← he]; simp
      subst e
      exact ⟨hfs k hlt' 0 (by decide), hfs k hlt' 1 (by decide), hfs k hlt' 2 (by decide), hfs k hlt' 3 (by decide), hfs k hlt' 4 (by decide), hfs k hlt' 5 (by decide)⟩
end
end Go.Proofs.Ytlhapbajllpcnaa

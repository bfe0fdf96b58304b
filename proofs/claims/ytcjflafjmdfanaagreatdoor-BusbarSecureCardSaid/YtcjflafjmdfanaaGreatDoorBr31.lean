
/- What small says of a case; Sections in one form, with or without an error; the elements of two slices compared. -/
import Derived.Test.YtcjflafjmdfanaaGreatDoorBr30
import Derived.Test.YtcjflafjmdfanaaGreatDoorBr18
import Derived.Test.YtcjflafjmdfanaaGreatDoorBr09
import Derived.Test.YtcjflafjmdfanaaGreatDoorBr27
import Derived.Test.YtcjflafjmdfanaaGreatDoorBr10
import Derived.Deep.MidRow
import Derived.Test.YtcjflafjmdfanaaGreatDoorBr16
set_option linter.unusedSimpArgs false
set_option linter.unusedVariables false
/- Where the currents of a section add up to nothing, its elements do not operate (plain law); and what replacing the samples of one bay does to the sums of the sections. -/
set_option linter.unusedVariables false
set_option linter.unusedSimpArgs false
namespace Go.Proofs.YtcjflafjmdfanaaGreatDoor
open Go.RowKit Go.Sub
/-- The ratio of a bay's transformer. -/
def ctZ (s : Sta) (b : Int) : Int := match s.bays[b.toNat]? with | some y => y.ct | none => 0
/-- What a member adds at an instant. -/
def tmI (s : Sta) (W : List Int) (ph j : Nat) (m : Int × Int) : Int := m.2 * ctZ s m.1 * wvF W m.1.toNat ph j
/-- What the currents of a section add up to at an instant. -/
def seS (s : Sta) (W : List Int) (ml : List (Int × Int)) (ph j : Nat) : Int := (ml.map (tmI s W ph j)).sum
/-- The same without one bay. -/
def exS (s : Sta) (W : List Int) (fr : Int) (ml : List (Int × Int)) (ph j : Nat) : Int := (ml.map fun m => if m.1 = fr then 0 else tmI s W ph j m).sum
theorem exS_take {s : Sta} {W : List Int} {fr : Int} {ml : List (Int × Int)} {ph j i : Nat} {m : Int × Int} (h : ml[i]? = some m) : exS s W fr (ml.take (i + 1)) ph j = exS s W fr (ml.take i) ph j + if m.1 = fr then 0 else tmI s W ph j m := by
 unfold exS
 rw [List.take_add_one, h, List.map_append, List.sum_append]
 simp
theorem exS_none {s : Sta} {W : List Int} {fr : Int} {ml : List (Int × Int)} {ph j : Nat} (h : ∀ m ∈ ml, m.1 ≠ fr) : exS s W fr ml ph j = seS s W ml ph j := by
 unfold exS seS
 congr 1
 exact List.map_congr_left fun m hm => if_neg (h m hm)
theorem seS_split {s : Sta} {W : List Int} {fr : Int} {ph j : Nat} : ∀ {ml : List (Int × Int)}, (ml.map Prod.fst).Nodup → (fr, 1) ∈ ml → seS s W ml ph j = exS s W fr ml ph j + 1 * ctZ s fr * wvF W fr.toNat ph j
 | [], _, h => by cases h
 | m :: ml, hn, h => by
  rw [List.map_cons, List.nodup_cons] at hn
  rcases List.mem_cons.1 h with h | h
  ·subst h
   have e := exS_none (s := s) (W := W) (ph := ph) (j := j) (fr := fr) (ml := ml) (fun m hm e => hn.1 (List.mem_map.2 ⟨m, hm, e⟩))
   unfold exS seS at *
   rw [List.map_cons, List.map_cons, List.sum_cons, List.sum_cons, if_pos rfl, e]
   show tmI s W ph j (fr, 1) + _ = _
   unfold tmI
   dsimp only
   omega
  ·have ih := seS_split (s := s) (W := W) (fr := fr) (ph := ph) (j := j) hn.2 h
   have hne : m.1 ≠ fr := fun e => hn.1 (List.mem_map.2 ⟨(fr, 1), h, e.symm⟩)
   unfold exS seS at *
   rw [List.map_cons, List.map_cons, List.sum_cons, List.sum_cons, if_neg hne, ih]
   omega
theorem seS_congr {s : Sta} {W W' : List Int} {ml : List (Int × Int)} {ph j : Nat} (h : ∀ m ∈ ml, wvF W m.1.toNat ph j = wvF W' m.1.toNat ph j) : seS s W ml ph j = seS s W' ml ph j := by
 unfold seS
 congr 1
 exact List.map_congr_left fun m hm => by unfold tmI; rw [h m hm]
theorem exS_congr {s : Sta} {W W' : List Int} {fr : Int} {ml : List (Int × Int)} {ph j : Nat} (h : ∀ m ∈ ml, m.1 ≠ fr → wvF W m.1.toNat ph j = wvF W' m.1.toNat ph j) : exS s W fr ml ph j = exS s W' fr ml ph j := by
 unfold exS
 congr 1
 refine List.map_congr_left fun m hm => ?_
 by_cases e : m.1 = fr
 ·rw [if_pos e, if_pos e]
 ·rw [if_neg e, if_neg e]; unfold tmI; rw [h m hm e]
/-- One sample replaced. -/
def stW (W : List Int) (k ph j : Nat) (v : Int) : List Int := W.set (k * 72 + ph * 12 + j) v
theorem stW_same {W : List Int} {n k ph j : Nat} {v : Int} (hW : W.length = n * 72) (hk : k < n) (hp : ph < 6) (hj : j < 12) : wvF (stW W k ph j v) k ph j = v := by
 unfold wvF stW
 rw [List.getD_eq_getElem?_getD, List.getElem?_set_self (by omega)]
 rfl
theorem stW_other {W : List Int} {k ph j k' ph' j' : Nat} {v : Int} (hp : ph < 6) (hj : j < 12) (hp' : ph' < 6) (hj' : j' < 12) (h : ¬ (k' = k ∧ ph' = ph ∧ j' = j)) : wvF (stW W k ph j v) k' ph' j' = wvF W k' ph' j' := by
 unfold wvF stW
 rw [List.getD_eq_getElem?_getD, List.getD_eq_getElem?_getD, List.getElem?_set_ne (by omega)]
/-- A sample of the first bay replaced by the negative sum of the others: the section's sum is nothing. -/
theorem seS_put {s : Sta} {W : List Int} {n fr ph j : Nat} {ml : List (Int × Int)} (hW : W.length = n * 72) (hk : fr < n) (hp : ph < 6) (hj : j < 12) (hn : (ml.map Prod.fst).Nodup) (hm : ((fr : Int), 1) ∈ ml) (hc : ctZ s fr = 1) (hN : ∀ m ∈ ml, ∃ k : Nat, m.1 = (k : Int)) :
  seS s (stW W fr ph j (-(exS s W fr ml ph j))) ml ph j = 0 := by
 rw [seS_split hn hm, hc, Int.toNat_natCast, stW_same hW hk hp hj]
 have e : exS s (stW W fr ph j (-(exS s W fr ml ph j))) fr ml ph j = exS s W fr ml ph j := by
  refine exS_congr fun m hm' hne => ?_
  obtain ⟨k, hk'⟩ := hN m hm'
  rw [hk', Int.toNat_natCast]
  exact stW_other hp hj hp hj (fun h => hne (by rw [hk', h.1]))
 rw [e]
 omega
theorem seS_put_other {s : Sta} {W : List Int} {fr ph j ph' j' : Nat} {v : Int} {ml : List (Int × Int)} (hp : ph < 6) (hj : j < 12) (hp' : ph' < 6) (hj' : j' < 12) (h : ¬ (ph' = ph ∧ j' = j)) : seS s (stW W fr ph j v) ml ph' j' = seS s W ml ph' j' :=
 seS_congr fun m _ => stW_other hp hj hp' hj' fun e => h e.2
theorem seS_put_far {s : Sta} {W : List Int} {fr ph j ph' j' : Nat} {v : Int} {ml : List (Int × Int)} (hp : ph < 6) (hj : j < 12) (hp' : ph' < 6) (hj' : j' < 12) (hN : ∀ m ∈ ml, ∃ k : Nat, m.1 = (k : Int)) (h : ∀ m ∈ ml, m.1 ≠ (fr : Int)) : seS s (stW W fr ph j v) ml ph' j' = seS s W ml ph' j' :=
 seS_congr fun m hm => stW_other hp hj hp' hj' fun e => by
  obtain ⟨k, hk⟩ := hN m hm
  rw [hk, Int.toNat_natCast] at e
  exact h m hm (by rw [hk, e.1])
/-- The members of a section of the bus image. -/
theorem imF_mem (s : Sta) (p : Pos) (gl : List Int) (n : Nat) : ∀ x ∈ imF s p gl n, (x.mem.map Prod.fst).Nodup ∧ ∀ m ∈ x.mem, ∃ k y, m.1 = ((k : Nat) : Int) ∧ s.bays[k]? = some y ∧ (m.2 = 1 ∨ m.2 = -1) ∧ (y.kd ≠ 3 → m.2 = 1) := by
 intro x hx
 unfold imF at hx
 obtain ⟨q, _, rfl⟩ := List.mem_map.1 hx
 unfold imS memF
 dsimp only
 constructor
 ·rw [List.map_map]
  have e : (Prod.fst ∘ fun b => (b, sgZ s b.toNat (busF gl (q : Int) s.buses.length))) = (id : Int → Int) := rfl
  rw [e, List.map_id]
  unfold bdI bdN
  refine List.Pairwise.map _ ?_ (List.Pairwise.filter _ List.nodup_range)
  intro a b hab e
  exact hab (Int.ofNat.inj e)
 ·intro m hm
  obtain ⟨b, hb, rfl⟩ := List.mem_map.1 hm
  unfold bdI bdN at hb
  obtain ⟨k, hk, rfl⟩ := List.mem_map.1 hb
  have hkr := List.mem_range.1 (List.mem_filter.1 hk).1
  refine ⟨k, s.bays[k], rfl, List.getElem?_eq_getElem hkr, ?_, ?_⟩
  ·show sgZ s (Int.toNat (k : Int)) _ = 1 ∨ sgZ s (Int.toNat (k : Int)) _ = -1
   rw [Int.toNat_natCast]
   unfold sgZ sgB
   rw [List.getElem?_eq_getElem hkr]
   dsimp only
   split
   ·split
    ·exact .inr rfl
    ·exact .inl rfl
   ·exact .inl rfl
  ·intro h3
   show sgZ s (Int.toNat (k : Int)) _ = 1
   rw [Int.toNat_natCast]
   unfold sgZ sgB
   rw [List.getElem?_eq_getElem hkr]
   dsimp only
   split
   ·rw [if_neg (fun h => h3 h.1)]
   ·rfl
/-- A bay that is no coupler bounds one section alone. -/
theorem imF_one (s : Sta) (p : Pos) (gl : List Int) (n : Nat) {i i' : Nat} {x x' : Sec} (hx : (imF s p gl n)[i]? = some x) (hx' : (imF s p gl n)[i']? = some x') (hne : i ≠ i') {k : Nat} {y : Byr} (hy : s.bays[k]? = some y) (h3 : y.kd ≠ 3) {m m' : Int × Int} (hm : m ∈ x.mem) (hm' : m' ∈ x'.mem) (e : m.1 = (k : Int)) (e' : m'.1 = (k : Int)) : False := by
 unfold imF at hx hx'
 rw [List.getElem?_map] at hx hx'
 obtain ⟨q, hq, rfl⟩ := Option.map_eq_some_iff.1 hx
 obtain ⟨q', hq', rfl⟩ := Option.map_eq_some_iff.1 hx'
 have key : ∀ (q : Nat) (m : Int × Int), m ∈ (imS s p gl (q : Int)).mem → m.1 = (k : Int) → (sdZ s (rsP p) gl k).2.1 = (q : Int) := by
  intro q m hm e
  unfold imS memF at hm
  obtain ⟨b, hb, rfl⟩ := List.mem_map.1 hm
  unfold bdI bdN at hb
  obtain ⟨k2, hk2, rfl⟩ := List.mem_map.1 hb
  have hk : k2 = k := Int.ofNat.inj e
  subst hk
  have hB := (List.mem_filter.1 hk2).2
  have hz : (sdZ s (rsP p) gl k2).2.2.1 ≠ 1 := by
   unfold sdZ
   rw [hy]
   split
   ·rename_i y' l0 rest e1 e2
    injection e1 with e1
    subst e1
    rw [if_neg h3]
    dsimp only
    split <;> decide
   ·decide
  unfold bdB at hB
  simp only [Bool.and_eq_true, bne_iff_ne, ne_eq, decide_eq_true_eq] at hB
  have := hB.2
  simp [hz] at this
  exact this
 have e1 := key q m hm e
 have e2 := key q' m' hm' e'
 have : q = q' := by omega
 subst this
 have hnd : ((List.range n).filter fun (k : Nat) => gl.getD k 0 = (k : Int)).Nodup := List.Pairwise.filter _ List.nodup_range
 obtain ⟨h1, h1'⟩ := List.getElem?_eq_some_iff.1 hq
 obtain ⟨h2, h2'⟩ := List.getElem?_eq_some_iff.1 hq'
 have hp := List.pairwise_iff_getElem.1 hnd
 rcases Nat.lt_trichotomy i i' with h | h | h
 ·exact hp i i' h1 h2 h (h1'.trans h2'.symm)
 ·exact hne h
 ·exact hp i' i h2 h1 h (h2'.trans h1'.symm)
theorem harm_zero (h : Int) : harm (fun _ => 0) h = cz := by
 unfold harm
 rw [sumC_congr (z := fun _ => ⟨0, 0, 0, 0⟩) 12 fun k _ => by apply Cy.ext' <;> simp [hterm, Cy.scl]]
 exact sumC_zero 12
/-- The sum of the fundamentals is the fundamental of the sum. -/
theorem sumW_mem (s : Sta) (W : List Int) (ph : Nat) : ∀ ml : List (Int × Int), (∀ m ∈ ml, m.2 = 1 ∨ m.2 = -1) → sumW (ml.map (cuM s W ph)) = harm (fun j => seS s W ml ph j) 1
 | [], _ => (harm_zero 1).symm
 | m :: ml, h => by
  rw [List.map_cons, sumW, sumW_mem s W ph ml fun m hm => h m (List.mem_cons_of_mem _ hm)]
  have e : (cuM s W ph m).wt = harm (fun j => tmI s W ph j m) 1 := by
   have e1 : (fun j => tmI s W ph j m) = fun j => (m.2 * ctZ s m.1) * wvF W m.1.toNat ph j := rfl
   rw [e1, harm_scl]
   unfold Cur.wt Cur.k cuM ctZ
   dsimp only
   rcases h m List.mem_cons_self with h1 | h1
   ·rw [h1]
    cases s.bays[m.1.toNat]? <;> simp [Cy.sc, Cy.scl]
   ·rw [h1]
    cases s.bays[m.1.toNat]? <;> simp [Cy.sc, Cy.scl]
  rw [e, ← harm_add]
  rfl
/-- Nothing does not operate. -/
theorem op_none {l : List Cur} {m n d : Int} (hm : 1 ≤ m) (h : sumW l = cz) : opB l m n d = false := by
 unfold opB
 rw [h]
 have hsq := Int.mul_le_mul hm hm (by decide) (by omega)
 have e : Cy.norm cz = ⟨0, 0⟩ := rfl
 have e2 : sgnS (Su.sub ⟨0, 0⟩ (minS m)) = -1 := by
  have : Su.sub ⟨0, 0⟩ (minS m) = ⟨-(36 * m * m), 0⟩ := by apply Su.ext' <;> simp [Su.sub, minS]
  rw [this]
  unfold sgnS
  dsimp only
  rw [sgn_neg (show -(36 * m * m) < 0 by rw [Int.mul_assoc]; omega)]
  simp [sgn_zero]
 rw [e, e2]
 rfl
theorem opM_none {s : Sta} {W : List Int} {r : Rel} {ml : List (Int × Int)} {ph : Nat} (hu : usB r = true) (hs : ∀ m ∈ ml, m.2 = 1 ∨ m.2 = -1) (h : ∀ j, j < 12 → seS s W ml ph j = 0) : opM s W r ml ph = false := by
 unfold opM
 split
 ·rfl
 ·rename_i hn
  have hd : r.dm ≠ 0 := fun e => hn (.inl e)
  have h1 : 1 ≤ r.dm := by
   unfold usB at hu
   rw [if_neg hd] at hu
   simp only [Bool.and_eq_true, decide_eq_true_eq] at hu
   omega
  refine op_none h1 ?_
  rw [sumW_mem s W ph ml hs, ← harm_zero 1]
  exact harm_congr 1 h
/-- A section whose currents add up to nothing neither operates nor trips. -/
theorem prS_none {s : Sta} {W : List Int} {G : List Bool} {r : Rel} {x : Sec} (hu : usB r = true) (hs : ∀ m ∈ x.mem, m.2 = 1 ∨ m.2 = -1) (h : ∀ ph j, ph < 3 → j < 12 → seS s W x.mem ph j = 0) : (prS s W G r x).tr = false ∧ ∀ i, i < 3 → (prS s W G r x).op i = false := by
 unfold prS
 split
 ·refine ⟨?_, fun i hi => opM_none hu hs fun j hj => h i j hi hj⟩
  show trP _ _ _ 3 = false
  unfold trP
  rw [List.any_eq_false]
  intro i hi
  rw [opM_none hu hs fun j hj => h i j (List.mem_range.1 hi) hj]
  simp
 ·exact ⟨rfl, fun _ _ => rfl⟩
end Go.Proofs.YtcjflafjmdfanaaGreatDoor
/- The case of a law: its cells, and how parts of it are read. -/
set_option linter.unusedVariables false
set_option linter.unusedSimpArgs false
namespace Go.Sub
open Go
/-- The cells of a case: the station, the position, the relay, the samples, their goodness. -/
def caseC (v0 v1 v2 v3 v4 v5 v6 : Value) (cs : Array Value) (v7 v8 : Value) : Array Value := #[v0, v1, v2, v3, v4, v5, v6] ++ cs ++ #[v7, v8]
def rel0 : Array Value := #[Value.string ⟨#[114]⟩, Value.int .i64 4, Value.int .i64 (-1), Value.bool false, Value.bool false, Value.int .i64 0, Value.int .i64 0, Value.int .i64 0, Value.int .i64 0, Value.bool false, Value.bool false, Value.int .i64 0, Value.int .i64 0, Value.int .i64 0, Value.int .i64 0, Value.bool false, Value.bool false, Value.int .i64 0, Value.int .i64 0, Value.int .i64 0, Value.int .i64 0, Value.int .i64 0, Value.int .i64 0, Value.int .i64 0, Value.int .i64 0, Value.int .i64 0, Value.int .i64 0, Value.bool false, Value.int .i64 0, Value.int .i64 0, Value.bool false, Value.int .i64 0, Value.int .i64 0, Value.bool false, Value.int .i64 0, Value.int .i64 0, Value.int .i64 0, Value.int .i64 0, Value.int .i64 0, Value.bool false, Value.int .i64 0, Value.int .i64 0, Value.bool false, Value.int .i64 0, Value.int .i64 0, Value.int .i64 5, Value.int .i64 1, Value.int .i64 2, Value.int .i64 0, Value.slice none 0 0, Value.slice none 0 0, Value.slice none 0 0, Value.slice none 0 0]
end Go.Sub
namespace Go.Proofs.YtcjflafjmdfanaaGreatDoor
open Go.RowKit Go.Sub
attribute [local go_sem ↓] Go.wp_at_zero Go.wp_at_succ
@[go_sem] theorem caseC_0 (v0 v1 v2 v3 v4 v5 v6 : Value) (cs : Array Value) (v7 v8 : Value) : (caseC v0 v1 v2 v3 v4 v5 v6 cs v7 v8)[0]? = some v0 := by
 unfold caseC
 rw [Array.getElem?_append_left (by simp; omega), Array.getElem?_append_left (by simp)]
 rfl
@[go_sem] theorem caseC_1 (v0 v1 v2 v3 v4 v5 v6 : Value) (cs : Array Value) (v7 v8 : Value) : (caseC v0 v1 v2 v3 v4 v5 v6 cs v7 v8)[1]? = some v1 := by
 unfold caseC
 rw [Array.getElem?_append_left (by simp; omega), Array.getElem?_append_left (by simp)]
 rfl
@[go_sem] theorem caseC_2 (v0 v1 v2 v3 v4 v5 v6 : Value) (cs : Array Value) (v7 v8 : Value) : (caseC v0 v1 v2 v3 v4 v5 v6 cs v7 v8)[2]? = some v2 := by
 unfold caseC
 rw [Array.getElem?_append_left (by simp; omega), Array.getElem?_append_left (by simp)]
 rfl
@[go_sem] theorem caseC_3 (v0 v1 v2 v3 v4 v5 v6 : Value) (cs : Array Value) (v7 v8 : Value) : (caseC v0 v1 v2 v3 v4 v5 v6 cs v7 v8)[3]? = some v3 := by
 unfold caseC
 rw [Array.getElem?_append_left (by simp; omega), Array.getElem?_append_left (by simp)]
 rfl
@[go_sem] theorem caseC_4 (v0 v1 v2 v3 v4 v5 v6 : Value) (cs : Array Value) (v7 v8 : Value) : (caseC v0 v1 v2 v3 v4 v5 v6 cs v7 v8)[4]? = some v4 := by
 unfold caseC
 rw [Array.getElem?_append_left (by simp; omega), Array.getElem?_append_left (by simp)]
 rfl
@[go_sem] theorem caseC_5 (v0 v1 v2 v3 v4 v5 v6 : Value) (cs : Array Value) (v7 v8 : Value) : (caseC v0 v1 v2 v3 v4 v5 v6 cs v7 v8)[5]? = some v5 := by
 unfold caseC
 rw [Array.getElem?_append_left (by simp; omega), Array.getElem?_append_left (by simp)]
 rfl
@[go_sem] theorem caseC_6 (v0 v1 v2 v3 v4 v5 v6 : Value) (cs : Array Value) (v7 v8 : Value) : (caseC v0 v1 v2 v3 v4 v5 v6 cs v7 v8)[6]? = some v6 := by
 unfold caseC
 rw [Array.getElem?_append_left (by simp; omega), Array.getElem?_append_left (by simp)]
 rfl
@[go_sem] theorem caseC_60 (v0 v1 v2 v3 v4 v5 v6 : Value) (cs : Array Value) (v7 v8 : Value) (r : Rel) [h : RelC cs r] : (caseC v0 v1 v2 v3 v4 v5 v6 cs v7 v8)[60]? = some v7 := by
 unfold caseC
 rw [Array.getElem?_append_right (by simp [h.size])]
 simp [h.size]
@[go_sem] theorem caseC_61 (v0 v1 v2 v3 v4 v5 v6 : Value) (cs : Array Value) (v7 v8 : Value) (r : Rel) [h : RelC cs r] : (caseC v0 v1 v2 v3 v4 v5 v6 cs v7 v8)[61]? = some v8 := by
 unfold caseC
 rw [Array.getElem?_append_right (by simp [h.size])]
 simp [h.size]
theorem caseC_size (v0 v1 v2 v3 v4 v5 v6 : Value) (cs : Array Value) (v7 v8 : Value) (r : Rel) [h : RelC cs r] : (caseC v0 v1 v2 v3 v4 v5 v6 cs v7 v8).size = 62 := by
 unfold caseC
 simp [h.size]
theorem caseC_mid (v0 v1 v2 v3 v4 v5 v6 : Value) (cs : Array Value) (v7 v8 : Value) (r : Rel) [h : RelC cs r] (j : Nat) (v : Value) (hj : cs[j]? = some v) : (caseC v0 v1 v2 v3 v4 v5 v6 cs v7 v8)[7 + j]? = some v := by
 have hl := (Array.getElem?_eq_some_iff.1 hj).1
 unfold caseC
 rw [Array.getElem?_append_left (by simp; omega), Array.getElem?_append_right (by simp)]
 simpa using hj
@[go_sem] theorem caseC_set60 (v0 v1 v2 v3 v4 v5 v6 : Value) (cs : Array Value) (v7 v8 : Value) (r : Rel) [h : RelC cs r] (v : Value) : (caseC v0 v1 v2 v3 v4 v5 v6 cs v7 v8).setIfInBounds 60 v = caseC v0 v1 v2 v3 v4 v5 v6 cs v v8 := by
 unfold caseC
 apply Array.ext_getElem?
 intro i
 have hs : (#[v0, v1, v2, v3, v4, v5, v6] ++ cs).size = 60 := by simp [h.size]
 generalize #[v0, v1, v2, v3, v4, v5, v6] ++ cs = X at hs ⊢
 rw [Array.getElem?_setIfInBounds]
 by_cases e : 60 = i
 ·subst e
  rw [if_pos rfl, if_pos (by simp [hs]), Array.getElem?_append_right (by rw [hs]; exact Nat.le_refl _), hs]
  rfl
 ·rw [if_neg e]
  by_cases h1 : i < 60
  ·rw [Array.getElem?_append_left (by rw [hs]; exact h1), Array.getElem?_append_left (by rw [hs]; exact h1)]
  ·rw [Array.getElem?_append_right (by rw [hs]; omega), Array.getElem?_append_right (by rw [hs]; omega), hs]
   obtain ⟨j, rfl⟩ : ∃ j, i = 61 + j := ⟨i - 61, by omega⟩
   rw [show 61 + j - 60 = j + 1 by omega]
   simp
@[go_sem ↓ high] theorem lvCase34 (a : Addr) : loadVar 47 a = bigLoad 47 a := rfl
@[go_sem ↓ high] theorem svCase34 (a : Addr) (v : Value) : storeVar 47 a v = bigStore 47 a v := rfl
theorem infoCase34 : (Tryz.prog.info? 47).map (·.size) = some 62 := by kernel_rfl
/-- 62 cells. -/
class C62 (cs : Array Value) : Prop where
 eq : cs.size = 62
instance (v0 v1 v2 v3 v4 v5 v6 : Value) (cs : Array Value) (v7 v8 : Value) {r : Rel} [h : RelC cs r] : C62 (caseC v0 v1 v2 v3 v4 v5 v6 cs v7 v8) := ⟨caseC_size _ _ _ _ _ _ _ _ _ _ r⟩
instance (x0 x1 x2 x3 x4 x5 x6 x7 x8 x9 x10 x11 x12 x13 x14 x15 x16 x17 x18 x19 x20 x21 x22 x23 x24 x25 x26 x27 x28 x29 x30 x31 x32 x33 x34 x35 x36 x37 x38 x39 x40 x41 x42 x43 x44 x45 x46 x47 x48 x49 x50 x51 x52 x53 x54 x55 x56 x57 x58 x59 x60 x61 : Value) : C62 #[x0, x1, x2, x3, x4, x5, x6, x7, x8, x9, x10, x11, x12, x13, x14, x15, x16, x17, x18, x19, x20, x21, x22, x23, x24, x25, x26, x27, x28, x29, x30, x31, x32, x33, x34, x35, x36, x37, x38, x39, x40, x41, x42, x43, x44, x45, x46, x47, x48, x49, x50, x51, x52, x53, x54, x55, x56, x57, x58, x59, x60, x61] := ⟨rfl⟩
@[go_sem ↓ high] theorem rlCase34 {w : World} {n : Nat} {cs : Array Value} {t : TypeId} {fr : Nat × Nat} [h : Blk w n (.cells cs t fr)] [hs : C62 cs] :
  (bigLoad 47 ⟨n, 0, none⟩).run Tryz.prog w = .ok (.agg cs) w := run_bigLoad Tryz.underlying47 rfl (by rw [hs.eq]; exact infoCase34)
@[go_sem ↓ high] theorem rlRelay7 {w : World} {n : Nat} {v0 v1 v2 v3 v4 v5 v6 : Value} {cs : Array Value} {v7 v8 : Value} {r : Rel} {t : TypeId} {fr : Nat × Nat} [h : Blk w n (.cells (caseC v0 v1 v2 v3 v4 v5 v6 cs v7 v8) t fr)] [hs : RelC cs r] :
  (bigLoad 44 ⟨n, 7, none⟩).run Tryz.prog w = .ok (.agg cs) w := by
 have := run_loadVar_mid (P := Tryz.prog) w n 7 44 cs.toList _ (fun j v hj => by
  rw [cell_of_row _ _ _ _ _ _ h.eq]
  exact caseC_mid _ _ _ _ _ _ _ _ _ _ r j v (by simpa using hj)) Tryz.underlying44 rfl (by rw [Array.length_toList, hs.size]; exact infoRelay)
 unfold bigLoad
 rw [this]
class Ones53 (cs : Array Value) : Prop where
 eq : cs.all (·.oneCell') = true
instance (v0 v1 v2 v3 v4 v5 v6 : Value) (cs : Array Value) (v7 v8 : Value) [h0 : OneC v0] [h1 : OneC v1] [h2 : OneC v2] [h3 : OneC v3] [h4 : OneC v4] [h5 : OneC v5] [h6 : OneC v6] [h : Ones53 cs] [h7 : OneC v7] [h8 : OneC v8] : Ones (caseC v0 v1 v2 v3 v4 v5 v6 cs v7 v8) := ⟨by
 unfold caseC
 rw [Array.all_append, Array.all_append, h.eq]
 simp [h0.eq, h1.eq, h2.eq, h3.eq, h4.eq, h5.eq, h6.eq, h7.eq, h8.eq]⟩
/-- A case is stored in one piece. -/
@[go_sem ↓ high] theorem rsCase34 {w : World} {n : Nat} {cur cs : Array Value} {t : TypeId} [h : Blk w n (.cells cur t)] [hc : C62 cur] [hs : C62 cs] [h1 : Ones cs] :
  (bigStore 47 ⟨n, 0, none⟩ (.agg cs)).run Tryz.prog w = .ok () (w.setBlk n (.cells cs t)) := run_bigStore (by rw [hs.eq]; exact infoCase34) (by rw [hc.eq, hs.eq])
instance : RelC rel0 ⟨4, 5, 1, 2, 0⟩ := ⟨rfl, rfl, rfl, rfl, rfl, rfl⟩
instance : Ones53 rel0 := ⟨by decide +kernel⟩
end Go.Proofs.YtcjflafjmdfanaaGreatDoor
/- What '==' says of two arrays of bools: as the lists are. -/
namespace Go
open Go.Sub
theorem all_range_bools : ∀ (xs ys : List Bool), xs.length = ys.length → ((List.range xs.length).all fun i => xs.getD i false == ys.getD i false) = (xs == ys)
 | [], [], _ => rfl
 | x :: xs, y :: ys, h => by
  have ih := all_range_bools xs ys (by simpa using h)
  rw [List.length_cons, List.range_succ_eq_map, List.all_cons, List.all_map]
  simp only [List.getD_cons_zero, Function.comp_def, List.getD_cons_succ, ih]
  simp [List.cons_beq_cons]
 | [], _ :: _, h => by simp at h
 | _ :: _, [], h => by simp at h
section
variable {P : Program} (w : World)
theorem run_equalIn_bools (d : Nat) (t e : TypeId) (n : Nat) (ht : P.underlying t = some (.array n e)) (he : P.underlying e = some .bool) (hsz : ∀ w, (sizeOf e).run P w = .ok 1 w)
  (xs ys : List Bool) (hx : xs.length = n) (hy : ys.length = n) :
  (Op.equalIn (d + 2) t (.agg (xs.map Value.bool).toArray) (.agg (ys.map Value.bool).toArray)).run P w = .ok (xs == ys) w := by
 rw [← all_range_bools xs ys (hx.trans hy.symm), hx, List.range_eq_range', Op.equalIn]
 simp only [Sem.run_bind, run_underlying ht, Result.andThen_ok, hsz, Std.Legacy.Range.forIn_eq_forIn_range', Std.Legacy.Range.size, Nat.sub_zero, Nat.add_sub_cancel, Nat.div_one]
 have hl : ∀ i ∈ List.range' 0 n 1, i < n := fun i hi => by simpa using (List.mem_range'_1.1 hi).2
 generalize List.range' 0 n 1 = l at hl ⊢
 induction l with
 | nil => simp
 | cons i l ih =>
  have hi : i < n := hl i (by simp)
  have px : (part e (xs.map Value.bool).toArray (i * 1)).run P w = .ok (.bool (xs.getD i false)) w := by
   simp [part, isAgg, run_underlying he, List.getD, List.getElem?_eq_getElem (show i < xs.length by omega)]
  have py : (part e (ys.map Value.bool).toArray (i * 1)).run P w = .ok (.bool (ys.getD i false)) w := by
   simp [part, isAgg, run_underlying he, List.getD, List.getElem?_eq_getElem (show i < ys.length by omega)]
  have pe : (Op.equalIn (d + 1) e (.bool (xs.getD i false)) (.bool (ys.getD i false))).run P w = .ok (xs.getD i false == ys.getD i false) w := by
   cases xs.getD i false <;> cases ys.getD i false <;> simp [Op.equalIn, run_underlying he]
  simp only [List.forIn_cons, Sem.run_bind, px, py, pe, Result.andThen_ok, List.all_cons]
  cases hb : (xs.getD i false == ys.getD i false)
  ·simp
  ·simp only [Bool.not_true, Bool.false_eq_true, if_false, Sem.run_pure, Result.andThen_ok, Bool.true_and]
   exact ih fun j hj => hl j (by simp [hj])
theorem run_eql_bools (t e : TypeId) (n : Nat) (ht : P.underlying t = some (.array n e)) (he : P.underlying e = some .bool) (hsz : ∀ w, (sizeOf e).run P w = .ok 1 w)
  (xs ys : List Bool) (hx : xs.length = n) (hy : ys.length = n) :
  (binOp .eql t (.agg (xs.map Value.bool).toArray) (.agg (ys.map Value.bool).toArray)).run P w = .ok (.bool (xs == ys)) w := by
 rw [run_eql_struct, run_equalIn_bools w 9998 t e n ht he hsz xs ys hx hy]
 rfl
end
end Go
set_option linter.unusedVariables false
set_option linter.unusedSimpArgs false
namespace Go.Proofs.YtcjflafjmdfanaaGreatDoor
open Go.RowKit Go.Sub
attribute [local go_sem ↓] Go.wp_at_zero Go.wp_at_succ
/-- A truth value, and what it means when true. -/
def RetIf (P : Prop) (w : World) (e : Ending) (w' : World) : Prop := ∃ b : Bool, e = .returned (.bool b) ∧ Q w w' ∧ (b = true → P)
set_option maxRecDepth 100000 in
set_option maxHeartbeats 8000000 in
theorem small_c (s : Sta) (p : Pos) (cs : Array Value) (r : Rel) [hR : RelC cs r] (aW : Option Addr) (nW cW : Nat) (aG : Option Addr) (nG cG : Nat) (w : World) :
  Calls Tryz.prog 7 #[.agg (caseC (Value.string s.nm) (Value.slice s.aB s.buses.length s.cB) (Value.slice s.aL s.lines.length s.cL) (Value.slice s.aS s.srcs.length s.cS) (Value.slice s.aY s.bays.length s.cY) (Value.slice p.aC p.closed.length p.cC) (Value.slice p.aK p.rows.length p.cK) cs (Value.slice aW nW cW) (Value.slice aG nG cG))] w (RetIf (s.bays.length ≤ 20 ∧ s.buses.length ≤ 10 ∧ s.lines.length ≤ 10 ∧ p.rows.length ≤ 20 ∧ nW ≤ 20 ∧ nG ≤ 20) w) := by
 generalize s.bays.length = x0
 generalize s.buses.length = x1
 generalize s.lines.length = x2
 generalize p.rows.length = x3
 generalize e4 : nW = x4
 generalize e5 : nG = x5
 clear e4 e5
 by_cases h0 : (x0 : Int) ≤ 20
 ·skip
  by_cases h1 : (x1 : Int) ≤ 10
  ·skip
   by_cases h2 : (x2 : Int) ≤ 10
   ·skip
    by_cases h3 : (x3 : Int) ≤ 20
    ·skip
     by_cases h4 : (x4 : Int) ≤ 20
     ·skip
      by_cases h5 : (x5 : Int) ≤ 20
      ·skip
       go_enter Tryz.func7, Tryz.ntmps7
       go_wp2_with fail
       go_ret
       exact ⟨true, rfl, (by repeat' (first | exact Q.refl _ | refine Q.alloc ?_ _ | refine Q.jk ?_ _ | refine Q.drew ?_)), fun _ => ⟨by omega, by omega, by omega, by omega, by omega, by omega⟩⟩
      ·skip
       go_enter Tryz.func7, Tryz.ntmps7
       go_wp2_with fail
       go_ret
       exact ⟨false, rfl, (by repeat' (first | exact Q.refl _ | refine Q.alloc ?_ _ | refine Q.jk ?_ _ | refine Q.drew ?_)), fun h => by cases h⟩
     ·skip
      go_enter Tryz.func7, Tryz.ntmps7
      go_wp2_with fail
      go_ret
      exact ⟨false, rfl, (by repeat' (first | exact Q.refl _ | refine Q.alloc ?_ _ | refine Q.jk ?_ _ | refine Q.drew ?_)), fun h => by cases h⟩
    ·skip
     go_enter Tryz.func7, Tryz.ntmps7
     go_wp2_with fail
     go_ret
     exact ⟨false, rfl, (by repeat' (first | exact Q.refl _ | refine Q.alloc ?_ _ | refine Q.jk ?_ _ | refine Q.drew ?_)), fun h => by cases h⟩
   ·skip
    go_enter Tryz.func7, Tryz.ntmps7
    go_wp2_with fail
    go_ret
    exact ⟨false, rfl, (by repeat' (first | exact Q.refl _ | refine Q.alloc ?_ _ | refine Q.jk ?_ _ | refine Q.drew ?_)), fun h => by cases h⟩
  ·skip
   go_enter Tryz.func7, Tryz.ntmps7
   go_wp2_with fail
   go_ret
   exact ⟨false, rfl, (by repeat' (first | exact Q.refl _ | refine Q.alloc ?_ _ | refine Q.jk ?_ _ | refine Q.drew ?_)), fun h => by cases h⟩
 ·skip
  go_enter Tryz.func7, Tryz.ntmps7
  go_wp2_with fail
  go_ret
  exact ⟨false, rfl, (by repeat' (first | exact Q.refl _ | refine Q.alloc ?_ _ | refine Q.jk ?_ _ | refine Q.drew ?_)), fun h => by cases h⟩

/-- Sections, with or without an error. -/
def RetU (E : Int) (l : List Sec) (f : Sec → Prt) (w : World) (e : Ending) (w' : World) : Prop := ∃ (A : Option Addr) (c : Nat) (rs : List SecR), e = .returned (.tuple #[.slice A rs.length c, .int .i64 E]) ∧ Q w w' ∧ (E = 0 → rs.map SecR.d = l ∧ PrAt w' A c rs f)
theorem retU {E : Int} {l : List Sec} {f : Sec → Prt} {w w' : World} {e : Ending} (h : RetSe E l f w e w') : RetU E l f w e w' := by
 rcases h with ⟨h, rfl, hq⟩ | ⟨rfl, A, c, rs, rfl, hq, hd, hp⟩
 ·exact ⟨none, 0, [], rfl, hq, fun e => absurd e h⟩
 ·exact ⟨A, c, rs, rfl, hq, fun _ => ⟨hd, hp⟩⟩
theorem secs_u (s : Sta) (p : Pos) (cs : Array Value) (r : Rel) [hR : RelC cs r] (aW : Option Addr) (nW cW : Nat) (W : List Int) (aG : Option Addr) (nG cG : Nat) (G : List Bool) (w : World) (hr : RootsOK w) (hs : StAt w s) (hp : PosAt w p) (hW : WvAt w aW nW cW W) (hG : GdAt w aG nG cG G) :
  Calls Tryz.prog 14 #[.agg #[Value.string s.nm, Value.slice s.aB s.buses.length s.cB, Value.slice s.aL s.lines.length s.cL, Value.slice s.aS s.srcs.length s.cS, Value.slice s.aY s.bays.length s.cY], .agg #[Value.slice p.aC p.closed.length p.cC, Value.slice p.aK p.rows.length p.cK], .agg cs, .slice aW nW cW, .slice aG nG cG] w (RetU (seE s p r W G nW nG s.bays.length) (imI s p) (prS s W G r) w) :=
 (secs_c s p cs r aW nW cW W aG nG cG G w hr hs hp hW hG).mono fun _ _ h => retU h
@[go_sem high] theorem neqB3 (w : World) (a b c a' b' c' : Bool) :
  (binOp .neq 65 (.agg #[.bool a, .bool b, .bool c]) (.agg #[.bool a', .bool b', .bool c'])).run Tryz.prog w = .ok (.bool (!([a, b, c] == [a', b', c']))) w := by
 rw [run_neq_struct, show (Value.agg #[.bool a, .bool b, .bool c]) = .agg (([a, b, c].map Value.bool).toArray) from rfl, show (Value.agg #[.bool a', .bool b', .bool c']) = .agg (([a', b', c'].map Value.bool).toArray) from rfl, run_equalIn_bools (P := Tryz.prog) w 9998 65 4 3 Tryz.underlying65 Tryz.underlying4 (fun _ => by kernel_rfl) [a, b, c] [a', b', c'] rfl rfl]
 rfl
@[go_sem high] theorem eqlB3 (w : World) (a b c a' b' c' : Bool) :
  (binOp .eql 65 (.agg #[.bool a, .bool b, .bool c]) (.agg #[.bool a', .bool b', .bool c'])).run Tryz.prog w = .ok (.bool ([a, b, c] == [a', b', c'])) w :=
 run_eql_bools (P := Tryz.prog) w 65 4 3 Tryz.underlying65 Tryz.underlying4 (fun _ => by kernel_rfl) [a, b, c] [a', b', c'] rfl rfl
@[go_sem] theorem beqB3 (a b c : Bool) : ([a, b, c] == [a, b, c]) = true := beq_self_eq_true _
end Go.Proofs.YtcjflafjmdfanaaGreatDoor

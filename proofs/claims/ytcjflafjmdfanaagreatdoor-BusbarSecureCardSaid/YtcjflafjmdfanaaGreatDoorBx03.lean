
/- Where the currents of a section add up to nothing, its elements do not operate (plain law); and what replacing the samples of one bay does to the sums of the sections. -/
import Derived.Test.YtcjflafjmdfanaaGreatDoorBx01
import Derived.Test.YtcjflafjmdfanaaGreatDoorBx02
import Derived.Test.YtcjflafjmdfanaaGreatDoorBv11
import Derived.Test.YtcjflafjmdfanaaGreatDoorBv19
set_option linter.unusedSimpArgs false
set_option linter.unusedVariables false
namespace Go.Proofs.YtcjflafjmdfanaaGreatDoor
open Go.RowKit Go.Sub
def ctZ (s : Sta) (b : Int) : Int := match s.bays[b.toNat]? with | some y => y.ct | none => 0
def tmI (s : Sta) (W : List Int) (ph j : Nat) (m : Int × Int) : Int := m.2 * ctZ s m.1 * wvF W m.1.toNat ph j
def seS (s : Sta) (W : List Int) (ml : List (Int × Int)) (ph j : Nat) : Int := (ml.map (tmI s W ph j)).sum
def exS (s : Sta) (W : List Int) (fr : Int) (ml : List (Int × Int)) (ph j : Nat) : Int := (ml.map fun m => if m.1 = fr then 0 else tmI s W ph j m).sum
theorem exS_take {s : Sta} {W : List Int} {fr : Int} {ml : List (Int × Int)} {ph j i : Nat} {m : Int × Int} (h : ml[i]? = some m) : exS s W fr (ml.take (i + 1)) ph j = exS s W fr (ml.take i) ph j + if m.1 = fr then 0 else tmI s W ph j m := by
 unfold exS
 rw [List.take_add_one, h, List.map_append, List.sum_append]
 simp
theorem exS_none {s : Sta} {W : List Int} {fr : Int} {ml : List (Int × Int)} {ph j : Nat} (h : ∀ m ∈ ml, m.1 ≠ fr) : exS s W fr ml ph j = seS s W ml ph j := by
 unfold exS seS
 congr 1
 exact List.map_congr_left fun m hm => if_neg (h m hm)
theorem seS_split {s : Sta} {W : List Int} {fr : Int} {ph j : Nat} : ∀ {ml : List (Int × Int)}, (ml.map Prod.fst).Nodup → (fr, 1) ∈ ml → seS s W ml ph j = exS s W fr ml ph j + 1 * ctZ s fr * wvF W fr.toNat ph j
 | [], _, h => by cases h
 | m :: ml, hn, h => by
  rw [List.map_cons, List.nodup_cons] at hn
  rcases List.mem_cons.1 h with h | h
  ·subst h
   have e := exS_none (s := s) (W := W) (ph := ph) (j := j) (fr := fr) (ml := ml) (fun m hm e => hn.1 (List.mem_map.2 ⟨m, hm, e⟩))
   unfold exS seS at *
   rw [List.map_cons, List.map_cons, List.sum_cons, List.sum_cons, if_pos rfl, e]
   show tmI s W ph j (fr, 1) + _ = _
   unfold tmI
   dsimp only
   omega
  ·have ih := seS_split (s := s) (W := W) (fr := fr) (ph := ph) (j := j) hn.2 h
   have hne : m.1 ≠ fr := fun e => hn.1 (List.mem_map.2 ⟨(fr, 1), h, e.symm⟩)
   unfold exS seS at *
   rw [List.map_cons, List.map_cons, List.sum_cons, List.sum_cons, if_neg hne, ih]
   omega
theorem seS_congr {s : Sta} {W W' : List Int} {ml : List (Int × Int)} {ph j : Nat} (h : ∀ m ∈ ml, wvF W m.1.toNat ph j = wvF W' m.1.toNat ph j) : seS s W ml ph j = seS s W' ml ph j := by
 unfold seS
 congr 1
 exact List.map_congr_left fun m hm => by unfold tmI; rw [h m hm]
theorem exS_congr {s : Sta} {W W' : List Int} {fr : Int} {ml : List (Int × Int)} {ph j : Nat} (h : ∀ m ∈ ml, m.1 ≠ fr → wvF W m.1.toNat ph j = wvF W' m.1.toNat ph j) : exS s W fr ml ph j = exS s W' fr ml ph j := by
 unfold exS
 congr 1
 refine List.map_congr_left fun m hm => ?_
 by_cases e : m.1 = fr
 ·rw [if_pos e, if_pos e]
 rw [if_neg e, if_neg e]; unfold tmI; rw [h m hm e]
def stW (W : List Int) (k ph j : Nat) (v : Int) : List Int := W.set (k * 72 + ph * 12 + j) v
theorem stW_same {W : List Int} {n k ph j : Nat} {v : Int} (hW : W.length = n * 72) (hk : k < n) (hp : ph < 6) (hj : j < 12) : wvF (stW W k ph j v) k ph j = v := by
 unfold wvF stW
 rw [List.getD_eq_getElem?_getD, List.getElem?_set_self (by omega)]
 rfl
theorem stW_other {W : List Int} {k ph j k' ph' j' : Nat} {v : Int} (hp : ph < 6) (hj : j < 12) (hp' : ph' < 6) (hj' : j' < 12) (h : ¬ (k' = k ∧ ph' = ph ∧ j' = j)) : wvF (stW W k ph j v) k' ph' j' = wvF W k' ph' j' := by
 unfold wvF stW
 rw [List.getD_eq_getElem?_getD, List.getD_eq_getElem?_getD, List.getElem?_set_ne (by omega)]
theorem seS_put {s : Sta} {W : List Int} {n fr ph j : Nat} {ml : List (Int × Int)} (hW : W.length = n * 72) (hk : fr < n) (hp : ph < 6) (hj : j < 12) (hn : (ml.map Prod.fst).Nodup) (hm : ((fr : Int), 1) ∈ ml) (hc : ctZ s fr = 1) (hN : ∀ m ∈ ml, ∃ k : Nat, m.1 = (k : Int)) :
  seS s (stW W fr ph j (-(exS s W fr ml ph j))) ml ph j = 0 := by
 rw [seS_split hn hm, hc, Int.toNat_natCast, stW_same hW hk hp hj]
 have e : exS s (stW W fr ph j (-(exS s W fr ml ph j))) fr ml ph j = exS s W fr ml ph j := by
  refine exS_congr fun m hm' hne => ?_
  obtain ⟨k, hk'⟩ := hN m hm'
  rw [hk', Int.toNat_natCast]
  exact stW_other hp hj hp hj (fun h => hne (by rw [hk', h.1]))
 rw [e]
 omega
theorem seS_put_other {s : Sta} {W : List Int} {fr ph j ph' j' : Nat} {v : Int} {ml : List (Int × Int)} (hp : ph < 6) (hj : j < 12) (hp' : ph' < 6) (hj' : j' < 12) (h : ¬ (ph' = ph ∧ j' = j)) : seS s (stW W fr ph j v) ml ph' j' = seS s W ml ph' j' :=
 seS_congr fun m _ => stW_other hp hj hp' hj' fun e => h e.2
theorem seS_put_far {s : Sta} {W : List Int} {fr ph j ph' j' : Nat} {v : Int} {ml : List (Int × Int)} (hp : ph < 6) (hj : j < 12) (hp' : ph' < 6) (hj' : j' < 12) (hN : ∀ m ∈ ml, ∃ k : Nat, m.1 = (k : Int)) (h : ∀ m ∈ ml, m.1 ≠ (fr : Int)) : seS s (stW W fr ph j v) ml ph' j' = seS s W ml ph' j' :=
 seS_congr fun m hm => stW_other hp hj hp' hj' fun e => by
  obtain ⟨k, hk⟩ := hN m hm
  rw [hk, Int.toNat_natCast] at e
  exact h m hm (by rw [hk, e.1])
theorem imF_mem (s : Sta) (p : Pos) (gl : List Int) (n : Nat) : ∀ x ∈ imF s p gl n, (x.mem.map Prod.fst).Nodup ∧ ∀ m ∈ x.mem, ∃ k y, m.1 = ((k : Nat) : Int) ∧ s.bays[k]? = some y ∧ (m.2 = 1 ∨ m.2 = -1) ∧ (y.kd ≠ 3 → m.2 = 1) := by
 intro x hx
 unfold imF at hx
 obtain ⟨q, _, rfl⟩ := List.mem_map.1 hx
 unfold imS memF
 dsimp only
 constructor
 ·rw [List.map_map]
  have e : (Prod.fst ∘ fun b => (b, sgZ s b.toNat (busF gl (q : Int) s.buses.length))) = (id : Int → Int) := rfl
  rw [e, List.map_id]
  unfold bdI bdN
  refine List.Pairwise.map _ ?_ (List.Pairwise.filter _ List.nodup_range)
  intro a b hab e
  exact hab (Int.ofNat.inj e)
 intro m hm
 obtain ⟨b, hb, rfl⟩ := List.mem_map.1 hm
 unfold bdI bdN at hb
 obtain ⟨k, hk, rfl⟩ := List.mem_map.1 hb
 have hkr := List.mem_range.1 (List.mem_filter.1 hk).1
 refine ⟨k, s.bays[k], rfl, List.getElem?_eq_getElem hkr, ?_, ?_⟩
 ·show sgZ s (Int.toNat (k : Int)) _ = 1 ∨ sgZ s (Int.toNat (k : Int)) _ = -1
  rw [Int.toNat_natCast]
  unfold sgZ sgB
  rw [List.getElem?_eq_getElem hkr]
  dsimp only
  split
  ·split
   ·exact .inr rfl
   exact .inl rfl
  exact .inl rfl
 intro h3
 show sgZ s (Int.toNat (k : Int)) _ = 1
 rw [Int.toNat_natCast]
 unfold sgZ sgB
 rw [List.getElem?_eq_getElem hkr]
 dsimp only
 split
 ·rw [if_neg (fun h => h3 h.1)]
 rfl
theorem imF_one (s : Sta) (p : Pos) (gl : List Int) (n : Nat) {i i' : Nat} {x x' : Sec} (hx : (imF s p gl n)[i]? = some x) (hx' : (imF s p gl n)[i']? = some x') (hne : i ≠ i') {k : Nat} {y : Byr} (hy : s.bays[k]? = some y) (h3 : y.kd ≠ 3) {m m' : Int × Int} (hm : m ∈ x.mem) (hm' : m' ∈ x'.mem) (e : m.1 = (k : Int)) (e' : m'.1 = (k : Int)) : False := by
 unfold imF at hx hx'
 rw [List.getElem?_map] at hx hx'
 obtain ⟨q, hq, rfl⟩ := Option.map_eq_some_iff.1 hx
 obtain ⟨q', hq', rfl⟩ := Option.map_eq_some_iff.1 hx'
 have key : ∀ (q : Nat) (m : Int × Int), m ∈ (imS s p gl (q : Int)).mem → m.1 = (k : Int) → (sdZ s (rsP p) gl k).2.1 = (q : Int) := by
  intro q m hm e
  unfold imS memF at hm
  obtain ⟨b, hb, rfl⟩ := List.mem_map.1 hm
  unfold bdI bdN at hb
  obtain ⟨k2, hk2, rfl⟩ := List.mem_map.1 hb
  have hk : k2 = k := Int.ofNat.inj e
  subst hk
  have hB := (List.mem_filter.1 hk2).2
  have hz : (sdZ s (rsP p) gl k2).2.2.1 ≠ 1 := by
   unfold sdZ
   rw [hy]
   split
   ·rename_i y' l0 rest e1 e2
    injection e1 with e1
    subst e1
    rw [if_neg h3]
    dsimp only
    split <;> decide
   decide
  unfold bdB at hB
  simp only [Bool.and_eq_true, bne_iff_ne, ne_eq, decide_eq_true_eq] at hB
  have := hB.2
  simp [hz] at this
  exact this
 have e1 := key q m hm e
 have e2 := key q' m' hm' e'
 have : q = q' := by omega
 subst this
 have hnd : ((List.range n).filter fun (k : Nat) => gl.getD k 0 = (k : Int)).Nodup := List.Pairwise.filter _ List.nodup_range
 obtain ⟨h1, h1'⟩ := List.getElem?_eq_some_iff.1 hq
 obtain ⟨h2, h2'⟩ := List.getElem?_eq_some_iff.1 hq'
 have hp := List.pairwise_iff_getElem.1 hnd
 rcases Nat.lt_trichotomy i i' with h | h | h
 ·exact hp i i' h1 h2 h (h1'.trans h2'.symm)
 ·exact hne h
 exact hp i' i h2 h1 h (h2'.trans h1'.symm)
theorem harm_zero (h : Int) : harm (fun _ => 0) h = cz := by
 unfold harm
 rw [sumC_congr (z := fun _ => ⟨0, 0, 0, 0⟩) 12 fun k _ => by apply Cy.ext' <;> simp [hterm, Cy.scl]]
 exact sumC_zero 12
theorem sumW_mem (s : Sta) (W : List Int) (ph : Nat) : ∀ ml : List (Int × Int), (∀ m ∈ ml, m.2 = 1 ∨ m.2 = -1) → sumW (ml.map (cuM s W ph)) = harm (fun j => seS s W ml ph j) 1
 | [], _ => (harm_zero 1).symm
 | m :: ml, h => by
  rw [List.map_cons, sumW, sumW_mem s W ph ml fun m hm => h m (List.mem_cons_of_mem _ hm)]
  have e : (cuM s W ph m).wt = harm (fun j => tmI s W ph j m) 1 := by
   have e1 : (fun j => tmI s W ph j m) = fun j => (m.2 * ctZ s m.1) * wvF W m.1.toNat ph j := rfl
   rw [e1, harm_scl]
   unfold Cur.wt Cur.k cuM ctZ
   dsimp only
   rcases h m List.mem_cons_self with h1 | h1
   ·rw [h1]
    cases s.bays[m.1.toNat]? <;> simp [Cy.sc, Cy.scl]
   ·rw [h1]
    cases s.bays[m.1.toNat]? <;> simp [Cy.sc, Cy.scl]
  rw [e, ← harm_add]
  rfl
theorem op_none {l : List Cur} {m n d : Int} (hm : 1 ≤ m) (h : sumW l = cz) : opB l m n d = false := by
 unfold opB
 rw [h]
 have hsq := Int.mul_le_mul hm hm (by decide) (by omega)
 have e : Cy.norm cz = ⟨0, 0⟩ := rfl
 have e2 : sgnS (Su.sub ⟨0, 0⟩ (minS m)) = -1 := by
  have : Su.sub ⟨0, 0⟩ (minS m) = ⟨-(36 * m * m), 0⟩ := by apply Su.ext' <;> simp [Su.sub, minS]
  rw [this]
  unfold sgnS
  dsimp only
  rw [sgn_neg (show -(36 * m * m) < 0 by rw [Int.mul_assoc]; omega)]
  simp [sgn_zero]
 rw [e, e2]
 rfl
theorem opM_none {s : Sta} {W : List Int} {r : Rel} {ml : List (Int × Int)} {ph : Nat} (hu : usB r = true) (hs : ∀ m ∈ ml, m.2 = 1 ∨ m.2 = -1) (h : ∀ j, j < 12 → seS s W ml ph j = 0) : opM s W r ml ph = false := by
 unfold opM
 split
 ·rfl
 rename_i hn
 have hd : r.dm ≠ 0 := fun e => hn (.inl e)
 have h1 : 1 ≤ r.dm := by
  unfold usB at hu
  rw [if_neg hd] at hu
  simp only [Bool.and_eq_true, decide_eq_true_eq] at hu
  omega
 refine op_none h1 ?_
 rw [sumW_mem s W ph ml hs, ← harm_zero 1]
 exact harm_congr 1 h
theorem prS_none {s : Sta} {W : List Int} {G : List Bool} {r : Rel} {x : Sec} (hu : usB r = true) (hs : ∀ m ∈ x.mem, m.2 = 1 ∨ m.2 = -1) (h : ∀ ph j, ph < 3 → j < 12 → seS s W x.mem ph j = 0) : (prS s W G r x).tr = false ∧ ∀ i, i < 3 → (prS s W G r x).op i = false := by
 unfold prS
 split
 ·refine ⟨?_, fun i hi => opM_none hu hs fun j hj => h i j hi hj⟩
  show trP _ _ _ 3 = false
  unfold trP
  rw [List.any_eq_false]
  intro i hi
  rw [opM_none hu hs fun j hj => h i j (List.mem_range.1 hi) hj]
  simp
 exact ⟨rfl, fun _ _ => rfl⟩
end Go.Proofs.YtcjflafjmdfanaaGreatDoor


/- Sections of the bus image: what they are, and how they lie in memory. -/
import Derived.Test.YtcjflafjmdfanaaGreatDoorBv18
set_option maxHeartbeats 64000000
set_option maxRecDepth 100000
set_option linter.unusedSimpArgs false
set_option linter.unusedVariables false
/- What holds of a station and a position that have no error. -/
namespace Go.Sub
open Go
theorem orE_zero {a b : Int} (h : orE a b = 0) : a = 0 ∧ b = 0 := by
 unfold orE at h
 split at h
 ·exact ⟨by assumption, h⟩
 exact absurd h (by assumption)
theorem fstE_zero {f : Nat → Int} : ∀ {n : Nat}, fstE f n = 0 → ∀ j, j < n → f j = 0
 | 0, _, j, hj => absurd hj (Nat.not_lt_zero _)
 | n + 1, h, j, hj => by
  rw [fstE] at h
  split at h
  ·rename_i h0
   by_cases e : j = n
   ·subst e; exact h
   ·exact fstE_zero h0 j (by omega)
  ·exact absurd h (by assumption)
theorem stE_parts {s : Sta} (h : stE s = 0) : ¬ stBad s ∧ fstE s.yF s.bays.length = 0 := by
 unfold stE at h
 split at h
 ·split at h
  ·cases h
  rename_i h1
  exact ⟨h1, (orE_zero (orE_zero (orE_zero h).2).2).2⟩
 cases h
structure BayS (s : Sta) (k : Nat) (y : Byr) : Prop where
 kd : y.kd = 1 ∨ y.kd = 2 ∨ y.kd = 3
 of : winB y.of 0 (cntI s.lines.length s.srcs.length y.kd - 1) = true
 rg : rgB y.kd y.en y.zr y.zx y.ct y.vt y.sa y.tr = true
 lk : lkE s.buses.length y.kd (s.lks k) = 0
theorem stE_bay {s : Sta} (h : stE s = 0) (k : Nat) (y : Byr) (hy : s.bays[k]? = some y) : BayS s k y := by
 have h1 := fstE_zero (stE_parts h).2 k (List.getElem?_eq_some_iff.1 hy).1
 unfold Sta.yF at h1
 rw [hy] at h1
 dsimp only at h1
 generalize s.buses ++ s.lines.map Lnr.nm ++ s.srcs.map Srr.nm ++ (s.bays.take k).map Byr.nm = seen at h1
 unfold byE at h1
 split at h1
 ·split at h1
  ·split at h1
   ·split at h1
    ·split at h1
     ·cases h1
     exact ⟨by assumption, by assumption, by assumption, h1⟩
    cases h1
   cases h1
  cases h1
 exact absurd h1 (by assumption)
theorem lkE_zero {nb : Nat} {kd : Int} {lk : List Lk} (h : lkE nb kd lk = 0) : (lk.length = 1 ∨ lk.length = 2) ∧ (kd = 3 → lk.length = 2) ∧ ∀ k l, lk[k]? = some l → lkA nb kd lk k = 0 := by
 unfold lkE at h
 split at h
 ·cases h
 rename_i h1
 refine ⟨by omega, fun e => ?_, fun k l hl => fstE_zero h k (List.getElem?_eq_some_iff.1 hl).1⟩
 refine Classical.byContradiction fun e2 => h1 (.inr (.inr ⟨e, e2⟩))
theorem lkA_bus {nb : Nat} {kd : Int} {lk : List Lk} {k : Nat} {l : Lk} (h : lkA nb kd lk k = 0) (hl : lk[k]? = some l) : (0 ≤ l.bus ∧ l.bus < (nb : Int)) ∧ posB kd l.pos = true ∧ (0 < k → (lk[k - 1]?).map Lk.bus ≠ some l.bus) := by
 unfold lkA at h
 rw [hl] at h
 dsimp only at h
 split at h
 ·rename_i h1
  split at h
  ·rename_i h2
   split at h
   ·cases h
   rename_i h3
   refine ⟨?_, h2, fun hk e => h3 ⟨hk, e⟩⟩
   simp only [winB, Bool.and_eq_true, decide_eq_true_eq] at h1
   omega
  cases h
 cases h
theorem psE_parts {s : Sta} {p : Pos} (h : psE s p = 0) : p.closed.length = s.bays.length ∧ p.rows.length = s.bays.length ∧ (∀ k, k < s.bays.length → rwL s p k = 0) ∧ ∀ k, k < s.bays.length → rwE s p k = 0 := by
 unfold psE at h
 split at h
 ·cases h
 rename_i h1
 have h2 := orE_zero h
 exact ⟨by omega, by omega, fstE_zero h2.1, fstE_zero h2.2⟩
theorem psE_row {s : Sta} {p : Pos} (h : psE s p = 0) (k : Nat) (y : Byr) (hy : s.bays[k]? = some y) : ∃ r, p.rows[k]? = some r ∧ r.l.length = y.ln ∧ ∀ j, j < r.l.length → plB y.kd (r.l.getD j 0) = true := by
 have hlt := (List.getElem?_eq_some_iff.1 hy).1
 obtain ⟨_, h2, h3, h4⟩ := psE_parts h
 obtain ⟨r, hr⟩ : ∃ r, p.rows[k]? = some r := ⟨_, List.getElem?_eq_getElem (by omega)⟩
 have a := h3 k hlt
 have b := h4 k hlt
 unfold rwL at a
 unfold rwE at b
 rw [hy, hr] at a b
 dsimp only at a b
 refine ⟨r, hr, ?_, fun j hj => ?_⟩
 ·split at a
  ·assumption
  cases a
 have := fstE_zero b j hj
 unfold plE at this
 split at this
 ·assumption
 cases this
theorem bayOK_of {s : Sta} {p : Pos} (h1 : stE s = 0) (h2 : psE s p = 0) (ll : ∀ k y, s.bays[k]? = some y → (s.lks k).length = y.ln) (k : Nat) (y : Byr) (hy : s.bays[k]? = some y) : BayOK s p k y := by
 have hs := stE_bay h1 k y hy
 obtain ⟨a, b, c⟩ := lkE_zero hs.lk
 obtain ⟨r, hr, hl, _⟩ := psE_row h2 k y hy
 refine ⟨hs.kd, a, b, fun l hl => ?_, ⟨r, hr, hl.trans (ll k y hy).symm⟩⟩
 obtain ⟨j, hj⟩ := List.getElem?_of_mem hl
 exact (lkA_bus (c j l hj) hj).1
theorem psE_rs {s : Sta} {p p' : Pos} (h : psE s p = 0) (hc : p'.closed = p.closed) (hr : p'.rows.map Ro.l = p.rows.map fun r => r.l.map rs1) : psE s p' = 0 := by
 obtain ⟨h1, h2, _, _⟩ := psE_parts h
 have hlen : p'.rows.length = p.rows.length := by simpa using congrArg List.length hr
 have key : ∀ (k : Nat) (y : Byr), s.bays[k]? = some y → ∃ r' : Ro, p'.rows[k]? = some r' ∧ r'.l.length = y.ln ∧ ∀ j, j < r'.l.length → plB y.kd (r'.l.getD j 0) = true := by
  intro k y hy
  obtain ⟨r, hrk, hl, hpl⟩ := psE_row h k y hy
  have e : (p'.rows.map Ro.l)[k]? = some (r.l.map rs1) := by rw [hr, List.getElem?_map, hrk]; rfl
  rw [List.getElem?_map] at e
  cases hk : p'.rows[k]? with
  | none => rw [hk] at e; cases e
  | some r' =>
   rw [hk] at e
   have e2 : r'.l = r.l.map rs1 := by simpa using e
   refine ⟨r', rfl, by rw [e2, List.length_map]; exact hl, fun j hj => ?_⟩
   rw [e2, List.length_map] at hj
   have h3 := hpl j hj
   have e3 : r'.l.getD j 0 = rs1 (r.l.getD j 0) := by
    rw [e2, List.getD_eq_getElem?_getD, List.getElem?_map, List.getD_eq_getElem?_getD, List.getElem?_eq_getElem hj]
    rfl
   rw [e3]
   generalize r.l.getD j 0 = x at h3
   unfold rs1
   split
   ·rfl
   exact h3
 unfold psE
 rw [if_neg (by rw [hc]; omega)]
 have a : fstE (rwL s p') s.bays.length = 0 := fstE_none fun k hk => by
  obtain ⟨y, hy⟩ : ∃ y, s.bays[k]? = some y := ⟨_, List.getElem?_eq_getElem hk⟩
  obtain ⟨r', hr', hl, _⟩ := key k y hy
  unfold rwL
  rw [hy, hr']
  exact if_pos hl
 have b : fstE (rwE s p') s.bays.length = 0 := fstE_none fun k hk => by
  obtain ⟨y, hy⟩ : ∃ y, s.bays[k]? = some y := ⟨_, List.getElem?_eq_getElem hk⟩
  obtain ⟨r', hr', hl, hpl⟩ := key k y hy
  unfold rwE
  rw [hy, hr']
  exact fstE_none fun j hj => by unfold plE; rw [if_pos (hpl j hj)]
 rw [a, b]
 rfl
theorem clB_congr {p q : Pos} (h : p.rows.map Ro.l = q.rows.map Ro.l) (k j : Nat) : clB p k j = clB q k j := by
 have e : (p.rows.map Ro.l)[k]? = (q.rows.map Ro.l)[k]? := by rw [h]
 rw [List.getElem?_map, List.getElem?_map] at e
 unfold clB
 cases hp : p.rows[k]? <;> cases hq : q.rows[k]? <;> rw [hp, hq] at e <;> simp at e ⊢
 rw [e]
theorem sdZ_congr {s : Sta} {p q : Pos} (h : p.rows.map Ro.l = q.rows.map Ro.l) (gl : List Int) (k : Nat) : sdZ s p gl k = sdZ s q gl k := by
 unfold sdZ sdA
 simp only [clB_congr h]
theorem grF_congr {s : Sta} {p q : Pos} (h : p.rows.map Ro.l = q.rows.map Ro.l) (k : Nat) : grF s p k = grF s q k := by
 induction k with
 | zero => rfl
 | succ k ih =>
  rw [grF, grF, ih]
  simp only [clB_congr h]
theorem grI_congr {s : Sta} {p q : Pos} (h : p.rows.map Ro.l = q.rows.map Ro.l) : grI s p = grI s q := grF_congr h _
theorem bdI_congr {s : Sta} {p q : Pos} (h : p.rows.map Ro.l = q.rows.map Ro.l) (gl : List Int) (x : Int) (n : Nat) : bdI s p gl x n = bdI s q gl x n := by
 unfold bdI bdN
 simp only [sdZ_congr h]
theorem rsP_rows {p p' : Pos} (hr : p'.rows.map Ro.l = p.rows.map fun r => r.l.map rs1) : p'.rows.map Ro.l = (rsP p).rows.map Ro.l := by
 rw [hr]
 simp [rsP, List.map_map, Function.comp_def]
theorem grF_bd (s : Sta) (p : Pos) (h : ∀ k y, s.bays[k]? = some y → ∀ l ∈ s.lks k, 0 ≤ l.bus ∧ l.bus < (s.buses.length : Int)) (n : Nat) : ∀ x ∈ grF s p n, 0 ≤ x ∧ x < (s.buses.length : Int) := by
 induction n with
 | zero =>
  intro x hx
  rw [grF] at hx
  obtain ⟨k, hk, rfl⟩ := List.mem_map.1 hx
  have := List.mem_range.1 hk
  simp
  omega
 | succ n ih =>
  intro x hx
  rw [grF] at hx
  split at hx
  ·rename_i y l0 l1 e1 e2
   split at hx
   ·obtain ⟨g, hg, rfl⟩ := List.mem_map.1 hx
    have h0 := h n y e1 l0 (by rw [e2]; simp)
    have h1 := h n y e1 l1 (by rw [e2]; simp)
    have b : ∀ l : Lk, 0 ≤ l.bus ∧ l.bus < (s.buses.length : Int) → 0 ≤ busN (grF s p n) l ∧ busN (grF s p n) l < (s.buses.length : Int) := by
     intro l hl
     refine ih _ ?_
     unfold busN
     have hlt : l.bus.toNat < (grF s p n).length := by rw [grF_len]; omega
     rw [List.getD_eq_getElem?_getD, List.getElem?_eq_getElem hlt]
     exact List.getElem_mem hlt
    have b0 := b l0 h0
    have b1 := b l1 h1
    have := ih g hg
    unfold lowF
    split <;> omega
   exact ih x hx
  exact ih x hx
end Go.Sub
/- What Groups, Boundary and Sides return for a station and a position that have no error. -/
namespace Go.Proofs.YtcjflafjmdfanaaGreatDoor
open Go.RowKit Go.Sub
attribute [local go_sem ↓] Go.wp_at_zero Go.wp_at_succ
structure GoodAt (w : World) (s : Sta) (p : Pos) : Prop where
 st : StAt w s
 ps : PosAt w p
 e1 : stE s = 0
 e2 : psE s p = 0
theorem GoodAt.q {w w' : World} {s : Sta} {p : Pos} (h : GoodAt w s p) (hq : Q w w') : GoodAt w' s p := ⟨h.st.q hq, h.ps.q hq, h.e1, h.e2⟩
theorem GoodAt.lens {w : World} {s : Sta} {p : Pos} (h : GoodAt w s p) : 1 ≤ s.buses.length ∧ s.buses.length ≤ 4 ∧ s.lines.length ≤ 6 ∧ s.srcs.length ≤ 4 ∧ s.bays.length ≤ 16 ∧ p.closed.length = s.bays.length ∧ p.rows.length = s.bays.length := by
 have h1 := (stE_parts h.e1).1
 unfold stBad at h1
 have h2 := psE_parts h.e2
 refine ⟨?_, ?_, ?_, ?_, ?_, h2.1, h2.2.1⟩ <;> omega
theorem GoodAt.ok {w : World} {s : Sta} {p : Pos} (h : GoodAt w s p) (k : Nat) (y : Byr) (hy : s.bays[k]? = some y) : BayOK s p k y := bayOK_of h.e1 h.e2 (fun k y hy => (h.st.lk k y hy).1.2) k y hy
theorem rdn_of_row {W0 w : World} {A : Option Addr} {n c : Nat} {l : List Int} (h : RowI W0 w (.slice A n c) l) (hl : l.length = n) : RdN w A n c .i64 l := by
 subst hl
 obtain ⟨A', c', e, hr⟩ := rdv_of_own h (by simp)
 injection e with e1 e2 e3
 subst e1 e3
 exact hr
theorem grI_len (s : Sta) (p : Pos) : (grI s p).length = s.buses.length := grF_len s p _
theorem groups_c (s : Sta) (p : Pos) (w : World) (h : GoodAt w s p) :
  Calls Tryz.prog 65 #[.agg #[Value.string s.nm, Value.slice s.aB s.buses.length s.cB, Value.slice s.aL s.lines.length s.cL, Value.slice s.aS s.srcs.length s.cS, Value.slice s.aY s.bays.length s.cY], .agg #[Value.slice p.aC p.closed.length p.cC, Value.slice p.aK p.rows.length p.cK]] w (RetI (grI s p) w) := by
 have LK := hh fun (w' : World) (hq : Q w w') => look_c s p w' (h.st.q hq) (h.ps.q hq) h.e1 h.e2 (by have := h.lens; omega) (by have := h.lens; omega) h.ok
 unfold RetVw at LK
 have HH := hh h
 clear h
 go_enter Tryz.func65, Tryz.ntmps65
 go_wp2_with (first | (go_at_call 73; (with_reducible refine (LK.o _ Q.i).mono ?_); rintro e w' ⟨G, cG, rfl, ⟨k1, rfl⟩, hri⟩; have HRI := hh hri; clear hri) | fail)
 go_ret
 exact ⟨_, rfl, Q.i, HRI.o.low Q.i |>.q Q.i⟩
theorem boundary_c (s : Sta) (p : Pos) (of : Nat) (w : World) (h : GoodAt w s p) (hof : of < s.buses.length) :
  Calls Tryz.prog 41 #[.agg #[Value.string s.nm, Value.slice s.aB s.buses.length s.cB, Value.slice s.aL s.lines.length s.cL, Value.slice s.aS s.srcs.length s.cS, Value.slice s.aY s.bays.length s.cY], .agg #[Value.slice p.aC p.closed.length p.cC, Value.slice p.aK p.rows.length p.cK], .agg #[.int .i64 1, .int .i64 of]] w (RetI (bdI s p (grI s p) ((grI s p).getD of 0) s.bays.length) w) := by
 have LK := hh fun (w' : World) (hq : Q w w') => look_c s p w' (h.st.q hq) (h.ps.q hq) h.e1 h.e2 (by have := h.lens; omega) (by have := h.lens; omega) h.ok
 unfold RetVw at LK
 have HH := hh h
 have BD := hh fun (w' : World) (G : Option Addr) (cG : Nat) (hq : Q w w') (hri : RowI w w' (.slice G s.buses.length cG) (grI s p)) => vbound_c s p G s.buses.length cG (grI s p) of w' (h.st.q hq) (h.ps.q hq) (rdn_of_row hri (grI_len s p)) rfl (by omega) (by have := h.lens; omega) h.ok
 simp only [Int.toNat_natCast] at BD
 unfold RetI at BD
 clear h
 go_enter Tryz.func41, Tryz.ntmps41
 go_wp2_with (first | (go_at_call 73; (with_reducible refine (LK.o _ Q.i).mono ?_); rintro e w' ⟨G, cG, rfl, ⟨k1, rfl⟩, hri⟩; have HRI := hh hri; clear hri) | (go_at_call 75; (with_reducible refine (BD.o _ G cG Q.i (HRI.o.low Q.i |>.q Q.i)).mono ?_); rintro e w' ⟨v, rfl, ⟨k2, rfl⟩, hrv⟩) | fail)
 go_ret
 exact ⟨_, rfl, Q.i, hrv.low Q.i |>.q Q.i⟩
theorem sides_c (s : Sta) (p : Pos) (k : Nat) (w : World) (h : GoodAt w s p) (hk : k < s.bays.length) :
  Calls Tryz.prog 40 #[.agg #[Value.string s.nm, Value.slice s.aB s.buses.length s.cB, Value.slice s.aL s.lines.length s.cL, Value.slice s.aS s.srcs.length s.cS, Value.slice s.aY s.bays.length s.cY], .agg #[Value.slice p.aC p.closed.length p.cC, Value.slice p.aK p.rows.length p.cK], .int .i64 k] w fun e w' => e = .returned (.agg #[.int .i64 (sdZ s p (grI s p) k).1, .int .i64 (sdZ s p (grI s p) k).2.1, .int .i64 (sdZ s p (grI s p) k).2.2.1, .int .i64 (sdZ s p (grI s p) k).2.2.2]) ∧ Q w w' := by
 have LK := hh fun (w' : World) (hq : Q w w') => look_c s p w' (h.st.q hq) (h.ps.q hq) h.e1 h.e2 (by have := h.lens; omega) (by have := h.lens; omega) h.ok
 unfold RetVw at LK
 have HH := hh h
 have SD := hh fun (w' : World) (G : Option Addr) (cG : Nat) (hq : Q w w') (hri : RowI w w' (.slice G s.buses.length cG) (grI s p)) => vsides_c s p G s.buses.length cG (grI s p) k (s.bays[k]'hk) w' (h.st.q hq) (h.ps.q hq) (rdn_of_row hri (grI_len s p)) rfl (List.getElem?_eq_getElem hk) (h.ok k _ (List.getElem?_eq_getElem hk))
 obtain ⟨⟨za, zb, zc, zd⟩, ez⟩ : ∃ z, sdZ s p (grI s p) k = z := ⟨_, rfl⟩
 rw [ez] at SD ⊢
 dsimp only at SD ⊢
 clear h
 go_enter Tryz.func40, Tryz.ntmps40
 go_wp2_with (first | (go_at_call 73; (with_reducible refine (LK.o _ Q.i).mono ?_); rintro e w' ⟨G, cG, rfl, ⟨k1, rfl⟩, hri⟩; have HRI := hh hri; clear hri) | (go_at_call 74; (with_reducible refine (SD.o _ G cG Q.i (HRI.o.low Q.i |>.q Q.i)).q ?_); intro k2) | fail)
 refine bodyPost_ret (v := .agg #[.int .i64 za, .int .i64 zb, .int .i64 zc, .int .i64 zd]) (by simp [results, Tryz.results40, go_sem]) rfl ⟨rfl, ?_⟩
 exact Q.i
end Go.Proofs.YtcjflafjmdfanaaGreatDoor
/- What Index, Contains, sign and moving return. -/
namespace Go.Sub
open Go
def clX (p : Pos) (k j : Nat) : Int := match p.rows[k]? with | some r => r.l.getD j 0 | none => 0
def mvJ (s : Sta) (p : Pos) (bl : List Int) (k j : Nat) : Bool := match (s.lks k)[j]? with | some l => decide (clX p k j = 2) && bl.contains l.bus | none => false
def mvK (s : Sta) (p : Pos) (bl : List Int) (k : Nat) : Bool := (List.range (s.lks k).length).any (mvJ s p bl k)
def mvB (s : Sta) (p : Pos) (bl : List Int) : Bool := (List.range s.bays.length).any (mvK s p bl)
def sgB (y : Byr) (lk : List Lk) (bl : List Int) : Int := match lk with | l0 :: _ => if y.kd = 3 ∧ bl.contains l0.bus = false then -1 else 1 | [] => 1
theorem any_range_false {f : Nat → Bool} {n : Nat} (h : ∀ j, j < n → f j = false) : (List.range n).any f = false := by
 rw [List.any_eq_false]
 intro x hx
 rw [h x (List.mem_range.1 hx)]
 decide
theorem any_range_true {f : Nat → Bool} {n k : Nat} (hk : k < n) (h : f k = true) : (List.range n).any f = true := by
 rw [List.any_eq_true]
 exact ⟨k, List.mem_range.2 hk, h⟩
end Go.Sub
namespace Go.Proofs.YtcjflafjmdfanaaGreatDoor
open Go.RowKit Go.Sub
attribute [local go_sem ↓] Go.wp_at_zero Go.wp_at_succ
theorem index_c (A : Option Addr) (n c : Nat) (l : List Int) (x : Int) (w : World) (h : RdN w A n c .i64 l) (hn : (n : Int) ≤ 9223372036854775807) :
  Calls Tryz.prog 120 #[.slice A n c, .int .i64 x] w fun e w' => ∃ i : Int, e = .returned (.int .i64 i) ∧ Q w w' ∧ decide (0 ≤ i) = l.contains x := by
 have HL := hh h.len
 have HR := hh h
 have n0 : (0 : Int) ≤ (n : Int) := by omega
 clear h
 go_enter Tryz.func120, Tryz.ntmps120
 go_wp2_with fail
 go_loopw [8] (fun i wr => ∃ k : Nat, i = .int .i64 k ∧ k ≤ n ∧ Hid (∀ j, j < k → l.getD j 0 ≠ x) ∧ Q w wr) (fun i _ => n - (intOf i).toNat)
 case atStart => exact ⟨0, rfl, Nat.zero_le _, hh (fun j hj => absurd hj (Nat.not_lt_zero _)), Q.refl _⟩
 case round =>
  obtain ⟨k, rfl, hk, HZ, kk, rfl⟩ := hrel
  by_cases hlt : k < n
  rotate_left
  ·obtain rfl : n = k := by omega
   have EC : Hid (decide (0 ≤ (-1 : Int)) = l.contains x) := hh (by
    rw [decide_eq_false (by omega)]
    symm
    rw [Bool.eq_false_iff]
    intro hm
    rw [List.contains_iff_mem] at hm
    obtain ⟨j, hj, e⟩ := List.mem_iff_getElem.1 hm
    exact HZ.o j (by rw [← HL.o]; exact hj) (by simp [List.getD_eq_getElem?_getD, hj, e]))
   go_wp2_with fail
   go_ret
   exact ⟨_, rfl, Q.i, EC.o⟩
  obtain ⟨g, o, rfl, og, hc⟩ := HR.o.at_ (by omega)
  have c1 := hc.o k hlt
  obtain ⟨z, ez⟩ : ∃ z, l.getD k 0 = z := ⟨_, rfl⟩
  rw [ez] at c1
  have EZ := hh ez
  have k0 : (0 : Int) ≤ (k : Int) := by omega
  have k1 : (k : Int) < (n : Int) := by omega
  clear hc ez
  by_cases hx : x = z
  rotate_left
  ·have hx' : (x == z) = false := by simpa using hx
   have HX : Hid (l.getD k 0 ≠ x) := hh (by rw [EZ.o]; exact fun e => hx e.symm)
   clear hx
   go_wp2_with fail
   go_roundw
   case rel =>
    refine ⟨k + 1, by go_num, by omega, hh (fun j hj => ?_), Q.i⟩
    by_cases e : j = k
    ·subst e; exact HX.o
    exact HZ.o j (by omega)
   case measure => simp [intOf] <;> omega
  have EC : Hid (decide (0 ≤ (k : Int)) = l.contains x) := hh (by
   rw [decide_eq_true (by omega)]
   symm
   rw [List.contains_iff_mem]
   have hl : k < l.length := by rw [HL.o]; exact hlt
   have : l[k] = x := by rw [hx, ← EZ.o]; simp [List.getD_eq_getElem?_getD, hl]
   exact this ▸ List.getElem_mem hl)
  have hx' : (x == z) = true := by simpa using hx
  clear hx
  go_wp2_with fail
  go_ret
  exact ⟨_, rfl, Q.i, EC.o⟩
theorem contains_c (A : Option Addr) (n c : Nat) (l : List Int) (x : Int) (w : World) (h : RdN w A n c .i64 l) (hn : (n : Int) ≤ 9223372036854775807) :
  Calls Tryz.prog 96 #[.slice A n c, .int .i64 x] w fun e w' => e = .returned (.bool (l.contains x)) ∧ Q w w' := by
 have IX := hh (index_c A n c l x w h hn)
 obtain ⟨b, eb⟩ : ∃ b, l.contains x = b := ⟨_, rfl⟩
 rw [eb] at IX ⊢
 clear h hn eb
 go_enter Tryz.func96, Tryz.ntmps96
 go_wp2_with (first | (go_at_call 120; (with_reducible refine IX.o.mono ?_); rintro e w' ⟨i, rfl, ⟨k1, rfl⟩, hd⟩) | fail)
 all_goals
  go_ret
  refine ⟨?_, Q.i⟩
  simp_all
theorem sign_c (y : Byr) (lk : List Lk) (A : Option Addr) (n c : Nat) (l : List Int) (w : World) (hk : LkAt w y lk) (hl : 0 < lk.length) (h : RdN w A n c .i64 l) (hn : (n : Int) ≤ 9223372036854775807) :
  Calls Tryz.prog 66 #[.agg #[Value.string y.nm, Value.int .i64 y.kd, Value.int .i64 y.of, Value.int .i64 y.en, Value.int .i64 y.zr, Value.int .i64 y.zx, Value.slice y.la y.ln y.lc, Value.bool y.cl, Value.int .i64 y.ct, Value.int .i64 y.vt, Value.int .i64 y.sa, Value.int .i64 y.tr], .slice A n c] w fun e w' => e = .returned (.int .i64 (sgB y lk l)) ∧ Q w w' := by
 have hln := hk.2
 obtain ⟨g2, o2, eL, og2, hc2⟩ := hk.at_ (by omega)
 obtain ⟨l0, rest, rfl⟩ : ∃ l0 rest, lk = l0 :: rest := by
  cases lk with
  | nil => simp at hl
  | cons a b => exact ⟨a, b, rfl⟩
 obtain ⟨a1, a2⟩ := hc2.o 0 l0 rfl
 rw [Nat.zero_mul, Nat.add_zero] at a1 a2
 have CN := hh fun (w' : World) (hq : Q w w') => contains_c A n c l l0.bus w' (h.q hq) hn
 have ES : Hid (sgB y (l0 :: rest) l = if y.kd = 3 ∧ l.contains l0.bus = false then -1 else 1) := hh rfl
 obtain ⟨ln, eln⟩ : ∃ n, y.ln = n := ⟨_, rfl⟩
 rw [eL, eln]
 have i0 : (0 : Int) < (ln : Int) := by rw [← eln]; simp at hln; omega
 have i1 : ¬ (ln : Int) ≤ 0 := by omega
 clear hk hl h hn hc2 hln eL eln
 generalize sgB y (l0 :: rest) l = S at ES ⊢
 generalize l.contains l0.bus = b at CN ES
 by_cases h3 : y.kd = 3
 rotate_left
 ·have e3 : (y.kd == 3) = false := by simpa using h3
  have E2 : Hid (S = 1) := hh (by rw [ES.o, if_neg (by simp [h3])])
  clear ES h3
  go_enter Tryz.func66, Tryz.ntmps66
  go_wp2_with fail
  go_ret
  exact ⟨by rw [E2.o]; rfl, Q.i⟩
 have e3 : (y.kd == 3) = true := by simpa using h3
 cases b with
 | true =>
  have E2 : Hid (S = 1) := hh (by rw [ES.o, if_neg (by simp)])
  clear ES h3
  go_enter Tryz.func66, Tryz.ntmps66
  go_wp2_with (first | (go_at_call 96; (with_reducible refine (CN.o _ Q.i).q ?_); intro k1) | fail)
  go_ret
  exact ⟨by rw [E2.o]; rfl, Q.i⟩
 | false =>
  have E2 : Hid (S = -1) := hh (by rw [ES.o, if_pos ⟨h3, rfl⟩])
  clear ES h3
  go_enter Tryz.func66, Tryz.ntmps66
  go_wp2_with (first | (go_at_call 96; (with_reducible refine (CN.o _ Q.i).q ?_); intro k1) | fail)
  go_ret
  exact ⟨by rw [E2.o]; rfl, Q.i⟩
theorem moving_c (s : Sta) (p : Pos) (A : Option Addr) (n c : Nat) (l : List Int) (w : World) (h : GoodAt w s p) (hl : RdN w A n c .i64 l) (hn : (n : Int) ≤ 9223372036854775807) :
  Calls Tryz.prog 67 #[.agg #[Value.string s.nm, Value.slice s.aB s.buses.length s.cB, Value.slice s.aL s.lines.length s.cL, Value.slice s.aS s.srcs.length s.cS, Value.slice s.aY s.bays.length s.cY], .agg #[Value.slice p.aC p.closed.length p.cC, Value.slice p.aK p.rows.length p.cK], .slice A n c] w fun e w' => e = .returned (.bool (mvB s p l)) ∧ Q w w' := by
 have HAY := hh fun k y (hy : s.bays[k]? = some y) => h.st.bayAt hy
 have HLK := hh h.st.lk
 have HRA := hh fun k r (hr : p.rows[k]? = some r) => h.ps.rowAt hr
 have HRO := hh h.ps.row
 have HOK := hh h.ok
 have CN := hh fun (x : Int) (w' : World) (hq : Q w w') => contains_c A n c l x w' (hl.q hq) hn
 have EM : Hid (mvB s p l = (List.range s.bays.length).any (mvK s p l)) := hh rfl
 have hlens := h.lens
 obtain ⟨aY, eaY⟩ : ∃ a, s.aY = a := ⟨_, rfl⟩
 obtain ⟨aK, eaK⟩ : ∃ a, p.aK = a := ⟨_, rfl⟩
 obtain ⟨nY, eY⟩ : ∃ n, s.bays.length = n := ⟨_, rfl⟩
 obtain ⟨nK, eK⟩ : ∃ n, p.rows.length = n := ⟨_, rfl⟩
 rw [eaY] at HAY
 rw [eaK] at HRA
 rw [eY] at EM hlens
 rw [eK] at hlens
 rw [eaY, eaK, eY, eK]
 have y0 : nY ≤ 16 := by omega
 obtain rfl : nK = nY := by omega
 have EY := hh eY
 have EK := hh eK
 clear h hl hlens eaY eaK eY eK
 generalize mvB s p l = M at EM ⊢
 go_enter Tryz.func67, Tryz.ntmps67
 go_wp2_with fail
 go_loopw [14] (fun i wr => ∃ k : Nat, i = .int .i64 k ∧ k ≤ nK ∧ Hid (∀ j, j < k → mvK s p l j = false) ∧ Q ((w.alloc (Obj.cells #[Value.string s.nm, Value.slice s.aB s.buses.length s.cB, Value.slice s.aL s.lines.length s.cL, Value.slice s.aS s.srcs.length s.cS, Value.slice aY nK s.cY] 27)).alloc (Obj.cells #[Value.slice p.aC p.closed.length p.cC, Value.slice aK nK p.cK] 31)) wr) (fun i _ => nK - (intOf i).toNat)
 case atStart => exact ⟨0, rfl, Nat.zero_le _, hh (fun j hj => absurd hj (Nat.not_lt_zero _)), Q.refl _⟩
 case round =>
  obtain ⟨k, rfl, hk, HZ, kk, rfl⟩ := hrel
  by_cases hlt : k < nK
  rotate_left
  ·obtain rfl : nK = k := by omega
   have EF : Hid (M = false) := hh (by rw [EM.o]; exact any_range_false HZ.o)
   go_wp2_with fail
   go_ret
   exact ⟨by rw [EF.o]; rfl, Q.i⟩
  obtain ⟨y, hy⟩ : ∃ y, s.bays[k]? = some y := ⟨_, List.getElem?_eq_getElem (by rw [EY.o]; exact hlt)⟩
  obtain ⟨r, hr⟩ : ∃ r, p.rows[k]? = some r := ⟨_, List.getElem?_eq_getElem (by rw [EK.o]; exact hlt)⟩
  obtain ⟨g, o, rfl, og, hc⟩ := HAY.o k y hy
  obtain ⟨g', o', rfl, og', r1⟩ := HRA.o k r hr
  obtain ⟨q0, q1, q2, q3, q4, q5, q6, q7, q8, q9, q10, q11⟩ := by12 hc
  have hlk := (HLK.o k y hy).1
  have hln := hlk.2
  have hok := HOK.o k y hy
  have HLA := hh (hlk.at_ (by rcases hok.ln with h | h <;> omega))
  have HRR := hh (HRO.o r (List.mem_of_getElem? hr)).1
  obtain ⟨r', hr', hrl⟩ := hok.row
  rw [hr] at hr'
  obtain rfl : r = r' := Option.some.inj hr'
  have EX : Hid (∀ j, clX p k j = r.l.getD j 0) := hh fun j => by unfold clX; rw [hr]
  have EJ : Hid (∀ j ll, (s.lks k)[j]? = some ll → mvJ s p l k j = (decide (r.l.getD j 0 = 2) && l.contains ll.bus)) := hh fun j ll e => by unfold mvJ; rw [e, ← EX.o]
  have EKK : Hid (mvK s p l k = (List.range (s.lks k).length).any (mvJ s p l k)) := hh rfl
  have k0 : (0 : Int) ≤ (k : Int) := by omega
  have k1 : (k : Int) < (nK : Int) := by omega
  rw [hrl, hln] at r1 HRR
  rw [hln] at EKK
  have b1 : y.ln ≤ 2 := by rcases hok.ln with h | h <;> omega
  generalize s.lks k = lk at hln EJ hrl HLA
  obtain ⟨ln, eln⟩ : ∃ n, y.ln = n := ⟨_, rfl⟩
  rw [eln] at q6 r1 HRR EKK b1 hln
  obtain ⟨la, ela⟩ : ∃ a, y.la = a := ⟨_, rfl⟩
  rw [ela] at q6 HLA
  have HLN := hh hln
  have n0 : (0 : Int) ≤ (ln : Int) := by omega
  clear hc hlk hok hr hy hr' hrl hln eln EX ela
  go_wp2_with fail
  go_loopw [22] (fun i wr => ∃ j : Nat, i = .int .i64 j ∧ j ≤ ln ∧ Hid (∀ i, i < j → mvJ s p l k i = false) ∧ Q ((w.alloc (Obj.cells #[Value.string s.nm, Value.slice s.aB s.buses.length s.cB, Value.slice s.aL s.lines.length s.cL, Value.slice s.aS s.srcs.length s.cS, Value.slice (some ⟨g, o, none⟩) nK s.cY] 27)).alloc (Obj.cells #[Value.slice p.aC p.closed.length p.cC, Value.slice (some ⟨g', o', none⟩) nK p.cK] 31)) wr) (fun i _ => ln - (intOf i).toNat)
  case atStart => exact ⟨0, rfl, Nat.zero_le _, hh (fun j hj => absurd hj (Nat.not_lt_zero _)), (by repeat' (first | exact Q.refl _ | refine Q.alloc ?_ _ | refine Q.jk ?_ _ | refine Q.drew ?_))⟩
  case round =>
   obtain ⟨j, rfl, hj, HJ, k2, rfl⟩ := hrel
   by_cases hlj : j < ln
   rotate_left
   ·obtain rfl : ln = j := by omega
    have EF : Hid (mvK s p l k = false) := hh (by rw [EKK.o]; exact any_range_false HJ.o)
    go_wp2_with fail
    go_roundw
    case rel =>
     refine ⟨k + 1, by go_num, by omega, hh (fun i hi => ?_), Q.i⟩
     by_cases e : i = k
     ·subst e; exact EF.o
     exact HZ.o i (by omega)
    case measure => simp [intOf] <;> omega
   obtain ⟨ll, hll⟩ : ∃ ll, lk[j]? = some ll := ⟨_, List.getElem?_eq_getElem (by rw [HLN.o]; exact hlj)⟩
   obtain ⟨g2, o2, rfl, og2, hc2⟩ := HLA.o
   obtain ⟨a1, a2⟩ := hc2.o j ll hll
   obtain ⟨g3, o3, eR, og3, hc3⟩ := HRR.o.at_ (by omega)
   have x1 := hc3.o j hlj
   have EJ1 := hh (EJ.o j ll hll)
   have CN1 := hh (CN.o ll.bus)
   rw [eR] at r1
   generalize r.l.getD j 0 = x at x1 EJ1
   generalize l.contains ll.bus = b at CN1 EJ1
   have j0 : (0 : Int) ≤ (j : Int) := by omega
   have j1 : (j : Int) < (ln : Int) := by omega
   clear hc2 hc3 hll eR
   by_cases hx : x = 2
   rotate_left
   ·have hx' : (x == 2) = false := by simpa using hx
    have EF : Hid (mvJ s p l k j = false) := hh (by rw [EJ1.o, decide_eq_false hx]; rfl)
    clear EJ1 hx
    go_wp2_with fail
    go_roundw
    case rel =>
     refine ⟨j + 1, by go_num, by omega, hh (fun i hi => ?_), Q.i⟩
     by_cases e : i = j
     ·subst e; exact EF.o
     exact HJ.o i (by omega)
    case measure => simp [intOf] <;> omega
   have hx' : (x == 2) = true := by simpa using hx
   cases b with
   | true =>
    have ET : Hid (M = true) := hh (by rw [EM.o]; exact any_range_true hlt (by rw [EKK.o]; exact any_range_true hlj (by rw [EJ1.o, decide_eq_true hx]; rfl)))
    clear EJ1 hx
    go_wp2_with (first | (go_at_call 96; (with_reducible refine (CN1.o _ Q.i).q ?_); intro kc) | fail)
    go_ret
    exact ⟨by rw [ET.o]; rfl, Q.i⟩
   | false =>
    have EF : Hid (mvJ s p l k j = false) := hh (by rw [EJ1.o, Bool.and_false])
    clear EJ1 hx
    go_wp2_with (first | (go_at_call 96; (with_reducible refine (CN1.o _ Q.i).q ?_); intro kc) | fail)
    go_roundw
    case rel =>
     refine ⟨j + 1, by go_num, by omega, hh (fun i hi => ?_), Q.i⟩
     by_cases e : i = j
     ·subst e; exact EF.o
     exact HJ.o i (by omega)
    case measure => simp [intOf] <;> omega
end Go.Proofs.YtcjflafjmdfanaaGreatDoor
namespace Go.Sub
open Go
structure Sec where
 buses : List Int
 mem : List (Int × Int)
 mv : Bool
structure SecR where
 d : Sec
 aB : Option Addr
 cB : Nat
 aM : Option Addr
 cM : Nat
def secC (r : SecR) : List Value := [.slice r.aB r.d.buses.length r.cB, .slice r.aM r.d.mem.length r.cM, .bool r.d.mv]
def mmC (m : Int × Int) : List Value := [.int .i64 m.1, .int .i64 m.2]
def sgZ (s : Sta) (k : Nat) (bl : List Int) : Int := match s.bays[k]? with | some y => sgB y (s.lks k) bl | none => 1
def busF (gl : List Int) (q : Int) (n : Nat) : List Int := ((List.range n).filter fun b => gl.getD b 0 = q).map Int.ofNat
theorem busF_succ (gl : List Int) (q : Int) (n : Nat) : busF gl q (n + 1) = if gl.getD n 0 = q then busF gl q n ++ [(n : Int)] else busF gl q n := by
 unfold busF
 rw [List.range_succ, List.filter_append, List.map_append]
 by_cases h : gl.getD n 0 = q
 ·rw [if_pos h, List.filter_cons_of_pos (by simpa using h)]
  rfl
 rw [if_neg h, List.filter_cons_of_neg (by simpa using h)]
 simp
theorem busF_len (gl : List Int) (q : Int) (n : Nat) : (busF gl q n).length ≤ n := by
 unfold busF
 rw [List.length_map]
 exact Nat.le_trans (List.length_filter_le _ _) (by rw [List.length_range]; exact Nat.le_refl _)
def memF (s : Sta) (bl : List Int) (l : List Int) : List (Int × Int) := l.map fun b => (b, sgZ s b.toNat bl)
def imS (s : Sta) (p : Pos) (gl : List Int) (q : Int) : Sec := ⟨busF gl q s.buses.length, memF s (busF gl q s.buses.length) (bdI s (rsP p) gl q s.bays.length), mvB s p (busF gl q s.buses.length)⟩
def imF (s : Sta) (p : Pos) (gl : List Int) (n : Nat) : List Sec := ((List.range n).filter fun (k : Nat) => gl.getD k 0 = (k : Int)).map fun (k : Nat) => imS s p gl (k : Int)
def imI (s : Sta) (p : Pos) : List Sec := imF s p (grI s (rsP p)) s.buses.length
theorem imF_succ (s : Sta) (p : Pos) (gl : List Int) (n : Nat) : imF s p gl (n + 1) = if gl.getD n 0 = (n : Int) then imF s p gl n ++ [imS s p gl (n : Int)] else imF s p gl n := by
 unfold imF
 rw [List.range_succ, List.filter_append, List.map_append]
 by_cases h : gl.getD n 0 = (n : Int)
 ·rw [if_pos h, List.filter_cons_of_pos (by simpa using h)]
  rfl
 rw [if_neg h, List.filter_cons_of_neg (by simpa using h)]
 simp
theorem imF_len (s : Sta) (p : Pos) (gl : List Int) (n : Nat) : (imF s p gl n).length ≤ n := by
 unfold imF
 rw [List.length_map]
 exact Nat.le_trans (List.length_filter_le _ _) (by rw [List.length_range]; exact Nat.le_refl _)
theorem bdI_at (s : Sta) (p : Pos) (gl : List Int) (q : Int) (n j : Nat) (h : j < (bdI s p gl q n).length) : ∃ k : Nat, (bdI s p gl q n).getD j 0 = (k : Int) ∧ k < n := by
 have h' : j < (bdN s p gl q n).length := by unfold bdI at h; rwa [List.length_map] at h
 refine ⟨(bdN s p gl q n)[j], ?_, ?_⟩
 ·unfold bdI
  rw [List.getD_eq_getElem?_getD, List.getElem?_map, List.getElem?_eq_getElem h']
  rfl
 have := List.getElem_mem h'
 unfold bdN at this
 exact List.mem_range.1 (List.mem_filter.1 this).1
theorem take_snoc {α β : Type} (f : α → β) (l : List α) (j : Nat) (d : α) (h : j < l.length) : (l.take (j + 1)).map f = (l.take j).map f ++ [f (l.getD j d)] := by
 rw [List.take_succ_eq_append_getElem h, List.map_append, List.getD_eq_getElem?_getD, List.getElem?_eq_getElem h]
 rfl
theorem mmC_len (l : List (Int × Int)) : (l.flatMap mmC).length = l.length * 2 := by
 induction l with
 | nil => rfl
 | cons c l ih =>
  rw [List.flatMap_cons, List.length_append, ih]
  simp only [mmC, List.length_cons, List.length_nil]
  omega
theorem mmC_get (l : List (Int × Int)) (k j : Nat) (c : Int × Int) (h : l[k]? = some c) (hj : j < 2) : (l.flatMap mmC)[k * 2 + j]? = (mmC c)[j]? := by
 induction l generalizing k with
 | nil => simp at h
 | cons d l ih =>
  rw [List.flatMap_cons]
  cases k with
  | zero =>
   simp only [List.getElem?_cons_zero, Option.some.injEq] at h
   subst h
   rw [List.getElem?_append_left (by simp only [mmC, List.length_cons, List.length_nil]; omega), Nat.zero_mul, Nat.zero_add]
  | succ k =>
   simp only [List.getElem?_cons_succ] at h
   rw [List.getElem?_append_right (by simp only [mmC, List.length_cons, List.length_nil]; omega)]
   have e : (k + 1) * 2 + j - (mmC d).length = k * 2 + j := by
    simp only [mmC, List.length_cons, List.length_nil]
    omega
   rw [e]
   exact ih k h
theorem secC_len (l : List SecR) : (l.flatMap secC).length = l.length * 3 := by
 induction l with
 | nil => rfl
 | cons c l ih =>
  rw [List.flatMap_cons, List.length_append, ih]
  simp only [secC, List.length_cons, List.length_nil]
  omega
theorem secC_get (l : List SecR) (k j : Nat) (c : SecR) (h : l[k]? = some c) (hj : j < 3) : (l.flatMap secC)[k * 3 + j]? = (secC c)[j]? := by
 induction l generalizing k with
 | nil => simp at h
 | cons d l ih =>
  rw [List.flatMap_cons]
  cases k with
  | zero =>
   simp only [List.getElem?_cons_zero, Option.some.injEq] at h
   subst h
   rw [List.getElem?_append_left (by simp only [secC, List.length_cons, List.length_nil]; omega), Nat.zero_mul, Nat.zero_add]
  | succ k =>
   simp only [List.getElem?_cons_succ] at h
   rw [List.getElem?_append_right (by simp only [secC, List.length_cons, List.length_nil]; omega)]
   have e : (k + 1) * 3 + j - (secC d).length = k * 3 + j := by
    simp only [secC, List.length_cons, List.length_nil]
    omega
   rw [e]
   exact ih k h
end Go.Sub
namespace Go
open Go.RowKit
theorem step_call {P : Program} {ops : Array Oper} {o : Oper} {a : Act} {w : World} {K : Act → World → Prop} {Q' : Exit → Act → World → Prop} {E : Prop} (hgd : o.guard = none) (f : FuncId) (args : Array Value) (R : Ending → World → Prop)
  (hrun : (execOp a.eval o).run P w = .ok (.enter f args) w) (hc : Calls P f args w R) (h : ∀ e w', R e w' → ∃ v, e = .returned v ∧ K (a.put o.dst v) w') :
  if Region.wanted o (yielded ops a.tmps) = true then Oper.wp P o a w K Q' else E := by
 have hw : Region.wanted o (yielded ops a.tmps) = true := by simp [Region.wanted, hgd]
 rw [if_pos hw]
 unfold Oper.wp
 rw [hrun, Oper.upon_enter]
 refine hc.mono ?_
 intro e w' hr
 obtain ⟨v, rfl, hk⟩ := h e w' hr
 exact hk
end Go
namespace Go.Proofs.YtcjflafjmdfanaaGreatDoor
open Go.RowKit Go.Sub
attribute [local go_sem ↓] Go.wp_at_zero Go.wp_at_succ
theorem infoMem : ∃ i, Tryz.prog.info? 86 = some i ∧ i.zero = some (.agg #[.int .i64 0, .int .i64 0]) ∧ i.size = 2 ∧ i.bytes = 16 := by
 have h : (Tryz.prog.info? 86).map (fun i => (i.zero, i.size, i.bytes)) = some (some (.agg #[.int .i64 0, .int .i64 0]), 2, 16) := by kernel_rfl
 cases hi : Tryz.prog.info? 86 with
 | none => rw [hi] at h; cases h
 | some i =>
  rw [hi] at h
  simp only [Option.map_some, Option.some.injEq, Prod.mk.injEq] at h
  exact ⟨i, rfl, h.1, h.2.1, h.2.2⟩
theorem infoSec : ∃ i, Tryz.prog.info? 64 = some i ∧ i.zero = some (.agg #[.slice none 0 0, .slice none 0 0, .bool false]) ∧ i.size = 3 ∧ i.bytes = 56 := by
 have h : (Tryz.prog.info? 64).map (fun i => (i.zero, i.size, i.bytes)) = some (some (.agg #[.slice none 0 0, .slice none 0 0, .bool false]), 3, 56) := by kernel_rfl
 cases hi : Tryz.prog.info? 64 with
 | none => rw [hi] at h; cases h
 | some i =>
  rw [hi] at h
  simp only [Option.map_some, Option.some.injEq, Prod.mk.injEq] at h
  exact ⟨i, rfl, h.1, h.2.1, h.2.2⟩
def RowM (W0 w : World) (v : Value) (ml : List (Int × Int)) : Prop := w.ownsRow W0.heap.size 86 2 v ml.length (ml.flatMap mmC)
def SecsAt (W0 w : World) (v : Value) (l : List SecR) : Prop := w.ownsRow W0.heap.size 64 3 v l.length (l.flatMap secC) ∧ ∀ r ∈ l, RowI W0 w (.slice r.aB r.d.buses.length r.cB) r.d.buses ∧ RowM W0 w (.slice r.aM r.d.mem.length r.cM) r.d.mem
theorem SecsAt.q {W0 w w' : World} {v : Value} {l : List SecR} (h : SecsAt W0 w v l) (hq : Q w w') : SecsAt W0 w' v l := ⟨ownsRow_q h.1 hq, fun r hr => ⟨(h.2 r hr).1.q hq, ownsRow_q (h.2 r hr).2 hq⟩⟩
theorem SecsAt.low {W0 W1 w : World} {v : Value} {l : List SecR} (h : SecsAt W1 w v l) (hq : Q W0 W1) : SecsAt W0 w v l := ⟨World.ownsRow.mono h.1 hq.below.size, fun r hr => ⟨(h.2 r hr).1.low hq, World.ownsRow.mono (h.2 r hr).2 hq.below.size⟩⟩
theorem SecsAt.snoc {W0 w w' : World} {v v' : Value} {l : List SecR} {r : SecR} (h : SecsAt W0 w v l) (h1 : RowI W0 w (.slice r.aB r.d.buses.length r.cB) r.d.buses) (h2 : RowM W0 w (.slice r.aM r.d.mem.length r.cM) r.d.mem) (hown : w'.ownsRow W0.heap.size 64 3 v' (l.length + 1) (l.flatMap secC ++ secC r)) (hg : Grown W0.heap.size v v' w w') : SecsAt W0 w' v' (l ++ [r]) := by
 refine ⟨by rw [List.length_append, List.flatMap_append, List.flatMap_singleton]; exact hown, fun r' hr' => ?_⟩
 rcases List.mem_append.1 hr' with h3 | h3
 ·exact ⟨(hg _ _ _ _ _ (h.2 r' h3).1 (own_apart2 h.1 (h.2 r' h3).1 (by decide))).1, (hg _ _ _ _ _ (h.2 r' h3).2 (own_apart2 h.1 (h.2 r' h3).2 (by decide))).1⟩
 rw [List.mem_singleton] at h3
 subst h3
 exact ⟨(hg _ _ _ _ _ h1 (own_apart2 h.1 h1 (by decide))).1, (hg _ _ _ _ _ h2 (own_apart2 h.1 h2 (by decide))).1⟩
theorem wpList_app_sec {ops : Array Oper} {rest : List Oper} {o : Oper} {a : Act} {w : World} {Q' : Exit → Act → World → Prop} (hgd : o.guard = none) (s x : Operand)
  (ho : o.op = .call { callee := .builtin .append, args := #[s, x], argTypes := #[74, 74] }) (W0 : World) (v : Value) (l : List SecR) (r : SecR) (g : Nat)
  (hs : a.eval s = v) (hx : a.eval x = .slice (some ⟨g, 0, none⟩) 1 1) (hown : SecsAt W0 w v l) (h1 : RowI W0 w (.slice r.aB r.d.buses.length r.cB) r.d.buses) (h2 : RowM W0 w (.slice r.aM r.d.mem.length r.cM) r.d.mem)
  (hg : ∀ j u, (secC r)[j]? = some u → w.cell? ⟨g, j, none⟩ = some u) (hlen : l.length < 1000) (hQ : Q W0 w)
  (h : ∀ A' c' kk, SecsAt W0 (W0.jk kk) (.slice A' (l.length + 1) c') (l ++ [r]) → wpList Tryz.prog ops Q' rest (a.put o.dst (.slice A' (l.length + 1) c')) (W0.jk kk)) : wpList Tryz.prog ops Q' (o :: rest) a w := by
 obtain ⟨i, hi, hz, hs1, hb⟩ := infoSec
 refine wpList_app hgd s x 74 ho W0 64 i _ 3 56 Tryz.underlying74 hi hz hs1 hb rfl (by decide) v _ _ hs hown.1 ⟨g, 0, none⟩ 1 1 (secC r) hx rfl ?_ ?_ (by unfold maxLen; omega) (by omega) hQ ?_
 ·intro j u hj
  rw [addr_add0, Nat.zero_add]
  exact hg j u hj
 ·intro u hu
  simp only [secC, List.mem_cons, List.mem_nil_iff, or_false] at hu
  rcases hu with rfl | rfl | rfl <;> rfl
 intro v' kk hown' hgr
 obtain ⟨A', c', rfl⟩ := own_slice' hown'
 exact h A' c' kk (hown.snoc h1 h2 hown' hgr)
theorem step_app_mem {ops : Array Oper} {o : Oper} {a : Act} {w : World} {K : Act → World → Prop} {Q' : Exit → Act → World → Prop} {E : Prop} (hgd : o.guard = none) (s x : Operand)
  (ho : o.op = .call { callee := .builtin .append, args := #[s, x], argTypes := #[62, 62] }) (W0 : World) (v : Value) (l : List (Int × Int)) (m : Int × Int) (g : Nat)
  (hs : a.eval s = v) (hx : a.eval x = .slice (some ⟨g, 0, none⟩) 1 1) (hown : RowM W0 w v l) (hg : ∀ j u, (mmC m)[j]? = some u → w.cell? ⟨g, j, none⟩ = some u) (hlen : l.length < 1000) (hQ : Q W0 w)
  (h : ∀ A' c' kk, RowM W0 (W0.jk kk) (.slice A' (l.length + 1) c') (l ++ [m]) → Grown W0.heap.size v (.slice A' (l.length + 1) c') w (W0.jk kk) → K (a.put o.dst (.slice A' (l.length + 1) c')) (W0.jk kk)) :
  if Region.wanted o (yielded ops a.tmps) = true then Oper.wp Tryz.prog o a w K Q' else E := by
 have hw : Region.wanted o (yielded ops a.tmps) = true := by simp [Region.wanted, hgd]
 rw [if_pos hw]
 obtain ⟨i, hi, hz, hs1, hb⟩ := infoMem
 obtain ⟨v', w', hr, h2, h3, _, h5⟩ := run_append_own_at (P := Tryz.prog) w W0.heap.size 62 o.type 86 i _ 2 16 Tryz.underlying62 hi hz hs1 hb rfl (by decide) v _ _ hown ⟨g, 0, none⟩ 1 1 (mmC m) rfl
  (fun j u hj => by rw [addr_add0, Nat.zero_add]; exact hg j u hj) (by intro u hu; simp only [mmC, List.mem_cons, List.mem_nil_iff, or_false] at hu; rcases hu with rfl | rfl <;> rfl) (by unfold maxLen; omega) (by omega) hQ.below.size
 obtain ⟨A', c', rfl⟩ := own_slice' h2
 have hq : Q W0 w' := grown_Q hQ h3 fun g hg => (hown.lt g hg).1
 obtain ⟨kk, rfl⟩ := hq
 unfold Oper.wp execOp
 simp only [ho, resolve, invoke, builtin, Sem.run_bind, Sem.run_pure, Result.andThen_ok, List.map_toArray, List.map_cons, List.map_nil, hs, hx, hr]
 refine h A' c' kk (by unfold RowM; rw [List.length_append, List.flatMap_append, List.flatMap_singleton]; exact h2) ?_
 intro e2 size2 u n2 xs2 hu hap
 refine ⟨hu.kept h3 ?_, fun g hg hug => ?_⟩
 ·cases hub : u.ownBlock with
  | none => exact .inl rfl
  | some g => exact .inr fun e3 => hap g e3.symm hub
 rcases h5 with hat | hat
 ·exact hap g (hat ▸ hg) hug
 rw [hat] at hg
 have := (hu.lt g hug).2
 have := Option.some.inj hg
 omega
end Go.Proofs.YtcjflafjmdfanaaGreatDoor


/- SamplesSurvive returns true for every input, and its arguments read behind the call as they read before. -/
import Derived.Test.YtfdpnephjpcnbaaDoorEqsP
import Derived.Test.YtfdpnephjpcnbaaDoorTpM
import Derived.Test.YtfdpnephjpcnbaaDoorTpN
import Derived.Test.YtfdpnephjpcnbaaDoorPhA
import Derived.Test.YtfdpnephjpcnbaaDoorTpQ
import Derived.Test.YtfdpnephjpcnbaaDoorTpO
import Derived.Test.YtfdpnephjpcnbaaDoorFrame
import Derived.Test.YtfdpnephjpcnbaaDoorCyRoots
import Derived.WideShapes
import Derived.Test.YtfdpnephjpcnbaaDoorCards
import Derived.Test.YtfdpnephjpcnbaaDoorTie
set_option linter.unusedSimpArgs false
set_option linter.unusedVariables false
/- '==' between two arrays of numbers of the ring: as their elements are. -/
namespace Go
open Go.Sub
/-- A number as its four cells. -/
def Sub.Cy.cells (x : Cy) : List Value := [.int .i64 x.a, .int .i64 x.b, .int .i64 x.c, .int .i64 x.d]
def Sub.flat (xs : List Cy) : List Value := xs.flatMap Cy.cells
def Sub.eqAll : List Cy → List Cy → Bool
  | x :: xs, y :: ys => Cy.eqB x y && eqAll xs ys
  | _, _ => true
theorem Sub.eqAll_self : ∀ xs : List Cy, eqAll xs xs = true
  | [] => rfl
  | x :: xs => by simp [eqAll, Cy.eqB_self, eqAll_self xs]
theorem Sub.eqAll_range : ∀ (xs ys : List Cy), xs.length = ys.length → ((List.range xs.length).all fun i => Cy.eqB (xs.getD i ⟨0, 0, 0, 0⟩) (ys.getD i ⟨0, 0, 0, 0⟩)) = eqAll xs ys
  | [], [], _ => rfl
  | x :: xs, y :: ys, h => by
    have ih := eqAll_range xs ys (by simpa using h)
    rw [List.length_cons, List.range_succ_eq_map, List.all_cons, List.all_map]
    simp only [List.getD_cons_zero, Function.comp_def, List.getD_cons_succ, ih, eqAll]
  | [], _ :: _, h => by simp at h
  | _ :: _, [], h => by simp at h
theorem Sub.flat_at : ∀ (xs : List Cy) (i : Nat), i < xs.length → ((flat xs).drop (i * 4)).take 4 = (xs.getD i ⟨0, 0, 0, 0⟩).cells
  | x :: xs, 0, _ => by simp [flat, Cy.cells]
  | x :: xs, i + 1, h => by
    have ih := flat_at xs i (by simpa using h)
    have e : (i + 1) * 4 = i * 4 + 1 + 1 + 1 + 1 := by omega
    rw [e]
    show ((Cy.cells x ++ flat xs).drop (i * 4 + 1 + 1 + 1 + 1)).take 4 = (xs.getD i ⟨0, 0, 0, 0⟩).cells
    rw [← ih]
    rfl
  | [], _, h => by simp at h
theorem Sub.flat_length : ∀ xs : List Cy, (flat xs).length = 4 * xs.length
  | [] => rfl
  | x :: xs => by
    have := flat_length xs
    simp only [flat, List.flatMap_cons, List.length_append, List.length_cons] at this ⊢
    simp only [Cy.cells, List.length_cons, List.length_nil]
    omega
section
variable {P : Program} (w : World)
theorem run_equalIn_cycs (d : Nat) (t e g : TypeId) (n : Nat) (ht : P.underlying t = some (.array n e)) (he : P.underlying e = some (.array 4 g)) (hg : P.underlying g = some (.int .i64))
    (hsz : ∀ w, (sizeOf g).run P w = .ok 1 w) (hse : ∀ w, (sizeOf e).run P w = .ok 4 w) (xs ys : List Cy) (hx : xs.length = n) (hy : ys.length = n) :
    (Op.equalIn (d + 3) t (.agg (flat xs).toArray) (.agg (flat ys).toArray)).run P w = .ok (eqAll xs ys) w := by
  rw [← eqAll_range xs ys (hx.trans hy.symm), hx, List.range_eq_range', Op.equalIn]
  simp only [Sem.run_bind, run_underlying ht, Result.andThen_ok, hse, Std.Legacy.Range.forIn_eq_forIn_range', Std.Legacy.Range.size, Nat.sub_zero, Nat.add_sub_cancel, Nat.div_one]
  have hl : ∀ i ∈ List.range' 0 n 1, i < n := fun i hi => by simpa using (List.mem_range'_1.1 hi).2
  generalize List.range' 0 n 1 = l at hl ⊢
  induction l with
  | nil => simp
  | cons i l ih =>
    have hi : i < n := hl i (by simp)
    have pp : ∀ zs : List Cy, zs.length = n → (part e (flat zs).toArray (i * 4)).run P w = .ok (.agg (zs.getD i ⟨0, 0, 0, 0⟩).cells.toArray) w := by
      intro zs hz
      have h1 := flat_at zs i (by omega)
      rw [← h1]
      simp [part, isAgg, run_underlying he, hse]
    have pe : (Op.equalIn (d + 2) e (.agg (xs.getD i ⟨0, 0, 0, 0⟩).cells.toArray) (.agg (ys.getD i ⟨0, 0, 0, 0⟩).cells.toArray)).run P w = .ok (Cy.eqB (xs.getD i ⟨0, 0, 0, 0⟩) (ys.getD i ⟨0, 0, 0, 0⟩)) w :=
      run_equalIn_ints (P := P) w d e g 4 he hg hsz [(xs.getD i ⟨0, 0, 0, 0⟩).a, (xs.getD i ⟨0, 0, 0, 0⟩).b, (xs.getD i ⟨0, 0, 0, 0⟩).c, (xs.getD i ⟨0, 0, 0, 0⟩).d] [(ys.getD i ⟨0, 0, 0, 0⟩).a, (ys.getD i ⟨0, 0, 0, 0⟩).b, (ys.getD i ⟨0, 0, 0, 0⟩).c, (ys.getD i ⟨0, 0, 0, 0⟩).d] rfl rfl
    simp only [List.forIn_cons, Sem.run_bind, pp xs hx, pp ys hy, pe, Result.andThen_ok, List.all_cons]
    cases hb : Cy.eqB (xs.getD i ⟨0, 0, 0, 0⟩) (ys.getD i ⟨0, 0, 0, 0⟩)
    · simp
    · simp only [Bool.not_true, Bool.false_eq_true, if_false, Sem.run_pure, Result.andThen_ok, Bool.true_and]
      exact ih fun j hj => hl j (by simp [hj])
theorem run_eql_cycs (t e g : TypeId) (n : Nat) (ht : P.underlying t = some (.array n e)) (he : P.underlying e = some (.array 4 g)) (hg : P.underlying g = some (.int .i64))
    (hsz : ∀ w, (sizeOf g).run P w = .ok 1 w) (hse : ∀ w, (sizeOf e).run P w = .ok 4 w) (xs ys : List Cy) (hx : xs.length = n) (hy : ys.length = n) :
    (binOp .eql t (.agg (flat xs).toArray) (.agg (flat ys).toArray)).run P w = .ok (.bool (eqAll xs ys)) w := by
  rw [run_eql_struct, run_equalIn_cycs w 9997 t e g n ht he hg hsz hse xs ys hx hy]
  rfl
end
end Go
/- What the frames of a step say, read back: counts, samples, qualities, channels. Plain. -/
set_option linter.unusedVariables false
set_option linter.unusedSimpArgs false
namespace Go.Sub
open Go
theorem dat_len {step : Int} {rows : List Ch} {l : List Fm} (h : l.map Fm.dat = splitD step rows) : l.length = 12 := by
  have := congrArg List.length h
  simpa [splitD] using this
theorem dat_at {step : Int} {rows : List Ch} {l : List Fm} (h : l.map Fm.dat = splitD step rows) {k : Nat} {f : Fm} (hk : l[k]? = some f) :
    k < 12 ∧ f.c = (12 * step + (k : Int)) % 600 ∧ f.xs = rows.map (fun r => r.l.getD k 0) ∧ f.qs = List.replicate rows.length 0 := by
  have hl := dat_len h
  have hk' := (List.getElem?_eq_some_iff.1 hk).1
  have e := congrArg (fun z => z[k]?) h
  simp only [List.getElem?_map, hk, Option.map_some, splitD, List.getElem?_range (show k < 12 by omega), Option.some.injEq] at e
  unfold Fm.dat datK at e
  simp only [Prod.mk.injEq] at e
  exact ⟨by omega, e⟩
theorem dat_mem {step : Int} {rows : List Ch} {l : List Fm} (h : l.map Fm.dat = splitD step rows) {f : Fm} (hf : f ∈ l) :
    ∃ k : Nat, k < 12 ∧ f.c = (12 * step + (k : Int)) % 600 ∧ f.xs = rows.map (fun r => r.l.getD k 0) ∧ f.qs = List.replicate rows.length 0 := by
  obtain ⟨k, hk, rfl⟩ := List.getElem_of_mem hf
  exact ⟨k, dat_at h (List.getElem?_eq_getElem hk)⟩
theorem dat_c {step : Int} {rows : List Ch} {l : List Fm} (h : l.map Fm.dat = splitD step rows) : ∀ f ∈ l, 0 ≤ f.c ∧ f.c ≤ 599 := by
  intro f hf
  obtain ⟨k, _, e, _⟩ := dat_mem h hf
  omega
theorem inB_getD {lo hi : Int} {l : List Int} (h : InB lo hi l) (h0 : lo ≤ 0 ∧ 0 ≤ hi) (k : Nat) : lo ≤ l.getD k 0 ∧ l.getD k 0 ≤ hi := by
  by_cases hk : k < l.length
  · exact h k hk
  · rw [List.getD_eq_getElem?_getD, List.getElem?_eq_none (by omega)]
    exact h0
theorem dat_x {step : Int} {rows : List Ch} {l : List Fm} (h : l.map Fm.dat = splitD step rows) (bx : ∀ r ∈ rows, InB (-16383) 16383 r.l) : ∀ f ∈ l, InB (-16383) 16383 f.xs := by
  intro f hf
  obtain ⟨k, _, _, e, _⟩ := dat_mem h hf
  rw [e]
  intro j hj
  rw [List.getD_eq_getElem?_getD, List.getElem?_map]
  rw [List.length_map] at hj
  rw [List.getElem?_eq_getElem hj]
  exact inB_getD (bx _ (List.getElem_mem hj)) (by decide) k
theorem rep_getD (n j : Nat) : (List.replicate n (0 : Int)).getD j 0 = 0 := by
  rw [List.getD_eq_getElem?_getD, List.getElem?_replicate]
  split <;> rfl
theorem dat_q {step : Int} {rows : List Ch} {l : List Fm} (h : l.map Fm.dat = splitD step rows) : ∀ f ∈ l, InB 0 255 f.qs := by
  intro f hf
  obtain ⟨k, _, _, _, e⟩ := dat_mem h hf
  rw [e]
  intro j hj
  rw [rep_getD]
  decide
theorem dat_q0 {step : Int} {rows : List Ch} {l : List Fm} (h : l.map Fm.dat = splitD step rows) : ∀ f ∈ l, ∀ j, f.qs.getD j 0 = 0 := by
  intro f hf j
  obtain ⟨k, _, _, _, e⟩ := dat_mem h hf
  rw [e, rep_getD]
/-- The columns of the frames are the channels. -/
theorem dat_back {step : Int} {rows : List Ch} {l : List Fm} (h : l.map Fm.dat = splitD step rows) (hr : ∀ r ∈ rows, r.l.length = 12) : (List.range rows.length).map (colF l) = rows.map Ch.l := by
  have hl := dat_len h
  apply List.ext_getElem?
  intro c
  by_cases hc : c < rows.length
  · rw [List.getElem?_map, List.getElem?_range hc, List.getElem?_map, List.getElem?_eq_getElem hc]
    simp only [Option.map_some, Option.some.injEq]
    have h12 := hr _ (List.getElem_mem hc)
    unfold colF
    apply List.ext_getElem?
    intro k
    by_cases hk : k < 12
    · have hkl : k < l.length := by omega
      obtain ⟨_, _, e, _⟩ := dat_at h (List.getElem?_eq_getElem hkl)
      rw [List.getElem?_map, List.getElem?_eq_getElem hkl, Option.map_some, e, List.getElem?_eq_getElem (by omega)]
      congr 1
      rw [List.getD_eq_getElem?_getD, List.getElem?_map, List.getElem?_eq_getElem hc]
      simp only [Option.map_some, Option.getD_some]
      rw [List.getD_eq_getElem?_getD, List.getElem?_eq_getElem (by omega)]
      rfl
    · rw [List.getElem?_eq_none (by simp; omega), List.getElem?_eq_none (by omega)]
  · rw [List.getElem?_eq_none (by simp; omega), List.getElem?_eq_none (by simp; omega)]
end Go.Sub
namespace Go.Proofs.YtfdpnephjpcnbaaDoor
open Go.RowKit Go.Sub
theorem ChAt.l12 {w : World} {A : Option Addr} {n ca : Nat} {rows : List Ch} (h : ChAt w A n ca rows) : ∀ r ∈ rows, r.l.length = 12 := fun r hr => (h.2 r hr).len
/-- Where the channels lie. -/
theorem ChAt.at_ {w : World} {A : Option Addr} {n ca : Nat} {rows : List Ch} (h : ChAt w A n ca rows) (hn : 0 < n) : ∃ g o, A = some ⟨g, o, none⟩ ∧ Old g w ∧ Hid (∀ k r, rows[k]? = some r → w.cell? ⟨g, o + k, none⟩ = some (chC r)) := by
  obtain ⟨g, o, e, ho, hc⟩ := h.1.at_ hn
  exact ⟨g, o, e, ho, Lib.hid fun k r hk => hc.out k _ (by rw [List.getElem?_map, hk]; rfl)⟩
theorem ChAt.win {w : World} {A : Option Addr} {n ca : Nat} {rows : List Ch} (h : ChAt w A n ca rows) {k : Nat} {r : Ch} (hk : rows[k]? = some r) : Win w r.g 0 (fun j => r.l.getD j 0) := by
  intro j hj
  obtain ⟨g, o, e, _, hc⟩ := (h.2 r (List.mem_of_getElem? hk)).at_ (by decide)
  cases e
  exact hc.out j hj
theorem collect_lit (u step N : Int) (g n cap : Nat) (l : List Fm) (w : World) (hN : N = (n : Int)) (h : FrAt w g u n l) (hl : l.length = 12) (n0 : 1 ≤ n) (n1 : n ≤ 8) (u0 : 0 ≤ u) (u1 : u ≤ 999) (s0 : 0 ≤ step) (s1 : step ≤ 1099511627776)
    (hc : ∀ (k : Nat) (f : Fm), l[k]? = some f → f.c = (12 * step + (k : Int)) % 600) (bx : ∀ f ∈ l, InB (-16383) 16383 f.xs) (bq : ∀ f ∈ l, ∀ j, f.qs.getD j 0 = 0) :
    Calls Tryd.prog 9 #[.slice (some ⟨g, 0, none⟩) 12 cap, .int .i64 u, .int .i64 step, .int .i64 N] w (RetRows n ((List.range n).map (colF l)) w) := by
  subst hN
  exact collect_c u step g n cap l w h hl n0 n1 u0 u1 s0 s1 hc bx bq
theorem winOK_of {l : List Int} (h : InB (-16383) 16383 l) : WinOK (fun j => l.getD j 0) 16383 := fun k _ => inB_getD h (by decide) k
end Go.Proofs.YtfdpnephjpcnbaaDoor
/- SamplesSurvive: the walk. -/
set_option linter.unusedVariables false
set_option linter.unusedSimpArgs false
namespace Go
open Go.RowKit Go.Sub
theorem run_neq_cycs {P : Program} (w : World) (t e g : TypeId) (n : Nat) (ht : P.underlying t = some (.array n e)) (he : P.underlying e = some (.array 4 g)) (hg : P.underlying g = some (.int .i64))
    (hsz : ∀ w, (sizeOf g).run P w = .ok 1 w) (hse : ∀ w, (sizeOf e).run P w = .ok 4 w) (xs ys : List Cy) (hx : xs.length = n) (hy : ys.length = n) :
    (binOp .neq t (.agg (flat xs).toArray) (.agg (flat ys).toArray)).run P w = .ok (.bool (!(eqAll xs ys))) w := by
  rw [run_neq_struct, run_equalIn_cycs w 9997 t e g n ht he hg hsz hse xs ys hx hy]
  rfl
end Go
namespace Go.Proofs.YtfdpnephjpcnbaaDoor
open Go.RowKit Go.Sub
@[go_sem high] theorem neq48_self (c : Nat → Cy) (w : World) : (binOp .neq 42 (.agg (cells48 c 12)) (.agg (cells48 c 12))).run Tryd.prog w = .ok (.bool false) w := by
  have h := run_neq_cycs (P := Tryd.prog) w 42 41 3 12 Tryd.underlying42 Tryd.underlying41 Tryd.underlying3 (fun _ => by kernel_rfl) (fun _ => by kernel_rfl) [c 0, c 1, c 2, c 3, c 4, c 5, c 6, c 7, c 8, c 9, c 10, c 11] [c 0, c 1, c 2, c 3, c 4, c 5, c 6, c 7, c 8, c 9, c 10, c 11] rfl rfl
  rw [eqAll_self] at h
  exact h
@[go_sem ↓ high] theorem lvCase (a : Addr) : loadVar 28 a = bigLoad 28 a := rfl
class Len41 (cs : Array Value) : Prop where
  eq : cs.size = 41
theorem infoCase : (Tryd.prog.info? 28).map (·.size) = some 41 := by kernel_rfl
@[go_sem ↓ high] theorem rlCase {w : World} {n : Nat} {cs : Array Value} {t : TypeId} {fr : Nat × Nat} [h : Blk w n (.cells cs t fr)] [hs : Len41 cs] :
    (bigLoad 28 ⟨n, 0, none⟩).run Tryd.prog w = .ok (.agg cs) w := run_bigLoad Tryd.underlying28 rfl (by rw [hs.eq]; exact infoCase)
theorem chanL_in (S : Nat → Nat → Int) {rows : List Ch} (h : rows.map Ch.l = chanL S) : ∀ r ∈ rows, InB (-16383) 16383 r.l := by
  intro r hr
  have h1 : r.l ∈ chanL S := by rw [← h]; exact List.mem_map_of_mem hr
  unfold chanL at h1
  obtain ⟨i, _, e⟩ := List.mem_map.1 h1
  rw [← e]
  intro k hk
  rw [List.length_map, List.length_range] at hk
  rw [List.getD_eq_getElem?_getD, List.getElem?_map, List.getElem?_range hk]
  simp only [Option.map_some, Option.getD_some]
  unfold smp
  omega
set_option maxRecDepth 100000 in
set_option maxHeartbeats 8000000 in
theorem survive_walk (x0 x1 x2 x3 a b : Int) (cs : Array Value) (S : Nat → Nat → Int) (lost : Int) (w : World) (hr : RootsOK w) (hs : cs.size = 41) (h0 : cs[0]? = some (.int .i64 a)) (h1 : cs[1]? = some (.int .i64 b)) (hS : ∀ i k, i < 3 → k < 12 → cs[2 + i * 12 + k]? = some (.int .i64 (S i k))) :
    Calls Tryd.prog 3 #[.agg #[Value.int .i64 x0, Value.int .i64 x1, Value.int .i64 x2, Value.int .i64 x3], .agg cs, .int .i64 lost] w fun e w' => e = .returned (.bool true) ∧ Q w w' := by
  have HS := Lib.hid hS
  haveI : Len41 cs := ⟨hs⟩
  clear hS hs
  have u0 : 0 ≤ a % 1000 := Int.emod_nonneg a (by decide)
  have u1 : a % 1000 ≤ 999 := by have := Int.emod_lt_of_pos a (show (0 : Int) < 1000 by decide); omega
  have s0 : 0 ≤ b % 1099511627776 := Int.emod_nonneg b (by decide)
  have s1 : b % 1099511627776 ≤ 1099511627776 := by have := Int.emod_lt_of_pos b (show (0 : Int) < 1099511627776 by decide); omega
  go_enter Tryd.func3, Tryd.ntmps3
  go_wp2_with fail
  refine wp_region_jk (by kernel_rfl) (by kernel_rfl) ?_
  repeat (go_big_quiet_step ((go_at_call 5; exact Calls.jk_of_same (tpwithin_any _ _ _ (by decide) (by decide)))))
  refine wpQuiet_nil ?_
  intro _ hw'
  obtain ⟨kq, rfl⟩ := hw'
  generalize a % 1000 = u at u0 u1 ⊢
  generalize b % 1099511627776 = st at s0 s1 ⊢
  go_wp2_with (first
    | (go_at_call 6; (with_reducible refine (channels_c cs S _ HS.out).mono ?_); rintro e w' ⟨gr, cr, rows, rfl, ⟨kc, rfl⟩, hch, hrl⟩; have HCH := Lib.hid hch; have HRL := Lib.hid hrl; clear hch hrl)
    | (go_at_call 7; (with_reducible refine (split_c u st _ 3 _ rows _ (HCH.out.q (by repeat' (first | exact Q.refl _ | refine Q.alloc ?_ _ | refine Q.jk ?_ _ | refine Q.drew ?_))) (by decide) (by decide) u0 u1 s0 s1 (chanL_in S HRL.out)).mono ?_); rintro e w' ⟨gf, fs, rfl, ⟨ks, rfl⟩, hfs, hfd⟩; have HFS := Lib.hid hfs; have HFD := Lib.hid hfd; clear hfs hfd)
    | (go_at_call 8; (with_reducible refine (arrived_c x0 x1 x2 x3 lost u gf 12 3 fs _ (HFS.out.q (by repeat' (first | exact Q.refl _ | refine Q.alloc ?_ _ | refine Q.jk ?_ _ | refine Q.drew ?_))) (dat_len HFD.out) (by decide) (by decide) u0 u1 (dat_c HFD.out) (dat_x HFD.out (chanL_in S HRL.out)) (dat_q HFD.out)).mono ?_); rintro e w' ⟨go, co, os, rfl, ⟨ka, rfl⟩, hos, hod⟩; have HOS := Lib.hid hos; have HOD := Lib.hid (hod.trans HFD.out); clear hos hod)
    | (go_at_call 9; (with_reducible refine (collect_lit u st 3 go 3 co os _ rfl (HOS.out.q (by repeat' (first | exact Q.refl _ | refine Q.alloc ?_ _ | refine Q.jk ?_ _ | refine Q.drew ?_))) (dat_len HOD.out) (by decide) (by decide) u0 u1 s0 s1 (fun k f hk => (dat_at HOD.out hk).2.1) (dat_x HOD.out (chanL_in S HRL.out)) (dat_q0 HOD.out)).mono ?_); rintro e w' ⟨gy, ys, rfl, ⟨ky, rfl⟩, hys, hyl⟩; have HYS := Lib.hid hys; have HYL : Hid (ys.map Ch.l = rows.map Ch.l) := Lib.hid (by rw [hyl, ← dat_back HOD.out HCH.out.l12, HCH.out.len]); clear hys hyl)
    | (go_at_call 10; (with_reducible refine (samerows_c gy gr 3 cr 3 ys rows _ (HYS.out.q (by repeat' (first | exact Q.refl _ | refine Q.alloc ?_ _ | refine Q.jk ?_ _ | refine Q.drew ?_))) (HCH.out.q (by repeat' (first | exact Q.refl _ | refine Q.alloc ?_ _ | refine Q.jk ?_ _ | refine Q.drew ?_))) HYL.out (by decide) (by decide)).mono ?_); rintro e w' ⟨rfl, kz, rfl⟩)
    | fail)
  go_loopw [15] (fun i wr => ∃ (k : Nat), k ≤ 3 ∧ i = .int .i64 k ∧ Q ((((((((w.alloc (Obj.cells #[Value.int .i64 x0, Value.int .i64 x1, Value.int .i64 x2, Value.int .i64 x3] 23)).alloc (Obj.cells cs 28)).jk kq).jk kc).jk ks).jk ka).jk ky).jk kz) wr) (fun i _ => 3 - (intOf i).toNat)
  case atStart => exact ⟨0, by decide, rfl, Q.refl _⟩
  case round =>
    obtain ⟨k, hk, rfl, kw, rfl⟩ := hrel
    by_cases hlt : k < 3
    · obtain ⟨x, hx⟩ : ∃ x, rows[k]? = some x := ⟨_, List.getElem?_eq_getElem (by rw [HCH.out.len]; exact hlt)⟩
      obtain ⟨y, hy⟩ : ∃ y, ys[k]? = some y := ⟨_, List.getElem?_eq_getElem (by rw [HYS.out.len]; exact hlt)⟩
      have hxy : y.l = x.l := by
        have := congrArg (fun z => z[k]?) HYL.out
        simp only [List.getElem?_map, hx, hy, Option.map_some, Option.some.injEq] at this
        exact this
      obtain ⟨_, _, e1, o1, c1⟩ := HCH.out.at_ (by decide)
      cases e1
      obtain ⟨_, _, e2, o2, c2⟩ := HYS.out.at_ (by decide)
      cases e2
      have g1 := c1.out k x hx
      have g2 := c2.out k y hy
      unfold chC at g1 g2
      rw [Nat.zero_add] at g1 g2
      have W1 := Lib.hid (HCH.out.win hx)
      have W2 : Hid (Win _ y.g 0 (fun j => x.l.getD j 0)) := Lib.hid (by have := HYS.out.win hy; rwa [hxy] at this)
      have WX := Lib.hid (winOK_of (chanL_in S HRL.out x (List.mem_of_getElem? hx)))
      clear hx hy hxy c1 c2
      have k0 : (0 : Int) ≤ (k : Int) := by omega
      have k1 : (k : Int) < 3 := by omega
      go_wp2_with (first
        | (go_at_call 11; (with_reducible refine (phall_c x.g 0 x.cap (fun j => x.l.getD j 0) _ (by repeat' (first | with_reducible exact hr | refine RootsOK.alloc ?_ _ | refine RootsOK.jk ?_ _ | refine RootsOK.drew ?_)) (W1.out.q (by repeat' (first | exact Q.refl _ | refine Q.alloc ?_ _ | refine Q.jk ?_ _ | refine Q.drew ?_))) WX.out).mono ?_); rintro e w' ⟨rfl, kx, rfl⟩)
        | (go_at_call 11; (with_reducible refine (phall_c y.g 0 y.cap (fun j => x.l.getD j 0) _ (by repeat' (first | with_reducible exact hr | refine RootsOK.alloc ?_ _ | refine RootsOK.jk ?_ _ | refine RootsOK.drew ?_)) (W2.out.q (by repeat' (first | exact Q.refl _ | refine Q.alloc ?_ _ | refine Q.jk ?_ _ | refine Q.drew ?_))) WX.out).mono ?_); rintro e w' ⟨rfl, kv, rfl⟩)
        | fail)
      go_roundw
      case rel =>
        refine ⟨k + 1, by omega, by go_num, ?_⟩
        repeat' (first | exact Q.refl _ | refine Q.alloc ?_ _ | refine Q.jk ?_ _ | refine Q.drew ?_)
      case measure => simp [intOf]; omega
    · obtain rfl : k = 3 := by omega
      go_wp2_with fail
      go_ret
      refine ⟨rfl, ?_⟩
      repeat' (first | exact Q.refl _ | refine Q.alloc ?_ _ | refine Q.jk ?_ _ | refine Q.drew ?_)
end Go.Proofs.YtfdpnephjpcnbaaDoor
/- Arguments that are built of integers and bools alone (arrays and structures of them), opened all at once. -/
namespace Go
open Go.ChangeShapes Go.WideShapes Go.ChangeAt Go.RowKit
/-- The cells are as the leaves say: true for an integer, false for a bool. -/
def Opens : List Bool → List Value → Prop
  | [], cs => cs = []
  | true :: ls, cs => ∃ k : Int, (-9223372036854775808 ≤ k ∧ k ≤ 9223372036854775807) ∧ ∃ r, cs = .int .i64 k :: r ∧ Opens ls r
  | false :: ls, cs => ∃ b : Bool, ∃ r, cs = .bool b :: r ∧ Opens ls r
theorem Opens.append : ∀ {l m : List Bool} {cs ds : List Value}, Opens l cs → Opens m ds → Opens (l ++ m) (cs ++ ds)
  | [], _, _, _, h, h' => by
    have h : _ = _ := h
    subst h
    exact h'
  | true :: _, _, _, _, h, h' => by
    obtain ⟨k, hk, r, rfl, hr⟩ := h
    exact ⟨k, hk, _, rfl, hr.append h'⟩
  | false :: _, _, _, _, h, h' => by
    obtain ⟨k, r, rfl, hr⟩ := h
    exact ⟨k, _, rfl, hr.append h'⟩
theorem Opens.length : ∀ {l : List Bool} {cs : List Value}, Opens l cs → cs.length = l.length
  | [], _, h => by
    have h : _ = _ := h
    subst h
    rfl
  | true :: _, _, h => by
    obtain ⟨k, hk, r, rfl, hr⟩ := h
    simp [hr.length]
  | false :: _, _, h => by
    obtain ⟨k, r, rfl, hr⟩ := h
    simp [hr.length]
/-- The leaves of the fields, one behind the other. -/
def flatFs (P : Program) (fl : TypeId → Option (List Bool)) : List Field → Nat → Option (List Bool)
  | [], _ => some []
  | f :: fs, off => match fl f.type with
    | some l => if f.offset = off ∧ P.cellsOf f.type = l.length then (flatFs P fl fs (off + l.length)).map (l ++ ·) else none
    | none => none
/-- The leaves of a type. -/
def flat (P : Program) : Nat → TypeId → Option (List Bool)
  | 0, _ => none
  | n + 1, t => match P.underlying t with
    | some (.int .i64) => some [true]
    | some .bool => some [false]
    | some (.array m e) => match flat P n e with
      | some l => if P.cellsOf e = l.length ∧ P.cellsOf t = m * l.length then some (List.replicate m l).flatten else none
      | none => none
    | some (.struct fs) => match flatFs P (flat P n) fs.toList 0 with
      | some l => if P.cellsOf t = l.length then some l else none
      | none => none
    | _ => none
section
variable {H : Type} {enc : TypeId × Value → H} {P : Program} {w : World} {base : Nat} {spare : Nat → Bool} {held : Bool}
theorem opens_array {l : List Bool} {xs : List Value} : ∀ (m : Nat) (cs : List Value), cs.length = m * l.length → (∀ i, i < m → Opens l ((cs.drop (i * l.length)).take l.length)) → Opens (List.replicate m l).flatten cs
  | 0, cs, hl, _ => by
    have : cs = [] := List.eq_nil_of_length_eq_zero (by simpa using hl)
    subst this
    rfl
  | m + 1, cs, hl, h => by
    rw [List.replicate_succ, List.flatten_cons]
    have e : cs = cs.take l.length ++ cs.drop l.length := (List.take_append_drop _ _).symm
    rw [e]
    have h0 := h 0 (by omega)
    rw [Nat.zero_mul, List.drop_zero] at h0
    refine h0.append (opens_array (xs := xs) m _ ?_ fun i hi => ?_)
    · rw [List.length_drop, hl, Nat.succ_mul]; omega
    · have := h (i + 1) (by omega)
      rw [Nat.succ_mul] at this
      rw [List.drop_drop]
      rwa [Nat.add_comm] at this
theorem opens_fields {fl : TypeId → Option (List Bool)} {tr : TypeId → List Value → Prop} (hfl : ∀ t l cs, fl t = some l → tr t cs → Opens l cs) :
    ∀ (fs : List Field) (off : Nat) (ls : List Bool) (cs : List Value), flatFs P fl fs off = some ls → cs.length = off + ls.length →
      (∀ f ∈ fs, tr f.type ((cs.drop f.offset).take (P.cellsOf f.type))) → Opens ls (cs.drop off)
  | [], off, ls, cs, h, hl, _ => by
    simp only [flatFs, Option.some.injEq] at h
    subst h
    have : cs.drop off = [] := List.drop_of_length_le (by simpa using Nat.le_of_eq hl)
    rw [this]
    rfl
  | f :: fs, off, ls, cs, h, hl, ht => by
    simp only [flatFs] at h
    split at h
    · rename_i l hfle
      split at h
      · rename_i hc
        obtain ⟨h1, h2⟩ := hc
        obtain ⟨r, hr, rfl⟩ := Option.map_eq_some_iff.1 h
        have h3 := hfl _ _ _ hfle (ht f List.mem_cons_self)
        rw [h1, h2] at h3
        have h4 := opens_fields hfl fs (off + l.length) r cs hr (by rw [hl, List.length_append]; omega) fun g hg => ht g (List.mem_cons_of_mem _ hg)
        have e : cs.drop off = (cs.drop off).take l.length ++ cs.drop (off + l.length) := by
          rw [← List.drop_drop]
          exact (List.take_append_drop _ _).symm
        rw [e]
        exact h3.append h4
      · cases h
    · cases h
theorem flat_opens : ∀ (n : Nat) (t : TypeId) (ls : List Bool), flat P n t = some ls → ∀ (fuel : Nat) (cs : List Value) (x : DataW H × List MemPlace), DataW.trod enc P w base spare held fuel t cs = some x → Opens ls cs
  | 0, _, _, h => by cases h
  | n + 1, t, ls, h => by
    intro fuel cs x hd
    simp only [flat] at h
    split at h
    · rename_i hu
      obtain rfl := Option.some.inj h
      obtain ⟨k, rfl, _, hw⟩ := DataW.trod_int hu hd
      exact ⟨k, wf_i64 hw, [], rfl, rfl⟩
    · rename_i hu
      obtain rfl := Option.some.inj h
      obtain ⟨b, rfl, _⟩ := DataW.trod_bool hu hd
      exact ⟨b, [], rfl, rfl⟩
    · rename_i m e hu
      split at h
      · rename_i l hl
        split at h
        · rename_i hc
          obtain rfl := Option.some.inj h
          obtain ⟨xs, k, _, _, hlen, hxs, hel⟩ := DataW.trod_array hu hd
          refine opens_array (xs := []) m cs (by rw [hlen]; exact hc.2) fun i hi => ?_
          have h1 := hel i hi
          obtain ⟨y, hy⟩ : ∃ y, xs[i]? = some y := ⟨_, List.getElem?_eq_getElem (by omega)⟩
          rw [hy, hc.1] at h1
          exact flat_opens n e l hl _ _ _ h1
        · cases h
      · cases h
    · rename_i fs hu
      split at h
      · rename_i l hl
        split at h
        · rename_i hc
          obtain rfl := Option.some.inj h
          obtain ⟨xs, k, _, _, hlen, hxs, hf⟩ := DataW.trod_struct hu hd
          have := opens_fields (P := P) (fl := flat P n) (tr := fun t cs => ∃ x, DataW.trod enc P w base spare held k t cs = some x) (fun t l cs h1 ⟨x, h2⟩ => flat_opens n t l h1 _ _ _ h2) fs.toList 0 l cs hl (by rw [hlen, hc]; omega) fun f hf' => by
            obtain ⟨i, hi, rfl⟩ := List.getElem_of_mem hf'
            have hi' : i < fs.size := by simpa using hi
            have h1 := hf i _ (Array.getElem?_eq_getElem hi')
            rw [List.getElem?_eq_getElem (by omega)] at h1
            exact ⟨_, h1⟩
          rwa [List.drop_zero] at this
        · cases h
      · cases h
    · cases h
end
end Go
/- An argument of integers and bools, opened as two functions of the place: long ones at once. -/
namespace Go
open Go.ChangeShapes Go.WideShapes Go.ChangeAt Go.RowKit
def leafs (ks : Nat → Int) (bs : Nat → Bool) : List Bool → Nat → List Value
  | [], _ => []
  | true :: ls, n => .int .i64 (ks n) :: leafs ks bs ls (n + 1)
  | false :: ls, n => .bool (bs n) :: leafs ks bs ls (n + 1)
theorem leafs_congr {ks ks' : Nat → Int} {bs bs' : Nat → Bool} : ∀ (ls : List Bool) (n : Nat), (∀ i, n ≤ i → ks i = ks' i ∧ bs i = bs' i) → leafs ks bs ls n = leafs ks' bs' ls n
  | [], _, _ => rfl
  | true :: ls, n, h => by
    show Value.int .i64 (ks n) :: _ = Value.int .i64 (ks' n) :: _
    rw [(h n (Nat.le_refl _)).1, leafs_congr ls (n + 1) fun i hi => h i (by omega)]
  | false :: ls, n, h => by
    show Value.bool (bs n) :: _ = Value.bool (bs' n) :: _
    rw [(h n (Nat.le_refl _)).2, leafs_congr ls (n + 1) fun i hi => h i (by omega)]
theorem Opens.fn : ∀ (ls : List Bool) (cs : List Value) (n : Nat), Opens ls cs → ∃ (ks : Nat → Int) (bs : Nat → Bool), (∀ i, -9223372036854775808 ≤ ks i ∧ ks i ≤ 9223372036854775807) ∧ cs = leafs ks bs ls n
  | [], cs, n, h => ⟨fun _ => 0, fun _ => false, fun _ => ⟨by dsimp only; decide, by dsimp only; decide⟩, h⟩
  | true :: ls, cs, n, h => by
    obtain ⟨k, hk, r, rfl, hr⟩ := h
    obtain ⟨ks, bs, h1, rfl⟩ := Opens.fn ls r (n + 1) hr
    refine ⟨fun i => if i = n then k else ks i, bs, fun i => ?_, ?_⟩
    · show _ ≤ (if i = n then k else ks i) ∧ (if i = n then k else ks i) ≤ _
      split
      · exact hk
      · exact h1 i
    · show _ = Value.int .i64 (if n = n then k else ks n) :: _
      rw [if_pos rfl]
      congr 1
      refine leafs_congr ls (n + 1) fun i hi => ⟨?_, rfl⟩
      show ks i = if i = n then k else ks i
      rw [if_neg (by omega)]
  | false :: ls, cs, n, h => by
    obtain ⟨k, r, rfl, hr⟩ := h
    obtain ⟨ks, bs, h1, rfl⟩ := Opens.fn ls r (n + 1) hr
    refine ⟨ks, fun i => if i = n then k else bs i, h1, ?_⟩
    show _ = Value.bool (if n = n then k else bs n) :: _
    rw [if_pos rfl]
    congr 1
    refine leafs_congr ls (n + 1) fun i hi => ⟨rfl, ?_⟩
    show bs i = if i = n then k else bs i
    rw [if_neg (by omega)]
end Go
/- Arguments that are a step of a merging unit, opened. -/
set_option linter.unusedVariables false
set_option linter.unusedSimpArgs false
namespace Go
open Go.ChangeShapes Go.WideShapes Go.ChangeAt Go.RowKit
theorem leafs_rep (ks : Nat → Int) (bs : Nat → Bool) : ∀ (m n j : Nat), j < m → (leafs ks bs (List.replicate m true) n)[j]? = some (.int .i64 (ks (n + j)))
  | 0, _, _, h => absurd h (Nat.not_lt_zero _)
  | m + 1, n, 0, _ => rfl
  | m + 1, n, j + 1, h => by
    rw [List.replicate_succ]
    show (leafs ks bs (List.replicate m true) (n + 1))[j]? = _
    rw [leafs_rep ks bs m (n + 1) j (by omega), show n + 1 + j = n + (j + 1) by omega]
end Go
namespace Go.Proofs.YtfdpnephjpcnbaaDoor
open Go.ChangeShapes Go.WideShapes Go.ChangeAt Go.RowKit Go.Sub
set_option maxRecDepth 100000 in
theorem open_case {H : Type} {enc : TypeId × Value → H} {w : World} {base : Nat} {spare : Nat → Bool} {held : Bool} {r : Reach} {b0 : Nat} {v : Value} {d : DataW H} {ps : List MemPlace}
    (hval : Value.okWide Tryd.prog w r b0 28 v) (hd : DataW.Trod enc Tryd.prog w base spare held 28 v d ps) :
    ∃ (a b : Int) (cs : Array Value) (S : Nat → Nat → Int), v = .agg cs ∧ cs.size = 41 ∧ cs[0]? = some (.int .i64 a) ∧ cs[1]? = some (.int .i64 b) ∧ ∀ i k, i < 3 → k < 12 → cs[2 + i * 12 + k]? = some (.int .i64 (S i k)) := by
  obtain ⟨cs, rfl, hsz⟩ := okWide_struct Tryd.underlying28 hval
  obtain ⟨fuel, hf⟩ := hd
  obtain ⟨l⟩ := cs
  obtain ⟨xs, n, _, _, hl, hlen, hf'⟩ := DataW.trod_struct Tryd.underlying28 hf
  simp only [Value.cells] at hl hf'
  rw [show Tryd.prog.cellsOf 28 = 41 by kernel_rfl] at hl
  obtain ⟨y0, y1, y2, y3, y4, y5, rfl⟩ : ∃ y0 y1 y2 y3 y4 y5, xs = [y0, y1, y2, y3, y4, y5] := by
    match xs, hlen with
    | [y0, y1, y2, y3, y4, y5], _ => exact ⟨y0, y1, y2, y3, y4, y5, rfl⟩
  have h0 : DataW.trod enc Tryd.prog w base spare held n 3 ((l.drop 0).take (Tryd.prog.cellsOf 3)) = some y0 := hf' 0 _ rfl
  have h1 : DataW.trod enc Tryd.prog w base spare held n 3 ((l.drop 1).take (Tryd.prog.cellsOf 3)) = some y1 := hf' 1 _ rfl
  have h2 : DataW.trod enc Tryd.prog w base spare held n 25 ((l.drop 2).take (Tryd.prog.cellsOf 25)) = some y2 := hf' 2 _ rfl
  obtain ⟨a, ha, _, _⟩ := DataW.trod_int Tryd.underlying3 h0
  obtain ⟨b, hb, _, _⟩ := DataW.trod_int Tryd.underlying3 h1
  have ho := flat_opens 8 25 (List.replicate 36 true) (by kernel_rfl) _ _ _ h2
  obtain ⟨ks, bs, _, hk⟩ := Opens.fn _ _ 0 ho
  rw [cellsInt] at ha hb
  rw [show Tryd.prog.cellsOf 25 = 36 by kernel_rfl] at hk
  have ga := congrArg (·[0]?) ha
  have gb := congrArg (·[0]?) hb
  refine ⟨a, b, ⟨l⟩, fun i k => ks (i * 12 + k), rfl, by simpa using hl, ?_, ?_, fun i k hi hk' => ?_⟩
  · simpa using ga
  · simpa [List.getElem?_take, List.getElem?_drop] using gb
  · have e := congrArg (·[i * 12 + k]?) hk
    simp only [List.getElem?_take, List.getElem?_drop] at e
    rw [leafs_rep _ _ _ _ _ (by omega), if_pos (by omega)] at e
    rw [List.getElem?_toArray, Nat.add_assoc, e, Nat.zero_add]
end Go.Proofs.YtfdpnephjpcnbaaDoor
/- SamplesSurvive returns true for every input, and its arguments read behind the call as they read before. -/
namespace Go.Proofs.YtfdpnephjpcnbaaDoor.samplesSurvive
open Go.ChangeShapes Go.WideShapes Go.ChangeAt Go.RowKit Go.Sub

set_option maxRecDepth 100000 in
theorem contract (H : Type) (enc : TypeId × Value → H) (W : World) (base : Nat) (args : Array Value) (ds gs : List (DataW H)) (before : List MemPlace)
    (hval : ∀ (j : Nat) t v, Tryd.f3.params[j]? = some t → args[j]? = some v → Value.okWide Tryd.prog W .any base t v)
    (hW : DataW.Whole enc Tryd.prog Tryd.f3.params.toList Rows.samplesSurviveSpec.vars false W args.toList ds gs before) (hL : laidMetH Tryd.prog Rows.samplesSurviveRow.laid W) :
    Calls Tryd.prog 3 args W fun e W' => ∃ v, e = .returned v ∧ Rows.samplesSurviveSpec.post enc Tryd.prog Tryd.f3 false true false false W args v W' := by
  have hW' := hW
  obtain ⟨p, q, hA0, hV, rfl, hfz, hnd⟩ := hW
  have hA : DataW.TrodAll enc Tryd.prog W 0 (fun _ => true) true Tryd.f3.params.toList args.toList ds p := hA0
  rw [Tryd.params3] at hA hval
  obtain ⟨rfl, rfl⟩ := trodVars_none hV
  obtain ⟨v0, vs0, d0, ds0, p0, q0, hargs, rfl, rfl, h0, r0⟩ := trodAll_cons hA
  obtain ⟨v1, vs1, d1, ds1, p1, q1, rfl, rfl, rfl, h1, r1⟩ := trodAll_cons r0
  obtain ⟨v2, vs2, d2, ds2, p2, q2, rfl, rfl, rfl, h2, r2⟩ := trodAll_cons r1
  obtain ⟨rfl, rfl, rfl⟩ := trodAll_nil r2
  obtain rfl : args = #[v0, v1, v2] := by cases args; simp_all
  obtain ⟨cs0, rfl, _⟩ := okWide_struct Tryd.underlying23 (hval 0 23 v0 rfl rfl)
  obtain ⟨fu0, hf0⟩ := h0
  obtain ⟨l0⟩ := cs0
  obtain ⟨ks0, bs0, hk0, rfl⟩ := Opens.fn _ _ 0 (flat_opens 8 23 [true, true, true, true] (by kernel_rfl) _ _ _ hf0)
  obtain ⟨ca1, cb1, cs1, cS1, rfl, hz1, ha1, hb1, hS1⟩ := open_case (hval 1 28 v1 rfl rfl) h1
  obtain ⟨n2, rfl, _, _, wf2⟩ := open_int Tryd.underlying3 (hval 2 3 v2 rfl rfl) h2
  refine (survive_walk (ks0 0) (ks0 1) (ks0 2) (ks0 3) ca1 cb1 cs1 cS1 n2 W (roots_of_laid hL) hz1 ha1 hb1 hS1).mono fun e W' ⟨he, hq⟩ => ?_
  subst he
  refine ⟨_, rfl, law_post laidOut ?_ (by kernel_rfl) Tryd.underlying4 rfl ?_ hW' hq.below (by rw [Tryd.params3]; rfl)⟩
  · rw [Tryd.params3]
    intro t ht
    simp only [List.mem_cons, List.mem_nil_iff, or_false] at ht
    rcases ht with rfl | rfl | rfl
    · exact ⟨by kernel_rfl, of_decide_eq_true (by kernel_rfl)⟩
    · exact ⟨by kernel_rfl, of_decide_eq_true (by kernel_rfl)⟩
    · exact ⟨by kernel_rfl, of_decide_eq_true (by kernel_rfl)⟩
  · intro ds' hd
    rw [Tryd.params3] at hd
    match ds', hd with
    | [e0, e1, e2], _ => rfl

theorem laid_met (os : Os) : laidMet Tryd.prog Rows.samplesSurviveRow.laid ((laidWorld os).forCall (fun _ _ => 0) ⟨#[], #[.agg #[.int .i64 0, .int .i64 0, .int .i64 0, .int .i64 0], .agg #[Value.int .i64 0, Value.int .i64 0, Value.int .i64 0, Value.int .i64 0, Value.int .i64 0, Value.int .i64 0, Value.int .i64 0, Value.int .i64 0, Value.int .i64 0, Value.int .i64 0, Value.int .i64 0, Value.int .i64 0, Value.int .i64 0, Value.int .i64 0, Value.int .i64 0, Value.int .i64 0, Value.int .i64 0, Value.int .i64 0, Value.int .i64 0, Value.int .i64 0, Value.int .i64 0, Value.int .i64 0, Value.int .i64 0, Value.int .i64 0, Value.int .i64 0, Value.int .i64 0, Value.int .i64 0, Value.int .i64 0, Value.int .i64 0, Value.int .i64 0, Value.int .i64 0, Value.int .i64 0, Value.int .i64 0, Value.int .i64 0, Value.int .i64 0, Value.int .i64 0, Value.int .i64 0, Value.int .i64 0, Value.slice none 0 0, Value.slice none 0 0, Value.int .i64 0], .int .i64 0], []⟩).memory :=
  laidMet_of_run' 8 (by kernel_rfl) (by kernel_rfl)
theorem reads (os : Os) {H : Type} (enc : TypeId × Value → H) : ∃ places, DataW.whole enc Tryd.prog ((laidWorld os).forCall (fun _ _ => 0) ⟨#[], #[.agg #[.int .i64 0, .int .i64 0, .int .i64 0, .int .i64 0], .agg #[Value.int .i64 0, Value.int .i64 0, Value.int .i64 0, Value.int .i64 0, Value.int .i64 0, Value.int .i64 0, Value.int .i64 0, Value.int .i64 0, Value.int .i64 0, Value.int .i64 0, Value.int .i64 0, Value.int .i64 0, Value.int .i64 0, Value.int .i64 0, Value.int .i64 0, Value.int .i64 0, Value.int .i64 0, Value.int .i64 0, Value.int .i64 0, Value.int .i64 0, Value.int .i64 0, Value.int .i64 0, Value.int .i64 0, Value.int .i64 0, Value.int .i64 0, Value.int .i64 0, Value.int .i64 0, Value.int .i64 0, Value.int .i64 0, Value.int .i64 0, Value.int .i64 0, Value.int .i64 0, Value.int .i64 0, Value.int .i64 0, Value.int .i64 0, Value.int .i64 0, Value.int .i64 0, Value.int .i64 0, Value.slice none 0 0, Value.slice none 0 0, Value.int .i64 0], .int .i64 0], []⟩).memory Tryd.f3.params.toList Rows.samplesSurviveSpec.vars false (#[.agg #[.int .i64 0, .int .i64 0, .int .i64 0, .int .i64 0], .agg #[Value.int .i64 0, Value.int .i64 0, Value.int .i64 0, Value.int .i64 0, Value.int .i64 0, Value.int .i64 0, Value.int .i64 0, Value.int .i64 0, Value.int .i64 0, Value.int .i64 0, Value.int .i64 0, Value.int .i64 0, Value.int .i64 0, Value.int .i64 0, Value.int .i64 0, Value.int .i64 0, Value.int .i64 0, Value.int .i64 0, Value.int .i64 0, Value.int .i64 0, Value.int .i64 0, Value.int .i64 0, Value.int .i64 0, Value.int .i64 0, Value.int .i64 0, Value.int .i64 0, Value.int .i64 0, Value.int .i64 0, Value.int .i64 0, Value.int .i64 0, Value.int .i64 0, Value.int .i64 0, Value.int .i64 0, Value.int .i64 0, Value.int .i64 0, Value.int .i64 0, Value.int .i64 0, Value.int .i64 0, Value.slice none 0 0, Value.slice none 0 0, Value.int .i64 0], .int .i64 0] : Array Value).toList 8 = some ([.agg [.lit (.int .i64 0), .lit (.int .i64 0), .lit (.int .i64 0), .lit (.int .i64 0)], .agg [.lit (.int .i64 0), .lit (.int .i64 0), .agg [.agg [.lit (.int .i64 0), .lit (.int .i64 0), .lit (.int .i64 0), .lit (.int .i64 0), .lit (.int .i64 0), .lit (.int .i64 0), .lit (.int .i64 0), .lit (.int .i64 0), .lit (.int .i64 0), .lit (.int .i64 0), .lit (.int .i64 0), .lit (.int .i64 0)], .agg [.lit (.int .i64 0), .lit (.int .i64 0), .lit (.int .i64 0), .lit (.int .i64 0), .lit (.int .i64 0), .lit (.int .i64 0), .lit (.int .i64 0), .lit (.int .i64 0), .lit (.int .i64 0), .lit (.int .i64 0), .lit (.int .i64 0), .lit (.int .i64 0)], .agg [.lit (.int .i64 0), .lit (.int .i64 0), .lit (.int .i64 0), .lit (.int .i64 0), .lit (.int .i64 0), .lit (.int .i64 0), .lit (.int .i64 0), .lit (.int .i64 0), .lit (.int .i64 0), .lit (.int .i64 0), .lit (.int .i64 0), .lit (.int .i64 0)]], .nil, .nil, .lit (.int .i64 0)], .lit (.int .i64 0)], [], places) :=
  ⟨[], by kernel_rfl⟩
set_option maxRecDepth 100000 in
theorem lifted (os : Os) (started : os.Started) (H : Type) (enc : TypeId × Value → H) (F : Stop.Interp) :
    ReturnsInHanded {} Tryd.checked os 3 .any ((OpenSpec.ofChange Rows.samplesSurviveSpec).preRow enc Tryd.prog Tryd.f3 Rows.samplesSurviveRow.domain false Rows.samplesSurviveRow.laid) (((OpenSpec.ofChange Rows.samplesSurviveSpec).at F).post enc Tryd.prog Tryd.f3 false true false false) := by
  obtain ⟨places, hx⟩ := reads os enc
  refine returnsInHanded_of_row (C := Tryd.checked) (s := OpenSpec.ofChange Rows.samplesSurviveSpec) own started (by kernel_rfl) Tryd.func3
    (witness_row_at (enc := enc) (C := Tryd.checked) false (laidWorld os) #[.agg #[.int .i64 0, .int .i64 0, .int .i64 0, .int .i64 0], .agg #[Value.int .i64 0, Value.int .i64 0, Value.int .i64 0, Value.int .i64 0, Value.int .i64 0, Value.int .i64 0, Value.int .i64 0, Value.int .i64 0, Value.int .i64 0, Value.int .i64 0, Value.int .i64 0, Value.int .i64 0, Value.int .i64 0, Value.int .i64 0, Value.int .i64 0, Value.int .i64 0, Value.int .i64 0, Value.int .i64 0, Value.int .i64 0, Value.int .i64 0, Value.int .i64 0, Value.int .i64 0, Value.int .i64 0, Value.int .i64 0, Value.int .i64 0, Value.int .i64 0, Value.int .i64 0, Value.int .i64 0, Value.int .i64 0, Value.int .i64 0, Value.int .i64 0, Value.int .i64 0, Value.int .i64 0, Value.int .i64 0, Value.int .i64 0, Value.int .i64 0, Value.int .i64 0, Value.int .i64 0, Value.slice none 0 0, Value.slice none 0 0, Value.int .i64 0], .int .i64 0] rfl (by kernel_rfl) (by kernel_rfl) (by kernel_rfl)
      (OpenSpec.preRow_of_cond 8 hx (by kernel_rfl) (fun k hk => by cases hk) (by kernel_rfl) (laid_met os))) ?_
  intro W base args ds gs before hval hW _ _ _ hL _ _
  exact contract H enc W base args ds gs before hval hW hL
theorem said : Rows.SamplesSurviveSaid :=
  OpenClaim.holds_of_cond 3 Tryd.f3 rfl rfl rfl rfl rfl rfl rfl ⟨rfl, rfl, rfl, rfl, rfl⟩ rfl rfl rfl rfl rfl (by kernel_rfl) Tryd.func3 (by kernel_rfl)
    (of_decide_eq_true (by kernel_rfl)) (by unfold Func.isWrapper; first | (rw [if_pos (by decide +kernel)]; kernel_rfl) | (rw [if_neg (by decide +kernel)]; exact ⟨rfl, rfl⟩))
    (fun os started H enc _ F => by rw [OpenClaim.pre_eq_preRow]; exact lifted os started H enc F)
theorem plain (f : FuncId) (fn : Func) (hf : Tryd.pinned.checked.prog.funcNamed "substation/substationtop.SamplesSurvive" = some f) (hfn : Tryd.pinned.checked.prog.funcs[f]? = some fn) :
    false = Tryd.pinned.checked.prog.looks [] ∧ ∀ (j : Nat) t, fn.params[j]? = some t → Tryd.pinned.checked.prog.wantsStandIn t = false := by
  obtain rfl : f = 3 := Option.some.inj ((show Tryd.prog.funcNamed "substation/substationtop.SamplesSurvive" = some 3 by kernel_rfl).symm.trans hf) |>.symm
  obtain rfl : fn = Tryd.f3 := (Option.some.inj (Tryd.func3.symm.trans hfn)).symm
  refine ⟨by kernel_rfl, fun j t ht => ?_⟩
  rw [Tryd.params3] at ht
  have hm := Array.mem_of_getElem? ht
  simp only [List.mem_toArray, List.mem_cons, List.mem_nil_iff, or_false] at hm
  rcases hm with rfl | rfl | rfl
  · exact (show Tryd.prog.wantsStandIn 23 = false by kernel_rfl)
  · exact (show Tryd.prog.wantsStandIn 28 = false by kernel_rfl)
  · exact (show Tryd.prog.wantsStandIn 3 = false by kernel_rfl)
/-- The card. -/
theorem card : Rows.SamplesSurviveCardSaid :=
  Claim7.holds_tied_plain_at .later [] _ _ _ _ said (fun _ h => by cases h) (by kernel_rfl) (fun _ h => by cases h) samplesSurvive_row_tie rfl ⟨rfl, rfl⟩ (by kernel_rfl) rfl plain (by kernel_rfl)
#print axioms card
end Go.Proofs.YtfdpnephjpcnbaaDoor.samplesSurvive

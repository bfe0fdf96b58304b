
/- Numbers as digits of 32 bits: plain laws. No program in sight. -/
import Derived.Test.YtcjflafjmdfanaaGreatDoorBv02
import Derived.Test.YtcjflafjmdfanaaGreatDoorBv01
import Derived.WalkMore
import Derived.Deep.MidRow
import Derived.Laws.Tables
import Derived.Laws.ResultCell
import Derived.Test.YtcjflafjmdfanaaGreatDoorRows
import Derived.Maps.AppendAt
set_option maxHeartbeats 64000000
set_option linter.unusedSimpArgs false
set_option linter.unusedVariables false
/- Weighted currents and their sums: plain arithmetic. No program in sight. -/
namespace Go.Sub
structure Cur where
 i : Cy
 r : Int
 v : Bool
def Cur.k (c : Cur) : Int := if c.v then -c.r else c.r
def Cur.wt (c : Cur) : Cy := c.i.sc c.k
def Cur.OK (c : Cur) : Prop := c.i.In 65536 ∧ 1 ≤ c.r ∧ c.r ≤ 100
def cz : Cy := ⟨0, 0, 0, 0⟩
def sz : Su := ⟨0, 0⟩
def sumW : List Cur → Cy
 | [] => cz
 | c :: l => c.wt.add (sumW l)
def resW : List Cur → Su
 | [] => sz
 | c :: l => c.wt.norm.add (resW l)
theorem cadd_assoc (x y z : Cy) : (x.add y).add z = x.add (y.add z) := by apply Cy.ext' <;> simp only [Cy.add] <;> omega
theorem cadd_comm (x y : Cy) : x.add y = y.add x := by apply Cy.ext' <;> simp only [Cy.add] <;> omega
theorem cadd_zero (x : Cy) : x.add cz = x := by apply Cy.ext' <;> simp only [Cy.add, cz] <;> omega
theorem czero_add (x : Cy) : cz.add x = x := by rw [cadd_comm, cadd_zero]
theorem sadd_assoc (x y z : Su) : (x.add y).add z = x.add (y.add z) := by apply Su.ext' <;> simp only [Su.add] <;> omega
theorem sadd_comm (x y : Su) : x.add y = y.add x := by apply Su.ext' <;> simp only [Su.add] <;> omega
theorem sadd_zero (x : Su) : x.add sz = x := by apply Su.ext' <;> simp only [Su.add, sz] <;> omega
theorem szero_add (x : Su) : sz.add x = x := by rw [sadd_comm, sadd_zero]
theorem sumW_append (l m : List Cur) : sumW (l ++ m) = (sumW l).add (sumW m) := by
 induction l with
 | nil => exact (czero_add _).symm
 | cons c l ih => rw [List.cons_append, sumW, sumW, ih, cadd_assoc]
theorem resW_append (l m : List Cur) : resW (l ++ m) = (resW l).add (resW m) := by
 induction l with
 | nil => exact (szero_add _).symm
 | cons c l ih => rw [List.cons_append, resW, resW, ih, sadd_assoc]
theorem sumW_take {l : List Cur} {k : Nat} (h : k < l.length) : sumW (l.take (k + 1)) = (sumW (l.take k)).add l[k].wt := by
 rw [List.take_add_one, List.getElem?_eq_getElem h, sumW_append]
 simp only [Option.toList, sumW, cadd_zero]
theorem resW_take {l : List Cur} {k : Nat} (h : k < l.length) : resW (l.take (k + 1)) = (resW (l.take k)).add l[k].wt.norm := by
 rw [List.take_add_one, List.getElem?_eq_getElem h, resW_append]
 simp only [Option.toList, resW, sadd_zero]
theorem Cur.OK.k_bd {c : Cur} (h : c.OK) : -100 ≤ c.k ∧ c.k ≤ 100 := by
 obtain ⟨_, h1, h2⟩ := h
 unfold Cur.k
 split <;> omega
theorem Cur.OK.wt_in {c : Cur} (h : c.OK) : c.wt.In 6553600 := (sc_in (l := 65536) (m := 100) h.1 h.k_bd.1 h.k_bd.2).mono (by decide)
theorem Cur.OK.norm_in {c : Cur} (h : c.OK) : c.wt.norm.In 300000000000000 := (Go.Sub.norm_in h.wt_in).mono (by decide)
theorem sumW_in {l : List Cur} (h : ∀ c ∈ l, c.OK) : (sumW l).In (l.length * 6553600) := by
 induction l with
 | nil => unfold sumW cz Cy.In; simp
 | cons c l ih =>
  have h1 := Cy.add_in (h c (by simp)).wt_in (ih fun c hc => h c (by simp [hc]))
  refine Cy.In.mono h1 ?_
  simp only [List.length_cons]
  omega
theorem su_add_in {x y : Su} {l m : Int} (hx : x.In l) (hy : y.In m) : (x.add y).In (l + m) := by
 unfold Su.In Su.add at *
 dsimp only
 omega
theorem resW_in {l : List Cur} (h : ∀ c ∈ l, c.OK) : (resW l).In (l.length * 300000000000000) := by
 induction l with
 | nil => unfold resW sz Su.In; simp
 | cons c l ih =>
  have h1 := su_add_in (h c (by simp)).norm_in (ih fun c hc => h c (by simp [hc]))
  refine Su.In.mono h1 ?_
  simp only [List.length_cons]
  omega
theorem sumW_bd {l : List Cur} (h : ∀ c ∈ l, c.OK) (hl : l.length ≤ 16) : (sumW l).In 105000000 := (sumW_in h).mono (by omega)
theorem resW_bd {l : List Cur} (h : ∀ c ∈ l, c.OK) (hl : l.length ≤ 16) : (resW l).In 5000000000000000 := (resW_in h).mono (by omega)
theorem ok_take {l : List Cur} (h : ∀ c ∈ l, c.OK) (k : Nat) : ∀ c ∈ l.take k, c.OK := fun c hc => h c (List.mem_of_mem_take hc)
end Go.Sub
/- The order of the numbers a + b * sqrt(3). No program in sight. -/
namespace Go.Sub
def Nn (a b : Int) : Prop := (0 ≤ a ∧ 0 ≤ b) ∨ (0 ≤ a ∧ b ≤ 0 ∧ 3 * (b * b) ≤ a * a) ∨ (a ≤ 0 ∧ 0 ≤ b ∧ a * a ≤ 3 * (b * b))
theorem sgnS_eq (x : Su) : sgnS x = if sgn x.a = sgn x.b ∨ sgn x.b = 0 then sgn x.a else if sgn x.a = 0 then sgn x.b else if 3 * (x.b * x.b) < x.a * x.a then sgn x.a else sgn x.b := by
 have e1 := mag_sq x.a
 have e2 := mag_sq x.b
 have e3 : 3 * mag x.b * mag x.b = 3 * (x.b * x.b) := by rw [Int.mul_assoc, e2]
 unfold sgnS
 rw [e1, e3]
end Go.Sub
/- What Compare of package surd, and within and Above of package phasor, return. -/
namespace Go.Sub
def scmpR (x y : Su) : Int × Int := if wi4 1152921504606846976 x.a x.b y.a y.b then (sgnS (x.sub y), 0) else (0, 1)
def aboveB (c : Cy) (p : Int) : Bool := decide (0 ≤ sgnS (c.norm.sub ⟨36 * p * p, 0⟩))
end Go.Sub
namespace Go.Proofs.YtcjflafjmdfanaaGreatDoor
open Go.RowKit Go.Sub
theorem scmp_any (a b a' b' : Int) (w : World) :
  Calls Tryz.prog 104 #[.agg #[.int .i64 a, .int .i64 b], .agg #[.int .i64 a', .int .i64 b']] w fun e w' => e = .returned (.tuple #[.int .i64 (scmpR ⟨a, b⟩ ⟨a', b'⟩).1, .int .i64 (scmpR ⟨a, b⟩ ⟨a', b'⟩).2]) ∧ Q w w' := by
 by_cases h : wi4 1152921504606846976 a b a' b' = true
 ·obtain ⟨l1, l2, l3, l4, m1, m2, m3, m4⟩ := (wi4_iff _ _ _ _ _).1 h
  have hR : scmpR ⟨a, b⟩ ⟨a', b'⟩ = (sgnS ⟨a - a', b - b'⟩, 0) := by simp [scmpR, h, Su.sub]
  rw [hR]
  clear hR
  go_enter Tryz.func104, Tryz.ntmps104
  go_wp2_with (first | (go_at_call 133; refine (swithin4 _ a b a' b' 1152921504606846976 _ (by omega) (by omega) (by simp [go_sem]) (by simp [go_sem]) (by simp [go_sem]) (by simp [go_sem])).p ?_) | (go_at_call 134; refine (sgnS_any _ _ _ (by omega) (by omega) (by omega) (by omega)).q ?_; intro kj))
  go_ret2
  refine ⟨rfl, ?_⟩
  exact Q.i
 have h : wi4 1152921504606846976 a b a' b' = false := by simpa using h
 have hR : scmpR ⟨a, b⟩ ⟨a', b'⟩ = (0, 1) := by simp [scmpR, h]
 rw [hR]
 clear hR
 go_enter Tryz.func104, Tryz.ntmps104
 go_wp2_with (go_at_call 133; refine (swithin4 _ a b a' b' 1152921504606846976 _ (by omega) (by omega) (by simp [go_sem]) (by simp [go_sem]) (by simp [go_sem]) (by simp [go_sem])).p ?_)
 go_ret2
 refine ⟨rfl, ?_⟩
 exact Q.i
theorem scmp_c (x y : Su) (w : World) (hx : x.In 1000000000000000000) (hy : y.In 1000000000000000000) :
  Calls Tryz.prog 104 #[.agg #[.int .i64 x.a, .int .i64 x.b], .agg #[.int .i64 y.a, .int .i64 y.b]] w fun e w' => e = .returned (.tuple #[.int .i64 (sgnS (x.sub y)), .int .i64 0]) ∧ Q w w' := by
 have h := scmp_any x.a x.b y.a y.b w
 have h1 : wi4 1152921504606846976 x.a x.b y.a y.b = true := (wi4_iff _ _ _ _ _).2 (by unfold Su.In at *; omega)
 have e : scmpR x y = (sgnS (x.sub y), 0) := by simp [scmpR, h1]
 rw [show scmpR ⟨x.a, x.b⟩ ⟨y.a, y.b⟩ = _ from e] at h
 exact h
end Go.Proofs.YtcjflafjmdfanaaGreatDoor
/- What apart and Versus of package surd return where the products are small. -/
namespace Go.Sub
def versS (x : Su) (j : Int) (y : Su) (k : Int) : Int := sgnS ⟨j * x.a - k * y.a, j * x.b - k * y.b⟩
def VsSmall (x : Su) (j : Int) (y : Su) (k : Int) : Prop := (-2305843009213693952 ≤ j * x.a ∧ j * x.a ≤ 2305843009213693952) ∧ (-2305843009213693952 ≤ k * y.a ∧ k * y.a ≤ 2305843009213693952) ∧ (-2305843009213693952 ≤ j * x.b ∧ j * x.b ≤ 2305843009213693952) ∧ (-2305843009213693952 ≤ k * y.b ∧ k * y.b ≤ 2305843009213693952)
theorem VsSmall.of {x y : Su} {j k l m : Int} (hx : x.In l) (hy : y.In l) (h1 : -m ≤ j) (h2 : j ≤ m) (h3 : -m ≤ k) (h4 : k ≤ m) (hb : m * l ≤ 2305843009213693952) : VsSmall x j y k := by
 obtain ⟨a1, a2, a3, a4⟩ := hx
 obtain ⟨b1, b2, b3, b4⟩ := hy
 have p1 := bd_mul h1 h2 a1 a2
 have p2 := bd_mul h3 h4 b1 b2
 have p3 := bd_mul h1 h2 a3 a4
 have p4 := bd_mul h3 h4 b3 b4
 unfold VsSmall
 omega
end Go.Sub
namespace Go.Proofs.YtcjflafjmdfanaaGreatDoor
open Go.RowKit Go.Sub
theorem apart_ok (j a k b : Int) (w : World) (j0 : -1152921504606846976 ≤ j) (j1 : j ≤ 1152921504606846976) (a0 : -1152921504606846976 ≤ a) (a1 : a ≤ 1152921504606846976) (k0 : -1152921504606846976 ≤ k) (k1 : k ≤ 1152921504606846976) (b0 : -1152921504606846976 ≤ b) (b1 : b ≤ 1152921504606846976) (p0 : -2305843009213693952 ≤ j * a) (p1 : j * a ≤ 2305843009213693952) (q0 : -2305843009213693952 ≤ k * b) (q1 : k * b ≤ 2305843009213693952) :
  Calls Tryz.prog 135 #[.int .i64 j, .int .i64 a, .int .i64 k, .int .i64 b] w fun e w' => e = .returned (.tuple #[.int .i64 (j * a - k * b), .bool true]) ∧ Q w w' := by
 have hta := fun w => times_ok j a w (by omega) (by omega) (by omega) (by omega) (by omega) (by omega)
 have htb := fun w => times_ok k b w (by omega) (by omega) (by omega) (by omega) (by omega) (by omega)
 have HA := hh hta
 have HB := hh htb
 clear hta htb
 have hw : wi2 2305843009213693952 (j * a) (k * b) = true := (wi2_iff _ _ _).2 (by omega)
 go_enter Tryz.func135, Tryz.ntmps135
 go_wp2_with (first | (go_at_call 148; first | ((with_reducible refine (HA.o _).p ?_)) | ((with_reducible refine (HB.o _).p ?_))) | (go_at_call 133; (with_reducible show Calls _ _ #[_, .slice _ 2 _] _ _); refine (swithin2 _ (j * a) (k * b) 2305843009213693952 _ (by omega) (by omega) (by simp [go_sem]) (by simp [go_sem])).p ?_))
 go_ret2
 refine ⟨rfl, ?_⟩
 exact Q.i
theorem vers_c (x : Su) (j : Int) (y : Su) (k : Int) (w : World) (hx : x.In 1152921504606846976) (hy : y.In 1152921504606846976) (j0 : -1073741824 ≤ j) (j1 : j ≤ 1073741824) (k0 : -1073741824 ≤ k) (k1 : k ≤ 1073741824) (hs : VsSmall x j y k) :
  Calls Tryz.prog 105 #[.agg #[.int .i64 x.a, .int .i64 x.b], .int .i64 j, .agg #[.int .i64 y.a, .int .i64 y.b], .int .i64 k] w fun e w' => e = .returned (.tuple #[.int .i64 (versS x j y k), .int .i64 0]) ∧ Q w w' := by
 obtain ⟨a1, a2, a3, a4⟩ := hx
 obtain ⟨b1, b2, b3, b4⟩ := hy
 obtain ⟨⟨s1, s2⟩, ⟨s3, s4⟩, ⟨s5, s6⟩, s7, s8⟩ := hs
 have h4 : wi4 1152921504606846976 x.a x.b y.a y.b = true := (wi4_iff _ _ _ _ _).2 (by omega)
 have h2 : wi2 1073741824 j k = true := (wi2_iff _ _ _).2 (by omega)
 have hpa := fun w => apart_ok j x.a k y.a w (by omega) (by omega) (by omega) (by omega) (by omega) (by omega) (by omega) (by omega) s1 s2 s3 s4
 have hpb := fun w => apart_ok j x.b k y.b w (by omega) (by omega) (by omega) (by omega) (by omega) (by omega) (by omega) (by omega) s5 s6 s7 s8
 have HA := hh hpa
 have HB := hh hpb
 have HS := hh (fun w => sgnS_any (j * x.a - k * y.a) (j * x.b - k * y.b) w (by omega) (by omega) (by omega) (by omega))
 clear hpa hpb s1 s2 s3 s4 s5 s6 s7 s8
 unfold versS
 go_enter Tryz.func105, Tryz.ntmps105
 go_wp2_with (first | (go_at_call 133; (with_reducible show Calls _ _ #[_, .slice _ 4 _] _ _); refine (swithin4 _ x.a x.b y.a y.b 1152921504606846976 _ (by omega) (by omega) (by simp [go_sem]) (by simp [go_sem]) (by simp [go_sem]) (by simp [go_sem])).p ?_) | (go_at_call 133; (with_reducible show Calls _ _ #[_, .slice _ 2 _] _ _); refine (swithin2 _ j k 1073741824 _ (by omega) (by omega) (by simp [go_sem]) (by simp [go_sem])).p ?_) | (go_at_call 135; first | ((with_reducible refine (HA.o _).q ?_); intro kj) | ((with_reducible refine (HB.o _).q ?_); intro kj)) | (go_at_call 134; (with_reducible refine (HS.o _).q ?_); intro kj))
 go_ret2
 refine ⟨rfl, ?_⟩
 exact Q.i
end Go.Proofs.YtcjflafjmdfanaaGreatDoor
/- What the functions of package differential return for currents in their range. -/
namespace Go.Proofs.YtcjflafjmdfanaaGreatDoor
open Go.RowKit Go.Sub
def RdC (w : World) (g o : Nat) (l : List Cur) : Prop := ∀ k c, l[k]? = some c → w.cell? ⟨g, o + k * 6, none⟩ = some (.int .i64 c.i.a) ∧ w.cell? ⟨g, o + k * 6 + 1, none⟩ = some (.int .i64 c.i.b) ∧ w.cell? ⟨g, o + k * 6 + 2, none⟩ = some (.int .i64 c.i.c) ∧ w.cell? ⟨g, o + k * 6 + 3, none⟩ = some (.int .i64 c.i.d) ∧ w.cell? ⟨g, o + k * 6 + 4, none⟩ = some (.int .i64 c.r) ∧ w.cell? ⟨g, o + k * 6 + 5, none⟩ = some (.bool c.v)
theorem RdC.old {w : World} {g o : Nat} {l : List Cur} (h : RdC w g o l) (hl : l ≠ []) : Old g w := by
 cases l with
 | nil => exact absurd rfl hl
 | cons c l => exact ⟨World.block_lt_of_cell? w ⟨g, o + 0 * 6, none⟩ (h 0 c rfl).1⟩
theorem RdC.q {w w' : World} {g o : Nat} {l : List Cur} (h : RdC w g o l) (hq : Q w w') : RdC w' g o l := by
 intro k c hk
 haveI := h.old (by intro e; rw [e] at hk; simp at hk)
 obtain ⟨kk, rfl⟩ := hq
 simp only [World.cell?_jk]
 exact h k c hk
theorem dvalid_c (c : Cur) (w : World) (hc : c.OK) :
  Calls Tryz.prog 150 #[.agg #[.int .i64 c.i.a, .int .i64 c.i.b, .int .i64 c.i.c, .int .i64 c.i.d, .int .i64 c.r, .bool c.v]] w fun e w' => e = .returned (.bool true) ∧ Q w w' := by
 obtain ⟨⟨h1, h2, h3, h4, h5, h6, h7, h8⟩, h9, h10⟩ := hc
 go_enter Tryz.func150, Tryz.ntmps150
 go_wp2
 refine wp_loop_rounds 5 ?_
 repeat (rw [rounds_succ]; go_wp2)
 go_ret
 refine ⟨rfl, ?_⟩
 exact Q.i
theorem dsum1_c (x y : Cy) (w : World) (hx : x.In 1000000000) (hy : y.In 1000000000) :
  Calls Tryz.prog 129 #[.agg #[.int .i64 x.a, .int .i64 x.b, .int .i64 x.c, .int .i64 x.d], .agg #[.int .i64 y.a, .int .i64 y.b, .int .i64 y.c, .int .i64 y.d]] w fun e w' => e = .returned (.tuple #[.agg #[.int .i64 (x.add y).a, .int .i64 (x.add y).b, .int .i64 (x.add y).c, .int .i64 (x.add y).d], .int .i64 0]) ∧ Q w w' := by
 go_enter Tryz.func129, Tryz.ntmps129
 go_wp2_with (go_at_call 121; refine (add_c x y _ (hx.mono (by decide)) (hy.mono (by decide))).q ?_; intro kj)
 refine bodyPost_ret (v := .tuple #[.agg #[.int .i64 (x.add y).a, .int .i64 (x.add y).b, .int .i64 (x.add y).c, .int .i64 (x.add y).d], .int .i64 0]) (by simp [results, Tryz.results129, go_sem]) rfl ⟨rfl, ?_⟩
 exact Q.i
theorem drestr1_c (s : Su) (y : Cy) (w : World) (hs : s.In 10000000000000000) (hy : y.In 6553600) :
  Calls Tryz.prog 131 #[.agg #[.int .i64 s.a, .int .i64 s.b], .agg #[.int .i64 y.a, .int .i64 y.b, .int .i64 y.c, .int .i64 y.d]] w fun e w' => e = .returned (.tuple #[.agg #[.int .i64 (s.add y.norm).a, .int .i64 (s.add y.norm).b], .int .i64 0]) ∧ Q w w' := by
 have hn : y.norm.In 100000000000000000 := (norm_in hy).mono (by decide)
 go_enter Tryz.func131, Tryz.ntmps131
 go_wp2_with (first | (go_at_call 103; refine (norm_c y _ (hy.mono (by decide))).q ?_; intro kj) | (go_at_call 132; refine (sadd_c s y.norm _ (hs.mono (by decide)) hn).q ?_; intro kj))
 refine bodyPost_ret (v := .tuple #[.agg #[.int .i64 (s.add y.norm).a, .int .i64 (s.add y.norm).b], .int .i64 0]) (by simp [results, Tryz.results131, go_sem]) rfl ⟨rfl, ?_⟩
 exact Q.i
theorem dgatherC_c (g o cap : Nat) (l : List Cur) (w : World) (hl : 1 ≤ l.length) (hl' : l.length ≤ 16) (hr : RdC w g o l) (hok : ∀ c ∈ l, c.OK) :
  Calls Tryz.prog 128 #[.slice (some ⟨g, o, none⟩) l.length cap, .func (.func 129) #[] #[]] w fun e w' => e = .returned (.tuple #[.agg #[.int .i64 (sumW l).a, .int .i64 (sumW l).b, .int .i64 (sumW l).c, .int .i64 (sumW l).d], .int .i64 0]) ∧ Q w w' := by
 haveI := hr.old (by intro e; rw [e] at hl; simp at hl)
 obtain ⟨n, hn⟩ : ∃ n, l.length = n := ⟨_, rfl⟩
 rw [hn] at hl hl' ⊢
 have HN := hh hn
 have HR := hh hr
 have HOK := hh hok
 clear hn hr hok
 go_enter Tryz.func128, Tryz.ntmps128
 go_wp2
 go_loopw [26] (fun i wr => ∃ k : Nat, k ≤ n ∧ i = .int .i64 k ∧ Q ((w.alloc (.cells #[.int .i64 0, .int .i64 0, .int .i64 0, .int .i64 0] 141)).alloc (.cells #[.int .i64 0, .int .i64 0, .int .i64 0, .int .i64 0] 141)) wr) (fun i _ => n - (intOf i).toNat)
 case atStart => exact ⟨0, by omega, rfl, Q.refl _⟩
 case round =>
  obtain ⟨k, hk, rfl, kw, rfl⟩ := hrel
  by_cases hlt : k < n
  ·obtain ⟨c, hc⟩ : ∃ c, l[k]? = some c := ⟨_, List.getElem?_eq_getElem (by rw [HN.o]; exact hlt)⟩
   obtain ⟨c1, c2, c3, c4, c5, c6⟩ := HR.o k c hc
   have hcok := HOK.o c (List.mem_of_getElem? hc)
   clear hc
   go_wp2_with (go_at_call 150; refine (dvalid_c c _ hcok).q ?_; intro kj)
   go_roundw
   case rel =>
    refine ⟨k + 1, by omega, by go_num, ?_⟩
    exact Q.i
   case measure => simp [intOf]; omega
  obtain rfl : k = n := by omega
  clear hlt hk
  go_wp2
  go_loopw [38] (fun i wr => ∃ m : Nat, m ≤ k ∧ i = .int .i64 m ∧ Q ((((w.alloc (.cells #[.int .i64 0, .int .i64 0, .int .i64 0, .int .i64 0] 141)).alloc (.cells #[.int .i64 0, .int .i64 0, .int .i64 0, .int .i64 0] 141)).jk kw).alloc (.cells #[.int .i64 (sumW (l.take m)).a, .int .i64 (sumW (l.take m)).b, .int .i64 (sumW (l.take m)).c, .int .i64 (sumW (l.take m)).d] 141)) wr) (fun i _ => k - (intOf i).toNat)
  case atStart => exact ⟨0, by omega, rfl, Q.refl _⟩
  case round =>
   obtain ⟨m, hm, rfl, kx, rfl⟩ := hrel
   by_cases hlt : m < k
   rotate_left
   ·obtain rfl : m = k := by omega
    have EL : Hid (l.take m = l) := hh (List.take_of_length_le (by rw [HN.o]; omega))
    go_wp2
    refine bodyPost_ret (v := .tuple #[.agg #[.int .i64 (sumW l).a, .int .i64 (sumW l).b, .int .i64 (sumW l).c, .int .i64 (sumW l).d], .int .i64 0]) (by rw [EL.o]; simp [results, Tryz.results128, go_sem]) rfl ⟨rfl, ?_⟩
    exact Q.i
   have hml : m < l.length := by rw [HN.o]; exact hlt
   obtain ⟨c, hc⟩ : ∃ c, l[m]? = some c := ⟨_, List.getElem?_eq_getElem hml⟩
   have hce : l[m] = c := by rw [List.getElem?_eq_getElem hml] at hc; exact Option.some.inj hc
   obtain ⟨c1, c2, c3, c4, c5, c6⟩ := HR.o m c hc
   have hcok := HOK.o c (List.mem_of_getElem? hc)
   have hkb := hcok.k_bd
   have EK := hh (sumW_take hml)
   rw [hce] at EK
   have hs := sumW_bd (ok_take HOK.o m) (by rw [List.length_take]; omega)
   clear hc hce hml
   have SC := hh fun w => scale_fit c.i c.k 65536 100 w hcok.1 hkb.1 hkb.2 (by decide) (by decide) (by decide)
   have AD := hh fun w => dsum1_c (sumW (l.take m)) (c.i.sc c.k) w (hs.mono (by decide)) (hcok.wt_in.mono (by decide))
   obtain ⟨ci, cr, cv⟩ := c
   obtain ⟨_, r1, r2⟩ := hcok
   dsimp only at c1 c2 c3 c4 c5 c6 r1 r2
   unfold Cur.k at SC
   dsimp only at SC
   cases cv
   all_goals
    simp only [if_true, if_false, Bool.false_eq_true] at SC
    go_wp2_with (first | (go_at_call 99; (with_reducible refine (SC.o _).q ?_); intro kj) | (go_at_call 129; refine (AD.o _).q ?_; intro kj))
    go_roundw
    case rel =>
     refine ⟨m + 1, by omega, by go_num, ?_⟩
     rw [EK.o]
     repeat' (first | exact Q.refl _ | refine Q.jk ?_ _ | refine Q.alloc ?_ _ | refine Q.drew ?_)
    case measure => simp [intOf]; omega
theorem dgatherS_c (g o cap : Nat) (l : List Cur) (w : World) (hl : 1 ≤ l.length) (hl' : l.length ≤ 16) (hr : RdC w g o l) (hok : ∀ c ∈ l, c.OK) :
  Calls Tryz.prog 130 #[.slice (some ⟨g, o, none⟩) l.length cap, .func (.func 131) #[] #[]] w fun e w' => e = .returned (.tuple #[.agg #[.int .i64 (resW l).a, .int .i64 (resW l).b], .int .i64 0]) ∧ Q w w' := by
 haveI := hr.old (by intro e; rw [e] at hl; simp at hl)
 obtain ⟨n, hn⟩ : ∃ n, l.length = n := ⟨_, rfl⟩
 rw [hn] at hl hl' ⊢
 have HN := hh hn
 have HR := hh hr
 have HOK := hh hok
 clear hn hr hok
 go_enter Tryz.func130, Tryz.ntmps130
 go_wp2
 go_loopw [26] (fun i wr => ∃ k : Nat, k ≤ n ∧ i = .int .i64 k ∧ Q ((w.alloc (.cells #[.int .i64 0, .int .i64 0] 166)).alloc (.cells #[.int .i64 0, .int .i64 0] 166)) wr) (fun i _ => n - (intOf i).toNat)
 case atStart => exact ⟨0, by omega, rfl, Q.refl _⟩
 case round =>
  obtain ⟨k, hk, rfl, kw, rfl⟩ := hrel
  by_cases hlt : k < n
  ·obtain ⟨c, hc⟩ : ∃ c, l[k]? = some c := ⟨_, List.getElem?_eq_getElem (by rw [HN.o]; exact hlt)⟩
   obtain ⟨c1, c2, c3, c4, c5, c6⟩ := HR.o k c hc
   have hcok := HOK.o c (List.mem_of_getElem? hc)
   clear hc
   go_wp2_with (go_at_call 150; refine (dvalid_c c _ hcok).q ?_; intro kj)
   go_roundw
   case rel =>
    refine ⟨k + 1, by omega, by go_num, ?_⟩
    exact Q.i
   case measure => simp [intOf]; omega
  obtain rfl : k = n := by omega
  clear hlt hk
  go_wp2
  go_loopw [38] (fun i wr => ∃ m : Nat, m ≤ k ∧ i = .int .i64 m ∧ Q ((((w.alloc (.cells #[.int .i64 0, .int .i64 0] 166)).alloc (.cells #[.int .i64 0, .int .i64 0] 166)).jk kw).alloc (.cells #[.int .i64 (resW (l.take m)).a, .int .i64 (resW (l.take m)).b] 166)) wr) (fun i _ => k - (intOf i).toNat)
  case atStart => exact ⟨0, by omega, rfl, Q.refl _⟩
  case round =>
   obtain ⟨m, hm, rfl, kx, rfl⟩ := hrel
   by_cases hlt : m < k
   rotate_left
   ·obtain rfl : m = k := by omega
    have EL : Hid (l.take m = l) := hh (List.take_of_length_le (by rw [HN.o]; omega))
    go_wp2
    refine bodyPost_ret (v := .tuple #[.agg #[.int .i64 (resW l).a, .int .i64 (resW l).b], .int .i64 0]) (by rw [EL.o]; simp [results, Tryz.results130, go_sem]) rfl ⟨rfl, ?_⟩
    exact Q.i
   have hml : m < l.length := by rw [HN.o]; exact hlt
   obtain ⟨c, hc⟩ : ∃ c, l[m]? = some c := ⟨_, List.getElem?_eq_getElem hml⟩
   have hce : l[m] = c := by rw [List.getElem?_eq_getElem hml] at hc; exact Option.some.inj hc
   obtain ⟨c1, c2, c3, c4, c5, c6⟩ := HR.o m c hc
   have hcok := HOK.o c (List.mem_of_getElem? hc)
   have hkb := hcok.k_bd
   have EK := hh (resW_take hml)
   rw [hce] at EK
   have hs := resW_bd (ok_take HOK.o m) (by rw [List.length_take]; omega)
   clear hc hce hml
   have SC := hh fun w => scale_fit c.i c.k 65536 100 w hcok.1 hkb.1 hkb.2 (by decide) (by decide) (by decide)
   have AD := hh fun w => drestr1_c (resW (l.take m)) (c.i.sc c.k) w (hs.mono (by decide)) hcok.wt_in
   obtain ⟨ci, cr, cv⟩ := c
   obtain ⟨_, r1, r2⟩ := hcok
   dsimp only at c1 c2 c3 c4 c5 c6 r1 r2
   unfold Cur.k at SC
   dsimp only at SC
   cases cv
   all_goals
    simp only [if_true, if_false, Bool.false_eq_true] at SC
    go_wp2_with (first | (go_at_call 99; (with_reducible refine (SC.o _).q ?_); intro kj) | (go_at_call 131; refine (AD.o _).q ?_; intro kj))
    go_roundw
    case rel =>
     refine ⟨m + 1, by omega, by go_num, ?_⟩
     rw [EK.o]
     repeat' (first | exact Q.refl _ | refine Q.jk ?_ _ | refine Q.alloc ?_ _ | refine Q.drew ?_)
    case measure => simp [intOf]; omega
end Go.Proofs.YtcjflafjmdfanaaGreatDoor
/- What apart of package surd returns where the products are not small. -/
namespace Go.Proofs.YtcjflafjmdfanaaGreatDoor
open Go.RowKit Go.Sub
theorem apart_no1 (j a k b : Int) (w : World) (j0 : -1152921504606846976 ≤ j) (j1 : j ≤ 1152921504606846976) (a0 : -1152921504606846976 ≤ a) (a1 : a ≤ 1152921504606846976) (k0 : -1152921504606846976 ≤ k) (k1 : k ≤ 1152921504606846976) (b0 : -1152921504606846976 ≤ b) (b1 : b ≤ 1152921504606846976) (pa : ¬ (-4611686018427387904 ≤ j * a ∧ j * a ≤ 4611686018427387904)) (pb : -4611686018427387904 ≤ k * b ∧ k * b ≤ 4611686018427387904) :
  Calls Tryz.prog 135 #[.int .i64 j, .int .i64 a, .int .i64 k, .int .i64 b] w fun e w' => e = .returned (.tuple #[.int .i64 0, .bool false]) ∧ Q w w' := by
 have HA := hh (fun w => times_no j a w (by omega) (by omega) (by omega) (by omega) pa)
 have HB := hh (fun w => times_ok k b w (by omega) (by omega) (by omega) (by omega) pb.1 pb.2)
 clear pa pb
 go_enter Tryz.func135, Tryz.ntmps135
 go_wp2_with (go_at_call 148; first | ((with_reducible refine (HA.o _).p ?_)) | ((with_reducible refine (HB.o _).p ?_)))
 go_ret2
 refine ⟨rfl, ?_⟩
 exact Q.i
theorem apart_no2 (j a k b : Int) (w : World) (j0 : -1152921504606846976 ≤ j) (j1 : j ≤ 1152921504606846976) (a0 : -1152921504606846976 ≤ a) (a1 : a ≤ 1152921504606846976) (k0 : -1152921504606846976 ≤ k) (k1 : k ≤ 1152921504606846976) (b0 : -1152921504606846976 ≤ b) (b1 : b ≤ 1152921504606846976) (pa : ¬ (-4611686018427387904 ≤ j * a ∧ j * a ≤ 4611686018427387904)) (pb : ¬ (-4611686018427387904 ≤ k * b ∧ k * b ≤ 4611686018427387904)) :
  Calls Tryz.prog 135 #[.int .i64 j, .int .i64 a, .int .i64 k, .int .i64 b] w fun e w' => e = .returned (.tuple #[.int .i64 0, .bool false]) ∧ Q w w' := by
 have HA := hh (fun w => times_no j a w (by omega) (by omega) (by omega) (by omega) pa)
 have HB := hh (fun w => times_no k b w (by omega) (by omega) (by omega) (by omega) pb)
 clear pa pb
 go_enter Tryz.func135, Tryz.ntmps135
 go_wp2_with (go_at_call 148; first | ((with_reducible refine (HA.o _).p ?_)) | ((with_reducible refine (HB.o _).p ?_)))
 go_ret2
 refine ⟨rfl, ?_⟩
 exact Q.i
theorem apart_no3 (j a k b : Int) (w : World) (j0 : -1152921504606846976 ≤ j) (j1 : j ≤ 1152921504606846976) (a0 : -1152921504606846976 ≤ a) (a1 : a ≤ 1152921504606846976) (k0 : -1152921504606846976 ≤ k) (k1 : k ≤ 1152921504606846976) (b0 : -1152921504606846976 ≤ b) (b1 : b ≤ 1152921504606846976) (pa : -4611686018427387904 ≤ j * a ∧ j * a ≤ 4611686018427387904) (pb : ¬ (-4611686018427387904 ≤ k * b ∧ k * b ≤ 4611686018427387904)) :
  Calls Tryz.prog 135 #[.int .i64 j, .int .i64 a, .int .i64 k, .int .i64 b] w fun e w' => e = .returned (.tuple #[.int .i64 0, .bool false]) ∧ Q w w' := by
 have HA := hh (fun w => times_ok j a w (by omega) (by omega) (by omega) (by omega) pa.1 pa.2)
 have HB := hh (fun w => times_no k b w (by omega) (by omega) (by omega) (by omega) pb)
 clear pa pb
 go_enter Tryz.func135, Tryz.ntmps135
 go_wp2_with (go_at_call 148; first | ((with_reducible refine (HA.o _).p ?_)) | ((with_reducible refine (HB.o _).p ?_)))
 go_ret2
 refine ⟨rfl, ?_⟩
 exact Q.i
theorem apart_no4 (j a k b : Int) (w : World) (j0 : -1152921504606846976 ≤ j) (j1 : j ≤ 1152921504606846976) (a0 : -1152921504606846976 ≤ a) (a1 : a ≤ 1152921504606846976) (k0 : -1152921504606846976 ≤ k) (k1 : k ≤ 1152921504606846976) (b0 : -1152921504606846976 ≤ b) (b1 : b ≤ 1152921504606846976) (pa : -4611686018427387904 ≤ j * a ∧ j * a ≤ 4611686018427387904) (pb : -4611686018427387904 ≤ k * b ∧ k * b ≤ 4611686018427387904) (hw : wi2 2305843009213693952 (j * a) (k * b) = false) :
  Calls Tryz.prog 135 #[.int .i64 j, .int .i64 a, .int .i64 k, .int .i64 b] w fun e w' => e = .returned (.tuple #[.int .i64 0, .bool false]) ∧ Q w w' := by
 have HA := hh (fun w => times_ok j a w (by omega) (by omega) (by omega) (by omega) pa.1 pa.2)
 have HB := hh (fun w => times_ok k b w (by omega) (by omega) (by omega) (by omega) pb.1 pb.2)
 clear pa pb
 go_enter Tryz.func135, Tryz.ntmps135
 go_wp2_with (first | (go_at_call 148; first | ((with_reducible refine (HA.o _).p ?_)) | ((with_reducible refine (HB.o _).p ?_))) | (go_at_call 133; (with_reducible show Calls _ _ #[_, .slice _ 2 _] _ _); refine (swithin2 _ (j * a) (k * b) 2305843009213693952 _ (by omega) (by omega) (by simp [go_sem]) (by simp [go_sem])).p ?_))
 go_ret2
 refine ⟨rfl, ?_⟩
 exact Q.i
theorem apart_bad (j a k b : Int) (w : World) (j0 : -1152921504606846976 ≤ j) (j1 : j ≤ 1152921504606846976) (a0 : -1152921504606846976 ≤ a) (a1 : a ≤ 1152921504606846976) (k0 : -1152921504606846976 ≤ k) (k1 : k ≤ 1152921504606846976) (b0 : -1152921504606846976 ≤ b) (b1 : b ≤ 1152921504606846976) (h : ¬ ((-2305843009213693952 ≤ j * a ∧ j * a ≤ 2305843009213693952) ∧ (-2305843009213693952 ≤ k * b ∧ k * b ≤ 2305843009213693952))) :
  Calls Tryz.prog 135 #[.int .i64 j, .int .i64 a, .int .i64 k, .int .i64 b] w fun e w' => e = .returned (.tuple #[.int .i64 0, .bool false]) ∧ Q w w' := by
 by_cases pa : -4611686018427387904 ≤ j * a ∧ j * a ≤ 4611686018427387904
 rotate_left
 ·by_cases pb : -4611686018427387904 ≤ k * b ∧ k * b ≤ 4611686018427387904
  ·exact apart_no1 j a k b w j0 j1 a0 a1 k0 k1 b0 b1 pa pb
  exact apart_no2 j a k b w j0 j1 a0 a1 k0 k1 b0 b1 pa pb
 by_cases pb : -4611686018427387904 ≤ k * b ∧ k * b ≤ 4611686018427387904
 rotate_left
 ·exact apart_no3 j a k b w j0 j1 a0 a1 k0 k1 b0 b1 pa pb
 refine apart_no4 j a k b w j0 j1 a0 a1 k0 k1 b0 b1 pa pb ?_
 cases e : wi2 2305843009213693952 (j * a) (k * b)
 ·rfl
 have := (wi2_iff _ _ _).1 e
 exact absurd ⟨⟨this.1, this.2.1⟩, this.2.2⟩ h
end Go.Proofs.YtcjflafjmdfanaaGreatDoor
/- Whole blocks: what lies in a block of a world that is written out; great rows are read and written whole. -/
namespace Go
open Go.RowKit
class Blk (w : World) (n : Nat) (o : outParam Obj) : Prop where
 eq : w.heap[n]? = some o
def World.setBlk (w : World) (n : Nat) (o : Obj) : World := { w with heap := w.heap.setIfInBounds n o }
section
variable {w : World} {n : Nat} {o : Obj}
instance Blk.here (o : Obj) [e : Sz w n] : Blk (w.alloc o) n o := ⟨by have := e.eq; subst this; exact heap_alloc_new w o⟩
instance Blk.alloc (o' : Obj) [h : Blk w n o] : Blk (w.alloc o') n o := ⟨by
 rw [heap_alloc_old w o' (Array.getElem?_eq_some_iff.1 h.eq).1]; exact h.eq⟩
instance Blk.jk (k : Jk) [h : Blk w n o] : Blk (w.jk k) n o := ⟨by
 rw [World.block_jk k n (Array.getElem?_eq_some_iff.1 h.eq).1]; exact h.eq⟩
instance Blk.drew [h : Blk w n o] : Blk w.drew n o := ⟨h.eq⟩
instance Old.blk {w : World} {n : Nat} (o' : Obj) (m : Nat) [h : Old n w] : Old n (w.setBlk m o') := ⟨by have := h.lt; simpa [World.setBlk] using this⟩
instance Sz.blk {w : World} {s : Nat} (o' : Obj) (m : Nat) [h : Sz w s] : Sz (w.setBlk m o') s := ⟨by have := h.eq; simpa [World.setBlk] using this⟩
@[go_sem high] theorem World.setBlk_here (o o' : Obj) [e : Sz w n] : (w.alloc o').setBlk n o = w.alloc o := by
 have := e.eq
 subst this
 show World.mk _ _ _ _ _ = World.mk _ _ _ _ _
 congr 1
 show (w.heap.push o').setIfInBounds w.heap.size o = w.heap.push o
 apply Array.ext_getElem?
 intro j
 simp only [Array.getElem?_setIfInBounds, Array.getElem?_push, Array.size_push]
 by_cases hj : w.heap.size = j
 ·subst hj
  simp
 have : ¬ j = w.heap.size := fun e => hj e.symm
 simp [hj, this]
@[go_sem] theorem World.setBlk_alloc (o o' : Obj) [h : Old n w] : (w.alloc o').setBlk n o = (w.setBlk n o).alloc o' := by
 have := h.lt
 show World.mk _ _ _ _ _ = World.mk _ _ _ _ _
 congr 1
 simp only [World.alloc, World.setBlk]
 apply Array.ext_getElem?
 intro j
 simp only [Array.getElem?_setIfInBounds, Array.getElem?_push, Array.size_push, Array.size_setIfInBounds]
 by_cases hn : n = j
 rotate_left
 ·simp [hn]
 subst hn
 have h1 : ¬ n = w.heap.size := by omega
 have h2 : n < w.heap.size + 1 := by omega
 simp [h1, h2, this]
@[go_sem] theorem World.setBlk_jk (o : Obj) (k : Jk) [h : Old n w] : (w.jk k).setBlk n o = (w.setBlk n o).jk k := by
 have := h.lt
 show World.mk _ _ _ _ _ = World.mk _ _ _ _ _
 congr 1
 simp only [World.jk, World.setBlk]
 apply Array.ext_getElem?
 intro j
 simp only [Array.getElem?_setIfInBounds, Array.getElem?_append, Array.size_append, Array.size_setIfInBounds]
 by_cases hn : n = j
 rotate_left
 ·simp [hn]
 subst hn
 have h2 : n < w.heap.size + k.os.size := by omega
 simp [h2, this]
@[go_sem] theorem World.setBlk_drew (o : Obj) : w.drew.setBlk n o = (w.setBlk n o).drew := rfl
end
theorem Q.setBlk {a w : World} (h : Q a w) {n : Nat} (hn : a.heap.size ≤ n) (o : Obj) : Q a (w.setBlk n o) := by
 have hb := h.below
 refine Q.of_below ⟨hb.os, hb.tape, hb.output, by simpa [World.setBlk] using hb.size, fun i hi => ?_⟩
 have : ¬ n = i := by omega
 simp only [World.setBlk, Array.getElem?_setIfInBounds, this, if_false]
 exact hb.block i hi
class OneC (v : Value) : Prop where
 eq : v.oneCell' = true
class Ones (cs : Array Value) : Prop where
 eq : cs.all (·.oneCell') = true
instance (k : IntKind) (n : Int) : OneC (.int k n) := ⟨rfl⟩
instance (b : Bool) : OneC (.bool b) := ⟨rfl⟩
instance (a : Option Addr) : OneC (.pointer a) := ⟨rfl⟩
instance (a : Option Addr) (n c : Nat) : OneC (.slice a n c) := ⟨rfl⟩
instance (b : ByteArray) : OneC (.string b) := ⟨rfl⟩
instance : Ones (List.toArray []) := ⟨by simp⟩
instance (v : Value) (l : List Value) [h : OneC v] [h' : Ones l.toArray] : Ones (List.toArray (v :: l)) := ⟨by
 have h2 := h'.eq
 simp only [List.all_toArray] at h2 ⊢
 simp only [List.all_cons, h.eq, h2, Bool.and_true]⟩
def bigLoad (t : TypeId) (a : Addr) : Sem Value := loadVar t a
def bigStore (t : TypeId) (a : Addr) (v : Value) : Sem Unit := storeVar t a v
theorem run_bigLoad {P : Program} {w : World} {n : Nat} {cs : Array Value} {t ty : TypeId} {fr : Nat × Nat} {d : TypeDesc} [h : Blk w n (.cells cs t fr)]
  (hu : P.underlying ty = some d) (hd : (match d with | .struct _ | .array _ _ => true | _ => false) = true) (hi : (P.info? ty).map (·.size) = some cs.size) :
  (bigLoad ty ⟨n, 0, none⟩).run P w = .ok (.agg cs) w := run_loadVar_row w n t ty cs fr d h.eq hu hd hi
theorem results_blk1 {P : Program} {fn : Func} {tmps : Array Value} {p : Tmp} {w : World} {n : Nat} {cs : Array Value} {t ty : TypeId} {fr : Nat × Nat} {d : TypeDesc} (h : fn.results = #[.cell p ty])
  (hp : tmps.getD p undef = .pointer (some ⟨n, 0, none⟩)) [hb : Blk w n (.cells cs t fr)]
  (hu : P.underlying ty = some d) (hd : (match d with | .struct _ | .array _ _ => true | _ => false) = true) (hi : (P.info? ty).map (·.size) = some cs.size) :
  (results fn tmps).run P w = .ok (.agg cs) w := results_cell_row h tmps w n t cs fr d hp hb.eq hu hd hi
theorem run_bigStore {P : Program} {w : World} {n : Nat} {cs cs' : Array Value} {t ty : TypeId} [h : Blk w n (.cells cs t (0, 0))]
  (hi : (P.info? ty).map (·.size) = some cs'.size) (hs : cs.size = cs'.size) [h1 : Ones cs'] :
  (bigStore ty ⟨n, 0, none⟩ (.agg cs')).run P w = .ok () (w.setBlk n (.cells cs' t)) := by
 have := run_storeVar_row (P := P) w n t ty cs cs' h.eq hi hs h1.eq
 unfold bigStore
 rw [this]
 congr 1
 unfold World.setRow World.setBlk
 have hlt := (Array.getElem?_eq_some_iff.1 h.eq)
 obtain ⟨hlt, he⟩ := hlt
 congr 1
 apply Array.ext_getElem?
 intro j
 by_cases hj : n = j
 rotate_left
 ·simp [Array.getElem?_modify, hj]
 subst hj
 rw [Array.getElem?_modify, if_pos rfl, Array.getElem?_eq_getElem hlt, he, Array.getElem?_setIfInBounds, if_pos rfl, if_pos hlt]
 rfl
end Go
/- append onto slices that the call has made, in the words of Q. -/
namespace Go
open Go.RowKit
def Apart (v u : Value) : Prop := ∀ g, v.ownBlock = some g → u.ownBlock ≠ some g
theorem Apart.symm {v u : Value} (h : Apart v u) : Apart u v := fun g hg hv => h g hv hg
theorem Apart.nil (u : Value) : Apart (.slice none 0 0) u := fun g hg => by simp [Value.ownBlock] at hg
theorem Apart.nil' (u : Value) : Apart u (.slice none 0 0) := (Apart.nil u).symm
def Grown (base : Nat) (v v' : Value) (w w' : World) : Prop :=
 ∀ (e : TypeId) (size : Nat) (u : Value) (n : Nat) (xs : List Value), w.ownsRow base e size u n xs → Apart v u → w'.ownsRow base e size u n xs ∧ Apart v' u
theorem ownsRow_q {w w' : World} {base : Nat} {e : TypeId} {size : Nat} {u : Value} {n : Nat} {xs : List Value} (h : w.ownsRow base e size u n xs) (hq : Q w w') : w'.ownsRow base e size u n xs := by
 refine h.kept (row := none) ?_ (by cases u.ownBlock <;> simp)
 have hb := hq.below
 exact ⟨hb.os, hb.tape, hb.output, hb.size, fun k hk _ => hb.block k hk⟩
theorem grown_Q {W0 w w' : World} {row : Option Nat} (h : Q W0 w) (hg : w.grownBy w' row) (hr : ∀ g, row = some g → W0.heap.size ≤ g) : Q W0 w' := by
 have hb := h.below
 refine Q.of_below ⟨hg.os.trans hb.os, hg.tape.trans hb.tape, hg.output.trans hb.output, Nat.le_trans hb.size hg.size, fun k hk => ?_⟩
 rw [hg.block k (Nat.lt_of_lt_of_le hk hb.size) (fun e => by have := hr k e.symm; omega)]
 exact hb.block k hk
theorem wpList_app {P : Program} {ops : Array Oper} {rest : List Oper} {o : Oper} {a : Act} {w : World} {Q' : Exit → Act → World → Prop} (hgd : o.guard = none) (s x : Operand) (t : TypeId)
  (ho : o.op = .call { callee := .builtin .append, args := #[s, x], argTypes := #[t, t] })
  (W0 : World) (e : TypeId) (i : TypeInfo) (z : Value) (size bytes : Nat) (ht : P.underlying t = some (.slice e)) (hi : P.info? e = some i) (hz : i.zero = some z)
  (hsize : i.size = size) (hby : i.bytes = bytes) (hzs : z.cells.size = size) (hsz : 0 < size)
  (v : Value) (n : Nat) (xs : List Value) (hs : a.eval s = v) (hown : w.ownsRow W0.heap.size e size v n xs)
  (ad : Addr) (m c : Nat) (news : List Value) (hx : a.eval x = .slice (some ad) m c) (hl : news.length = m * size) (hnews : ∀ j u, news[j]? = some u → w.cell? (ad.add j) = some u) (h1 : ∀ u ∈ news, u.oneCell' = true)
  (h63 : n + m ≤ maxLen) (hbytes : (n + m) * bytes ≤ 140737488355328) (hQ : Q W0 w)
  (h : ∀ v' kk, (W0.jk kk).ownsRow W0.heap.size e size v' (n + m) (xs ++ news) → Grown W0.heap.size v v' w (W0.jk kk) → wpList P ops Q' rest (a.put o.dst v') (W0.jk kk)) : wpList P ops Q' (o :: rest) a w := by
 refine wpList_append_own_at w hgd s x t ho W0.heap.size e i z size bytes ht hi hz hsize hby hzs hsz v n xs hs hown ad m c news hx hl hnews h1 h63 hbytes hQ.below.size ?_
 intro v' w' hown' hgrow _ hat
 have hq := grown_Q hQ hgrow fun g hg => (hown.lt g hg).1
 obtain ⟨kk, rfl⟩ := hq
 refine h v' kk hown' fun e2 size2 u n2 xs2 hu hap => ⟨hu.kept hgrow ?_, fun g hg hug => ?_⟩
 ·cases hub : u.ownBlock with
  | none => exact .inl rfl
  | some g => exact .inr fun e3 => hap g e3.symm hub
 rcases hat with hat | hat
 ·exact hap g (hat ▸ hg) hug
 rw [hat] at hg
 have := (hu.lt g hug).2
 have := Option.some.inj hg
 omega
end Go
namespace Go.Proofs.YtcjflafjmdfanaaGreatDoor
open Go.RowKit
theorem infoInt : ∃ i, Tryz.prog.info? 3 = some i ∧ i.zero = some (.int .i64 0) ∧ i.size = 1 ∧ i.bytes = 8 := by
 have h : (Tryz.prog.info? 3).map (fun i => (i.zero, i.size, i.bytes)) = some (some (.int .i64 0), 1, 8) := by kernel_rfl
 cases hi : Tryz.prog.info? 3 with
 | none => rw [hi] at h; cases h
 | some i =>
  rw [hi] at h
  simp only [Option.map_some, Option.some.injEq, Prod.mk.injEq] at h
  exact ⟨i, rfl, h.1, h.2.1, h.2.2⟩
def RowI (W0 w : World) (v : Value) (zs : List Int) : Prop := w.ownsRow W0.heap.size 3 1 v zs.length (zs.map (Value.int .i64))
theorem RowI.nil (W0 w : World) : RowI W0 w (.slice none 0 0) [] := World.ownsRow_nil _ _ _ _
theorem RowI.q {W0 w w' : World} {v : Value} {zs : List Int} (h : RowI W0 w v zs) (hq : Q w w') : RowI W0 w' v zs := ownsRow_q h hq
theorem RowI.grown {W0 w w' : World} {v v' u : Value} {zs : List Int} (h : RowI W0 w u zs) (hg : Grown W0.heap.size v v' w w') (ha : Apart v u) : RowI W0 w' u zs ∧ Apart v' u := hg _ _ _ _ _ h ha
theorem wpList_app_int {ops : Array Oper} {rest : List Oper} {o : Oper} {a : Act} {w : World} {Q' : Exit → Act → World → Prop} (hgd : o.guard = none) (s x : Operand)
  (ho : o.op = .call { callee := .builtin .append, args := #[s, x], argTypes := #[61, 61] }) (W0 : World) (v : Value) (zs : List Int) (z : Int) (g : Nat)
  (hs : a.eval s = v) (hx : a.eval x = .slice (some ⟨g, 0, none⟩) 1 1) (hown : RowI W0 w v zs) (hg : w.cell? ⟨g, 0, none⟩ = some (.int .i64 z)) (hlen : zs.length < 1000000) (hQ : Q W0 w)
  (h : ∀ v' kk, RowI W0 (W0.jk kk) v' (zs ++ [z]) → Grown W0.heap.size v v' w (W0.jk kk) → wpList Tryz.prog ops Q' rest (a.put o.dst v') (W0.jk kk)) : wpList Tryz.prog ops Q' (o :: rest) a w := by
 obtain ⟨i, hi, hz, hs1, hb⟩ := infoInt
 refine wpList_app hgd s x 61 ho W0 3 i (.int .i64 0) 1 8 Tryz.underlying61 hi hz hs1 hb rfl (by decide) v _ _ hs hown ⟨g, 0, none⟩ 1 1 [.int .i64 z] hx rfl ?_ ?_ (by unfold maxLen; omega) (by omega) hQ ?_
 ·intro j u hj
  match j, hj with
  | 0, hj => simp at hj; subst hj; simpa [Addr.add] using hg
 ·intro u hu
  simp at hu
  subst hu
  rfl
 intro v' kk h1 h2
 refine h v' kk ?_ h2
 unfold RowI
 simpa using h1
theorem RowI.win {W0 w : World} {v : Value} {zs : List Int} (h : RowI W0 w v zs) (hn : zs ≠ []) : ∃ g c, v = .slice (some ⟨g, 0, none⟩) zs.length c ∧ W0.heap.size ≤ g ∧ ∀ k, k < zs.length → w.cell? ⟨g, k, none⟩ = some (.int .i64 (zs.getD k 0)) := by
 have hl : zs.length ≠ 0 := fun e => hn (List.eq_nil_of_length_eq_zero e)
 have hlt := h
 rcases h.2 with ⟨_, h0⟩ | ⟨g, cap, cur, rfl, hb, hg, hc, _, hcs, htake⟩
 ·exact absurd h0 hl
 refine ⟨g, cap, rfl, hb, fun k hk => ?_⟩
 have := hlt.cells (g := g) rfl k (.int .i64 (zs.getD k 0)) (by simp [List.getD, hk])
 have e : (⟨g, 0, none⟩ : Addr).add k = ⟨g, k, none⟩ := by unfold Addr.add; split <;> simp_all
 rw [e] at this
 exact this
end Go.Proofs.YtcjflafjmdfanaaGreatDoor
namespace Go.Sub
abbrev B32 : Int := 4294967296
def dval : List Int → Int
 | [] => 0
 | d :: l => d + 4294967296 * dval l
def Dg (l : List Int) : Prop := ∀ d ∈ l, 0 ≤ d ∧ d < 4294967296
def wt : Nat → Int
 | 0 => 1
 | n + 1 => 4294967296 * wt n
theorem wt_pos (n : Nat) : 0 < wt n := by
 induction n with
 | zero => decide
 | succ n ih => unfold wt; omega
theorem wt_add (n m : Nat) : wt (n + m) = wt n * wt m := by
 induction n with
 | zero => simp [wt]
 | succ n ih => rw [show n + 1 + m = n + m + 1 by omega]; simp only [wt]; rw [ih, Int.mul_assoc]
theorem getD_lt {l : List Int} {n : Nat} (h : n < l.length) : l.getD n 0 = l[n] := by simp [List.getD, h]
theorem getD_ge {l : List Int} {n : Nat} (h : l.length ≤ n) : l.getD n 0 = 0 := by simp [List.getD, List.getElem?_eq_none h]
theorem Dg.nil : Dg [] := fun _ h => by cases h
theorem Dg.cons {d : Int} {l : List Int} (h0 : 0 ≤ d) (h1 : d < 4294967296) (h : Dg l) : Dg (d :: l) := fun x hx => by
 rcases List.mem_cons.1 hx with rfl | hx
 ·exact ⟨h0, h1⟩
 ·exact h x hx
theorem Dg.head {d : Int} {l : List Int} (h : Dg (d :: l)) : 0 ≤ d ∧ d < 4294967296 := h d (List.mem_cons_self ..)
theorem Dg.tail {d : Int} {l : List Int} (h : Dg (d :: l)) : Dg l := fun x hx => h x (List.mem_cons_of_mem _ hx)
theorem Dg.append {l m : List Int} (h : Dg l) (h' : Dg m) : Dg (l ++ m) := fun x hx => (List.mem_append.1 hx).elim (h x) (h' x)
theorem Dg.take {l : List Int} (h : Dg l) (n : Nat) : Dg (l.take n) := fun x hx => h x (List.mem_of_mem_take hx)
theorem Dg.getD {l : List Int} (h : Dg l) (n : Nat) : 0 ≤ l.getD n 0 ∧ l.getD n 0 < 4294967296 := by
 rcases Nat.lt_or_ge n l.length with hn | hn
 ·rw [getD_lt hn]; exact h _ (List.getElem_mem hn)
 rw [getD_ge hn]; omega
theorem dval_append (l m : List Int) : dval (l ++ m) = dval l + wt l.length * dval m := by
 induction l with
 | nil => simp [dval, wt]
 | cons d l ih =>
  simp only [List.cons_append, dval, List.length_cons, wt, ih]
  rw [Int.mul_add, Int.mul_assoc]
  omega
theorem dval_snoc (l : List Int) (d : Int) : dval (l ++ [d]) = dval l + wt l.length * d := by
 rw [dval_append]; simp [dval]
theorem dval_nonneg {l : List Int} (h : Dg l) : 0 ≤ dval l := by
 induction l with
 | nil => exact Int.le_refl _
 | cons d l ih => have := ih h.tail; have := h.head; simp only [dval]; omega
theorem dval_lt {l : List Int} (h : Dg l) : dval l < wt l.length := by
 induction l with
 | nil => exact Int.zero_lt_one
 | cons d l ih => have := ih h.tail; have := h.head; simp only [dval, List.length_cons, wt]; omega
theorem dval_take_succ (l : List Int) (k : Nat) (hk : k < l.length) : dval (l.take (k + 1)) = dval (l.take k) + wt k * l.getD k 0 := by
 rw [List.take_succ_eq_append_getElem hk, dval_snoc, List.length_take, Nat.min_eq_left (by omega), getD_lt hk]
theorem dval_set (l : List Int) (k : Nat) (hk : k < l.length) (d : Int) : dval (l.set k d) = dval l + wt k * (d - l.getD k 0) := by
 induction l generalizing k with
 | nil => simp at hk
 | cons x l ih =>
  match k with
  | 0 => simp [dval, wt]; omega
  | k + 1 =>
   simp only [List.length_cons] at hk
   simp only [List.set_cons_succ, dval, ih k (by omega), List.getD_cons_succ, wt]
   rw [Int.mul_add, Int.mul_assoc]
   omega
theorem Dg.set {l : List Int} (h : Dg l) (k : Nat) {d : Int} (h0 : 0 ≤ d) (h1 : d < 4294967296) : Dg (l.set k d) := fun x hx => by
 rcases List.mem_or_eq_of_mem_set hx with hx | rfl
 ·exact h x hx
 ·exact ⟨h0, h1⟩
def Tr (l : List Int) : Prop := l = [] ∨ l.getD (l.length - 1) 0 ≠ 0
def dig (n : Nat) : List Int := if h : n = 0 then [] else ((n % 4294967296 : Nat) : Int) :: dig (n / 4294967296)
termination_by n
decreasing_by omega
theorem dig_zero : dig 0 = [] := by unfold dig; simp
theorem dig_pos {n : Nat} (h : n ≠ 0) : dig n = ((n % 4294967296 : Nat) : Int) :: dig (n / 4294967296) := by
 conv => lhs; unfold dig
 simp [h]
theorem dig_Dg (n : Nat) : Dg (dig n) := by
 induction n using Nat.strongRecOn with
 | _ n ih =>
  rcases Nat.decEq n 0 with h | h
  ·rw [dig_pos h]; exact Dg.cons (by omega) (by omega) (ih _ (by omega))
  subst h; rw [dig_zero]; exact Dg.nil
theorem dval_dig (n : Nat) : dval (dig n) = n := by
 induction n using Nat.strongRecOn with
 | _ n ih =>
  rcases Nat.decEq n 0 with h | h
  ·rw [dig_pos h]; simp only [dval]; rw [ih _ (by omega)]; omega
  subst h; rw [dig_zero]; rfl
theorem dig_nil {n : Nat} : dig n = [] ↔ n = 0 := by
 constructor
 ·intro h
  rcases Nat.decEq n 0 with h' | h'
  ·rw [dig_pos h'] at h; cases h
  exact h'
 rintro rfl; exact dig_zero
theorem Tr.tail {d : Int} {l : List Int} (h : Tr (d :: l)) : Tr l := by
 rcases l with _ | ⟨e, l⟩
 ·exact .inl rfl
 right
 rcases h with h | h
 ·cases h
 simpa [List.getD] using h
theorem dval_pos {l : List Int} (h : Dg l) (ht : Tr l) (hn : l ≠ []) : 0 < dval l := by
 induction l with
 | nil => exact absurd rfl hn
 | cons d l ih =>
  have hd := h.head
  rcases l with _ | ⟨e, l⟩
  ·rcases ht with ht | ht
   ·cases ht
   simp [List.getD] at ht; simp [dval]; omega
  have := ih h.tail ht.tail (by simp)
  simp only [dval] at this ⊢
  omega
theorem eq_dig {l : List Int} (h : Dg l) (ht : Tr l) : l = dig (dval l).toNat := by
 induction l with
 | nil => simp [dval, dig_zero]
 | cons d l ih =>
  have hd := h.head
  have hp := dval_pos h ht (by simp)
  have hn := dval_nonneg h.tail
  rw [dig_pos (by omega)]
  have e1 : (((dval (d :: l)).toNat % 4294967296 : Nat) : Int) = d := by simp only [dval] at *; omega
  have e2 : (dval (d :: l)).toNat / 4294967296 = (dval l).toNat := by simp only [dval] at *; omega
  rw [e1, e2, ← ih h.tail ht.tail]
theorem dig_Tr (n : Nat) : Tr (dig n) := by
 induction n using Nat.strongRecOn with
 | _ n ih =>
  rcases Nat.decEq n 0 with h | h
  ·rw [dig_pos h]
   rcases ih (n / 4294967296) (by omega) with h1 | h1
   ·right
    rw [h1]
    have : n / 4294967296 = 0 := dig_nil.1 h1
    simp [List.getD]
    omega
   right
   cases e : dig (n / 4294967296) with
   | nil =>
    have : n / 4294967296 = 0 := dig_nil.1 e
    simp [List.getD]
    omega
   | cons x m =>
    rw [e] at h1
    simpa [List.getD] using h1
  subst h; exact .inl dig_zero
theorem dval_take_zeros (l : List Int) (n : Nat) (h : ∀ k, n ≤ k → l.getD k 0 = 0) : dval (l.take n) = dval l := by
 induction l generalizing n with
 | nil => simp
 | cons d l ih =>
  match n with
  | 0 =>
   have h0 := h 0 (Nat.le_refl _)
   simp [List.getD] at h0
   have := ih 0 (fun k _ => by have := h (k + 1) (by omega); simpa [List.getD] using this)
   simp only [List.take_zero, dval] at this ⊢
   omega
  | n + 1 =>
   simp only [List.take_succ_cons, dval]
   rw [ih n (fun k hk => by have := h (k + 1) (by omega); simpa [List.getD] using this)]
theorem Tr.take {l : List Int} {n : Nat} (hn : n ≤ l.length) (h : n = 0 ∨ l.getD (n - 1) 0 ≠ 0) : Tr (l.take n) := by
 rcases Nat.eq_zero_or_pos n with rfl | hp
 ·exact .inl (by simp)
 right
 rcases h with h | h
 ·omega
 rw [List.length_take, Nat.min_eq_left hn]
 have : (l.take n).getD (n - 1) 0 = l.getD (n - 1) 0 := by
  simp only [List.getD_eq_getElem?_getD, List.getElem?_take]
  rw [if_pos (by omega)]
 rw [this]
 exact h
theorem dval_same (l m : List Int) (e : ∀ j, l.getD j 0 = m.getD j 0) : dval l = dval m := by
 induction l generalizing m with
 | nil =>
  have := dval_take_zeros m 0 (fun k _ => by have := e k; simp [List.getD] at this ⊢; omega)
  simpa [dval] using this
 | cons a l ih =>
  match m with
  | [] =>
   have := dval_take_zeros (a :: l) 0 (fun k _ => by have := e k; simp [List.getD] at this ⊢; omega)
   simp only [List.take_zero, dval] at this ⊢
   omega
  | b :: m =>
   have e0 := e 0
   simp [List.getD] at e0
   have := ih m (fun j => by have := e (j + 1); simpa [List.getD] using this)
   simp only [dval]
   omega
theorem dval_order {l m : List Int} (hl : Dg l) (hm : Dg m) (k : Nat) (h1 : k < l.length) (h2 : k < m.length) (he : ∀ j, k < j → l.getD j 0 = m.getD j 0) (hlt : l.getD k 0 < m.getD k 0) : dval l < dval m := by
 induction k generalizing l m with
 | zero =>
  match l, m, h1, h2 with
  | x :: l, y :: m, _, _ =>
   have e : ∀ j, l.getD j 0 = m.getD j 0 := fun j => by have := he (j + 1) (by omega); simpa [List.getD] using this
   have ev : dval l = dval m := dval_same l m e
   simp only [List.getD_cons_zero] at hlt
   simp only [dval]
   omega
 | succ k ih =>
  match l, m, h1, h2 with
  | x :: l, y :: m, h1, h2 =>
   simp only [List.length_cons] at h1 h2
   have := ih hl.tail hm.tail (by omega) (by omega) (fun j hj => by have := he (j + 1) (by omega); simpa [List.getD] using this) (by simpa [List.getD] using hlt)
   have hx := hl.head
   have hy := hm.head
   simp only [dval]
   omega
theorem dval_longer {l m : List Int} (hl : Dg l) (hm : Dg m) (ht : Tr m) (h : l.length < m.length) : dval l < dval m := by
 have hn : m ≠ [] := fun e => by rw [e] at h; simp at h
 rcases ht with ht | ht
 ·exact absurd ht hn
 have h1 := dval_lt hl
 have h2 : dval m = dval (m.take (m.length - 1)) + wt (m.length - 1) * m.getD (m.length - 1) 0 := by
  have := dval_take_succ m (m.length - 1) (by omega)
  rw [show m.length - 1 + 1 = m.length by omega, List.take_length] at this
  exact this
 have h3 := dval_nonneg (hm.take (m.length - 1))
 have h4 := hm.getD (m.length - 1)
 have h5 : wt l.length ≤ wt (m.length - 1) := by
  rw [show m.length - 1 = l.length + (m.length - 1 - l.length) by omega, wt_add]
  have := wt_pos l.length
  have h6 := wt_pos (m.length - 1 - l.length)
  have := Int.mul_le_mul_of_nonneg_left (show 1 ≤ wt (m.length - 1 - l.length) by omega) (show 0 ≤ wt l.length by omega)
  omega
 have h7 := wt_pos (m.length - 1)
 have h8 := Int.mul_le_mul_of_nonneg_left (show 1 ≤ m.getD (m.length - 1) 0 by omega) (show 0 ≤ wt (m.length - 1) by omega)
 omega
theorem dig_length_le {n k : Nat} (h : (n : Int) < wt k) : (dig n).length ≤ k := by
 rcases Nat.lt_or_ge k (dig n).length with hk | hk
 ·exfalso
  have := dval_longer (l := List.replicate k 0) (m := dig n) (fun d hd => by have := List.eq_of_mem_replicate hd; omega) (dig_Dg n) (dig_Tr n) (by simpa using hk)
  -- the value of k zeros plus the weight
  have hn : dig n ≠ [] := fun e => by rw [e] at hk; simp at hk
  have ht := (dig_Tr n).resolve_left hn
  have h2 := dval_take_succ (dig n) ((dig n).length - 1) (by omega)
  rw [show (dig n).length - 1 + 1 = (dig n).length by omega, List.take_length, dval_dig] at h2
  have h3 := dval_nonneg ((dig_Dg n).take ((dig n).length - 1))
  have h4 := (dig_Dg n).getD ((dig n).length - 1)
  have h7 := wt_pos ((dig n).length - 1)
  have h8 := Int.mul_le_mul_of_nonneg_left (show 1 ≤ (dig n).getD ((dig n).length - 1) 0 by omega) (show 0 ≤ wt ((dig n).length - 1) by omega)
  have h5 : wt k ≤ wt ((dig n).length - 1) := by
   rw [show (dig n).length - 1 = k + ((dig n).length - 1 - k) by omega, wt_add]
   have := wt_pos k
   have h6 := wt_pos ((dig n).length - 1 - k)
   have := Int.mul_le_mul_of_nonneg_left (show 1 ≤ wt ((dig n).length - 1 - k) by omega) (show 0 ≤ wt k by omega)
   omega
  omega
 exact hk
end Go.Sub

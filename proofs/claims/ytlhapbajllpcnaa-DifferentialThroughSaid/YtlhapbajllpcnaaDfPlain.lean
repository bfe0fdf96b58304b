
/- Weighted currents and their sums: plain arithmetic. No program in sight. -/
import Derived.Test.YtlhapbajllpcnaaCyT
import Derived.Test.YtlhapbajllpcnaaCyL2
import Derived.Test.YtlhapbajllpcnaaNmPlain
import Derived.Test.YtlhapbajllpcnaaSuC
namespace Go.Sub
/-- A current, the ratio of its transformer, and whether it is counted in reverse. -/
structure Cur where
  i : Cy
  r : Int
  v : Bool
def Cur.k (c : Cur) : Int := if c.v then -c.r else c.r
def Cur.wt (c : Cur) : Cy := c.i.sc c.k
def Cur.OK (c : Cur) : Prop := c.i.In 65536 ∧ 1 ≤ c.r ∧ c.r ≤ 100
def cz : Cy := ⟨0, 0, 0, 0⟩
def sz : Su := ⟨0, 0⟩
def sumW : List Cur → Cy
  | [] => cz
  | c :: l => c.wt.add (sumW l)
def resW : List Cur → Su
  | [] => sz
  | c :: l => c.wt.norm.add (resW l)
theorem cadd_assoc (x y z : Cy) : (x.add y).add z = x.add (y.add z) := by apply Cy.ext' <;> simp only [Cy.add] <;> omega
theorem cadd_comm (x y : Cy) : x.add y = y.add x := by apply Cy.ext' <;> simp only [Cy.add] <;> omega
theorem cadd_zero (x : Cy) : x.add cz = x := by apply Cy.ext' <;> simp only [Cy.add, cz] <;> omega
theorem czero_add (x : Cy) : cz.add x = x := by rw [cadd_comm, cadd_zero]
theorem sadd_assoc (x y z : Su) : (x.add y).add z = x.add (y.add z) := by apply Su.ext' <;> simp only [Su.add] <;> omega
theorem sadd_comm (x y : Su) : x.add y = y.add x := by apply Su.ext' <;> simp only [Su.add] <;> omega
theorem sadd_zero (x : Su) : x.add sz = x := by apply Su.ext' <;> simp only [Su.add, sz] <;> omega
theorem szero_add (x : Su) : sz.add x = x := by rw [sadd_comm, sadd_zero]
theorem sumW_append (l m : List Cur) : sumW (l ++ m) = (sumW l).add (sumW m) := by
  induction l with
  | nil => exact (czero_add _).symm
  | cons c l ih => rw [List.cons_append, sumW, sumW, ih, cadd_assoc]
theorem resW_append (l m : List Cur) : resW (l ++ m) = (resW l).add (resW m) := by
  induction l with
  | nil => exact (szero_add _).symm
  | cons c l ih => rw [List.cons_append, resW, resW, ih, sadd_assoc]
theorem sumW_take {l : List Cur} {k : Nat} (h : k < l.length) : sumW (l.take (k + 1)) = (sumW (l.take k)).add l[k].wt := by
  rw [List.take_add_one, List.getElem?_eq_getElem h, sumW_append]
  simp only [Option.toList, sumW, cadd_zero]
theorem resW_take {l : List Cur} {k : Nat} (h : k < l.length) : resW (l.take (k + 1)) = (resW (l.take k)).add l[k].wt.norm := by
  rw [List.take_add_one, List.getElem?_eq_getElem h, resW_append]
  simp only [Option.toList, resW, sadd_zero]
theorem Cur.OK.k_bd {c : Cur} (h : c.OK) : -100 ≤ c.k ∧ c.k ≤ 100 := by
  obtain ⟨_, h1, h2⟩ := h
  unfold Cur.k
  split <;> omega
theorem Cur.OK.wt_in {c : Cur} (h : c.OK) : c.wt.In 6553600 := (sc_in (l := 65536) (m := 100) h.1 h.k_bd.1 h.k_bd.2).mono (by decide)
theorem Cur.OK.norm_in {c : Cur} (h : c.OK) : c.wt.norm.In 300000000000000 := (Go.Sub.norm_in h.wt_in).mono (by decide)
theorem sumW_in {l : List Cur} (h : ∀ c ∈ l, c.OK) : (sumW l).In (l.length * 6553600) := by
  induction l with
  | nil => unfold sumW cz Cy.In; simp
  | cons c l ih =>
    have h1 := Cy.add_in (h c (by simp)).wt_in (ih fun c hc => h c (by simp [hc]))
    refine Cy.In.mono h1 ?_
    simp only [List.length_cons]
    omega
theorem su_add_in {x y : Su} {l m : Int} (hx : x.In l) (hy : y.In m) : (x.add y).In (l + m) := by
  unfold Su.In Su.add at *
  dsimp only
  omega
theorem resW_in {l : List Cur} (h : ∀ c ∈ l, c.OK) : (resW l).In (l.length * 300000000000000) := by
  induction l with
  | nil => unfold resW sz Su.In; simp
  | cons c l ih =>
    have h1 := su_add_in (h c (by simp)).norm_in (ih fun c hc => h c (by simp [hc]))
    refine Su.In.mono h1 ?_
    simp only [List.length_cons]
    omega
theorem sumW_bd {l : List Cur} (h : ∀ c ∈ l, c.OK) (hl : l.length ≤ 16) : (sumW l).In 105000000 := (sumW_in h).mono (by omega)
theorem resW_bd {l : List Cur} (h : ∀ c ∈ l, c.OK) (hl : l.length ≤ 16) : (resW l).In 5000000000000000 := (resW_in h).mono (by omega)
theorem ok_take {l : List Cur} (h : ∀ c ∈ l, c.OK) (k : Nat) : ∀ c ∈ l.take k, c.OK := fun c hc => h c (List.mem_of_mem_take hc)
end Go.Sub

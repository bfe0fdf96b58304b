
/- PhasorParseval: the walk. -/
import Derived.Test.YtbonaopcoeconaaDoorPhB
import Derived.Test.YtbonaopcoeconaaDoorPhLaws
import Derived.Test.YtbonaopcoeconaaDoorSuC
namespace Go.Sub
theorem sumS_in {y : Nat → Su} {l : Int} (n : Nat) (h : ∀ k, k < n → (y k).In l) : (sumS y n).In (n * l) := by
  induction n with
  | zero => unfold Su.In sumS; simp
  | succ n ih =>
    have h1 := ih fun k hk => h k (by omega)
    have h2 := h n (by omega)
    have e : ((n + 1 : Nat) : Int) * l = n * l + l := by rw [Int.natCast_add, Int.add_mul]; simp
    rw [e]
    unfold Su.In at *
    show _ ≤ (sumS y n).a + (y n).a ∧ (sumS y n).a + (y n).a ≤ _ ∧ _ ≤ (sumS y n).b + (y n).b ∧ (sumS y n).b + (y n).b ≤ _
    omega
end Go.Sub
namespace Go.Proofs.YtbonaopcoeconaaDoor
open Go.RowKit Go.Sub
theorem cells48_get (y : Nat → Cy) (k : Nat) (hk : k < 12) : (cells48 y 12)[k * 4]? = some (.int .i64 (y k).a) ∧ (cells48 y 12)[k * 4 + 1]? = some (.int .i64 (y k).b) ∧ (cells48 y 12)[k * 4 + 2]? = some (.int .i64 (y k).c) ∧ (cells48 y 12)[k * 4 + 3]? = some (.int .i64 (y k).d) := by
  have hk' : k = 0 ∨ k = 1 ∨ k = 2 ∨ k = 3 ∨ k = 4 ∨ k = 5 ∨ k = 6 ∨ k = 7 ∨ k = 8 ∨ k = 9 ∨ k = 10 ∨ k = 11 := by omega
  rcases hk' with rfl | rfl | rfl | rfl | rfl | rfl | rfl | rfl | rfl | rfl | rfl | rfl <;> exact ⟨rfl, rfl, rfl, rfl⟩
set_option maxRecDepth 100000 in
set_option maxHeartbeats 4000000 in
theorem phParseval_walk (x : Nat → Int) (w : World) (hr : RootsOK w) :
    Calls Tryd.prog 11 #[.agg (cellsI x 12)] w fun e w' => e = .returned (.bool true) ∧ Q w w' := by
  have ok : WinOK (fun k => winV (x k)) 16383 := winV_ok x
  have OK := Lib.hid ok
  have eb := enrg_bd 12 ok
  have ih : ∀ j : Int, (harm (fun k => winV (x k))  j).In 1000000 := fun j => (harm_in j ok).mono (by decide)
  have IH := Lib.hid ih
  have ins : ∀ k, k ≤ 12 → (sumS (fun h => (harm (fun k => winV (x k)) (h : Int)).norm)  k).In 100000000000000 := fun k hk => (sumS_in k fun j _ => norm_in (ih j)).mono (by omega)
  have INS := Lib.hid ins
  have PV := parseval (fun k => winV (x k))
  clear ok ih ins
  go_enter Tryd.func11, Tryd.ntmps11
  go_wp2_with (first | (go_at_call 24; refine (known20_c _ (by repeat' (first | with_reducible exact hr | refine RootsOK.alloc ?_ _ | refine RootsOK.jk ?_ _ | refine RootsOK.drew ?_))).mono ?_; rintro e w' ⟨rfl, kj, rfl⟩) | (go_at_call 36; refine (window_c x _).mono ?_; rintro e w' ⟨g, c, rfl, ⟨kx, rfl⟩, hwin⟩; have HV := Lib.hid hwin; clear hwin) | (go_at_call 31; refine (phall_c _ _ _ (fun k => winV (x k)) _ (by repeat' (first | with_reducible exact hr | refine RootsOK.alloc ?_ _ | refine RootsOK.jk ?_ _ | refine RootsOK.drew ?_)) (HV.out.q (by repeat' (first | exact Q.refl _ | refine Q.alloc ?_ _ | refine Q.jk ?_ _ | refine Q.drew ?_))) OK.out).mono ?_; rintro e w' ⟨rfl, ka, rfl⟩) | (go_at_call 29; refine (phenergy_c _ _ _ (fun k => winV (x k)) _ (HV.out.q (by repeat' (first | exact Q.refl _ | refine Q.alloc ?_ _ | refine Q.jk ?_ _ | refine Q.drew ?_))) OK.out).mono ?_; rintro e w' ⟨rfl, rfl⟩))
  go_loopw [9] (fun i wr => ∃ k : Nat, k ≤ 12 ∧ i = .int .i64 k ∧ Q ((((((w.alloc (Obj.cells (cellsI x 12) 41)).jk kj).jk kx).jk ka).alloc (Obj.cells (cells48 (fun h : Nat => harm (fun k => winV (x k)) (h : Int)) 12) 52)).alloc (Obj.cells #[.int .i64 (sumS (fun h => (harm (fun k => winV (x k)) (h : Int)).norm)  k).a, .int .i64 (sumS (fun h => (harm (fun k => winV (x k)) (h : Int)).norm)  k).b] 39)) wr) (fun i _ => 12 - (intOf i).toNat)
  case atStart => exact ⟨0, by omega, rfl, Q.refl _⟩
  case round =>
    obtain ⟨k, hk, rfl, kw, rfl⟩ := hrel
    have hins := INS.out k hk
    by_cases hlt : k < 12
    · have g1 := cells48_get (fun h : Nat => harm (fun k => winV (x k)) (h : Int)) k hlt
      obtain ⟨m, hm⟩ : ∃ m, (-(k : Int) % 12).toNat = m := ⟨_, rfl⟩
      have hm12 : m < 12 := by omega
      have hkm : ((k : Int) + (m : Int)) % 12 = 0 := by omega
      have g2 := cells48_get (fun h : Nat => harm (fun k => winV (x k)) (h : Int)) m hm12
      obtain ⟨a0, a1, a2, a3⟩ := g1
      obtain ⟨b0, b1, b2, b3⟩ := g2
      have kk : (0 : Int) ≤ (k : Int) := by omega
      have kk2 : (k : Int) < 12 := by omega
      have i1 := IH.out k
      have i2 := IH.out (m : Int)
      have hn := norm_in i1
      have EC : (harm (fun k => winV (x k))  (m : Int)).conj = harm (fun k => winV (x k))  (k : Int) := harm_conj _ _ _ hkm
      clear hkm
      clear PV
      go_wp2_with (first | (go_at_call 38; refine (norm_c _ _ (Cy.In.mono (by with_reducible assumption) (by decide))).mono ?_; rintro e w' ⟨rfl, kj, rfl⟩) | (go_at_call 39; refine (sadd_c _ _ _ (Su.In.mono (by with_reducible assumption) (by decide)) (Su.In.mono (by with_reducible assumption) (by decide))).mono ?_; rintro e w' ⟨rfl, kj, rfl⟩) | (go_at_call 19; refine (conj_c _ _ (Cy.In.mono (by with_reducible assumption) (by decide))).mono ?_; rintro e w' ⟨rfl, kj, rfl⟩))
      try simp only [List.append]
      refine wp_region_jk (by kernel_rfl) (by kernel_rfl) ?_
      repeat (go_big_quiet_step (fail))
      refine wpQuiet_nil ?_
      intro _ hw'
      obtain ⟨kq, rfl⟩ := hw'
      go_wp2
      go_roundw
      case rel =>
        refine ⟨k + 1, by omega, by go_num, ?_⟩
        repeat' (first | exact Q.refl _ | refine Q.alloc ?_ _ | refine Q.jk ?_ _ | refine Q.drew ?_)
      case measure => simp [intOf]; omega
    · obtain rfl : k = 12 := by omega
      have ea : (sumS (fun h => (harm (fun k => winV (x k)) (h : Int)).norm)  12).a = 12 * enrg (fun k => winV (x k)) 12 := congrArg Su.a PV
      have ebb : (sumS (fun h => (harm (fun k => winV (x k)) (h : Int)).norm)  12).b = 0 := congrArg Su.b PV
      clear PV
      rw [ea, ebb]
      go_wp2
      go_ret
      refine ⟨rfl, ?_⟩
      repeat' (first | exact Q.refl _ | refine Q.alloc ?_ _ | refine Q.jk ?_ _ | refine Q.drew ?_)
end Go.Proofs.YtbonaopcoeconaaDoor

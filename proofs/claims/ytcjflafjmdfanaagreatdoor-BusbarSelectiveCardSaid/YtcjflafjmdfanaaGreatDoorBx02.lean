
/- The samples of a bay that is no member of a section do not matter to it (plain law). -/
import Derived.Test.YtcjflafjmdfanaaGreatDoorBx01
import Derived.Test.YtcjflafjmdfanaaGreatDoorBv24
set_option linter.unusedSimpArgs false
set_option linter.unusedVariables false
namespace Go.Proofs.YtcjflafjmdfanaaGreatDoor
open Go.RowKit Go.Sub
def updW (W : List Int) (b : Nat) (ks : List Int) : List Int := W.take (b * 72) ++ ks ++ W.drop (b * 72 + 72)
theorem updW_len {W : List Int} {b n : Nat} {ks : List Int} (hW : W.length = n * 72) (hk : ks.length = 72) (hb : b < n) : (updW W b ks).length = n * 72 := by
 unfold updW
 simp only [List.length_append, List.length_take, List.length_drop, hk, hW]
 omega
theorem updW_other {W : List Int} {b n k : Nat} {ks : List Int} (hW : W.length = n * 72) (hk : ks.length = 72) (hb : b < n) (hne : k ≠ b) {i : Nat} (hi : i < 72) : (updW W b ks).getD (k * 72 + i) 0 = W.getD (k * 72 + i) 0 := by
 unfold updW
 rw [List.getD_eq_getElem?_getD, List.getD_eq_getElem?_getD]
 congr 1
 by_cases h : k < b
 ·rw [List.getElem?_append_left (by simp only [List.length_append, List.length_take, hk, hW]; omega), List.getElem?_append_left (by simp only [List.length_take, hW]; omega), List.getElem?_take, if_pos (by omega)]
 rw [List.getElem?_append_right (by simp only [List.length_append, List.length_take, hk, hW]; omega), List.getElem?_drop]
 congr 1
 simp only [List.length_append, List.length_take, hk, hW]
 omega
theorem updW_same {W : List Int} {b n : Nat} {ks : List Int} (hW : W.length = n * 72) (hk : ks.length = 72) (hb : b < n) {i : Nat} (hi : i < 72) : (updW W b ks)[b * 72 + i]? = ks[i]? := by
 unfold updW
 rw [List.getElem?_append_left (by simp only [List.length_append, List.length_take, hk, hW]; omega), List.getElem?_append_right (by simp only [List.length_take, hW]; omega)]
 congr 1
 simp only [List.length_take, hW]
 omega
theorem harm_congr {x y : Nat → Int} (h : Int) (he : ∀ j, j < 12 → x j = y j) : harm x h = harm y h := by
 unfold harm
 exact sumC_congr 12 fun k hk => by unfold hterm; rw [he k hk]
def SameW (W W' : List Int) (ml : List (Int × Int)) : Prop := ∀ m ∈ ml, ∀ ph j, ph < 3 → j < 12 → wvF W m.1.toNat ph j = wvF W' m.1.toNat ph j
theorem cuM_congr {s : Sta} {W W' : List Int} {ml : List (Int × Int)} (h : SameW W W' ml) {ph : Nat} (hp : ph < 3) : ml.map (cuM s W ph) = ml.map (cuM s W' ph) := by
 apply List.map_congr_left
 intro m hm
 unfold cuM
 rw [harm_congr 1 (fun j hj => h m hm ph j hp hj)]
theorem opM_congr {s : Sta} {W W' : List Int} {r : Rel} {ml : List (Int × Int)} (h : SameW W W' ml) {ph : Nat} (hp : ph < 3) : opM s W r ml ph = opM s W' r ml ph := by
 unfold opM
 rw [cuM_congr h hp]
theorem dstB_congr {x y : Nat → Int} (p : Int) (h1 : harm x 1 = harm y 1) (h2 : harm x 2 = harm y 2) : dstB x p = dstB y p := by
 unfold dstB
 rw [h1, h2]
theorem any_congr' {α : Type} {f g : α → Bool} : ∀ l : List α, (∀ x ∈ l, f x = g x) → l.any f = l.any g
 | [], _ => rfl
 | a :: l, h => by rw [List.any_cons, List.any_cons, h a List.mem_cons_self, any_congr' l fun x hx => h x (List.mem_cons_of_mem _ hx)]
theorem dsM_congr {W W' : List Int} {hm : Int} {ml : List (Int × Int)} (h : SameW W W' ml) {ph : Nat} (hp : ph < 3) : dsM W hm ml ph = dsM W' hm ml ph := by
 have : (ml.any fun m => dstB (wvF W m.1.toNat ph) hm) = ml.any fun m => dstB (wvF W' m.1.toNat ph) hm :=
  any_congr' ml fun m hm' => dstB_congr hm (harm_congr 1 fun j hj => h m hm' ph j hp hj) (harm_congr 2 fun j hj => h m hm' ph j hp hj)
 unfold dsM
 rw [this]
theorem prS_congr {s : Sta} {W W' : List Int} {G : List Bool} {r : Rel} {x : Sec} (h : SameW W W' x.mem) :
  (prS s W G r x).gd = (prS s W' G r x).gd ∧ ∀ i, i < 3 → (prS s W G r x).op i = (prS s W' G r x).op i ∧ (prS s W G r x).bl i = (prS s W' G r x).bl i := by
 unfold prS
 split
 ·exact ⟨rfl, fun i hi => ⟨opM_congr h hi, dsM_congr h hi⟩⟩
 exact ⟨rfl, fun _ _ => ⟨rfl, rfl⟩⟩
theorem prS_tr {s : Sta} {W : List Int} {G : List Bool} {r : Rel} {x : Sec} (h : (prS s W G r x).tr = true) : (prS s W G r x).gd = true := by
 unfold prS at h ⊢
 split at h
 ·rename_i e
  rw [if_pos e]
 cases h
theorem sameW_upd {W : List Int} {b n : Nat} {ks : List Int} (hW : W.length = n * 72) (hk : ks.length = 72) (hb : b < n) {ml : List (Int × Int)} (hm : ∀ m ∈ ml, ∃ k : Nat, m.1 = (k : Int)) (hno : (ml.any fun m => decide (m.1 = (b : Int))) = false) : SameW W (updW W b ks) ml := by
 intro m hm' ph j hp hj
 obtain ⟨k, hk'⟩ := hm m hm'
 have hne : k ≠ b := by
  rintro rfl
  have := List.any_eq_false.1 hno m hm'
  exact this (by simpa using hk')
 have e : m.1.toNat = k := by rw [hk']; exact Int.toNat_natCast k
 rw [e]
 unfold wvF
 rw [Nat.add_assoc, updW_other hW hk hb hne (by omega)]
end Go.Proofs.YtcjflafjmdfanaaGreatDoor


/- The names ahead of an element, as the reference 05 lists them. -/
import Derived.Test.YtcjflafjmdfanaaGreatDoorBv24
import Derived.Test.YtcjflafjmdfanaaGreatDoorBv25
set_option maxHeartbeats 64000000
set_option maxRecDepth 100000
set_option linter.unusedSimpArgs false
set_option linter.unusedVariables false
namespace Go.Proofs.YtcjflafjmdfanaaGreatDoor
open Go.RowKit Go.Sub
attribute [local go_sem ↓] Go.wp_at_zero Go.wp_at_succ
def RowS (W0 w : World) (v : Value) (l : List ByteArray) : Prop := w.ownsRow W0.heap.size 9 1 v l.length (l.map Value.string)
theorem strs_one (l : List ByteArray) : ∀ u ∈ l.map Value.string, u.oneCell' = true := fun u hu => by
 obtain ⟨z, _, rfl⟩ := List.mem_map.1 hu
 rfl
theorem wpList_app_strs {ops : Array Oper} {rest : List Oper} {o : Oper} {a : Act} {w : World} {Q' : Exit → Act → World → Prop} (hgd : o.guard = none) (s x : Operand)
  (ho : o.op = .call { callee := .builtin .append, args := #[s, x], argTypes := #[22, 22] }) (W0 : World) (v : Value) (l : List ByteArray) (g og m c : Nat) (news : List ByteArray)
  (hs : a.eval s = v) (hx : a.eval x = .slice (some ⟨g, og, none⟩) m c) (hown : RowS W0 w v l) (hl : news.length = m) (hg : ∀ j u, (news.map Value.string)[j]? = some u → w.cell? ⟨g, og + j, none⟩ = some u) (hlen : l.length < 1000) (hm : m < 1000) (hQ : Q W0 w)
  (h : ∀ A' c' kk, RowS W0 (W0.jk kk) (.slice A' (l.length + m) c') (l ++ news) → wpList Tryz.prog ops Q' rest (a.put o.dst (.slice A' (l.length + m) c')) (W0.jk kk)) : wpList Tryz.prog ops Q' (o :: rest) a w := by
 obtain ⟨i, hi, hz, hs1, hb⟩ := infoB
 refine wpList_app hgd s x 22 ho W0 9 i _ 1 16 Tryz.underlying22 hi hz hs1 hb rfl (by decide) v _ _ hs hown ⟨g, og, none⟩ m c (news.map Value.string) hx (by simp [hl]) ?_ (strs_one _) (by unfold maxLen; omega) (by omega) hQ ?_
 ·intro j u hj
  have e : (⟨g, og, none⟩ : Addr).add j = ⟨g, og + j, none⟩ := by unfold Addr.add; split <;> simp_all
  rw [e]
  exact hg j u hj
 intro v' kk h1 h2
 obtain ⟨A', c', rfl⟩ := own_slice' h1
 refine h A' c' kk ?_
 unfold RowS
 rw [List.length_append, hl, List.map_append]
 exact h1
def nmsL (s : Sta) (i j k q : Nat) : List ByteArray := s.buses.take i ++ (s.lines.take j).map Lnr.nm ++ (s.srcs.take k).map Srr.nm ++ (s.bays.take q).map Byr.nm
def RetStr (l : List ByteArray) (w : World) (e : Ending) (w' : World) : Prop := ∃ (A : Option Addr) (c : Nat), e = .returned (.slice A l.length c) ∧ Q w w' ∧ RdV w' A l.length c 1 (l.map Value.string)
theorem build0s : ∀ w, (Instr.buildSlice 22 0 #[]).run Tryz.prog w = .ok (.slice (some ⟨w.heap.size, 0, none⟩) 0 0) (w.alloc (.cells #[] 9)) := by
 intro w
 obtain ⟨i, hi, hz, hs1, hb⟩ := infoB
 simp [Instr.buildSlice, run_underlying Tryz.underlying22, sizeOf, typeInfo, hi, newRow, Instr.fill]
 rw [show Array.range 0 = #[] from rfl, Array.map_empty]
theorem row_nil0 (V0 : World) : RowS V0 (V0.alloc (.cells #[] 9)) (.slice (some ⟨V0.heap.size, 0, none⟩) 0 0) [] := World.ownsRow_lit V0 #[] 0 (Nat.le_refl _) (by decide) rfl
theorem take_map_succ {α β : Type} (f : α → β) (l : List α) (k : Nat) (x : α) (h : l[k]? = some x) : (l.take (k + 1)).map f = (l.take k).map f ++ [f x] := by
 rw [List.take_add_one, h, List.map_append]
 rfl
theorem str_one1 {w : World} {g : Nat} {x : ByteArray} {t : TypeId} (h : HB w g #[.string x] t) : ∀ j u, ([x].map Value.string)[j]? = some u → w.cell? ⟨g, 0 + j, none⟩ = some u := by
 intro j u hj
 rw [h.cell, Nat.zero_add]
 simpa using hj
theorem RowS.q' {W0 w w' : World} {v : Value} {l : List ByteArray} (h : RowS W0 w v l) (hq : Q w w') : RowS W0 w' v l := ownsRow_q h hq
theorem r5names_c (s : Sta) (i j k q : Nat) (w : World) (hst : StAt w s) (h1 : 1 ≤ s.buses.length) (hB : s.buses.length ≤ 4) (hL : s.lines.length ≤ 6) (hS : s.srcs.length ≤ 4) (hY : s.bays.length ≤ 16) (hi : i ≤ s.buses.length) (hj : j ≤ s.lines.length) (hk : k ≤ s.srcs.length) (hq : q ≤ s.bays.length) :
  Calls Tryz.prog 44 #[.agg #[Value.string s.nm, Value.slice s.aB s.buses.length s.cB, Value.slice s.aL s.lines.length s.cL, Value.slice s.aS s.srcs.length s.cS, Value.slice s.aY s.bays.length s.cY], .int .i64 i, .int .i64 j, .int .i64 k, .int .i64 q] w (RetStr (nmsL s i j k q) w) := by
 have HST := hh hst
 obtain ⟨g0, o0, e0, og0, hc0⟩ := hst.rB.at_ (by omega)
 have HBC : Hid (∀ t u, ((s.buses.take i).map Value.string)[t]? = some u → w.cell? ⟨g0, o0 + t, none⟩ = some u) := hh fun t u ht => by
  refine hc0.o t u ?_
  rw [← ht, List.getElem?_map, List.getElem?_map, List.getElem?_take]
  split
  ·rfl
  rename_i hn
  rw [List.getElem?_map, List.getElem?_take, if_neg hn] at ht
  cases ht
 have hcB : s.buses.length ≤ s.cB := hst.rB.2.1
 have i0 : (0 : Int) ≤ (i : Int) := by omega
 have i1 : (i : Int) ≤ (s.cB : Int) := by omega
 have HN : Hid (nmsL s i j k q = s.buses.take i ++ (s.lines.take j).map Lnr.nm ++ (s.srcs.take k).map Srr.nm ++ (s.bays.take q).map Byr.nm) := hh rfl
 generalize nmsL s i j k q = NL at HN ⊢
 have hlb : (s.buses.take i).length = i := by rw [List.length_take]; omega
 have HLB := hh hlb
 have E0 := hh e0
 clear hst hc0 hlb e0
 have hbs := build0s
 go_enter Tryz.func44, Tryz.ntmps44
 go_upto_region 1 with fail
 refine wp_world ?_
 intro V eV
 have hq0 : Q w V := by rw [eV]; exact Q.alloc (Q.refl _) _
 have hb : HB V w.heap.size #[Value.string s.nm, Value.slice s.aB s.buses.length s.cB, Value.slice s.aL s.lines.length s.cL, Value.slice s.aS s.srcs.length s.cS, Value.slice s.aY s.bays.length s.cY] 27 := by rw [eV]; exact HB.new _ _ _ _ rfl
 have HQ0 := hh hq0
 have s1 := hb.cell 1
 have s2 := hb.cell 2
 have s3 := hb.cell 3
 have s4 := hb.cell 4
 simp only [List.getElem?_toArray, List.getElem?_cons_zero, List.getElem?_cons_succ] at s1 s2 s3 s4
 have ob := hb.old
 rw [E0.o] at s1
 have HST : Hid (StAt V s) := hh (HST.o.q hq0)
 have HBC : Hid (∀ t u, ((s.buses.take i).map Value.string)[t]? = some u → V.cell? ⟨g0, o0 + t, none⟩ = some u) := hh fun t u ht => (hq0.below.cell (p := ⟨g0, o0 + t, none⟩) og0.lt).trans (HBC.o t u ht)
 have og1 : Old g0 V := ⟨Nat.lt_of_lt_of_le og0.lt hq0.below.size⟩
 clear eV hb hq0 E0
 go_upto_region 2 with (first
  | (at_builtin; refine wpList_app_strs rfl _ _ rfl V (.slice (some ⟨V.heap.size, 0, none⟩) 0 0) [] g0 o0 i s.cB (s.buses.take i) rfl rfl (row_nil0 V) HLB.o (fun t u ht => (World.cell?_alloc_past _ _ _ og1.lt).trans (HBC.o t u ht)) (by decide) (by omega) Q.i ?_; intro A0 c0 k0 hown; rw [List.nil_append, List.length_nil, Nat.zero_add] at hown; have HR00 := hh hown; clear hown)
  | fail)
 have HR0 : Hid (RowS V (V.jk k0) (.slice A0 i c0) (s.buses.take i)) := HR00
 obtain ⟨p0, hp0⟩ : ∃ p, s.buses.take i = p := ⟨_, rfl⟩
 rw [hp0] at HR0 HN HLB
 have hl0 : p0.length = i := HLB.o
 rw [← hl0] at HR0 ⊢
 have HS0 : Hid (p0.length ≤ 4) := hh (by omega)
 clear HR00 HBC s1 hl0 hp0
 go_wp2_with fail
 go_loopw [11, 12] (fun lv i wr => ∃ (t : Nat) (A : Option Addr) (c : Nat) (kk : Jk), i = .int .i64 t ∧ t ≤ j ∧ lv = .slice A (p0.length + t) c ∧ wr = V.jk kk ∧ Hid (RowS V (V.jk kk) (.slice A (p0.length + t) c) (p0 ++ (s.lines.take t).map Lnr.nm))) (fun _ i _ => j - (intOf i).toNat)
 case atStart => exact ⟨0, _, _, _, rfl, Nat.zero_le _, rfl, rfl, hh (by simpa using HR0.o)⟩
 case round =>
  obtain ⟨t, A, c, kk, rfl, ht, rfl, rfl, HR⟩ := hrel
  by_cases hlt : t < j
  ·obtain ⟨x, hx⟩ : ∃ x, s.lines[t]? = some x := ⟨_, List.getElem?_eq_getElem (by omega)⟩
   obtain ⟨g4, o4, e4, og4, hc4⟩ := HST.o.rL.at_ (by omega)
   have c0 := hc4.o (t * 5) (.string x.nm) (by rw [show t * 5 = t * 5 + 0 from rfl, lnC_get _ t 0 x hx (by decide)]; rfl)
   have HX := hh hx
   have t0 : (0 : Int) ≤ (t : Int) := by omega
   have t1 : (t : Int) < (s.lines.length : Int) := by omega
   rw [e4] at s2
   clear e4
   have hlen : (p0 ++ (s.lines.take t).map Lnr.nm).length = p0.length + t := by
    rw [List.length_append, List.length_map, List.length_take]
    omega
   have HLEN := hh hlen
   clear hc4 hx hlen
   go_wp2_with (first
    | (at_builtin; refine wpList_app_strs rfl _ _ rfl V (.slice A (p0.length + t) c) _ _ 0 1 1 [x.nm] rfl rfl (HR.o.q' Q.i) rfl (str_one1 (HB.new _ _ _ _ (by simp [World.size_jk]))) (by rw [HLEN.o]; have := HS0.o; omega) (by decide) Q.i ?_; intro A' c' k2 hown; rw [HLEN.o] at hown ⊢; have HOWN := hh hown; clear hown)
    | fail)
   go_roundw
   case rel =>
    refine ⟨t + 1, A', c', k2, by go_num, by omega, rfl, rfl, hh ?_⟩
    rw [take_map_succ Lnr.nm _ t x HX.o, ← List.append_assoc]
    exact HOWN.o
   case measure => simp [intOf] <;> omega
  obtain rfl : t = j := by omega
  have hl0 : (p0 ++ (s.lines.take t).map Lnr.nm).length = p0.length + t := by
   rw [List.length_append, List.length_map, List.length_take]
   omega
  rw [← hl0] at HR ⊢
  obtain ⟨p1, hp1⟩ : ∃ p, p0 ++ (s.lines.take t).map Lnr.nm = p := ⟨_, rfl⟩
  have HP1 := hh hp1
  have HS1 : Hid (p1.length ≤ 10) := hh (by rw [← hp1, hl0]; have := HS0.o; omega)
  rw [hp1] at HR ⊢
  clear hp1 hl0
  have HR1 := HR
  clear HR
  go_wp2_with fail
  go_loopw [11, 13] (fun lv i wr => ∃ (t : Nat) (A : Option Addr) (c : Nat) (kk : Jk), i = .int .i64 t ∧ t ≤ k ∧ lv = .slice A (p1.length + t) c ∧ wr = V.jk kk ∧ Hid (RowS V (V.jk kk) (.slice A (p1.length + t) c) (p1 ++ (s.srcs.take t).map Srr.nm))) (fun _ i _ => k - (intOf i).toNat)
  case atStart => exact ⟨0, _, _, _, rfl, Nat.zero_le _, rfl, rfl, hh (by simpa using HR1.o)⟩
  case round =>
   obtain ⟨t, A, c, kk, rfl, ht, rfl, rfl, HR⟩ := hrel
   by_cases hlt : t < k
   ·obtain ⟨x, hx⟩ : ∃ x, s.srcs[t]? = some x := ⟨_, List.getElem?_eq_getElem (by omega)⟩
    obtain ⟨g4, o4, e4, og4, hc4⟩ := HST.o.rS.at_ (by omega)
    have c0 := hc4.o (t * 6) (.string x.nm) (by rw [show t * 6 = t * 6 + 0 from rfl, srC_get _ t 0 x hx (by decide)]; rfl)
    have HX := hh hx
    have t0 : (0 : Int) ≤ (t : Int) := by omega
    have t1 : (t : Int) < (s.srcs.length : Int) := by omega
    rw [e4] at s3
    clear e4
    have hlen : (p1 ++ (s.srcs.take t).map Srr.nm).length = p1.length + t := by
     rw [List.length_append, List.length_map, List.length_take]
     omega
    have HLEN := hh hlen
    clear hc4 hx hlen
    go_wp2_with (first
     | (at_builtin; refine wpList_app_strs rfl _ _ rfl V (.slice A (p1.length + t) c) _ _ 0 1 1 [x.nm] rfl rfl (HR.o.q' Q.i) rfl (str_one1 (HB.new _ _ _ _ (by simp [World.size_jk]))) (by rw [HLEN.o]; have := HS1.o; omega) (by decide) Q.i ?_; intro A' c' k2 hown; rw [HLEN.o] at hown ⊢; have HOWN := hh hown; clear hown)
     | fail)
    go_roundw
    case rel =>
     refine ⟨t + 1, A', c', k2, by go_num, by omega, rfl, rfl, hh ?_⟩
     rw [take_map_succ Srr.nm _ t x HX.o, ← List.append_assoc]
     exact HOWN.o
    case measure => simp [intOf] <;> omega
   obtain rfl : t = k := by omega
   have hl1 : (p1 ++ (s.srcs.take t).map Srr.nm).length = p1.length + t := by
    rw [List.length_append, List.length_map, List.length_take]
    omega
   rw [← hl1] at HR ⊢
   obtain ⟨p2, hp2⟩ : ∃ p, p1 ++ (s.srcs.take t).map Srr.nm = p := ⟨_, rfl⟩
   have HP2 := hh hp2
   have HS2 : Hid (p2.length ≤ 14) := hh (by rw [← hp2, hl1]; have := HS1.o; omega)
   rw [hp2] at HR ⊢
   clear hp2 hl1
   have HR2 := HR
   clear HR
   go_wp2_with fail
   go_loopw [11, 14] (fun lv i wr => ∃ (t : Nat) (A : Option Addr) (c : Nat) (kk : Jk), i = .int .i64 t ∧ t ≤ q ∧ lv = .slice A (p2.length + t) c ∧ wr = V.jk kk ∧ Hid (RowS V (V.jk kk) (.slice A (p2.length + t) c) (p2 ++ (s.bays.take t).map Byr.nm))) (fun _ i _ => q - (intOf i).toNat)
   case atStart => exact ⟨0, _, _, _, rfl, Nat.zero_le _, rfl, rfl, hh (by simpa using HR2.o)⟩
   case round =>
    obtain ⟨t, A, c, kk, rfl, ht, rfl, rfl, HR⟩ := hrel
    by_cases hlt : t < q
    rotate_left
    ·obtain rfl : t = q := by omega
     have hl2 : (p2 ++ (s.bays.take t).map Byr.nm).length = p2.length + t := by
      rw [List.length_append, List.length_map, List.length_take]
      omega
     rw [← hl2] at HR ⊢
     obtain ⟨p3, hp3⟩ : ∃ p, p2 ++ (s.bays.take t).map Byr.nm = p := ⟨_, rfl⟩
     have HP3 := hh hp3
     have HS3 : Hid (p3.length ≤ 30) := hh (by rw [← hp3, hl2]; have := HS2.o; omega)
     rw [hp3] at HR ⊢
     clear hp3 hl2
     have HR3 := HR
     clear HR
     go_wp2_with fail
     go_ret
     have e : NL = p3 := by rw [HN.o, HP1.o, HP2.o, HP3.o]
     subst e
     refine ⟨_, _, rfl, HQ0.o.trans Q.i, ?_⟩
     have h := HR3.o
     unfold RowS at h
     obtain ⟨A', c', e, h'⟩ := rdv_of_own h (by simp)
     injection e with e1 e2 e3
     subst e1 e3
     exact h'
    obtain ⟨x, hx⟩ : ∃ x, s.bays[t]? = some x := ⟨_, List.getElem?_eq_getElem (by omega)⟩
    obtain ⟨g4, o4, e4, og4, hc4⟩ := HST.o.rY.at_ (by omega)
    have c0 := hc4.o (t * 12) (.string x.nm) (by rw [show t * 12 = t * 12 + 0 from rfl, byC_get _ t 0 x hx (by decide)]; rfl)
    have HX := hh hx
    have t0 : (0 : Int) ≤ (t : Int) := by omega
    have t1 : (t : Int) < (s.bays.length : Int) := by omega
    rw [e4] at s4
    clear e4
    have hlen : (p2 ++ (s.bays.take t).map Byr.nm).length = p2.length + t := by
     rw [List.length_append, List.length_map, List.length_take]
     omega
    have HLEN := hh hlen
    clear hc4 hx hlen
    go_wp2_with (first
     | (at_builtin; refine wpList_app_strs rfl _ _ rfl V (.slice A (p2.length + t) c) _ _ 0 1 1 [x.nm] rfl rfl (HR.o.q' Q.i) rfl (str_one1 (HB.new _ _ _ _ (by simp [World.size_jk]))) (by rw [HLEN.o]; have := HS2.o; omega) (by decide) Q.i ?_; intro A' c' k2 hown; rw [HLEN.o] at hown ⊢; have HOWN := hh hown; clear hown)
     | fail)
    go_roundw
    case rel =>
     refine ⟨t + 1, A', c', k2, by go_num, by omega, rfl, rfl, hh ?_⟩
     rw [take_map_succ Byr.nm _ t x HX.o, ← List.append_assoc]
     exact HOWN.o
    case measure => simp [intOf] <;> omega
end Go.Proofs.YtcjflafjmdfanaaGreatDoor

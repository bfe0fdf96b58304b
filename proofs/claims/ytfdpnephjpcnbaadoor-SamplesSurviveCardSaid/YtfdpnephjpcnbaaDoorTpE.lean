
/- The map of the networks; Send. -/
import Derived.Test.YtfdpnephjpcnbaaDoorTpC
import Derived.Test.YtfdpnephjpcnbaaDoorCo
import Derived.Maps.RangeWalk
import Derived.Maps.OwnOps
import Derived.Maps.OwnSet
import Derived.Maps.Ext
set_option linter.unusedVariables false
set_option linter.unusedSimpArgs false
namespace Go.Proofs.YtfdpnephjpcnbaaDoor
open Go.RowKit Go.Sub
open Go.Maps in
theorem lawU8 : Keyed Tryd.prog 5 := int_keyed Tryd.underlying5
/-- What the map of the networks reads as. -/
def netD : DataW Unit := ((DataW.map []).put (.int .u8 160) (.lit (.int .i64 0))).put (.int .u8 161) (.lit (.int .i64 1))
/-- Block b is the map of the networks. -/
def NetM (w : World) (b : Nat) : Prop := w.ownsMap Tryd.prog 5 (plainElem Tryd.prog 3) b 2 netD
set_option maxRecDepth 100000 in
theorem networks_c (w : World) : Calls Tryd.prog 45 #[] w fun e w' => e = .returned (.map (some w.heap.size)) ∧ Q w w' ∧ NetM w' w.heap.size := by
  have hmm := @run_makeMap Tryd.prog
  have h0 : (w.alloc (.map #[] 0)).ownsMap Tryd.prog 5 (plainElem (H := Unit) Tryd.prog 3) w.heap.size 0 (.map []) := World.ownsMap_made w _ _ _
  have k0 : keyOf Tryd.prog 5 (.int .u8 160) = some (Lit.int .u8 160) := Maps.keyOf_int_mk Tryd.underlying5 (by decide)
  have k1 : keyOf Tryd.prog 5 (.int .u8 161) = some (Lit.int .u8 161) := Maps.keyOf_int_mk Tryd.underlying5 (by decide)
  obtain ⟨w1, r1, h1, g1⟩ := h0.update lawU8 Tryd.underlying115 (by decide) k0 (plainElem_int (a := 0) Tryd.underlying3 (by decide))
  obtain ⟨w2, r2, h2, g2⟩ := h1.update lawU8 Tryd.underlying115 (by decide) k1 (plainElem_int (a := 1) Tryd.underlying3 (by decide))
  go_enter Tryd.func45, Tryd.ntmps45
  go_wp2
  go_ret
  refine ⟨rfl, ?_, h2⟩
  have hq : Q w (w.alloc (.map #[] 0)) := .alloc (.refl _) _
  refine grown_Q (grown_Q hq g1 ?_) g2 ?_
  · rintro g ⟨⟩; exact Nat.le_refl _
  · rintro g ⟨⟩; exact Nat.le_refl _
theorem netD_inv (x c : Int) (h : ∀ zd, netD.atKey (.int .u8 x) zd = .lit (.int .i64 c)) : (x = 160 ∧ c = 0) ∨ (x = 161 ∧ c = 1) := by
  unfold netD at h
  by_cases h1 : x = 161
  · subst h1
    have := h (.lit (.int .i64 0))
    rw [Maps.atKey_put_same (k := Lit.int .u8 161) (Maps.isMap_empty.put _ _) trivial] at this
    refine .inr ⟨rfl, ?_⟩
    injection this with this
    injection this with _ this
    exact this.symm
  · by_cases h2 : x = 160
    · subst h2
      have := h (.lit (.int .i64 0))
      rw [Maps.atKey_put_other (k := Lit.int .u8 161) (k' := Lit.int .u8 160) (by simp), Maps.atKey_put_same (k := Lit.int .u8 160) Maps.isMap_empty trivial] at this
      refine .inl ⟨rfl, ?_⟩
      injection this with this
      injection this with _ this
      exact this.symm
    · have e0 := h (.lit (.int .i64 0))
      have e1 := h (.lit (.int .i64 1))
      rw [Maps.atKey_put_other (by simpa using h1), Maps.atKey_put_other (by simpa using h2)] at e0 e1
      have e : ∀ z : DataW Unit, (DataW.map []).atKey (Lit.int .u8 x) z = z := fun z => by simp [DataW.atKey]
      rw [e] at e0 e1
      rw [← e1] at e0
      injection e0 with e0
      injection e0 with _ e0
      cases e0
/-- The trailer of a copy. -/
def trl (src seq mark : Int) (n : Nat) : List Int := [src / 256, src % 256, seq / 256, seq % 256, mark, 0, (n : Int) / 256, (n : Int) % 256]
theorem wpList_append_run {P : Program} {ops : Array Oper} {rest : List Oper} {o : Oper} {a : Act} {w w' : World} {Q' : Exit → Act → World → Prop} {t : TypeId} {sv xv v : Value} (hg : o.guard = none) (s x : Operand)
    (hop : o.op = .call { callee := .builtin .append, args := #[s, x], argTypes := #[t, t] }) (hs : a.eval s = sv) (hx : a.eval x = xv) (hrun : (Builtin.append_ #[t, t] o.type #[sv, xv]).run P w = .ok v w')
    (h : wpList P ops Q' rest (a.put o.dst v) w') : wpList P ops Q' (o :: rest) a w := by
  refine wpList_plain hg fun K' hK' => ?_
  unfold Oper.wp
  simp [execOp, hop, resolve, invoke, builtin, hs, hx, hrun, Result.andThen]
  exact hK' _ _ h
/-- What is known of a copy: none while its mark is still to come. -/
def CopyS (w : World) (left : Lit → Bool) (mark : Int) (l : List Int) (v : Value) : Prop :=
  (left (.int .u8 mark) = true ∧ v = .slice none 0 0) ∨ (left (.int .u8 mark) = false ∧ ∃ g, v = .slice (some ⟨g, 0, none⟩) l.length l.length ∧ HB w g (cellsN .u8 l) 5)
theorem hb_ne_iter {H : Type} {P : Program} {w : World} {g : Nat} {cs : Array Value} {t k : TypeId} {R : Value → Option (DataW H × List MemPlace)} {b r n : Nat} {D : DataW H} {left : Lit → Bool} {cnt : Nat} (h : HB w g cs t) (hr : w.ranges P k R b r n D left cnt) : g ≠ r := by
  obtain ⟨es, clock, since, seen, c0, _, _, _, _, h2, _⟩ := hr
  rintro rfl
  have h' : w.heap[g]? = some (.cells cs t) := h
  rw [h'] at h2
  cases h2
theorem hb_ne_type {w : World} {g b : Nat} {cs cs' : Array Value} {t t' : TypeId} (h : HB w g cs t) (h' : HB w b cs' t') (hne : t ≠ t') : g ≠ b := by
  rintro rfl
  have e : w.heap[g]? = some (.cells cs t) := h
  have e' : w.heap[g]? = some (.cells cs' t') := h'
  rw [e] at e'
  injection e' with e'
  injection e' with _ e' _
  exact hne e'
/-- What is known of the copies stands behind the iterator's turn, and behind a store into the array of the copies. -/
theorem CopyS.grown {w w' : World} {left left' : Lit → Bool} {mark : Int} {l : List Int} {v : Value} {row : Nat} (h : CopyS w left mark l v) (hg : w.grownBy w' (some row)) (hl : left' (.int .u8 mark) = left (.int .u8 mark))
    (hne : ∀ g, HB w g (cellsN .u8 l) 5 → g ≠ row) : CopyS w' left' mark l v := by
  rcases h with ⟨h, e⟩ | ⟨h, g, e, r⟩
  · exact .inl ⟨hl.trans h, e⟩
  · exact .inr ⟨hl.trans h, g, e, r.grown hg (fun q => hne g r (Option.some.inj q))⟩
/-- Both copies, and the next number. -/
def RetSend (l0 l1 : List Int) (next : Int) (w : World) (e : Ending) (w' : World) : Prop := ∃ g0 g1 n, e = .returned (.tuple #[.agg #[.slice (some ⟨g0, 0, none⟩) n n, .slice (some ⟨g1, 0, none⟩) n n], .int .i64 next, .int .i64 0]) ∧ Q w w' ∧ l0.length = n ∧ l1.length = n ∧ HB w' g0 (cellsN .u8 l0) 5 ∧ HB w' g1 (cellsN .u8 l1) 5
theorem grown3 (w1 : World) (b i : Nat) (v : Value) (o1 o2 : Obj) : w1.grownBy (((w1.setCell ⟨b, i, none⟩ v).alloc o1).alloc o2) (some b) :=
  (grownBy_setCell w1 _ _ _).trans ((World.grownBy_alloc _ _ _).trans (World.grownBy_alloc _ _ _))
set_option maxRecDepth 100000 in
set_option maxHeartbeats 2000000 in
theorem send_c (A : Option Addr) (n ca : Nat) (l : List Int) (src seq : Int) (w : World) (h : RdN w A n ca .u8 l) (n0 : 1 ≤ n) (n1 : n ≤ 1500) (s0 : 0 ≤ src) (s1 : src < 65536) (q0 : 0 ≤ seq) (q1 : seq < 65536) :
    Calls Tryd.prog 24 #[Value.slice A n ca, Value.int .i64 src, Value.int .i64 seq] w (RetSend (l ++ trl src seq 160 n) (l ++ trl src seq 161 n) ((seq + 1) % 65536) w) := by
  obtain ⟨g, o, rfl, ho, hc⟩ := h.at_ (by omega)
  have HL := Lib.hid h.len
  clear h
  go_enter Tryd.func24, Tryd.ntmps24
  go_wp2_with (first
    | (go_at_call 45; refine (networks_c _).mono ?_; rintro e w' ⟨rfl, ⟨kn, rfl⟩, hm⟩; simp only [World.size_alloc, NetM] at hm)
    | (at_range; refine wpList_range_own _ rfl _ 115 rfl 5 3 lawU8 Tryd.underlying115 (plainElem Tryd.prog 3) (w.heap.size + 1 + 1) 2 netD rfl hm ?_; intro w0 hrg0 hg0 hs0)
    | fail)
  have hr : ∃ r, (((w.alloc (.cells #[Value.slice none 0 0, Value.slice none 0 0] 76)).alloc (.cells #[Value.slice none 0 0, Value.slice none 0 0] 76)).jk kn).heap.size = r := ⟨_, rfl⟩
  obtain ⟨r, hr⟩ := hr
  have hb1 := hm.lt
  rw [hr] at hb1
  have hcb : HB (((w.alloc (.cells #[Value.slice none 0 0, Value.slice none 0 0] 76)).alloc (.cells #[Value.slice none 0 0, Value.slice none 0 0] 76)).jk kn) (w.heap.size + 1) #[Value.slice none 0 0, Value.slice none 0 0] 76 := (HB.new _ _ _ _ (by simp)).jk kn
  have hQ : Q (w.alloc (.cells #[Value.slice none 0 0, Value.slice none 0 0] 76)) (((w.alloc (.cells #[Value.slice none 0 0, Value.slice none 0 0] 76)).alloc (.cells #[Value.slice none 0 0, Value.slice none 0 0] 76)).jk kn) := (Q.alloc (Q.refl _) _).jk kn
  rw [hr] at hrg0
  have hcb0 := hcb.grown hg0 (by simp)
  have hQ0 := grown_Q hQ hg0 (by simp)
  go_frame
  rw [hr]
  clear hs0 hm hcb hQ hg0 hr
  have HR0 := Lib.hid hrg0
  have HC0 := Lib.hid hcb0
  have HQ0 := Lib.hid hQ0
  clear hrg0 hcb0 hQ0
  go_loopw [11] (fun _ wr => ∃ (left : Lit → Bool) (cnt : Nat) (v0 v1 : Value), Hid (wr.ranges Tryd.prog 5 (plainElem Tryd.prog 3) (w.heap.size + 1 + 1) r 2 netD left cnt) ∧ Hid (Q (w.alloc (.cells #[Value.slice none 0 0, Value.slice none 0 0] 76)) wr) ∧ Hid (HB wr (w.heap.size + 1) #[v0, v1] 76) ∧ Hid (CopyS wr left 160 (l ++ trl src seq 160 n) v0) ∧ Hid (CopyS wr left 161 (l ++ trl src seq 161 n) v1)) (fun _ wr => wr.rangeLeft (w.heap.size + 1 + 1) r)
  case atStart =>
    exact ⟨_, _, _, _, HR0, HQ0, HC0, Lib.hid (.inl ⟨by kernel_rfl, rfl⟩), Lib.hid (.inl ⟨by kernel_rfl, rfl⟩)⟩
  case round =>
    clear HR0 HC0 HQ0
    obtain ⟨left, cnt, v0, v1, HRG, HQ, HC, H0, H1⟩ := hrel
    have hrg := HRG.out
    go_wp2_with (first
      | (at_next; refine wpList_next_ranges_ii _ rfl _ rfl 5 3 .u8 .i64 lawU8 Tryd.underlying5 Tryd.underlying3 (w.heap.size + 1 + 1) r 2 _ _ _ rfl hrg ?_ ?_)
      | fail)
    · intro hc0 hl0
      have h0 := H0.out
      have h1 := H1.out
      rw [CopyS, hl0] at h0 h1
      rcases h0 with ⟨h0, _⟩ | ⟨_, g0, rfl, b0⟩
      · cases h0
      rcases h1 with ⟨h1, _⟩ | ⟨_, g1, rfl, b1⟩
      · cases h1
      have hl8 : (l ++ trl src seq 160 n).length = n + 8 := by simp [HL.out, trl]
      have hl9 : (l ++ trl src seq 161 n).length = n + 8 := by simp [HL.out, trl]
      rw [hl8, hl9] at HC
      obtain ⟨k2, ek⟩ := HQ.out
      have b0' := Lib.hid b0
      have b1' := Lib.hid b1
      have hcb := HC.out
      have L8 := Lib.hid hl8
      have L9 := Lib.hid hl9
      clear b0 b1 H0 H1 HRG hrg hl0 hc0 HQ HC hl8 hl9
      subst ek
      have c0 := hcb.cell 0
      have c1 := hcb.cell 1
      have oc := hcb.old
      simp only [List.getElem?_toArray, List.getElem?_cons_zero, List.getElem?_cons_succ] at c0 c1
      clear hcb
      go_wp2_with fail
      refine bodyPost_ret (v := .tuple #[.agg #[.slice (some ⟨g0, 0, none⟩) (n + 8) (n + 8), .slice (some ⟨g1, 0, none⟩) (n + 8) (n + 8)], .int .i64 ((seq + 1) % 65536), .int .i64 0]) (by simp [results, Tryd.results24, go_sem]) rfl ?_
      have hR : HB ((w.alloc (.cells #[Value.slice none 0 0, Value.slice none 0 0] 76)).jk k2) w.heap.size #[Value.slice none 0 0, Value.slice none 0 0] 76 := (HB.new _ _ _ _ rfl).jk k2
      refine ⟨g0, g1, n + 8, rfl, ?_, L8.out, L9.out, hb_swap b0'.out (hb_ne_type b0'.out hR (by decide)), hb_swap b1'.out (hb_ne_type b1'.out hR (by decide))⟩
      repeat' (first | exact Q.refl _ | refine Q.alloc ?_ _ | refine Q.jk ?_ _ | refine Q.drew ?_)
    · intro x c w1 cnt1 hwx hwc hlx hat hrg1 hlt hg1 hs1 hen
      have hn := netD_inv x c hat
      clear hat hwx hwc hs1
      have hQ1 : Q (w.alloc (.cells #[Value.slice none 0 0, Value.slice none 0 0] 76)) w1 := grown_Q HQ.out hg1 (by rintro g ⟨⟩; simp; omega)
      have hcb1 := HC.out.grown hg1 (by simp; omega)
      have c0 : w1.cell? ⟨w.heap.size + 1, 0, none⟩ = some v0 := hcb1.cell 0
      have c1 : w1.cell? ⟨w.heap.size + 1, 1, none⟩ = some v1 := hcb1.cell 1
      have f0 : w1.frozen? ⟨w.heap.size + 1, 0, none⟩ = false := hcb1.soft 0
      have f1 : w1.frozen? ⟨w.heap.size + 1, 1, none⟩ = false := hcb1.soft 1
      have oc := hcb1.old
      have HCB := Lib.hid hcb1
      have HQ1 := Lib.hid hQ1
      have HMK := make_u8 w1 (n : Int) ((n : Int) + 8) n (n + 8) rfl (by omega) (by omega) (by omega)
      have HCP := run_copy_last (P := Tryd.prog) w1 73 73 3 5 5 .u8 w1.heap.size 0 n (n + 8) n ca ⟨g, o, none⟩ (List.replicate (n + 8) 0) l (by kernel_rfl) (by kernel_rfl) rfl (by rw [HL.out]; simp [Nat.min_def]) (by
        intro j v hj
        have hjn : j < n := by rw [← HL.out]; exact (List.getElem?_eq_some_iff.1 hj).1
        have e : l.getD j 0 = v := by rw [List.getD_eq_getElem?_getD, hj]; rfl
        rw [addr_add0]
        refine Eq.trans ?_ ((hc.out j hjn).trans (by rw [e]))
        exact ((((Q.alloc (Q.refl w) _).trans hQ1).alloc _).below.cell (p := ⟨g, o + j, none⟩) ho.lt)) (by rw [HL.out, List.length_replicate]; omega)
      rw [HL.out] at HCP
      have es : splice (List.replicate (n + 8) 0) 0 l = l ++ List.replicate 8 0 := by
        unfold splice
        rw [List.take_zero, List.nil_append, HL.out, Nat.zero_add, List.drop_replicate, Nat.add_sub_cancel_left]
      rw [es] at HCP
      clear es hcb1 hQ1
      have HAP : ∀ s0 s1 s2 s3 s4 s5 s6 s7 : Int, (Builtin.append_ #[73, 73] 73 #[.slice (some ⟨w1.heap.size, 0, none⟩) n (n + 8), .slice (some ⟨w1.heap.size + 1, 0, none⟩) 8 8]).run Tryd.prog ((w1.alloc (.cells (cellsN .u8 (l ++ List.replicate 8 0)) 5)).alloc (.cells #[Value.int .u8 s0, Value.int .u8 s1, Value.int .u8 s2, Value.int .u8 s3, Value.int .u8 s4, Value.int .u8 s5, Value.int .u8 s6, Value.int .u8 s7] 5))
          = .ok (.slice (some ⟨w1.heap.size, 0, none⟩) (n + 8) (n + 8)) ((w1.alloc (.cells (cellsN .u8 (l ++ [s0, s1, s2, s3, s4, s5, s6, s7])) 5)).alloc (.cells #[Value.int .u8 s0, Value.int .u8 s1, Value.int .u8 s2, Value.int .u8 s3, Value.int .u8 s4, Value.int .u8 s5, Value.int .u8 s6, Value.int .u8 s7] 5)) := by
        intro s0 s1 s2 s3 s4 s5 s6 s7
        obtain ⟨iu, hiu, _, hsu, _⟩ := infoU8
        have := run_append_al (P := Tryd.prog) w1 (.cells (cellsN .u8 [s0, s1, s2, s3, s4, s5, s6, s7]) 5) 73 5 73 .u8 iu w1.heap.size n (n + 8) 8 8 ⟨w1.heap.size + 1, 0, none⟩ (l ++ List.replicate 8 0) [s0, s1, s2, s3, s4, s5, s6, s7] Tryd.underlying73 hiu hsu rfl rfl (Nat.le_refl _) (by simp [HL.out]) (fun j v hj => lit_cell _ _ _ _ _ (by simp) j v hj)
        have es : splice (l ++ List.replicate 8 0) n [s0, s1, s2, s3, s4, s5, s6, s7] = l ++ [s0, s1, s2, s3, s4, s5, s6, s7] := by
          unfold splice
          rw [List.take_append_of_le_length (by rw [HL.out]; exact Nat.le_refl _), List.take_of_length_le (by rw [HL.out]; exact Nat.le_refl _), List.drop_append, List.drop_of_length_le (by rw [HL.out]; omega), HL.out]
          simp
        rw [es] at this
        exact this
      rcases hn with ⟨rfl, rfl⟩ | ⟨rfl, rfl⟩
      · skip
        have hv : v0 = .slice none 0 0 := by
          rcases H0.out with ⟨_, e⟩ | ⟨e, _⟩
          · exact e
          · rw [e] at hlx; cases hlx
        have HO := Lib.hid (CopyS.grown (left' := fun z => left z && !z.sameKey (.int .u8 160)) H1.out hg1 (by simp [Lit.sameKey]) (fun g hg => hb_ne_iter hg hrg))
        subst hv
        clear H0 H1 hlx HQ HC
        have HRG1 := Lib.hid hrg1
        have HLT := Lib.hid hlt
        have HLE := Lib.hid hrg.left_eq
        clear hrg1 hlt HRG hrg hg1
        have HAQ := HAP (src / 256) (src % 256) (seq / 256) (seq % 256) (160) (0) ((n : Int) / 256) ((n : Int) % 256)
        clear HAP
        go_wp2_with (first
          | (at_builtin; refine wpList_append_run rfl _ _ rfl rfl rfl HAQ ?_)
          | fail)
        go_roundw
        case rel =>
          have hg : w1.grownBy (((w1.setCell ⟨w.heap.size + 1, 0, none⟩ (.slice (some ⟨w1.heap.size, 0, none⟩) (n + 8) (n + 8))).alloc (.cells (cellsN .u8 (l ++ trl src seq 160 n)) 5)).alloc (.cells #[Value.int .u8 (src / 256), Value.int .u8 (src % 256), Value.int .u8 (seq / 256), Value.int .u8 (seq % 256), Value.int .u8 160, Value.int .u8 0, Value.int .u8 ((n : Int) / 256), Value.int .u8 ((n : Int) % 256)] 5)) (some (w.heap.size + 1)) :=
            (grownBy_setCell w1 _ _ _).trans ((World.grownBy_alloc _ _ _).trans (World.grownBy_alloc _ _ _))
          have hl8 : (l ++ trl src seq 160 n).length = n + 8 := by simp [HL.out, trl]
          refine ⟨_, cnt1, _, v1, Lib.hid (HRG1.out.kept hg (by simp) (by simp; omega)), Lib.hid (grown_Q HQ1.out hg (by rintro g ⟨⟩; simp)), Lib.hid ((((HCB.out.set 0 _).alloc _).alloc _)), Lib.hid ?h0, Lib.hid ?h1⟩
          case h0 => exact .inr ⟨by simp [Lit.sameKey], w1.heap.size, by rw [hl8], (HB.new _ _ _ _ (by simp)).alloc _⟩
          case h1 => exact HO.out.grown hg (by simp) (fun g hgb => hb_ne_type hgb HCB.out (by decide))
        case measure =>
          rw [(HRG1.out.kept (grown3 _ _ _ _ _ _) (by simp) (by simp; omega)).left_eq, HLE.out]
          exact HLT.out
      · skip
        have hv : v1 = .slice none 0 0 := by
          rcases H1.out with ⟨_, e⟩ | ⟨e, _⟩
          · exact e
          · rw [e] at hlx; cases hlx
        have HO := Lib.hid (CopyS.grown (left' := fun z => left z && !z.sameKey (.int .u8 161)) H0.out hg1 (by simp [Lit.sameKey]) (fun g hg => hb_ne_iter hg hrg))
        subst hv
        clear H0 H1 hlx HQ HC
        have HRG1 := Lib.hid hrg1
        have HLT := Lib.hid hlt
        have HLE := Lib.hid hrg.left_eq
        clear hrg1 hlt HRG hrg hg1
        have HAQ := HAP (src / 256) (src % 256) (seq / 256) (seq % 256) (161) (0) ((n : Int) / 256) ((n : Int) % 256)
        clear HAP
        go_wp2_with (first
          | (at_builtin; refine wpList_append_run rfl _ _ rfl rfl rfl HAQ ?_)
          | fail)
        go_roundw
        case rel =>
          have hg : w1.grownBy (((w1.setCell ⟨w.heap.size + 1, 1, none⟩ (.slice (some ⟨w1.heap.size, 0, none⟩) (n + 8) (n + 8))).alloc (.cells (cellsN .u8 (l ++ trl src seq 161 n)) 5)).alloc (.cells #[Value.int .u8 (src / 256), Value.int .u8 (src % 256), Value.int .u8 (seq / 256), Value.int .u8 (seq % 256), Value.int .u8 161, Value.int .u8 0, Value.int .u8 ((n : Int) / 256), Value.int .u8 ((n : Int) % 256)] 5)) (some (w.heap.size + 1)) :=
            (grownBy_setCell w1 _ _ _).trans ((World.grownBy_alloc _ _ _).trans (World.grownBy_alloc _ _ _))
          have hl8 : (l ++ trl src seq 161 n).length = n + 8 := by simp [HL.out, trl]
          refine ⟨_, cnt1, v0, _, Lib.hid (HRG1.out.kept hg (by simp) (by simp; omega)), Lib.hid (grown_Q HQ1.out hg (by rintro g ⟨⟩; simp)), Lib.hid ((((HCB.out.set 1 _).alloc _).alloc _)), Lib.hid ?h1, Lib.hid ?h0⟩
          case h0 => exact .inr ⟨by simp [Lit.sameKey], w1.heap.size, by rw [hl8], (HB.new _ _ _ _ (by simp)).alloc _⟩
          case h1 => exact HO.out.grown hg (by simp) (fun g hgb => hb_ne_type hgb HCB.out (by decide))
        case measure =>
          rw [(HRG1.out.kept (grown3 _ _ _ _ _ _) (by simp) (by simp; omega)).left_eq, HLE.out]
          exact HLT.out
end Go.Proofs.YtfdpnephjpcnbaaDoor


/- What small says of a case; Sections in one form, with or without an error; the elements of two slices compared. -/
import Derived.Test.YtcjflafjmdfanaaGreatDoorBv35
import Derived.Test.YtcjflafjmdfanaaGreatDoorBx01
set_option linter.unusedSimpArgs false
set_option linter.unusedVariables false
namespace Go.Proofs.YtcjflafjmdfanaaGreatDoor
open Go.RowKit Go.Sub
attribute [local go_sem ↓] Go.wp_at_zero Go.wp_at_succ
theorem retU {E : Int} {l : List Sec} {f : Sec → Prt} {w w' : World} {e : Ending} (h : RetSe E l f w e w') : RetU E l f w e w' := by
 rcases h with ⟨h, rfl, hq⟩ | ⟨rfl, A, c, rs, rfl, hq, hd, hp⟩
 ·exact ⟨none, 0, [], rfl, hq, fun e => absurd e h⟩
 exact ⟨A, c, rs, rfl, hq, fun _ => ⟨hd, hp⟩⟩
theorem secs_u (s : Sta) (p : Pos) (cs : Array Value) (r : Rel) [hR : RelC cs r] (aW : Option Addr) (nW cW : Nat) (W : List Int) (aG : Option Addr) (nG cG : Nat) (G : List Bool) (w : World) (hr : RootsOK w) (hs : StAt w s) (hp : PosAt w p) (hW : WvAt w aW nW cW W) (hG : GdAt w aG nG cG G) :
  Calls Tryz.prog 14 #[.agg #[Value.string s.nm, Value.slice s.aB s.buses.length s.cB, Value.slice s.aL s.lines.length s.cL, Value.slice s.aS s.srcs.length s.cS, Value.slice s.aY s.bays.length s.cY], .agg #[Value.slice p.aC p.closed.length p.cC, Value.slice p.aK p.rows.length p.cK], .agg cs, .slice aW nW cW, .slice aG nG cG] w (RetU (seE s p r W G nW nG s.bays.length) (imI s p) (prS s W G r) w) :=
 (secs_c s p cs r aW nW cW W aG nG cG G w hr hs hp hW hG).mono fun _ _ h => retU h
end Go.Proofs.YtcjflafjmdfanaaGreatDoor

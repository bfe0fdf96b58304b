
/- '==' between two numbers of the ring, in this program. -/
import Derived.Test.YtkkjifgcjfbcaaaRows
import Derived.Test.YtkkjifgcjfbcaaaEqs
namespace Go.Proofs.Ytkkjifgcjfbcaaa
open Go.RowKit Go.Sub
@[go_sem high] theorem eqlCyc (w : World) (a b c d a' b' c' d' : Int) :
    (binOp .eql 40 (.agg #[.int .i64 a, .int .i64 b, .int .i64 c, .int .i64 d]) (.agg #[.int .i64 a', .int .i64 b', .int .i64 c', .int .i64 d'])).run Try.prog w = .ok (.bool (Cy.eqB ⟨a, b, c, d⟩ ⟨a', b', c', d'⟩)) w :=
  run_eql_ints (P := Try.prog) w 40 3 4 Try.underlying40 Try.underlying3 (fun _ => by kernel_rfl) [a, b, c, d] [a', b', c', d'] rfl rfl
@[go_sem high] theorem neqCyc (w : World) (a b c d a' b' c' d' : Int) :
    (binOp .neq 40 (.agg #[.int .i64 a, .int .i64 b, .int .i64 c, .int .i64 d]) (.agg #[.int .i64 a', .int .i64 b', .int .i64 c', .int .i64 d'])).run Try.prog w = .ok (.bool (!(Cy.eqB ⟨a, b, c, d⟩ ⟨a', b', c', d'⟩))) w :=
  run_neq_ints (P := Try.prog) w 40 3 4 Try.underlying40 Try.underlying3 (fun _ => by kernel_rfl) [a, b, c, d] [a', b', c', d'] rfl rfl
@[go_sem] theorem indexCyc0 (x0 x1 x2 x3 : Value) (w : World) : (Instr.index 40 (.agg #[x0, x1, x2, x3]) (.int .i64 0)).run Try.prog w = .ok x0 w := by kernel_rfl
@[go_sem] theorem indexCyc1 (x0 x1 x2 x3 : Value) (w : World) : (Instr.index 40 (.agg #[x0, x1, x2, x3]) (.int .i64 1)).run Try.prog w = .ok x1 w := by kernel_rfl
@[go_sem] theorem indexCyc2 (x0 x1 x2 x3 : Value) (w : World) : (Instr.index 40 (.agg #[x0, x1, x2, x3]) (.int .i64 2)).run Try.prog w = .ok x2 w := by kernel_rfl
@[go_sem] theorem indexCyc3 (x0 x1 x2 x3 : Value) (w : World) : (Instr.index 40 (.agg #[x0, x1, x2, x3]) (.int .i64 3)).run Try.prog w = .ok x3 w := by kernel_rfl
end Go.Proofs.Ytkkjifgcjfbcaaa

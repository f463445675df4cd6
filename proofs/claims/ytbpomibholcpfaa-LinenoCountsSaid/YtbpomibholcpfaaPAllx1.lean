/- Written by a program of this session: functions of the given program as plain Lean functions, the walks that show it, and the row of each law, for every input that its statement speaks of. -/
import Derived.Test.YtbpomibholcpfaaPAllx0
namespace Go.Proofs.Ytbpomibholcpfaa.PAll
open Go.RowKit Go.Proofs.YtbpomibholcpfaaW.PrintWords Go.Proofs.YtbpomibholcpfaaW.PrintLast Go.Proofs.YtbpomibholcpfaaW.PrintMore
attribute [local go_sem] max2_int min2_int max_two min_two max_three min_three max_four min_four   -- for this text's walks alone
set_option linter.unusedVariables false
set_option linter.unusedSimpArgs false

theorem eqA26 (d : Nat) (w : World) (x0 y0 : Int) (x1 y1 : Int) (x2 y2 : Int) :
    (Op.equalIn (d + 2) 26 (.agg #[.int .i64 x0, .int .i64 x1, .int .i64 x2]) (.agg #[.int .i64 y0, .int .i64 y1, .int .i64 y2])).run Try.prog w = .ok (x0 == y0 && (x1 == y1 && (x2 == y2))) w := by
  have hu := Try.underlying26
  have he := Try.underlying3
  unfold Op.equalIn
  go_simp
  simp only [show List.range' 0 3 = [0, 1, 2] from rfl, List.forIn_cons, List.forIn_nil]
  go_simp
  (repeat' split) <;> simp_all
end Go.Proofs.Ytbpomibholcpfaa.PAll

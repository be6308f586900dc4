/- Printed by a program of this session: functions of the law's Go code as Lean functions, and that the Go code computes them. No condition beyond those in the statements. -/
import Derived.Test.YtdokabaeddaipaaOx0
namespace Go.Proofs.Ytdokabaeddaipaa.O
open Go.RowKit Go.Proofs.YtdokabaeddaipaaW.PrintWords Go.Proofs.YtdokabaeddaipaaW.PrintLast Go.Proofs.YtdokabaeddaipaaW.PrintMore Go.Proofs.Ytdokabaeddaipaa.Hand Go.Proofs.Ytdokabaeddaipaa.A Go.Proofs.Ytdokabaeddaipaa.P
attribute [local go_sem] max2_int min2_int max_two min_two max_three min_three max_four min_four   -- for this text's walks alone
set_option linter.unusedVariables false
set_option linter.unusedSimpArgs false

theorem eqA23 (d : Nat) (w : World) (x0 y0 : Int) (x1 y1 : Int) (x2 y2 : Int) (x3 y3 : Int) (x4 y4 : Int) (x5 y5 : Int) (x6 y6 : Int) (x7 y7 : Int) :
    (Op.equalIn (d + 2) 23 (.agg #[.int .u32 x0, .int .u32 x1, .int .u32 x2, .int .u32 x3, .int .u32 x4, .int .u32 x5, .int .u32 x6, .int .u32 x7]) (.agg #[.int .u32 y0, .int .u32 y1, .int .u32 y2, .int .u32 y3, .int .u32 y4, .int .u32 y5, .int .u32 y6, .int .u32 y7])).run Try.prog w = .ok (x0 == y0 && (x1 == y1 && (x2 == y2 && (x3 == y3 && (x4 == y4 && (x5 == y5 && (x6 == y6 && (x7 == y7)))))))) w := by
  refine eqArr_of (l := [0, 1, 2, 3, 4, 5, 6, 7]) Try.underlying23 (by kernel_rfl) (show Try.prog.cellsOf 22 = 1 by kernel_rfl) rfl ?_
  refine eqi_cons (by go_simp; rfl) (by go_simp; rfl) (by go_simp) ?_
  refine eqi_cons (by go_simp; rfl) (by go_simp; rfl) (by go_simp) ?_
  refine eqi_cons (by go_simp; rfl) (by go_simp; rfl) (by go_simp) ?_
  refine eqi_cons (by go_simp; rfl) (by go_simp; rfl) (by go_simp) ?_
  refine eqi_cons (by go_simp; rfl) (by go_simp; rfl) (by go_simp) ?_
  refine eqi_cons (by go_simp; rfl) (by go_simp; rfl) (by go_simp) ?_
  refine eqi_cons (by go_simp; rfl) (by go_simp; rfl) (by go_simp) ?_
  exact eqi_last (by go_simp; rfl) (by go_simp; rfl) (by go_simp)
theorem eqA25 (d : Nat) (w : World) (x0 y0 : Int) (x1 y1 : Int) (x2 y2 : Int) (x3 y3 : Int) (x4 y4 : Int) (x5 y5 : Int) (x6 y6 : Int) (x7 y7 : Int) (x8 y8 : Int) (x9 y9 : Int) (x10 y10 : Int) (x11 y11 : Int) (x12 y12 : Int) :
    (Op.equalIn (d + 3) 25 (.agg #[.int .i64 x0, .int .i64 x1, .int .i64 x2, .int .i64 x3, .int .i64 x4, .int .u32 x5, .int .u32 x6, .int .u32 x7, .int .u32 x8, .int .u32 x9, .int .u32 x10, .int .u32 x11, .int .u32 x12]) (.agg #[.int .i64 y0, .int .i64 y1, .int .i64 y2, .int .i64 y3, .int .i64 y4, .int .u32 y5, .int .u32 y6, .int .u32 y7, .int .u32 y8, .int .u32 y9, .int .u32 y10, .int .u32 y11, .int .u32 y12])).run Try.prog w = .ok (x0 == y0 && (x1 == y1 && (x2 == y2 && (x3 == y3 && (x4 == y4 && ((x5 == y5 && (x6 == y6 && (x7 == y7 && (x8 == y8 && (x9 == y9 && (x10 == y10 && (x11 == y11 && (x12 == y12)))))))))))))) w := by
  refine eqA_of Try.underlying25 (by kernel_rfl) ?_
  refine eqf_cons (by rfl) (by go_simp; rfl) (by go_simp; rfl) (by go_simp) ?_
  refine eqf_cons (by rfl) (by go_simp; rfl) (by go_simp; rfl) (by go_simp) ?_
  refine eqf_cons (by rfl) (by go_simp; rfl) (by go_simp; rfl) (by go_simp) ?_
  refine eqf_cons (by rfl) (by go_simp; rfl) (by go_simp; rfl) (by go_simp) ?_
  refine eqf_cons (by rfl) (by go_simp; rfl) (by go_simp; rfl) (by go_simp) ?_
  exact eqf_last (by rfl) (by go_simp) (by go_simp) (eqA23 (d + 0) w _ _ _ _ _ _ _ _ _ _ _ _ _ _ _ _)
end Go.Proofs.Ytdokabaeddaipaa.O

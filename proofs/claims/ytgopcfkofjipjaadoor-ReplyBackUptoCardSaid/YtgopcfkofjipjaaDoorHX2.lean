/-
  Printed by this session's hybrid.py (it runs the kit's print over contracts of our own for library functions): plain functions with the answers of Go functions, and that the calls come to them. Their conditions stand in each head.
-/
import Derived.Test.YtgopcfkofjipjaaDoorHX0
namespace Go.Proofs.YtgopcfkofjipjaaDoor.H
open Go.RowKit Go.Proofs.YtgopcfkofjipjaaDoorW.PrintWords Go.Proofs.YtgopcfkofjipjaaDoorW.PrintLast Go.Proofs.YtgopcfkofjipjaaDoorW.PrintMore
attribute [local go_sem] max2_int min2_int max_two min_two max_three min_three max_four min_four   -- for this text's walks alone
set_option linter.unusedVariables false
set_option linter.unusedSimpArgs false

theorem eqA34 (d : Nat) (w : World) (x0 y0 : Bool) (x1 y1 : ByteArray) (x2 y2 : ByteArray) (x3 y3 : ByteArray) (x4 y4 : Int) (x5 y5 : Int) (x6 y6 : Bool) :
    (Op.equalIn (d + 2) 34 (.agg #[.bool x0, .string x1, .string x2, .string x3, .int .u32 x4, .int .u64 x5, .bool x6]) (.agg #[.bool y0, .string y1, .string y2, .string y3, .int .u32 y4, .int .u64 y5, .bool y6])).run Tryd.prog w = .ok (x0 == y0 && (x1.toList == y1.toList && (x2.toList == y2.toList && (x3.toList == y3.toList && (x4 == y4 && (x5 == y5 && (x6 == y6))))))) w := by
  refine eqA_of Tryd.underlying34 (by kernel_rfl) ?_
  refine eqf_cons (by rfl) (by go_simp; rfl) (by go_simp; rfl) (by go_simp) ?_
  refine eqf_cons (by rfl) (by go_simp; rfl) (by go_simp; rfl) (by go_simp) ?_
  refine eqf_cons (by rfl) (by go_simp; rfl) (by go_simp; rfl) (by go_simp) ?_
  refine eqf_cons (by rfl) (by go_simp; rfl) (by go_simp; rfl) (by go_simp) ?_
  refine eqf_cons (by rfl) (by go_simp; rfl) (by go_simp; rfl) (by go_simp) ?_
  refine eqf_cons (by rfl) (by go_simp; rfl) (by go_simp; rfl) (by go_simp) ?_
  exact eqf_last (by rfl) (by go_simp; rfl) (by go_simp; rfl) (by go_simp)
end Go.Proofs.YtgopcfkofjipjaaDoor.H

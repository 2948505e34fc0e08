-- WRITTEN by myprint.py (a program of this session's over the kit's print); Lean checks it.
import Derived.Test.YtjdljjjkmjhdnaaDoorPx0
namespace Go.Proofs.YtjdljjjkmjhdnaaDoor.P
open Go.RowKit Go.Proofs.YtjdljjjkmjhdnaaDoorW.PrintWords Go.Proofs.YtjdljjjkmjhdnaaDoorW.PrintLast Go.Proofs.YtjdljjjkmjhdnaaDoorW.PrintMore
attribute [local go_sem] max2_int min2_int max_two min_two max_three min_three max_four min_four   -- for this text's walks alone
set_option linter.unusedVariables false
set_option linter.unusedSimpArgs false

theorem eqA33 (d : Nat) (w : World) (x0 y0 : Int) (x1 y1 : ByteArray) (x2 y2 : Int) :
    (Op.equalIn (d + 2) 33 (.agg #[.int .u8 x0, .string x1, .int .i64 x2]) (.agg #[.int .u8 y0, .string y1, .int .i64 y2])).run Tryd.prog w = .ok (x0 == y0 && (x1.toList == y1.toList && (x2 == y2))) w := by
  refine eqA_of Tryd.underlying33 (by kernel_rfl) ?_
  refine eqf_cons (by rfl) (by go_simp; rfl) (by go_simp; rfl) (by go_simp) ?_
  refine eqf_cons (by rfl) (by go_simp; rfl) (by go_simp; rfl) (by go_simp) ?_
  exact eqf_last (by rfl) (by go_simp; rfl) (by go_simp; rfl) (by go_simp)
end Go.Proofs.YtjdljjjkmjhdnaaDoor.P

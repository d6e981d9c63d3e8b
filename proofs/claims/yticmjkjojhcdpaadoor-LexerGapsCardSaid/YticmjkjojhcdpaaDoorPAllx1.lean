-- Printed by a program (the kit's print, with functions given by hand) out of the translation: machine-written for this claim.
import Derived.Test.YticmjkjojhcdpaaDoorPAllx0
namespace Go.Proofs.YticmjkjojhcdpaaDoor.PAll
open Go.RowKit Go.Proofs.YticmjkjojhcdpaaDoorW.PrintWords Go.Proofs.YticmjkjojhcdpaaDoorW.PrintLast Go.Proofs.YticmjkjojhcdpaaDoorW.PrintMore
attribute [local go_sem] max2_int min2_int max_two min_two max_three min_three max_four min_four   -- for this text's walks alone
set_option linter.unusedVariables false
set_option linter.unusedSimpArgs false

theorem eqA30 (d : Nat) (w : World) (x0 y0 : Int) (x1 y1 : ByteArray) (x2 y2 : Int) :
    (Op.equalIn (d + 2) 30 (.agg #[.int .i64 x0, .string x1, .int .i64 x2]) (.agg #[.int .i64 y0, .string y1, .int .i64 y2])).run Tryd.prog w = .ok (x0 == y0 && (x1.toList == y1.toList && (x2 == y2))) w := by
  refine eqA_of Tryd.underlying30 (by kernel_rfl) ?_
  refine eqf_cons (by rfl) (by go_simp; rfl) (by go_simp; rfl) (by go_simp) ?_
  refine eqf_cons (by rfl) (by go_simp; rfl) (by go_simp; rfl) (by go_simp) ?_
  exact eqf_last (by rfl) (by go_simp; rfl) (by go_simp; rfl) (by go_simp)
end Go.Proofs.YticmjkjojhcdpaaDoor.PAll

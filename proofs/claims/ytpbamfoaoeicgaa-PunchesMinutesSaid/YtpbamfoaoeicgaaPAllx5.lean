/- The head of the laws: it answers true. -/
import Derived.Test.YtpbamfoaoeicgaaHp
import Derived.Test.YtpbamfoaoeicgaaCalc
set_option linter.unusedVariables false
set_option linter.unusedSimpArgs false
namespace Go.Proofs.Ytpbamfoaoeicgaa.PAll
open Go Go.RowKit Go.Proofs.YtpbamfoaoeicgaaW.PrintWords Go.Proofs.YtpbamfoaoeicgaaW.PrintLast Go.Proofs.YtpbamfoaoeicgaaW.PrintMore
theorem head_true : ∃ k, wageofficelaw22_headp.f k = some true := by
  obtain ⟨l, hl⟩ := p3
  refine ⟨10, ?_⟩
  simp only [wageofficelaw22_headp.f, Option.bind_some, p1, p2, p4, p5, p6, hl]
  simp [wageofficeref22_Same.f, wageofficeref22_Same.l0, wageofficeref22_SameInts.f, wageofficeref22_SameInts.l0, rd_T57, rd, wrap64]
def wageofficelaw22_head.f : Option (Bool) := some true
theorem wageofficelaw22_head.calls (r : Bool) (w : World) (h : wageofficelaw22_head.f = some r) :
    Calls Try.prog 11 #[] w fun e w' => e = .returned (.bool r) ∧ Below w.heap.size w w' := by
  obtain ⟨k, hk⟩ := head_true
  obtain rfl : true = r := Option.some.inj h
  exact wageofficelaw22_headp.calls k true w rfl hk
end Go.Proofs.Ytpbamfoaoeicgaa.PAll

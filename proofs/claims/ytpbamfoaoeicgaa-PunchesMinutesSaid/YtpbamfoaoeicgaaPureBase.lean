/- What the plain laws share. -/
import Derived.Test.YtpbamfoaoeicgaaUse2
import Derived.Test.YtpbamfoaoeicgaaAlg
set_option linter.unusedVariables false
set_option linter.unusedSimpArgs false
namespace Go.Proofs.Ytpbamfoaoeicgaa.PAll
open Go Go.RowKit Go.Proofs.YtpbamfoaoeicgaaW.PrintWords Go.Proofs.YtpbamfoaoeicgaaW.PrintLast Go.Proofs.YtpbamfoaoeicgaaW.PrintMore
theorem pair_ed {l0 : List S48} {l1 : List S45} (h : Usable l0 l1) : punches_Pair.f l0 l1 = some (wk (marksOf l0) l1 0 0, ed (marksOf l0) l1, 0) := pair_usable h
theorem ed_range {l0 : List S48} {l1 : List S45} (h : Usable l0 l1) : 0 ≤ ed (marksOf l0) l1 ∧ ed (marksOf l0) l1 ≤ 12960 := by
  have h1 := ed_le (marksOf l0) l1
  have h2 := ed_nonneg (marksOf l0) l1
  have h3 : (marksOf l0).length = 2 * l0.length := mkl_length _ _
  have := h.1
  have := h.2.1
  omega
theorem um (a : List S48) (b : List S45) {j : Nat} {r : Bool} (h : wageofficelaw22_usable.f j a b = some r) (k : Nat) (hk : j ≤ k) : wageofficelaw22_usable.f k a b = some r := upto (wageofficelaw22_usable.mono a b) h k hk
end Go.Proofs.Ytpbamfoaoeicgaa.PAll

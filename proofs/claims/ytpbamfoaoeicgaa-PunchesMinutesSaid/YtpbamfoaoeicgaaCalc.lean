import Derived.Test.YtpbamfoaoeicgaaGiven
set_option linter.unusedVariables false
set_option linter.unusedSimpArgs false
namespace Go.Proofs.Ytpbamfoaoeicgaa.PAll
open Go Go.RowKit
theorem marks_d : marksOf [⟨1000, 1480, 0⟩] = [⟨0, true, 1000⟩, ⟨0, false, 1480⟩] := rfl
theorem p1 : punches_Pair.f [⟨1000, 1480, 0⟩] [⟨1000, true⟩, ⟨1001, true⟩, ⟨1480, false⟩] = some ([⟨0, true, 0⟩, ⟨-1, false, 1⟩, ⟨0, false, 2⟩], 120, 0) := by
  rw [pair_usable (by simp [Usable, okFrom, okP, okS]), marks_d]
  simp [wk, tab, ed_cons, ed_nil_left, ed_nil_right, cst, rd_T68, rd_T45, Int.min_def]
theorem p2 : punches_Pair.f [⟨1000, 1480, 0⟩] [⟨1470, false⟩] = some ([⟨0, true, -1⟩, ⟨0, false, 0⟩], 130, 0) := by
  rw [pair_usable (by simp [Usable, okFrom, okP, okS]), marks_d]
  simp [wk, tab, ed_cons, ed_nil_left, ed_nil_right, cst, rd_T68, rd_T45, Int.min_def]
theorem p3 : ∃ l, punches_Pair.f [⟨1000, 1480, 0⟩] [] = some (l, 240, 0) := by
  rw [pair_usable (by simp [Usable, okFrom, okP, okS]), marks_d]
  exact ⟨_, by simp only [tab, ed_nil_right, List.drop_nil, List.drop_zero]; rfl⟩
theorem p4 : punches_Pair.f [⟨5, 9, 0⟩, ⟨8, 10, 0⟩] [] = some ([], 0, 171) :=
  pair_check (by simp [Usable, okFrom, okS]) (k := 10) (by decide) (by simp [punches_check.f, punches_check.j0, punches_check.l0, punches_check.l1, punches_check.j3, shifts_Valid.f, rd_T48, rd_T45, wrap64]) (by decide)
theorem p5 : punches_Pair.f [] [⟨5, false⟩, ⟨4, false⟩] = some ([], 0, 6) :=
  pair_check (by simp [Usable, okFrom, okP]) (k := 10) (by decide) (by simp [punches_check.f, punches_check.j0, punches_check.l0, punches_check.l1, punches_check.j3, shifts_Valid.f, rd_T48, rd_T45, wrap64]) (by decide)
theorem p6 : punches_Worked.f [⟨1000, 1480, 0⟩] [⟨1470, false⟩] [⟨0, true, -1⟩, ⟨0, false, 0⟩] = some ([470], 0) := by
  rw [worked_usable (by simp [Usable, okFrom, okP, okS]) (by rw [marks_d]; simp [AlOk, rd_T68]) (by simp)]
  rfl
end Go.Proofs.Ytpbamfoaoeicgaa.PAll

/- Least costs of alignments, as plain recursion on lists; the table's entries are those of the lists' ends. -/
import Derived.Test.YtpbamfoaoeicgaaPAllx0
set_option linter.unusedVariables false
set_option linter.unusedSimpArgs false
namespace Go.Proofs.Ytpbamfoaoeicgaa.PAll
open Go Go.RowKit

/-- the cost of matching a mark and a punch -/
def cst (m : S68) (p : S45) : Int := (if m.f2 < p.f0 then p.f0 - m.f2 else m.f2 - p.f0) + (if m.f1 = p.f1 then 0 else 60)
theorem cst_nonneg (m : S68) (p : S45) : 0 ≤ cst m p := by unfold cst; split <;> split <;> omega

/-- the least cost of an alignment -/
def ed : List S68 → List S45 → Int
  | [], ps => 120 * ps.length
  | _ :: ms, [] => 120 * (ms.length + 1)
  | m :: ms, p :: ps => min (min (cst m p + ed ms ps) (120 + ed ms (p :: ps))) (120 + ed (m :: ms) ps)
termination_by ms ps => ms.length + ps.length

theorem ed_nil_left (ps : List S45) : ed [] ps = 120 * ps.length := by rw [ed]
theorem ed_nil_right (ms : List S68) : ed ms [] = 120 * ms.length := by
  cases ms with
  | nil => rw [ed]; rfl
  | cons m ms => rw [ed, List.length_cons]; omega
theorem ed_cons (m : S68) (ms : List S68) (p : S45) (ps : List S45) : ed (m :: ms) (p :: ps) = min (min (cst m p + ed ms ps) (120 + ed ms (p :: ps))) (120 + ed (m :: ms) ps) := by rw [ed]
theorem ed_nonneg : ∀ (ms : List S68) (ps : List S45), 0 ≤ ed ms ps
  | [], ps => by rw [ed_nil_left]; omega
  | m :: ms, [] => by rw [ed_nil_right]; omega
  | m :: ms, p :: ps => by
    rw [ed_cons]
    have h1 := ed_nonneg ms ps
    have h2 := ed_nonneg ms (p :: ps)
    have h3 := ed_nonneg (m :: ms) ps
    have h4 := cst_nonneg m p
    omega
termination_by ms ps => ms.length + ps.length
theorem ed_le : ∀ (ms : List S68) (ps : List S45), ed ms ps ≤ 120 * (ms.length + ps.length)
  | [], ps => by rw [ed_nil_left]; simp
  | m :: ms, [] => by rw [ed_nil_right]; simp
  | m :: ms, p :: ps => by
    rw [ed_cons]
    have h2 := ed_le ms (p :: ps)
    simp only [List.length_cons] at *
    omega
termination_by ms ps => ms.length + ps.length

/-- the table's entry -/
def tab (ms : List S68) (ps : List S45) (i j : Nat) : Int := ed (ms.drop i) (ps.drop j)
theorem tab_edge (ms : List S68) (ps : List S45) (i j : Nat) (hi : i ≤ ms.length) (hj : j ≤ ps.length) (h : i = ms.length ∨ j = ps.length) :
    tab ms ps i j = 120 * (((ms.length - i) + (ps.length - j) : Nat) : Int) := by
  unfold tab
  rcases h with rfl | rfl
  · rw [List.drop_length, ed_nil_left, List.length_drop]; omega
  · rw [List.drop_length, ed_nil_right, List.length_drop]; omega
theorem tab_step (ms : List S68) (ps : List S45) (i j : Nat) (hi : i < ms.length) (hj : j < ps.length) :
    tab ms ps i j = min (min (cst (rd_T68 ms i) (rd_T45 ps j) + tab ms ps (i + 1) (j + 1)) (120 + tab ms ps (i + 1) j)) (120 + tab ms ps i (j + 1)) := by
  unfold tab
  have e1 : ms.drop i = rd_T68 ms i :: ms.drop (i + 1) := by
    rw [List.drop_eq_getElem_cons hi]
    simp [rd_T68, List.getD_eq_getElem?_getD, hi]
  have e2 : ps.drop j = rd_T45 ps j :: ps.drop (j + 1) := by
    rw [List.drop_eq_getElem_cons hj]
    simp [rd_T45, List.getD_eq_getElem?_getD, hj]
  rw [e1, e2, ed_cons]
theorem tab_bd (ms : List S68) (ps : List S45) (i j : Nat) (hm : ms.length ≤ 48) (hp : ps.length ≤ 60) : 0 ≤ tab ms ps i j ∧ tab ms ps i j ≤ 12960 := by
  refine ⟨ed_nonneg _ _, ?_⟩
  have := ed_le (ms.drop i) (ps.drop j)
  unfold tab
  simp only [List.length_drop] at this
  omega

end Go.Proofs.Ytpbamfoaoeicgaa.PAll

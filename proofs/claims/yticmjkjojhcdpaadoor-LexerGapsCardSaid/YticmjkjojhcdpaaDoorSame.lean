/- The reference's comparison of two lists of tokens is true of a list and itself. -/
import Derived.Test.YticmjkjojhcdpaaDoorHd
import Derived.Test.YticmjkjojhcdpaaDoorPAllx10
set_option linter.unusedVariables false
set_option linter.unusedSimpArgs false
namespace Go.Proofs.YticmjkjojhcdpaaDoor.PAll
open Go Go.RowKit Go.Proofs.YticmjkjojhcdpaaDoor.Lx Go.Proofs.YticmjkjojhcdpaaDoorW.PrintWords

theorem same_l0 (l : List S30) (hl : l.length < 1000000) : ∀ (d i k : Nat), l.length = i + d → d < k → wageofficeref06_Same.l0 k l l (i : Int) = some true := by
  intro d
  induction d with
  | zero =>
    intro i k hi hk
    obtain ⟨k, rfl⟩ : ∃ q, k = q + 1 := ⟨k - 1, by omega⟩
    simp only [wageofficeref06_Same.l0]
    rw [if_neg (by omega)]
  | succ d ih =>
    intro i k hi hk
    obtain ⟨k, rfl⟩ : ∃ q, k = q + 1 := ⟨k - 1, by omega⟩
    simp only [wageofficeref06_Same.l0]
    rw [if_pos (by omega), if_pos (by omega), if_pos (by omega), if_neg (by simp)]
    have hw : wrap64 ((i : Int) + 1) = ((i + 1 : Nat) : Int) := by rw [w64 (by omega) (by omega)]; omega
    rw [hw]
    exact ih (i + 1) k (by omega) (by omega)
theorem same_true (l : List S30) (hl : l.length < 1000000) (k : Nat) (hk : l.length < k) : wageofficeref06_Same.f k l l = some true := by
  unfold wageofficeref06_Same.f
  rw [if_pos rfl]
  exact same_l0 l hl l.length 0 k (by omega) hk
end Go.Proofs.YticmjkjojhcdpaaDoor.PAll

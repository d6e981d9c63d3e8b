/- What the reference's Aligned answers, its cost and marks. -/
import Derived.Test.YtpbamfoaoeicgaaQPAllx8
import Derived.Test.YtpbamfoaoeicgaaQGiven
set_option linter.unusedVariables false
set_option linter.unusedSimpArgs false
namespace Go.Proofs.Ytpbamfoaoeicgaa.PAll
open Go Go.RowKit Go.Proofs.YtpbamfoaoeicgaaW.PrintWords Go.Proofs.YtpbamfoaoeicgaaW.PrintLast Go.Proofs.YtpbamfoaoeicgaaW.PrintMore

/-- what the reference's Aligned answers from mark i, punch j and cost c on -/
def ral (ms : List S68) (ps : List S45) : Nat → Nat → Int → List S57 → Int × Bool
  | i, j, c, [] => (c, decide (i = ms.length) && decide (j = ps.length))
  | i, j, c, m :: r =>
    if 0 ≤ m.f0 ∧ 0 ≤ m.f2 then (if i < ms.length ∧ m.f0 = (rd_T68 ms i).f0 ∧ m.f1 = (rd_T68 ms i).f1 ∧ m.f2 = j ∧ j < ps.length then ral ms ps (i + 1) (j + 1) (c + cst (rd_T68 ms i) (rd_T45 ps j)) r else (0, false))
    else if 0 ≤ m.f0 ∧ m.f2 = -1 then (if i < ms.length ∧ m.f0 = (rd_T68 ms i).f0 ∧ m.f1 = (rd_T68 ms i).f1 then ral ms ps (i + 1) j (c + 120) r else (0, false))
    else if m.f0 = -1 ∧ m.f1 = false ∧ 0 ≤ m.f2 then (if m.f2 = j ∧ j < ps.length then ral ms ps i (j + 1) (c + 120) r else (0, false))
    else (0, false)
def to43 (m : S68) : S43 := ⟨m.f0, m.f1, m.f2⟩
theorem rd43_eq (ms : List S68) {i : Nat} (h : i < ms.length) : rd_T43 (ms.map to43) (i : Int) = to43 (rd_T68 ms (i : Int)) := by
  rw [rd68_eq h]; simp [rd_T43, List.getD_eq_getElem?_getD, h]
theorem ref_cost (m : S68) (p : S45) (hm : 0 ≤ m.f2 ∧ m.f2 ≤ 52596001) (hp : 0 ≤ p.f0 ∧ p.f0 ≤ 52596001) : wageofficeref22_Cost.f m.f0 m.f1 m.f2 p.f0 p.f1 = some (cst m p) := by
  have e : wrap64 (m.f2 - p.f0) = m.f2 - p.f0 := by simp only [wrap64]; omega
  unfold wageofficeref22_Cost.f cst
  rw [e]
  have hb : (m.f1 != p.f1) = true ↔ ¬ m.f1 = p.f1 := by simp
  by_cases h1 : m.f2 - p.f0 < 0
  · have e1 : wrap64 (-(m.f2 - p.f0)) = p.f0 - m.f2 := by simp only [wrap64]; omega
    have e2 : wrap64 (p.f0 - m.f2 + 60) = p.f0 - m.f2 + 60 := by simp only [wrap64]; omega
    rw [if_pos h1, if_pos (show m.f2 < p.f0 by omega), e1, e2]
    by_cases h2 : m.f1 = p.f1
    · rw [if_neg (by simp [h2]), if_pos h2]; simp
    · rw [if_pos (hb.2 h2), if_neg h2]
  · have e2 : wrap64 (m.f2 - p.f0 + 60) = m.f2 - p.f0 + 60 := by simp only [wrap64]; omega
    rw [if_neg h1, if_neg (show ¬ m.f2 < p.f0 by omega), e2]
    by_cases h2 : m.f1 = p.f1
    · rw [if_neg (by simp [h2]), if_pos h2]; simp
    · rw [if_pos (hb.2 h2), if_neg h2]
theorem ref_marks_l0 (l : List S48) (hl : l.length ≤ 26) : ∀ n i (acc : List S68), l.length - i ≤ n → i ≤ l.length → acc.length ≤ 2 * i → ∃ k, wageofficeref22_Marks.l0 k l (acc.map to43) (i : Int) = some ((acc ++ mkl i (l.drop i)).map to43) := by
  intro n
  induction n with
  | zero =>
    intro i acc hN hi ha
    obtain rfl : i = l.length := by omega
    refine ⟨1, ?_⟩
    rw [wageofficeref22_Marks.l0, if_neg (by omega)]; simp [mkl]
  | succ n ih =>
    intro i acc hN hi ha
    by_cases hlt : i < l.length
    · obtain ⟨k, hk⟩ := ih (i + 1) (acc ++ [⟨i, true, l[i].f0⟩, ⟨i, false, l[i].f1⟩]) (by omega) hlt (by simp; omega)
      refine ⟨k + 1, ?_⟩
      rw [wageofficeref22_Marks.l0, if_pos (by omega), if_pos (by omega)]
      simp only [Option.bind_some, rd48_eq hlt, List.length_cons, List.length_nil, List.length_map]
      rw [if_pos (by omega), show wrap64 ((i : Int) + 1) = ((i + 1 : Nat) : Int) by simp only [wrap64]; omega]
      rw [List.map_append] at hk
      rw [show [(⟨(i : Int), true, l[i].f0⟩ : S43), ⟨(i : Int), false, l[i].f1⟩] = [(⟨(i : Int), true, l[i].f0⟩ : S68), ⟨(i : Int), false, l[i].f1⟩].map to43 from rfl, hk, List.drop_eq_getElem_cons hlt]
      simp [mkl]
    · obtain rfl : i = l.length := by omega
      refine ⟨1, ?_⟩
      rw [wageofficeref22_Marks.l0, if_neg (by omega)]; simp [mkl]
theorem ref_marks (l : List S48) (hl : l.length ≤ 26) : ∃ k, wageofficeref22_Marks.f k l = some ((marksOf l).map to43) := by
  obtain ⟨k, hk⟩ := ref_marks_l0 l hl l.length 0 [] (by omega) (by omega) (by simp)
  exact ⟨k, by unfold wageofficeref22_Marks.f; simpa [marksOf] using hk⟩
/-- the cost so far -/
def CB (c : Int) (k : Nat) : Prop := 0 ≤ c ∧ c ≤ 60000000 * (k : Int)
theorem CB.zero : CB 0 0 := ⟨by omega, by omega⟩
theorem CB.step {c t : Int} {k n : Nat} (h : CB c k) (hk : k < n) (hn : n ≤ 200) (h0 : 0 ≤ t) (h1 : t ≤ 52596061) : CB (c + t) (k + 1) := by
  obtain ⟨a, b⟩ := h
  exact ⟨by omega, by omega⟩
theorem CB.wrap {c t : Int} {k n : Nat} (h : CB c k) (hk : k < n) (hn : n ≤ 200) (h0 : 0 ≤ t) (h1 : t ≤ 52596061) : wrap64 (c + t) = c + t := by
  obtain ⟨a, b⟩ := h
  simp only [wrap64]; omega
end Go.Proofs.Ytpbamfoaoeicgaa.PAll

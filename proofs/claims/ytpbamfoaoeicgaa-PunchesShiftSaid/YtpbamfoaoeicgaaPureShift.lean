/- PunchesShift answers true. -/
import Derived.Test.YtpbamfoaoeicgaaPureMv
set_option linter.unusedVariables false
set_option linter.unusedSimpArgs false
namespace Go.Proofs.Ytpbamfoaoeicgaa.PAll
open Go Go.RowKit Go.Proofs.YtpbamfoaoeicgaaW.PrintWords Go.Proofs.YtpbamfoaoeicgaaW.PrintLast Go.Proofs.YtpbamfoaoeicgaaW.PrintMore

theorem shift_pure (l0 : List S48) (l1 : List S45) (y : Int) (hy : -9223372036854775808 ≤ y ∧ y ≤ 9223372036854775807) : ∃ k, wageofficelaw22_PunchesShift.f k l0 l1 y = some true := by
  obtain ⟨k1, b, hk1, hb⟩ := use_f l0 l1
  have out : ∀ k, k1 ≤ k → (b = true → y < -52595999 ∨ y > 52595999) → wageofficelaw22_PunchesShift.f (k + 1) l0 l1 y = some true := by
    intro k hk hbad
    unfold wageofficelaw22_PunchesShift.f
    rw [um _ _ hk1 (k + 1) (by omega)]
    cases b with
    | false => simp [wageofficelaw22_head.f, wageofficelaw22_PunchesShift.j0]
    | true =>
      rcases hbad rfl with h | h
      · simp [wageofficelaw22_head.f, wageofficelaw22_PunchesShift.j0, h]
      · simp only [wageofficelaw22_head.f, Option.bind_some, if_true]
        rw [if_neg (by omega), decide_eq_true h]
        simp [wageofficelaw22_PunchesShift.j0]
  by_cases hg : b = true ∧ -52595999 ≤ y ∧ y ≤ 52595999
  · obtain ⟨rfl, hy0, hy1⟩ := hg
    have hu := hb rfl
    obtain ⟨k2, hk2⟩ := moved_f hu y (by omega)
    obtain ⟨k3, c, hk3, hc⟩ := use_f (l0.map (mvD y)) (l1.map (mvP y))
    obtain ⟨k4, hk4⟩ := same_f (wk (marksOf l0) l1 0 0) (by have := (wk_usable hu).2; omega)
    obtain ⟨k5, hk5⟩ := ints_f (workL l0 l1 (wk (marksOf l0) l1 0 0)) (by rw [workL_length]; have := hu.1; omega)
    refine ⟨k1 + k2 + k3 + k4 + k5 + 1, ?_⟩
    unfold wageofficelaw22_PunchesShift.f
    rw [um _ _ hk1 _ (by omega)]
    simp only [wageofficelaw22_head.f, Option.bind_some, if_true]
    rw [if_neg (by omega), decide_eq_false (show ¬ y > 52595999 by omega)]
    simp only [wageofficelaw22_PunchesShift.j0]
    rw [if_neg (by simp), hk2 _ (by omega)]
    simp only [Option.bind_some]
    rw [um _ _ hk3 _ (by omega)]
    cases c with
    | false => simp
    | true =>
      have hv := hc rfl
      have e1 : marksOf (l0.map (mvD y)) = (marksOf l0).map (mvM y) := marks_mv y l0 0
      have e2 : wk (marksOf (l0.map (mvD y))) (l1.map (mvP y)) 0 0 = wk (marksOf l0) l1 0 0 := by rw [e1]; exact wk_mv y _ _ _ 0 0 (Nat.le_refl _)
      have e3 : ed (marksOf (l0.map (mvD y))) (l1.map (mvP y)) = ed (marksOf l0) l1 := by rw [e1, ed_mv]
      have w1 := worked_wk (l0' := []) (l1' := []) hu
      have w2 := worked_wk (l0' := []) (l1' := []) hv
      rw [e2, workL_mv y l0 l1 _ (al_in l0 l1.length _ 0 0 (wk_usable hu).1)] at w2
      simp only [Option.bind_some, if_true]
      rw [pair_ed hu, pair_ed hv, e2, e3]
      simp only [Option.bind_some, w1, w2, if_true, hk4 _ (show k4 ≤ k1 + k2 + k3 + k4 + k5 by omega), hk5 _ (show k5 ≤ k1 + k2 + k3 + k4 + k5 by omega)]
  · exact ⟨k1 + 1, out k1 (Nat.le_refl _) (fun h => by by_cases h1 : y < -52595999; exact .inl h1; by_cases h2 : y > 52595999; exact .inr h2; exact absurd ⟨h, by omega, by omega⟩ hg)⟩
end Go.Proofs.Ytpbamfoaoeicgaa.PAll

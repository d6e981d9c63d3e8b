-- Printed by a program (the kit's print, with functions given by hand) out of the translation: machine-written for this claim.
import Derived.Test.YtpbamfoaoeicgaaPAllx0
import Derived.Test.YtpbamfoaoeicgaaPAllx3
import Derived.Test.YtpbamfoaoeicgaaPAllx5
import Derived.Test.YtpbamfoaoeicgaaPAllx8
import Derived.Test.YtpbamfoaoeicgaaPAllx9
namespace Go.Proofs.Ytpbamfoaoeicgaa.PAll
open Go.RowKit Go.Proofs.YtpbamfoaoeicgaaW.PrintWords Go.Proofs.YtpbamfoaoeicgaaW.PrintLast Go.Proofs.YtpbamfoaoeicgaaW.PrintMore
attribute [local go_sem] max2_int min2_int max_two min_two max_three min_three max_four min_four   -- for this text's walks alone
set_option linter.unusedVariables false
set_option linter.unusedSimpArgs false

/-! ### wageofficelaw22_PunchesLeast: function 4 -/
mutual
def wageofficelaw22_PunchesLeast.j0 : Nat → List (S48) → List (S45) → List Int → Bool → Bool → Option (Bool)
  | 0, _, _, _, _, _ => none
  | k + 1, x0, x1, x2, x7, x28 => if x28 = true then (some x7) else ((punches_Pair.f x0 x1).bind fun bt147 => ((wageofficeref22_Aligned.f x0 x1 bt147.1).bind fun bt152 => (if bt147.2.2 = 0 then (if bt152.2 = true then (wageofficelaw22_PunchesLeast.j1 k x0 x1 x2 x7 bt147.2.1 (bt152.1 != bt147.2.1)) else (wageofficelaw22_PunchesLeast.j1 k x0 x1 x2 x7 bt147.2.1 true)) else (wageofficelaw22_PunchesLeast.j1 k x0 x1 x2 x7 bt147.2.1 true))))
def wageofficelaw22_PunchesLeast.j1 : Nat → List (S48) → List (S45) → List Int → Bool → Int → Bool → Option (Bool)
  | 0, _, _, _, _, _, _ => none
  | k + 1, x0, x1, x2, x7, x9, x54 => if x54 = true then (some false) else ((wageofficeref22_Marks.f k x0).bind fun t154 => (wageofficelaw22_PunchesLeast.l0 k x1 x2 x7 x9 t154 0 0 0 0))
def wageofficelaw22_PunchesLeast.l0 : Nat → List (S45) → List Int → Bool → Int → List (S43) → Int → Int → Int → Int → Option (Bool)
  | 0, _, _, _, _, _, _, _, _, _ => none
  | k + 1, x1, x2, x7, x9, x13, x14, x15, x16, x17 => if x14 < (x13.length : Int) then (wageofficelaw22_PunchesLeast.j3 k x1 x2 x7 x9 x13 x14 x15 x16 x17 true) else (wageofficelaw22_PunchesLeast.j3 k x1 x2 x7 x9 x13 x14 x15 x16 x17 (decide (x15 < (x1.length : Int))))
def wageofficelaw22_PunchesLeast.j3 : Nat → List (S45) → List Int → Bool → Int → List (S43) → Int → Int → Int → Int → Bool → Option (Bool)
  | 0, _, _, _, _, _, _, _, _, _, _ => none
  | k + 1, x1, x2, x7, x9, x13, x14, x15, x16, x17, x66 => if x66 = true then (if x17 < (x2.length : Int) then (if 0 ≤ x17 then (wageofficelaw22_PunchesLeast.j4 k x1 x2 x7 x9 x13 x14 x15 x16 x17 (Int.tmod (wrap64 (rd x2 x17)) 4)) else (none)) else (wageofficelaw22_PunchesLeast.j4 k x1 x2 x7 x9 x13 x14 x15 x16 x17 0)) else (if x7 = true then (if x9 ≤ x16 then (some (decide (x9 ≥ 0))) else (some false)) else (some false))
def wageofficelaw22_PunchesLeast.j4 : Nat → List (S45) → List Int → Bool → Int → List (S43) → Int → Int → Int → Int → Int → Option (Bool)
  | 0, _, _, _, _, _, _, _, _, _, _ => none
  | k + 1, x1, x2, x7, x9, x13, x14, x15, x16, x17, x18 => if x14 < (x13.length : Int) then (if x15 < (x1.length : Int) then (wageofficelaw22_PunchesLeast.j5 k x1 x2 x7 x9 x13 x14 x15 x16 (wrap64 (x17 + 1)) x18 (decide (x18 < 2))) else (wageofficelaw22_PunchesLeast.j5 k x1 x2 x7 x9 x13 x14 x15 x16 (wrap64 (x17 + 1)) x18 false)) else (wageofficelaw22_PunchesLeast.j5 k x1 x2 x7 x9 x13 x14 x15 x16 (wrap64 (x17 + 1)) x18 false)
def wageofficelaw22_PunchesLeast.j5 : Nat → List (S45) → List Int → Bool → Int → List (S43) → Int → Int → Int → Int → Int → Bool → Option (Bool)
  | 0, _, _, _, _, _, _, _, _, _, _, _ => none
  | k + 1, x1, x2, x7, x9, x13, x14, x15, x16, x17, x18, x83 => if x83 = true then (if 0 ≤ x14 then (if x14 < (x13.length : Int) then (if 0 ≤ x15 then (if x15 < (x1.length : Int) then ((wageofficeref22_Cost.f ((rd_T43 x13 x14).f0) ((rd_T43 x13 x14).f1) ((rd_T43 x13 x14).f2) ((rd_T45 x1 x15).f0) ((rd_T45 x1 x15).f1)).bind fun t160 => (wageofficelaw22_PunchesLeast.l0 k x1 x2 x7 x9 x13 (wrap64 (x14 + 1)) (wrap64 (x15 + 1)) (wrap64 (x16 + t160)) x17)) else (none)) else (none)) else (none)) else (none)) else (if x14 < (x13.length : Int) then (if x18 = 2 then (wageofficelaw22_PunchesLeast.j6 k x1 x2 x7 x9 x13 x14 x15 x16 x17 true) else (wageofficelaw22_PunchesLeast.j6 k x1 x2 x7 x9 x13 x14 x15 x16 x17 (x15 == (x1.length : Int)))) else (wageofficelaw22_PunchesLeast.j6 k x1 x2 x7 x9 x13 x14 x15 x16 x17 false))
def wageofficelaw22_PunchesLeast.j6 : Nat → List (S45) → List Int → Bool → Int → List (S43) → Int → Int → Int → Int → Bool → Option (Bool)
  | 0, _, _, _, _, _, _, _, _, _, _ => none
  | k + 1, x1, x2, x7, x9, x13, x14, x15, x16, x17, x113 => if x113 = true then (wageofficelaw22_PunchesLeast.l0 k x1 x2 x7 x9 x13 (wrap64 (x14 + 1)) x15 (wrap64 (x16 + 120)) x17) else (if x15 < (x1.length : Int) then (wageofficelaw22_PunchesLeast.l0 k x1 x2 x7 x9 x13 x14 (wrap64 (x15 + 1)) (wrap64 (x16 + 120)) x17) else (wageofficelaw22_PunchesLeast.l0 k x1 x2 x7 x9 x13 (wrap64 (x14 + 1)) x15 (wrap64 (x16 + 120)) x17))
end
def wageofficelaw22_PunchesLeast.f (k : Nat) (l0 : List (S48)) (l1 : List (S45)) (l2 : List Int) : Option (Bool) := (wageofficelaw22_head.f).bind fun t145 => ((wageofficelaw22_usable.f k l0 l1).bind fun t146 => (if t146 = true then (wageofficelaw22_PunchesLeast.j0 k l0 l1 l2 t145 (decide ((l2.length : Int) > 200))) else (wageofficelaw22_PunchesLeast.j0 k l0 l1 l2 t145 true)))
theorem wageofficelaw22_PunchesLeast.mono_l : ∀ k, (∀ y0 y1 y2 y3 y4, LeO (wageofficelaw22_PunchesLeast.j0 k y0 y1 y2 y3 y4) (wageofficelaw22_PunchesLeast.j0 (k + 1) y0 y1 y2 y3 y4)) ∧ (∀ y0 y1 y2 y3 y4 y5, LeO (wageofficelaw22_PunchesLeast.j1 k y0 y1 y2 y3 y4 y5) (wageofficelaw22_PunchesLeast.j1 (k + 1) y0 y1 y2 y3 y4 y5)) ∧ (∀ y0 y1 y2 y3 y4 y5 y6 y7 y8, LeO (wageofficelaw22_PunchesLeast.l0 k y0 y1 y2 y3 y4 y5 y6 y7 y8) (wageofficelaw22_PunchesLeast.l0 (k + 1) y0 y1 y2 y3 y4 y5 y6 y7 y8)) ∧ (∀ y0 y1 y2 y3 y4 y5 y6 y7 y8 y9, LeO (wageofficelaw22_PunchesLeast.j3 k y0 y1 y2 y3 y4 y5 y6 y7 y8 y9) (wageofficelaw22_PunchesLeast.j3 (k + 1) y0 y1 y2 y3 y4 y5 y6 y7 y8 y9)) ∧ (∀ y0 y1 y2 y3 y4 y5 y6 y7 y8 y9, LeO (wageofficelaw22_PunchesLeast.j4 k y0 y1 y2 y3 y4 y5 y6 y7 y8 y9) (wageofficelaw22_PunchesLeast.j4 (k + 1) y0 y1 y2 y3 y4 y5 y6 y7 y8 y9)) ∧ (∀ y0 y1 y2 y3 y4 y5 y6 y7 y8 y9 y10, LeO (wageofficelaw22_PunchesLeast.j5 k y0 y1 y2 y3 y4 y5 y6 y7 y8 y9 y10) (wageofficelaw22_PunchesLeast.j5 (k + 1) y0 y1 y2 y3 y4 y5 y6 y7 y8 y9 y10)) ∧ (∀ y0 y1 y2 y3 y4 y5 y6 y7 y8 y9, LeO (wageofficelaw22_PunchesLeast.j6 k y0 y1 y2 y3 y4 y5 y6 y7 y8 y9) (wageofficelaw22_PunchesLeast.j6 (k + 1) y0 y1 y2 y3 y4 y5 y6 y7 y8 y9))
  | 0 => ⟨fun _ _ _ _ _ r h => by simp [wageofficelaw22_PunchesLeast.j0] at h, fun _ _ _ _ _ _ r h => by simp [wageofficelaw22_PunchesLeast.j1] at h, fun _ _ _ _ _ _ _ _ _ r h => by simp [wageofficelaw22_PunchesLeast.l0] at h, fun _ _ _ _ _ _ _ _ _ _ r h => by simp [wageofficelaw22_PunchesLeast.j3] at h, fun _ _ _ _ _ _ _ _ _ _ r h => by simp [wageofficelaw22_PunchesLeast.j4] at h, fun _ _ _ _ _ _ _ _ _ _ _ r h => by simp [wageofficelaw22_PunchesLeast.j5] at h, fun _ _ _ _ _ _ _ _ _ _ r h => by simp [wageofficelaw22_PunchesLeast.j6] at h⟩
  | k + 1 => by
    obtain ⟨ih0, ih1, ih2, ih3, ih4, ih5, ih6⟩ := wageofficelaw22_PunchesLeast.mono_l k
    refine ⟨?_, ?_, ?_, ?_, ?_, ?_, ?_⟩
    · intro y0 y1 y2 y3 y4
      unfold wageofficelaw22_PunchesLeast.j0
      repeat' first
      | (with_reducible exact ih0 _ _ _ _ _)
      | (with_reducible exact ih1 _ _ _ _ _ _)
      | (with_reducible exact ih2 _ _ _ _ _ _ _ _ _)
      | (with_reducible exact ih3 _ _ _ _ _ _ _ _ _ _)
      | (with_reducible exact ih4 _ _ _ _ _ _ _ _ _ _)
      | (with_reducible exact ih5 _ _ _ _ _ _ _ _ _ _ _)
      | (with_reducible exact ih6 _ _ _ _ _ _ _ _ _ _)
      | (with_reducible exact wageofficelaw22_usable.mono _ _ _)
      | (with_reducible exact wageofficeref22_Marks.mono _ _)
      | (with_reducible exact LeO.refl _)
      | (with_reducible exact LeO.none _)
      | (with_reducible refine LeO.ite ?_ ?_)
      | (with_reducible refine LeO.bind ?_ (fun _ => ?_))
      | exact ih0 _ _ _ _ _
      | exact ih1 _ _ _ _ _ _
      | exact ih2 _ _ _ _ _ _ _ _ _
      | exact ih3 _ _ _ _ _ _ _ _ _ _
      | exact ih4 _ _ _ _ _ _ _ _ _ _
      | exact ih5 _ _ _ _ _ _ _ _ _ _ _
      | exact ih6 _ _ _ _ _ _ _ _ _ _
      | exact wageofficelaw22_usable.mono _ _ _
      | exact wageofficeref22_Marks.mono _ _
      | exact LeO.none _
      | refine LeO.ite ?_ ?_
      | refine LeO.bind ?_ (fun _ => ?_)
    · intro y0 y1 y2 y3 y4 y5
      unfold wageofficelaw22_PunchesLeast.j1
      repeat' first
      | (with_reducible exact ih0 _ _ _ _ _)
      | (with_reducible exact ih1 _ _ _ _ _ _)
      | (with_reducible exact ih2 _ _ _ _ _ _ _ _ _)
      | (with_reducible exact ih3 _ _ _ _ _ _ _ _ _ _)
      | (with_reducible exact ih4 _ _ _ _ _ _ _ _ _ _)
      | (with_reducible exact ih5 _ _ _ _ _ _ _ _ _ _ _)
      | (with_reducible exact ih6 _ _ _ _ _ _ _ _ _ _)
      | (with_reducible exact wageofficelaw22_usable.mono _ _ _)
      | (with_reducible exact wageofficeref22_Marks.mono _ _)
      | (with_reducible exact LeO.refl _)
      | (with_reducible exact LeO.none _)
      | (with_reducible refine LeO.ite ?_ ?_)
      | (with_reducible refine LeO.bind ?_ (fun _ => ?_))
      | exact ih0 _ _ _ _ _
      | exact ih1 _ _ _ _ _ _
      | exact ih2 _ _ _ _ _ _ _ _ _
      | exact ih3 _ _ _ _ _ _ _ _ _ _
      | exact ih4 _ _ _ _ _ _ _ _ _ _
      | exact ih5 _ _ _ _ _ _ _ _ _ _ _
      | exact ih6 _ _ _ _ _ _ _ _ _ _
      | exact wageofficelaw22_usable.mono _ _ _
      | exact wageofficeref22_Marks.mono _ _
      | exact LeO.none _
      | refine LeO.ite ?_ ?_
      | refine LeO.bind ?_ (fun _ => ?_)
    · intro y0 y1 y2 y3 y4 y5 y6 y7 y8
      unfold wageofficelaw22_PunchesLeast.l0
      repeat' first
      | (with_reducible exact ih0 _ _ _ _ _)
      | (with_reducible exact ih1 _ _ _ _ _ _)
      | (with_reducible exact ih2 _ _ _ _ _ _ _ _ _)
      | (with_reducible exact ih3 _ _ _ _ _ _ _ _ _ _)
      | (with_reducible exact ih4 _ _ _ _ _ _ _ _ _ _)
      | (with_reducible exact ih5 _ _ _ _ _ _ _ _ _ _ _)
      | (with_reducible exact ih6 _ _ _ _ _ _ _ _ _ _)
      | (with_reducible exact wageofficelaw22_usable.mono _ _ _)
      | (with_reducible exact wageofficeref22_Marks.mono _ _)
      | (with_reducible exact LeO.refl _)
      | (with_reducible exact LeO.none _)
      | (with_reducible refine LeO.ite ?_ ?_)
      | (with_reducible refine LeO.bind ?_ (fun _ => ?_))
      | exact ih0 _ _ _ _ _
      | exact ih1 _ _ _ _ _ _
      | exact ih2 _ _ _ _ _ _ _ _ _
      | exact ih3 _ _ _ _ _ _ _ _ _ _
      | exact ih4 _ _ _ _ _ _ _ _ _ _
      | exact ih5 _ _ _ _ _ _ _ _ _ _ _
      | exact ih6 _ _ _ _ _ _ _ _ _ _
      | exact wageofficelaw22_usable.mono _ _ _
      | exact wageofficeref22_Marks.mono _ _
      | exact LeO.none _
      | refine LeO.ite ?_ ?_
      | refine LeO.bind ?_ (fun _ => ?_)
    · intro y0 y1 y2 y3 y4 y5 y6 y7 y8 y9
      unfold wageofficelaw22_PunchesLeast.j3
      repeat' first
      | (with_reducible exact ih0 _ _ _ _ _)
      | (with_reducible exact ih1 _ _ _ _ _ _)
      | (with_reducible exact ih2 _ _ _ _ _ _ _ _ _)
      | (with_reducible exact ih3 _ _ _ _ _ _ _ _ _ _)
      | (with_reducible exact ih4 _ _ _ _ _ _ _ _ _ _)
      | (with_reducible exact ih5 _ _ _ _ _ _ _ _ _ _ _)
      | (with_reducible exact ih6 _ _ _ _ _ _ _ _ _ _)
      | (with_reducible exact wageofficelaw22_usable.mono _ _ _)
      | (with_reducible exact wageofficeref22_Marks.mono _ _)
      | (with_reducible exact LeO.refl _)
      | (with_reducible exact LeO.none _)
      | (with_reducible refine LeO.ite ?_ ?_)
      | (with_reducible refine LeO.bind ?_ (fun _ => ?_))
      | exact ih0 _ _ _ _ _
      | exact ih1 _ _ _ _ _ _
      | exact ih2 _ _ _ _ _ _ _ _ _
      | exact ih3 _ _ _ _ _ _ _ _ _ _
      | exact ih4 _ _ _ _ _ _ _ _ _ _
      | exact ih5 _ _ _ _ _ _ _ _ _ _ _
      | exact ih6 _ _ _ _ _ _ _ _ _ _
      | exact wageofficelaw22_usable.mono _ _ _
      | exact wageofficeref22_Marks.mono _ _
      | exact LeO.none _
      | refine LeO.ite ?_ ?_
      | refine LeO.bind ?_ (fun _ => ?_)
    · intro y0 y1 y2 y3 y4 y5 y6 y7 y8 y9
      unfold wageofficelaw22_PunchesLeast.j4
      repeat' first
      | (with_reducible exact ih0 _ _ _ _ _)
      | (with_reducible exact ih1 _ _ _ _ _ _)
      | (with_reducible exact ih2 _ _ _ _ _ _ _ _ _)
      | (with_reducible exact ih3 _ _ _ _ _ _ _ _ _ _)
      | (with_reducible exact ih4 _ _ _ _ _ _ _ _ _ _)
      | (with_reducible exact ih5 _ _ _ _ _ _ _ _ _ _ _)
      | (with_reducible exact ih6 _ _ _ _ _ _ _ _ _ _)
      | (with_reducible exact wageofficelaw22_usable.mono _ _ _)
      | (with_reducible exact wageofficeref22_Marks.mono _ _)
      | (with_reducible exact LeO.refl _)
      | (with_reducible exact LeO.none _)
      | (with_reducible refine LeO.ite ?_ ?_)
      | (with_reducible refine LeO.bind ?_ (fun _ => ?_))
      | exact ih0 _ _ _ _ _
      | exact ih1 _ _ _ _ _ _
      | exact ih2 _ _ _ _ _ _ _ _ _
      | exact ih3 _ _ _ _ _ _ _ _ _ _
      | exact ih4 _ _ _ _ _ _ _ _ _ _
      | exact ih5 _ _ _ _ _ _ _ _ _ _ _
      | exact ih6 _ _ _ _ _ _ _ _ _ _
      | exact wageofficelaw22_usable.mono _ _ _
      | exact wageofficeref22_Marks.mono _ _
      | exact LeO.none _
      | refine LeO.ite ?_ ?_
      | refine LeO.bind ?_ (fun _ => ?_)
    · intro y0 y1 y2 y3 y4 y5 y6 y7 y8 y9 y10
      unfold wageofficelaw22_PunchesLeast.j5
      repeat' first
      | (with_reducible exact ih0 _ _ _ _ _)
      | (with_reducible exact ih1 _ _ _ _ _ _)
      | (with_reducible exact ih2 _ _ _ _ _ _ _ _ _)
      | (with_reducible exact ih3 _ _ _ _ _ _ _ _ _ _)
      | (with_reducible exact ih4 _ _ _ _ _ _ _ _ _ _)
      | (with_reducible exact ih5 _ _ _ _ _ _ _ _ _ _ _)
      | (with_reducible exact ih6 _ _ _ _ _ _ _ _ _ _)
      | (with_reducible exact wageofficelaw22_usable.mono _ _ _)
      | (with_reducible exact wageofficeref22_Marks.mono _ _)
      | (with_reducible exact LeO.refl _)
      | (with_reducible exact LeO.none _)
      | (with_reducible refine LeO.ite ?_ ?_)
      | (with_reducible refine LeO.bind ?_ (fun _ => ?_))
      | exact ih0 _ _ _ _ _
      | exact ih1 _ _ _ _ _ _
      | exact ih2 _ _ _ _ _ _ _ _ _
      | exact ih3 _ _ _ _ _ _ _ _ _ _
      | exact ih4 _ _ _ _ _ _ _ _ _ _
      | exact ih5 _ _ _ _ _ _ _ _ _ _ _
      | exact ih6 _ _ _ _ _ _ _ _ _ _
      | exact wageofficelaw22_usable.mono _ _ _
      | exact wageofficeref22_Marks.mono _ _
      | exact LeO.none _
      | refine LeO.ite ?_ ?_
      | refine LeO.bind ?_ (fun _ => ?_)
    · intro y0 y1 y2 y3 y4 y5 y6 y7 y8 y9
      unfold wageofficelaw22_PunchesLeast.j6
      repeat' first
      | (with_reducible exact ih0 _ _ _ _ _)
      | (with_reducible exact ih1 _ _ _ _ _ _)
      | (with_reducible exact ih2 _ _ _ _ _ _ _ _ _)
      | (with_reducible exact ih3 _ _ _ _ _ _ _ _ _ _)
      | (with_reducible exact ih4 _ _ _ _ _ _ _ _ _ _)
      | (with_reducible exact ih5 _ _ _ _ _ _ _ _ _ _ _)
      | (with_reducible exact ih6 _ _ _ _ _ _ _ _ _ _)
      | (with_reducible exact wageofficelaw22_usable.mono _ _ _)
      | (with_reducible exact wageofficeref22_Marks.mono _ _)
      | (with_reducible exact LeO.refl _)
      | (with_reducible exact LeO.none _)
      | (with_reducible refine LeO.ite ?_ ?_)
      | (with_reducible refine LeO.bind ?_ (fun _ => ?_))
      | exact ih0 _ _ _ _ _
      | exact ih1 _ _ _ _ _ _
      | exact ih2 _ _ _ _ _ _ _ _ _
      | exact ih3 _ _ _ _ _ _ _ _ _ _
      | exact ih4 _ _ _ _ _ _ _ _ _ _
      | exact ih5 _ _ _ _ _ _ _ _ _ _ _
      | exact ih6 _ _ _ _ _ _ _ _ _ _
      | exact wageofficelaw22_usable.mono _ _ _
      | exact wageofficeref22_Marks.mono _ _
      | exact LeO.none _
      | refine LeO.ite ?_ ?_
      | refine LeO.bind ?_ (fun _ => ?_)
theorem wageofficelaw22_PunchesLeast.mono : ∀ a0 a1 a2 k, LeO (wageofficelaw22_PunchesLeast.f k a0 a1 a2) (wageofficelaw22_PunchesLeast.f (k + 1) a0 a1 a2) := by
  intro a0 a1 a2 k
  obtain ⟨ih0, ih1, ih2, ih3, ih4, ih5, ih6⟩ := wageofficelaw22_PunchesLeast.mono_l k
  unfold wageofficelaw22_PunchesLeast.f
  repeat' first
      | (with_reducible exact ih0 _ _ _ _ _)
      | (with_reducible exact ih1 _ _ _ _ _ _)
      | (with_reducible exact ih2 _ _ _ _ _ _ _ _ _)
      | (with_reducible exact ih3 _ _ _ _ _ _ _ _ _ _)
      | (with_reducible exact ih4 _ _ _ _ _ _ _ _ _ _)
      | (with_reducible exact ih5 _ _ _ _ _ _ _ _ _ _ _)
      | (with_reducible exact ih6 _ _ _ _ _ _ _ _ _ _)
      | (with_reducible exact wageofficelaw22_usable.mono _ _ _)
      | (with_reducible exact wageofficeref22_Marks.mono _ _)
      | (with_reducible exact LeO.refl _)
      | (with_reducible exact LeO.none _)
      | (with_reducible refine LeO.ite ?_ ?_)
      | (with_reducible refine LeO.bind ?_ (fun _ => ?_))
      | exact ih0 _ _ _ _ _
      | exact ih1 _ _ _ _ _ _
      | exact ih2 _ _ _ _ _ _ _ _ _
      | exact ih3 _ _ _ _ _ _ _ _ _ _
      | exact ih4 _ _ _ _ _ _ _ _ _ _
      | exact ih5 _ _ _ _ _ _ _ _ _ _ _
      | exact ih6 _ _ _ _ _ _ _ _ _ _
      | exact wageofficelaw22_usable.mono _ _ _
      | exact wageofficeref22_Marks.mono _ _
      | exact LeO.none _
      | refine LeO.ite ?_ ?_
      | refine LeO.bind ?_ (fun _ => ?_)
def wageofficelaw22_PunchesLeast.T18 : Bool × List (List Nat × List Nat) := (true, [([], []), ([], []), ([], []), ([1, 2], [1, 2]), ([3], [3]), ([], []), ([], []), ([5, 6], [5, 6]), ([7], [7]), ([4, 8], [4, 8]), ([0, 9], [0, 9]), ([10, 9, 0, 1, 2, 3, 4, 5, 6, 7, 8, 9, 10], [0, 10])])
def wageofficelaw22_PunchesLeast.B18 : List Nat := [0, 0, 0, 6, 14, 0, 0, 96, 224, 510, 1023, 2047]
theorem wageofficelaw22_PunchesLeast.tab18 : rtab .any (opsOf Try.f4 18) = wageofficelaw22_PunchesLeast.T18 := by kernel_rfl
theorem wageofficelaw22_PunchesLeast.bits18 : waitsOk wageofficelaw22_PunchesLeast.T18.2 wageofficelaw22_PunchesLeast.B18 = true := by kernel_rfl
set_option maxHeartbeats 8000000 in
set_option maxRecDepth 100000 in
theorem wageofficelaw22_PunchesLeast.calls (k : Nat) (A0 : Option Addr) (c0 : Nat) (l0 : List (S48)) (A1 : Option Addr) (c1 : Nat) (l1 : List (S45)) (A2 : Option Addr) (c2 : Nat) (l2 : List Int) (r : Bool) (w : World) (hr0 : Kd.C k48 w A0 l0.length l0) (hc0 : l0.length ≤ c0) (hr1 : Kd.C k45 w A1 l1.length l1) (hc1 : l1.length ≤ c1) (hr2 : Kd.C (Kd.int .u8) w A2 l2.length l2) (hc2 : l2.length ≤ c2) (hr : r = true) (h : wageofficelaw22_PunchesLeast.f k l0 l1 l2 = some r) :
    Calls Try.prog 4 #[.slice A0 l0.length c0, .slice A1 l1.length c1, .slice A2 l2.length c2] w fun e w' => e = .returned (.bool r) ∧ Below w.heap.size w w' := by
  have hu43 := Try.underlying43
  have hu45 := Try.underlying45
  have HR0 := Aside0.mk hr0
  have HC0 := Aside0.mk hc0
  clear hr0 hc0
  have HR1 := Aside0.mk hr1
  have HC1 := Aside0.mk hc1
  clear hr1 hc1
  have HR2 := Aside0.mk hr2
  have HC2 := Aside0.mk hc2
  clear hr2 hc2
  have HB := Aside0.mk (Below.refl w.heap.size w)
  have PR := Aside0.mk hr
  clear hr
  have H : ((wageofficelaw22_head.f).bind fun t145 => ((wageofficelaw22_usable.f k l0 l1).bind fun t146 => (if t146 = true then (wageofficelaw22_PunchesLeast.j0 k l0 l1 l2 t145 (decide ((l2.length : Int) > 200))) else (wageofficelaw22_PunchesLeast.j0 k l0 l1 l2 t145 true)))) = some r := h
  clear h
  replace H := Option.bind_eq_some_iff.mp H
  obtain ⟨t145, A40, H⟩ := H
  replace H : ((wageofficelaw22_usable.f k l0 l1).bind fun t146 => (if t146 = true then (wageofficelaw22_PunchesLeast.j0 k l0 l1 l2 t145 (decide ((l2.length : Int) > 200))) else (wageofficelaw22_PunchesLeast.j0 k l0 l1 l2 t145 true))) = some r := H
  have A4 := Aside0.mk A40
  clear A40
  have HC5 := Aside0.mk H
  clear H
  go_enter Try.func4, Try.ntmps4
  go_upto_region 2 with (first | ((with_reducible refine gate_callee (f := 11) rfl ?_); refine goesL_ (some 19) rfl rfl Try.func11 (by kernel_rfl) rfl #[] rfl (by (try simp only [List.map_toArray, List.map_cons, List.map_nil]); first | done | rfl | (simp only [List.length_drop, List.length_take]; rfl)) ?_; (with_reducible refine (wageofficelaw22_head.calls  t145 _ A4.out).mono ?_); rintro e w6 ⟨rfl, hb⟩; refine ⟨_, rfl, ?_⟩; have n0_ := Aside0.mk (below_step (by repeat (first | (with_reducible first | exact HB.out | apply below_alloc | apply pw_below_drewN | apply below_drew1) | exact HB.out)) hb); clear HB; have HB := n0_; clear n0_; (try clear hb); (try clear hb2); (try clear hk); (try clear hi)))
  (try simp only [Act.put, List.setIfInBounds_toArray, List.set_cons_zero, List.set_cons_succ])
  go_cut [28] (fun v28 wc => ∃ (kq : Nat) (x28_4 : Bool), v28 = .bool x28_4 ∧ Aside0 (wageofficelaw22_PunchesLeast.j0 kq l0 l1 l2 t145 x28_4 = some r) ∧ Aside0 (kq ≤ k) ∧ Aside0 (Below w.heap.size w wc))
  case first =>
    have H := HC5.out
    clear HC5
    replace H := Option.bind_eq_some_iff.mp H
    obtain ⟨t146, A70, H⟩ := H
    replace H : (if t146 = true then (wageofficelaw22_PunchesLeast.j0 k l0 l1 l2 t145 (decide ((l2.length : Int) > 200))) else (wageofficelaw22_PunchesLeast.j0 k l0 l1 l2 t145 true)) = some r := H
    have A7 := Aside0.mk A70
    clear A70
    by_cases c8 : t146 = true
    · subst c8
      have H1 : (wageofficelaw22_PunchesLeast.j0 k l0 l1 l2 t145 (decide ((l2.length : Int) > 200))) = some r := by rw [if_pos rfl] at H; exact H
      clear H
      have H := H1
      clear H1
      have H' := Aside0.mk H
      clear H
      go_wp2_with (first | ((with_reducible refine gate_callee (f := 19) rfl ?_); refine goesL_ (some 22) rfl rfl Try.func19 (by kernel_rfl) rfl #[.slice A0 l0.length c0, .slice A1 l1.length c1] rfl (by (try simp only [List.map_toArray, List.map_cons, List.map_nil]); first | done | rfl | (simp only [List.length_drop, List.length_take]; rfl)) ?_; (with_reducible refine (wageofficelaw22_usable.calls k _ _ l0 _ _ l1 true _ ?side1 ?side2 ?side3 ?side4 A7.out).mono ?_); (case side1 => repeat (first | exact (Kd.C_below HR0.out HB.out) | (with_reducible refine Kd.C_alloc ?_ _) | (with_reducible refine Kd.C_drewN ?_ _) | (with_reducible refine Kd.C_drew ?_))); (case side2 => exact HC0.out); (case side3 => repeat (first | exact (Kd.C_below HR1.out HB.out) | (with_reducible refine Kd.C_alloc ?_ _) | (with_reducible refine Kd.C_drewN ?_ _) | (with_reducible refine Kd.C_drew ?_))); (case side4 => exact HC1.out); rintro e w9 ⟨rfl, hb⟩; refine ⟨_, rfl, ?_⟩; have n0_ := Aside0.mk (below_step (by repeat (first | (with_reducible first | exact HB.out | apply below_alloc | apply pw_below_drewN | apply below_drew1) | exact HB.out)) hb); clear HB; have HB := n0_; clear n0_; (try clear hb); (try clear hb2); (try clear hk); (try clear hi)))
      go_meet
      case rel => exact ⟨_, (decide ((l2.length : Int) > 200)), (by first | rfl | (simp; done) | (simp [*]; done)), H', ⟨by first | omega | exact Nat.le_refl _⟩, ⟨by repeat (first | (with_reducible first | exact HB.out | apply below_alloc | apply pw_below_drewN | apply below_drew1) | exact HB.out)⟩⟩
    · replace c8 := Bool.eq_false_iff.mpr c8
      subst c8
      have H1 : (wageofficelaw22_PunchesLeast.j0 k l0 l1 l2 t145 true) = some r := by rw [if_neg (show ¬ (false = true) by decide)] at H; exact H
      clear H
      have H := H1
      clear H1
      have H' := Aside0.mk H
      clear H
      go_wp2_with (first | ((with_reducible refine gate_callee (f := 19) rfl ?_); refine goesL_ (some 22) rfl rfl Try.func19 (by kernel_rfl) rfl #[.slice A0 l0.length c0, .slice A1 l1.length c1] rfl (by (try simp only [List.map_toArray, List.map_cons, List.map_nil]); first | done | rfl | (simp only [List.length_drop, List.length_take]; rfl)) ?_; (with_reducible refine (wageofficelaw22_usable.calls k _ _ l0 _ _ l1 false _ ?side1 ?side2 ?side3 ?side4 A7.out).mono ?_); (case side1 => repeat (first | exact (Kd.C_below HR0.out HB.out) | (with_reducible refine Kd.C_alloc ?_ _) | (with_reducible refine Kd.C_drewN ?_ _) | (with_reducible refine Kd.C_drew ?_))); (case side2 => exact HC0.out); (case side3 => repeat (first | exact (Kd.C_below HR1.out HB.out) | (with_reducible refine Kd.C_alloc ?_ _) | (with_reducible refine Kd.C_drewN ?_ _) | (with_reducible refine Kd.C_drew ?_))); (case side4 => exact HC1.out); rintro e w10 ⟨rfl, hb⟩; refine ⟨_, rfl, ?_⟩; have n0_ := Aside0.mk (below_step (by repeat (first | (with_reducible first | exact HB.out | apply below_alloc | apply pw_below_drewN | apply below_drew1) | exact HB.out)) hb); clear HB; have HB := n0_; clear n0_; (try clear hb); (try clear hb2); (try clear hk); (try clear hi)))
      go_meet
      case rel => exact ⟨_, (true), (by first | rfl | (simp; done) | (simp [*]; done)), H', ⟨by first | omega | exact Nat.le_refl _⟩, ⟨by repeat (first | (with_reducible first | exact HB.out | apply below_alloc | apply pw_below_drewN | apply below_drew1) | exact HB.out)⟩⟩
  case rest =>
    clear HC5
    try clear c1
    try clear c2
    try clear p2
    try clear c4
    try clear c8
    obtain ⟨kq, x28_4, rfl, HA, HJ4, HB⟩ := hcut
    cases kq with
    | zero => exact absurd HA.out (by simp [wageofficelaw22_PunchesLeast.j0])
    | succ kj4 =>
      have H := HA.out
      clear HA
      simp only [wageofficelaw22_PunchesLeast.j0] at H
      by_cases c11 : x28_4 = true
      · subst c11
        have H1 : (some t145) = some r := by rw [if_pos rfl] at H; exact H
        clear H
        have H := H1
        clear H1
        obtain rfl := Option.some.inj H
        go_wp2
        go_ret
        exact ⟨by first | rfl | (simp [errW_none, errW_some] <;> rfl) | (simp [*, errW_none, errW_some] <;> rfl), by repeat (first | (with_reducible first | exact HB.out | apply below_alloc | apply pw_below_drewN | apply below_drew1) | exact HB.out)⟩
      · replace c11 := Bool.eq_false_iff.mpr c11
        subst c11
        have H1 : ((punches_Pair.f l0 l1).bind fun bt147 => ((wageofficeref22_Aligned.f l0 l1 bt147.1).bind fun bt152 => (if bt147.2.2 = 0 then (if bt152.2 = true then (wageofficelaw22_PunchesLeast.j1 kj4 l0 l1 l2 t145 bt147.2.1 (bt152.1 != bt147.2.1)) else (wageofficelaw22_PunchesLeast.j1 kj4 l0 l1 l2 t145 bt147.2.1 true)) else (wageofficelaw22_PunchesLeast.j1 kj4 l0 l1 l2 t145 bt147.2.1 true)))) = some r := by rw [if_neg (show ¬ (false = true) by decide)] at H; exact H
        clear H
        have H := H1
        clear H1
        replace H := Option.bind_eq_some_iff.mp H
        obtain ⟨⟨t147, t148, t149⟩, A120, H⟩ := H
        replace H : ((wageofficeref22_Aligned.f l0 l1 t147).bind fun bt152 => (if t149 = 0 then (if bt152.2 = true then (wageofficelaw22_PunchesLeast.j1 kj4 l0 l1 l2 t145 t148 (bt152.1 != t148)) else (wageofficelaw22_PunchesLeast.j1 kj4 l0 l1 l2 t145 t148 true)) else (wageofficelaw22_PunchesLeast.j1 kj4 l0 l1 l2 t145 t148 true))) = some r := H
        have A12 := Aside0.mk A120
        clear A120
        replace H := Option.bind_eq_some_iff.mp H
        obtain ⟨⟨t152, t153⟩, A130, H⟩ := H
        replace H : (if t149 = 0 then (if t153 = true then (wageofficelaw22_PunchesLeast.j1 kj4 l0 l1 l2 t145 t148 (t152 != t148)) else (wageofficelaw22_PunchesLeast.j1 kj4 l0 l1 l2 t145 t148 true)) else (wageofficelaw22_PunchesLeast.j1 kj4 l0 l1 l2 t145 t148 true)) = some r := H
        have A13 := Aside0.mk A130
        clear A130
        have HC14 := Aside0.mk H
        clear H
        go_upto_region 6 with (first | ((with_reducible refine gate_callee (f := 13) rfl ?_); refine goesL_ (some 33) rfl rfl Try.func13 (by kernel_rfl) rfl #[.slice A0 l0.length c0, .slice A1 l1.length c1] rfl (by (try simp only [List.map_toArray, List.map_cons, List.map_nil]); first | done | rfl | (simp only [List.length_drop, List.length_take]; rfl)) ?_; (with_reducible refine (punches_Pair.calls _ _ l0 _ _ l1 t147 t148 t149 _ ?side1 ?side2 ?side3 ?side4 A12.out).mono ?_); (case side1 => repeat (first | exact (Kd.C_below HR0.out HB.out) | (with_reducible refine Kd.C_alloc ?_ _) | (with_reducible refine Kd.C_drewN ?_ _) | (with_reducible refine Kd.C_drew ?_))); (case side2 => exact HC0.out); (case side3 => repeat (first | exact (Kd.C_below HR1.out HB.out) | (with_reducible refine Kd.C_alloc ?_ _) | (with_reducible refine Kd.C_drewN ?_ _) | (with_reducible refine Kd.C_drew ?_))); (case side4 => exact HC1.out); rintro e w15 ⟨v150, rfl, ho0, hb⟩; refine ⟨_, rfl, ?_⟩; have n0_ := Aside0.mk (Kd.R_lower ho0 (below_size (by repeat (first | (with_reducible first | exact HB.out | apply below_alloc | apply pw_below_drewN | apply below_drew1) | exact HB.out)))); have n1_ := Aside0.mk (below_step (by repeat (first | (with_reducible first | exact HB.out | apply below_alloc | apply pw_below_drewN | apply below_drew1) | exact HB.out)) hb); clear HB; have HO151 := n0_; have HB := n1_; clear n0_ n1_; (try clear hb); (try clear hb2); (try clear hk); (try clear hi); (try clear ho0); obtain ⟨Ao16, co16, eo16⟩ := Kd.R_slice HO151.out; subst eo16) | ((with_reducible refine gate_callee (f := 20) rfl ?_); refine goesL_ (some 41) rfl rfl Try.func20 (by kernel_rfl) rfl #[.slice A0 l0.length c0, .slice A1 l1.length c1, .slice Ao16 t147.length co16] rfl (by (try simp only [List.map_toArray, List.map_cons, List.map_nil]); first | done | rfl | (simp only [List.length_drop, List.length_take]; rfl)) ?_; (with_reducible refine (wageofficeref22_Aligned.calls _ _ l0 _ _ l1 _ _ t147 t152 t153 _ ?side1 ?side2 ?side3 ?side4 ?side5 ?side6 A13.out).mono ?_); (case side1 => repeat (first | exact (Kd.C_below HR0.out HB.out) | (with_reducible refine Kd.C_alloc ?_ _) | (with_reducible refine Kd.C_drewN ?_ _) | (with_reducible refine Kd.C_drew ?_))); (case side2 => exact HC0.out); (case side3 => repeat (first | exact (Kd.C_below HR1.out HB.out) | (with_reducible refine Kd.C_alloc ?_ _) | (with_reducible refine Kd.C_drewN ?_ _) | (with_reducible refine Kd.C_drew ?_))); (case side4 => exact HC1.out); (case side5 => repeat (first | exact (Kd.R_reads' HO151.out).2.2 | (with_reducible refine Kd.C_alloc ?_ _) | (with_reducible refine Kd.C_drewN ?_ _) | (with_reducible refine Kd.C_drew ?_))); (case side6 => exact (Kd.R_reads' HO151.out).2.1); rintro e w17 ⟨rfl, hb⟩; refine ⟨_, rfl, ?_⟩; have n0_ := Aside0.mk (Kd.R_below (by (with_reducible repeat (first | apply Kd.R_alloc | apply Kd.R_drewN | apply Kd.R_drew)); exact HO151.out) hb); have n1_ := Aside0.mk (below_step (by repeat (first | (with_reducible first | exact HB.out | apply below_alloc | apply pw_below_drewN | apply below_drew1) | exact HB.out)) hb); clear HO151; clear HB; have HO151 := n0_; have HB := n1_; clear n0_ n1_; (try clear hb); (try clear hb2); (try clear hk); (try clear hi)))
        (try simp only [Act.put, List.setIfInBounds_toArray, List.set_cons_zero, List.set_cons_succ])
        go_cut [54] (fun v54 wc => ∃ (kq : Nat) (x54_13 : Bool), v54 = .bool x54_13 ∧ Aside0 (wageofficelaw22_PunchesLeast.j1 kq l0 l1 l2 t145 t148 x54_13 = some r) ∧ Aside0 (kq ≤ kj4) ∧ Aside0 (Below w.heap.size w wc))
        case first =>
          have H := HC14.out
          clear HC14
          by_cases c18 : t149 = 0
          · rw [if_pos c18] at H
            have c18b0 : (t149 == 0) = true := beq_iff_eq.mpr c18
            have c18b1 : (t149 != 0) = false := bne_eq_false_iff_eq.mpr c18
            clear c18
            (first | rw [c18b0] | (simp only [i64_w, i32_w]; rw [c18b0]) | skip)
            by_cases c19 : t153 = true
            · subst c19
              have H1 : (wageofficelaw22_PunchesLeast.j1 kj4 l0 l1 l2 t145 t148 (t152 != t148)) = some r := by rw [if_pos rfl] at H; exact H
              clear H
              have H := H1
              clear H1
              have H' := Aside0.mk H
              clear H
              go_wp2
              go_meet
              case rel => exact ⟨_, ((t152 != t148)), (by first | rfl | (simp; done) | (simp [*]; done)), H', ⟨by have := HJ4.out; first | omega | exact Nat.le_refl _⟩, ⟨by repeat (first | (with_reducible first | exact HB.out | apply below_alloc | apply pw_below_drewN | apply below_drew1) | exact HB.out)⟩⟩
            · replace c19 := Bool.eq_false_iff.mpr c19
              subst c19
              have H1 : (wageofficelaw22_PunchesLeast.j1 kj4 l0 l1 l2 t145 t148 true) = some r := by rw [if_neg (show ¬ (false = true) by decide)] at H; exact H
              clear H
              have H := H1
              clear H1
              have H' := Aside0.mk H
              clear H
              go_wp2
              go_meet
              case rel => exact ⟨_, (true), (by first | rfl | (simp; done) | (simp [*]; done)), H', ⟨by have := HJ4.out; first | omega | exact Nat.le_refl _⟩, ⟨by repeat (first | (with_reducible first | exact HB.out | apply below_alloc | apply pw_below_drewN | apply below_drew1) | exact HB.out)⟩⟩
          · rw [if_neg c18] at H
            have c18b0 : (t149 == 0) = false := beq_eq_false_iff_ne.mpr c18
            have c18b1 : (t149 != 0) = true := bne_iff_ne.mpr c18
            (first | rw [c18b0] | (simp only [i64_w, i32_w]; rw [c18b0]) | skip)
            have H' := Aside0.mk H
            clear H
            go_wp2
            go_meet
            case rel => exact ⟨_, (true), (by first | rfl | (simp; done) | (simp [*]; done)), H', ⟨by have := HJ4.out; first | omega | exact Nat.le_refl _⟩, ⟨by repeat (first | (with_reducible first | exact HB.out | apply below_alloc | apply pw_below_drewN | apply below_drew1) | exact HB.out)⟩⟩
        case rest =>
          clear HC14
          try clear c1
          try clear c2
          try clear p2
          try clear c4
          try clear c8
          try clear c11
          try clear c13
          try clear c18
          try clear c18b0
          try clear c18b1
          try clear c19
          try clear p2
          obtain ⟨kq, x54_13, rfl, HA, HJ13, HB⟩ := hcut
          cases kq with
          | zero => exact absurd HA.out (by simp [wageofficelaw22_PunchesLeast.j1])
          | succ kj13 =>
            have H := HA.out
            clear HA
            simp only [wageofficelaw22_PunchesLeast.j1] at H
            by_cases c20 : x54_13 = true
            · subst c20
              have H1 : (some false) = some r := by rw [if_pos rfl] at H; exact H
              clear H
              have H := H1
              clear H1
              exact absurd ((Option.some.inj H).trans PR.out) (by decide)
            · replace c20 := Bool.eq_false_iff.mpr c20
              subst c20
              have H1 : ((wageofficeref22_Marks.f kj13 l0).bind fun t154 => (wageofficelaw22_PunchesLeast.l0 kj13 l1 l2 t145 t148 t154 0 0 0 0)) = some r := by rw [if_neg (show ¬ (false = true) by decide)] at H; exact H
              clear H
              have H := H1
              clear H1
              replace H := Option.bind_eq_some_iff.mp H
              obtain ⟨t154, A210, H⟩ := H
              replace H : (wageofficelaw22_PunchesLeast.l0 kj13 l1 l2 t145 t148 t154 0 0 0 0) = some r := H
              have A21 := Aside0.mk A210
              clear A210
              have H' := Aside0.mk H
              clear H
              go_wp2_with (first | ((with_reducible refine gate_callee (f := 21) rfl ?_); refine goesL_ (some 56) rfl rfl Try.func21 (by kernel_rfl) rfl #[.slice A0 l0.length c0] rfl (by (try simp only [List.map_toArray, List.map_cons, List.map_nil]); first | done | rfl | (simp only [List.length_drop, List.length_take]; rfl)) ?_; (with_reducible refine (wageofficeref22_Marks.calls kj13 _ _ l0 t154 _ ?side1 ?side2 A21.out).mono ?_); (case side1 => repeat (first | exact (Kd.C_below HR0.out HB.out) | (with_reducible refine Kd.C_alloc ?_ _) | (with_reducible refine Kd.C_drewN ?_ _) | (with_reducible refine Kd.C_drew ?_))); (case side2 => exact HC0.out); rintro e w22 ⟨v155, rfl, ho0, hb⟩; refine ⟨_, rfl, ?_⟩; have n0_ := Aside0.mk (Kd.R_lower ho0 (below_size (by repeat (first | (with_reducible first | exact HB.out | apply below_alloc | apply pw_below_drewN | apply below_drew1) | exact HB.out)))); have n1_ := Aside0.mk (below_step (by repeat (first | (with_reducible first | exact HB.out | apply below_alloc | apply pw_below_drewN | apply below_drew1) | exact HB.out)) hb); clear HB; have HO156 := n0_; have HB := n1_; clear n0_ n1_; (try clear hb); (try clear hb2); (try clear hk); (try clear hi); (try clear ho0)))
              go_loopg [14, 15, 16, 17] kj13 (fun kq v14 v15 v16 v17 w' => ∃ (x14_3 : Int) (x15_3 : Int) (x16_3 : Int) (x17_3 : Int), v14 = .int .i64 x14_3 ∧ v15 = .int .i64 x15_3 ∧ v16 = .int .i64 x16_3 ∧ v17 = .int .i64 x17_3 ∧ Aside0 (wageofficelaw22_PunchesLeast.l0 kq l1 l2 t145 t148 t154 x14_3 x15_3 x16_3 x17_3 = some r) ∧ Aside0 (kq ≤ kj13) ∧ Aside0 (Kd.R k43 43 w' w.heap.size (fun _ => True) v155 t154) ∧ Aside0 (Below w.heap.size w w'))
              case atStart => exact ⟨(0), (0), (0), (0), (by first | rfl | (simp; done) | (simp [*]; done)), (by first | rfl | (simp; done) | (simp [*]; done)), (by first | rfl | (simp; done) | (simp [*]; done)), (by first | rfl | (simp; done) | (simp [*]; done)), H', ⟨Nat.le_refl _⟩, ⟨by (with_reducible repeat (first | apply Kd.R_alloc | apply Kd.R_drewN | apply Kd.R_drew)); exact HO156.out⟩, ⟨by repeat (first | (with_reducible first | exact HB.out | apply below_alloc | apply pw_below_drewN | apply below_drew1) | exact HB.out)⟩⟩
              case round =>
                clear H'
                try clear c1
                try clear c2
                try clear p2
                try clear c4
                try clear c8
                try clear c11
                try clear c13
                try clear c18
                try clear c18b0
                try clear c18b1
                try clear c19
                try clear c20
                try clear c21
                try clear p2
                obtain ⟨x14_3, x15_3, x16_3, x17_3, rfl, rfl, rfl, rfl, HA, HK3, HO_13, HB⟩ := hrel
                cases gk with
                | zero => exact absurd HA.out (by simp [wageofficelaw22_PunchesLeast.l0])
                | succ k3 =>
                  have H := HA.out
                  clear HA
                  simp only [wageofficelaw22_PunchesLeast.l0] at H
                  have HC23 := Aside0.mk H
                  clear H
                  go_upto_region 10 with (fail)
                  go_cut [66] (fun v66 wc => ∃ (kq : Nat) (x66_22 : Bool), v66 = .bool x66_22 ∧ Aside0 (wageofficelaw22_PunchesLeast.j3 kq l1 l2 t145 t148 t154 x14_3 x15_3 x16_3 x17_3 x66_22 = some r) ∧ Aside0 (kq ≤ k3) ∧ Aside0 (Kd.R k43 43 wc w.heap.size (fun _ => True) v155 t154) ∧ Aside0 (Below w.heap.size w wc))
                  case first =>
                    have H := HC23.out
                    clear HC23
                    by_cases c24 : x14_3 < (t154.length : Int)
                    · rw [if_pos c24] at H
                      have c24b0 : decide (x14_3 < (t154.length : Int)) = true := decide_eq_true c24
                      clear c24
                      (first | rw [c24b0] | (simp only [i64_w, i32_w]; rw [c24b0]) | skip)
                      have H' := Aside0.mk H
                      clear H
                      obtain ⟨Ao25, co25, eo25⟩ := Kd.R_slice HO_13.out
                      subst eo25
                      go_wp2
                      go_meet
                      case rel => exact ⟨_, (true), (by first | rfl | (simp; done) | (simp [*]; done)), H', ⟨by have := HJ4.out; have := HJ13.out; have := HK3.out; first | omega | exact Nat.le_refl _⟩, ⟨by (with_reducible repeat (first | apply Kd.R_alloc | apply Kd.R_drewN | apply Kd.R_drew)); exact HO_13.out⟩, ⟨by repeat (first | (with_reducible first | exact HB.out | apply below_alloc | apply pw_below_drewN | apply below_drew1) | exact HB.out)⟩⟩
                    · rw [if_neg c24] at H
                      have c24b0 : decide (x14_3 < (t154.length : Int)) = false := decide_eq_false c24
                      clear c24
                      (first | rw [c24b0] | (simp only [i64_w, i32_w]; rw [c24b0]) | skip)
                      have H' := Aside0.mk H
                      clear H
                      obtain ⟨Ao26, co26, eo26⟩ := Kd.R_slice HO_13.out
                      subst eo26
                      go_wp2
                      go_meet
                      case rel => exact ⟨_, (decide (x15_3 < (l1.length : Int))), (by first | rfl | (simp; done) | (simp [*]; done)), H', ⟨by have := HJ4.out; have := HJ13.out; have := HK3.out; first | omega | exact Nat.le_refl _⟩, ⟨by (with_reducible repeat (first | apply Kd.R_alloc | apply Kd.R_drewN | apply Kd.R_drew)); exact HO_13.out⟩, ⟨by repeat (first | (with_reducible first | exact HB.out | apply below_alloc | apply pw_below_drewN | apply below_drew1) | exact HB.out)⟩⟩
                  case rest =>
                    clear HC23
                    try clear c1
                    try clear c2
                    try clear p2
                    try clear c4
                    try clear c8
                    try clear c11
                    try clear c13
                    try clear c18
                    try clear c18b0
                    try clear c18b1
                    try clear c19
                    try clear c20
                    try clear c21
                    try clear c24
                    try clear c24b0
                    try clear p2
                    obtain ⟨kq, x66_22, rfl, HA, HJ22, HO_13, HB⟩ := hcut
                    cases kq with
                    | zero => exact absurd HA.out (by simp [wageofficelaw22_PunchesLeast.j3])
                    | succ kj22 =>
                      have H := HA.out
                      clear HA
                      simp only [wageofficelaw22_PunchesLeast.j3] at H
                      by_cases c27 : x66_22 = true
                      · subst c27
                        have H1 : (if x17_3 < (l2.length : Int) then (if 0 ≤ x17_3 then (wageofficelaw22_PunchesLeast.j4 kj22 l1 l2 t145 t148 t154 x14_3 x15_3 x16_3 x17_3 (Int.tmod (wrap64 (rd l2 x17_3)) 4)) else (none)) else (wageofficelaw22_PunchesLeast.j4 kj22 l1 l2 t145 t148 t154 x14_3 x15_3 x16_3 x17_3 0)) = some r := by rw [if_pos rfl] at H; exact H
                        clear H
                        have H := H1
                        clear H1
                        have HC28 := Aside0.mk H
                        clear H
                        go_upto_if 70 with (fail)
                        go_cut [18] (fun v18 wc => ∃ (kq : Nat) (x18_27 : Int), v18 = .int .i64 x18_27 ∧ Aside0 (wageofficelaw22_PunchesLeast.j4 kq l1 l2 t145 t148 t154 x14_3 x15_3 x16_3 x17_3 x18_27 = some r) ∧ Aside0 (kq ≤ kj22) ∧ Aside0 (Kd.R k43 43 wc w.heap.size (fun _ => True) v155 t154) ∧ Aside0 (Below w.heap.size w wc))
                        case first =>
                          have H := HC28.out
                          clear HC28
                          by_cases c29 : x17_3 < (l2.length : Int)
                          · rw [if_pos c29] at H
                            have c29b0 : decide (x17_3 < (l2.length : Int)) = true := decide_eq_true c29
                            clear c29
                            (first | rw [c29b0] | (simp only [i64_w, i32_w]; rw [c29b0]) | skip)
                            by_cases c30 : 0 ≤ x17_3
                            · rw [if_pos c30] at H
                              have c30b0 : decide (0 ≤ x17_3) = true := decide_eq_true c30
                              clear c30
                              have H' := Aside0.mk H
                              clear H
                              have p157 : 0 ≤ (x17_3 : Int) := of_decide_eq_true (by first | (with_reducible assumption) | assumption)
                              have q157 : x17_3 < (l2.length : Int) := of_decide_eq_true (by first | (with_reducible assumption) | assumption)
                              obtain ⟨ad157, e157, hx157_0⟩ := Kd.at_int HR2.out x17_3 p157 q157
                              cases e157
                              replace hx157_0 := (HB.out.cell (World.block_lt_of_cell? w _ hx157_0)).trans hx157_0
                              replace p157 := eq_true p157
                              replace q157 := eq_true q157
                              go_wp2
                              go_meet
                              case rel => exact ⟨_, (Int.tmod (wrap64 (rd l2 x17_3)) 4), (by first | rfl | (simp; done) | (simp [*]; done)), H', ⟨by have := HJ4.out; have := HJ13.out; have := HK3.out; have := HJ22.out; first | omega | exact Nat.le_refl _⟩, ⟨by (with_reducible repeat (first | apply Kd.R_alloc | apply Kd.R_drewN | apply Kd.R_drew)); exact HO_13.out⟩, ⟨by repeat (first | (with_reducible first | exact HB.out | apply below_alloc | apply pw_below_drewN | apply below_drew1) | exact HB.out)⟩⟩
                            · rw [if_neg c30] at H
                              exact absurd H (by simp)
                          · rw [if_neg c29] at H
                            have c29b0 : decide (x17_3 < (l2.length : Int)) = false := decide_eq_false c29
                            clear c29
                            (first | rw [c29b0] | (simp only [i64_w, i32_w]; rw [c29b0]) | skip)
                            have H' := Aside0.mk H
                            clear H
                            go_wp2
                            go_meet
                            case rel => exact ⟨_, (0), (by first | rfl | (simp; done) | (simp [*]; done)), H', ⟨by have := HJ4.out; have := HJ13.out; have := HK3.out; have := HJ22.out; first | omega | exact Nat.le_refl _⟩, ⟨by (with_reducible repeat (first | apply Kd.R_alloc | apply Kd.R_drewN | apply Kd.R_drew)); exact HO_13.out⟩, ⟨by repeat (first | (with_reducible first | exact HB.out | apply below_alloc | apply pw_below_drewN | apply below_drew1) | exact HB.out)⟩⟩
                        case rest =>
                          clear HC28
                          try clear c1
                          try clear p1
                          try clear q1
                          try clear hx1
                          try clear c2
                          try clear p2
                          try clear c3
                          try clear c4
                          try clear p6
                          try clear c8
                          try clear c11
                          try clear c13
                          try clear p15
                          try clear q15
                          try clear hx15
                          try clear c18
                          try clear c18b0
                          try clear c18b1
                          try clear c19
                          try clear c20
                          try clear c21
                          try clear c24
                          try clear c24b0
                          try clear c27
                          try clear c29
                          try clear c29b0
                          try clear c30
                          try clear c30b0
                          try clear hx157_0
                          try clear p157
                          try clear p2
                          try clear q157
                          obtain ⟨kq, x18_27, rfl, HA, HJ27, HO_13, HB⟩ := hcut
                          cases kq with
                          | zero => exact absurd HA.out (by simp [wageofficelaw22_PunchesLeast.j4])
                          | succ kj27 =>
                            have H := HA.out
                            clear HA
                            simp only [wageofficelaw22_PunchesLeast.j4] at H
                            have HC31 := Aside0.mk H
                            clear H
                            go_upto_region 17 with (fail)
                            go_cut [83] (fun v83 wc => ∃ (kq : Nat) (x83_30 : Bool), v83 = .bool x83_30 ∧ Aside0 (wageofficelaw22_PunchesLeast.j5 kq l1 l2 t145 t148 t154 x14_3 x15_3 x16_3 (wrap64 (x17_3 + 1)) x18_27 x83_30 = some r) ∧ Aside0 (kq ≤ kj27) ∧ Aside0 (Kd.R k43 43 wc w.heap.size (fun _ => True) v155 t154) ∧ Aside0 (Below w.heap.size w wc))
                            case first =>
                              have H := HC31.out
                              clear HC31
                              by_cases c32 : x14_3 < (t154.length : Int)
                              · rw [if_pos c32] at H
                                have c32b0 : decide (x14_3 < (t154.length : Int)) = true := decide_eq_true c32
                                clear c32
                                (first | rw [c32b0] | (simp only [i64_w, i32_w]; rw [c32b0]) | skip)
                                by_cases c33 : x15_3 < (l1.length : Int)
                                · rw [if_pos c33] at H
                                  have c33b0 : decide (x15_3 < (l1.length : Int)) = true := decide_eq_true c33
                                  clear c33
                                  have H' := Aside0.mk H
                                  clear H
                                  obtain ⟨Ao34, co34, eo34⟩ := Kd.R_slice HO_13.out
                                  subst eo34
                                  go_wp2
                                  go_meet
                                  case rel => exact ⟨_, (decide (x18_27 < 2)), (by first | rfl | (simp; done) | (simp [*]; done)), H', ⟨by have := HJ4.out; have := HJ13.out; have := HK3.out; have := HJ22.out; have := HJ27.out; first | omega | exact Nat.le_refl _⟩, ⟨by (with_reducible repeat (first | apply Kd.R_alloc | apply Kd.R_drewN | apply Kd.R_drew)); exact HO_13.out⟩, ⟨by repeat (first | (with_reducible first | exact HB.out | apply below_alloc | apply pw_below_drewN | apply below_drew1) | exact HB.out)⟩⟩
                                · rw [if_neg c33] at H
                                  have c33b0 : decide (x15_3 < (l1.length : Int)) = false := decide_eq_false c33
                                  clear c33
                                  have H' := Aside0.mk H
                                  clear H
                                  obtain ⟨Ao35, co35, eo35⟩ := Kd.R_slice HO_13.out
                                  subst eo35
                                  go_wp2
                                  go_meet
                                  case rel => exact ⟨_, (false), (by first | rfl | (simp; done) | (simp [*]; done)), H', ⟨by have := HJ4.out; have := HJ13.out; have := HK3.out; have := HJ22.out; have := HJ27.out; first | omega | exact Nat.le_refl _⟩, ⟨by (with_reducible repeat (first | apply Kd.R_alloc | apply Kd.R_drewN | apply Kd.R_drew)); exact HO_13.out⟩, ⟨by repeat (first | (with_reducible first | exact HB.out | apply below_alloc | apply pw_below_drewN | apply below_drew1) | exact HB.out)⟩⟩
                              · rw [if_neg c32] at H
                                have c32b0 : decide (x14_3 < (t154.length : Int)) = false := decide_eq_false c32
                                clear c32
                                (first | rw [c32b0] | (simp only [i64_w, i32_w]; rw [c32b0]) | skip)
                                have H' := Aside0.mk H
                                clear H
                                obtain ⟨Ao36, co36, eo36⟩ := Kd.R_slice HO_13.out
                                subst eo36
                                go_wp2
                                go_meet
                                case rel => exact ⟨_, (false), (by first | rfl | (simp; done) | (simp [*]; done)), H', ⟨by have := HJ4.out; have := HJ13.out; have := HK3.out; have := HJ22.out; have := HJ27.out; first | omega | exact Nat.le_refl _⟩, ⟨by (with_reducible repeat (first | apply Kd.R_alloc | apply Kd.R_drewN | apply Kd.R_drew)); exact HO_13.out⟩, ⟨by repeat (first | (with_reducible first | exact HB.out | apply below_alloc | apply pw_below_drewN | apply below_drew1) | exact HB.out)⟩⟩
                            case rest =>
                              clear HC31
                              try clear c1
                              try clear p1
                              try clear q1
                              try clear hx1
                              try clear c2
                              try clear p2
                              try clear c3
                              try clear c4
                              try clear p6
                              try clear c8
                              try clear c11
                              try clear c13
                              try clear p15
                              try clear q15
                              try clear hx15
                              try clear c18
                              try clear c18b0
                              try clear c18b1
                              try clear c19
                              try clear c20
                              try clear c21
                              try clear c24
                              try clear c24b0
                              try clear c27
                              try clear c29
                              try clear c29b0
                              try clear c30
                              try clear c30b0
                              try clear c32
                              try clear c32b0
                              try clear c33
                              try clear c33b0
                              try clear hx157_0
                              try clear p1
                              try clear p15
                              try clear p157
                              try clear p2
                              try clear p6
                              try clear q1
                              try clear q15
                              try clear q157
                              obtain ⟨kq, x83_30, rfl, HA, HJ30, HO_13, HB⟩ := hcut
                              cases kq with
                              | zero => exact absurd HA.out (by simp [wageofficelaw22_PunchesLeast.j5])
                              | succ kj30 =>
                                have H := HA.out
                                clear HA
                                simp only [wageofficelaw22_PunchesLeast.j5] at H
                                by_cases c37 : x83_30 = true
                                · subst c37
                                  have H1 : (if 0 ≤ x14_3 then (if x14_3 < (t154.length : Int) then (if 0 ≤ x15_3 then (if x15_3 < (l1.length : Int) then ((wageofficeref22_Cost.f ((rd_T43 t154 x14_3).f0) ((rd_T43 t154 x14_3).f1) ((rd_T43 t154 x14_3).f2) ((rd_T45 l1 x15_3).f0) ((rd_T45 l1 x15_3).f1)).bind fun t160 => (wageofficelaw22_PunchesLeast.l0 kj30 l1 l2 t145 t148 t154 (wrap64 (x14_3 + 1)) (wrap64 (x15_3 + 1)) (wrap64 (x16_3 + t160)) (wrap64 (x17_3 + 1)))) else (none)) else (none)) else (none)) else (none)) = some r := by rw [if_pos rfl] at H; exact H
                                  clear H
                                  have H := H1
                                  clear H1
                                  by_cases c38 : 0 ≤ x14_3
                                  · rw [if_pos c38] at H
                                    have c38b0 : decide (0 ≤ x14_3) = true := decide_eq_true c38
                                    clear c38
                                    by_cases c39 : x14_3 < (t154.length : Int)
                                    · rw [if_pos c39] at H
                                      have c39b0 : decide (x14_3 < (t154.length : Int)) = true := decide_eq_true c39
                                      clear c39
                                      by_cases c40 : 0 ≤ x15_3
                                      · rw [if_pos c40] at H
                                        have c40b0 : decide (0 ≤ x15_3) = true := decide_eq_true c40
                                        clear c40
                                        by_cases c41 : x15_3 < (l1.length : Int)
                                        · rw [if_pos c41] at H
                                          have c41b0 : decide (x15_3 < (l1.length : Int)) = true := decide_eq_true c41
                                          clear c41
                                          replace H := Option.bind_eq_some_iff.mp H
                                          obtain ⟨t160, A420, H⟩ := H
                                          replace H : (wageofficelaw22_PunchesLeast.l0 kj30 l1 l2 t145 t148 t154 (wrap64 (x14_3 + 1)) (wrap64 (x15_3 + 1)) (wrap64 (x16_3 + t160)) (wrap64 (x17_3 + 1))) = some r := H
                                          have A42 := Aside0.mk A420
                                          clear A420
                                          have H' := Aside0.mk H
                                          clear H
                                          try go_wp2
                                          have n0_ := Aside0.mk (Kd.R_drew HO_13.out)
                                          have n1_ := Aside0.mk (below_drew1 HB.out)
                                          clear HO_13
                                          clear HB
                                          have HO_13 := n0_
                                          have HB := n1_
                                          clear n0_ n1_
                                          obtain ⟨Ao44, co44, eo44⟩ := Kd.R_slice HO_13.out
                                          (first | subst eo44 | (injection eo44 with f1_ f2_ f3_; have f4_ := f1_.symm; have f5_ := f3_.symm; clear f1_ f2_ f3_; subst f4_; subst f5_))
                                          have p158 : 0 ≤ (x14_3 : Int) := of_decide_eq_true (by first | (with_reducible assumption) | assumption)
                                          have q158 : x14_3 < (t154.length : Int) := of_decide_eq_true (by first | (with_reducible assumption) | assumption)
                                          obtain ⟨ad158, e158, hx158_0, hx158_1, hx158_2⟩ := at_T43 (Kd.R_reads' HO_13.out).2.2 x14_3 p158 q158
                                          cases e158
                                          replace p158 := eq_true p158
                                          replace q158 := eq_true q158
                                          have p159 : 0 ≤ (x15_3 : Int) := of_decide_eq_true (by first | (with_reducible assumption) | assumption)
                                          have q159 : x15_3 < (l1.length : Int) := of_decide_eq_true (by first | (with_reducible assumption) | assumption)
                                          obtain ⟨ad159, e159, hx159_0, hx159_1⟩ := at_T45 HR1.out x15_3 p159 q159
                                          have hw159_1 := hx159_1
                                          have hw159_0 := hx159_0
                                          cases e159
                                          replace hx159_0 := (HB.out.cell (World.block_lt_of_cell? w _ hx159_0)).trans hx159_0
                                          replace hx159_1 := (HB.out.cell (World.block_lt_of_cell? w _ hx159_1)).trans hx159_1
                                          replace p159 := eq_true p159
                                          replace q159 := eq_true q159
                                          refine start_ (n := 12) (S := fun w' => w'.cell? (ad158.add ((x14_3).toNat * 3)) = some (.int .i64 ((rd_T43 t154 x14_3).f0)) ∧ w'.cell? ⟨(ad158.add ((x14_3).toNat * 3)).block, (ad158.add ((x14_3).toNat * 3)).off + 1, none⟩ = some (.bool ((rd_T43 t154 x14_3).f1)) ∧ w'.cell? ⟨(ad158.add ((x14_3).toNat * 3)).block, (ad158.add ((x14_3).toNat * 3)).off + 2, none⟩ = some (.int .i64 ((rd_T43 t154 x14_3).f2)) ∧ w'.cell? (ad159.add ((x15_3).toNat * 2)) = some (.int .i64 ((rd_T45 l1 x15_3).f0)) ∧ w'.cell? ⟨(ad159.add ((x15_3).toNat * 2)).block, (ad159.add ((x15_3).toNat * 2)).off + 1, none⟩ = some (.bool ((rd_T45 l1 x15_3).f1))) (ds := []) #[false, false, false, false, false, false, false, false, false, false, false, false] (by kernel_rfl) rfl rfl ⟨hx158_0, hx158_1, hx158_2, ((HB.out.cell (World.block_lt_of_cell? w _ hw159_0)).trans hw159_0), ((HB.out.cell (World.block_lt_of_cell? w _ hw159_1)).trans hw159_1)⟩ (fun hHeld => ?_); refine with_tabW wageofficelaw22_PunchesLeast.tab18 wageofficelaw22_PunchesLeast.bits18 (fun HT_ HW_ => ?_)
                                          generalize wc.drew = w43 at HO_13 HB hx158_0 hx158_1 hx158_2 hx159_0 hx159_1 hHeld ⊢
                                          refine pure_ (i := 0) (N := some 98) (v := ?_) (a' := ?_) #[true, false, false, false, false, false, false, false, false, false, false, false] rfl rfl (any_of HT_.out (by kernel_rfl)) (fun _ _ _ h => h) (Or.inl ⟨by rfl, ?_⟩) ?_ ?_
                                          rotate_left
                                          · intro w'
                                            go_simp
                                            with_reducible rfl
                                          rotate_left
                                          · simp only [Act.put, List.setIfInBounds_toArray, List.set_cons_zero, List.set_cons_succ, i64_w, i32_w]
                                            rfl
                                          refine pure_ (i := 1) (N := some 99) (v := ?_) (a' := ?_) #[true, true, false, false, false, false, false, false, false, false, false, false] rfl rfl (any_of HT_.out (by kernel_rfl)) (fun _ _ _ h => h) (Or.inl ⟨by rfl, ?_⟩) ?_ ?_
                                          rotate_left
                                          · intro w'
                                            go_simp
                                            with_reducible rfl
                                          rotate_left
                                          · simp only [Act.put, List.setIfInBounds_toArray, List.set_cons_zero, List.set_cons_succ, i64_w, i32_w]
                                            rfl
                                          refine pure_ (i := 2) (N := some 100) (v := ?_) (a' := ?_) #[true, true, true, false, false, false, false, false, false, false, false, false] rfl rfl (any_of HT_.out (by kernel_rfl)) (fun _ _ _ h => h) (Or.inl ⟨by rfl, ?_⟩) ?_ ?_
                                          rotate_left
                                          · intro w'
                                            go_simp
                                            with_reducible rfl
                                          rotate_left
                                          · simp only [Act.put, List.setIfInBounds_toArray, List.set_cons_zero, List.set_cons_succ, i64_w, i32_w]
                                            rfl
                                          refine pure_ (i := 3) (N := some 101) (v := ?_) (a' := ?_) #[true, true, true, true, false, false, false, false, false, false, false, false] rfl rfl (any_of HT_.out (by kernel_rfl)) (fun _ _ _ h => h) (Or.inl ⟨by rfl, ?_⟩) ?_ ?_
                                          rotate_left
                                          · intro w'
                                            go_simp
                                            with_reducible rfl
                                          rotate_left
                                          · simp only [Act.put, List.setIfInBounds_toArray, List.set_cons_zero, List.set_cons_succ, i64_w, i32_w]
                                            rfl
                                          refine pure_ (i := 5) (N := some 103) (v := ?_) (a' := ?_) #[true, true, true, true, false, true, false, false, false, false, false, false] rfl rfl (any_of HT_.out (by kernel_rfl)) (fun _ _ _ h => h) (Or.inl ⟨by rfl, ?_⟩) ?_ ?_
                                          rotate_left
                                          · intro w'
                                            go_simp
                                            with_reducible rfl
                                          rotate_left
                                          · simp only [Act.put, List.setIfInBounds_toArray, List.set_cons_zero, List.set_cons_succ, i64_w, i32_w]
                                            rfl
                                          refine pure_ (i := 6) (N := some 104) (v := ?_) (a' := ?_) #[true, true, true, true, false, true, true, false, false, false, false, false] rfl rfl (any_of HT_.out (by kernel_rfl)) (fun _ _ _ h => h) (Or.inl ⟨by rfl, ?_⟩) ?_ ?_
                                          rotate_left
                                          · intro w'
                                            go_simp
                                            with_reducible rfl
                                          rotate_left
                                          · simp only [Act.put, List.setIfInBounds_toArray, List.set_cons_zero, List.set_cons_succ, i64_w, i32_w]
                                            rfl
                                          refine pure_ (i := 7) (N := some 105) (v := ?_) (a' := ?_) #[true, true, true, true, false, true, true, true, false, false, false, false] rfl rfl (any_of HT_.out (by kernel_rfl)) (fun _ _ _ h => h) (Or.inl ⟨by rfl, ?_⟩) ?_ ?_
                                          rotate_left
                                          · intro w'
                                            go_simp
                                            with_reducible rfl
                                          rotate_left
                                          · simp only [Act.put, List.setIfInBounds_toArray, List.set_cons_zero, List.set_cons_succ, i64_w, i32_w]
                                            rfl
                                          refine take_ (i := 4) (N := some 102) (v := ?_) (a' := ?_) #[true, true, true, true, true, true, true, true, false, false, false, false] rfl rfl (take_ofW HT_.out HW_.out (by kernel_rfl)) (fun _ _ _ h => h) (Or.inl ⟨by rfl, ?_⟩) hHeld ?_ ?_
                                          rotate_left
                                          · rintro w' ⟨s0, s1, s2, s3, s4⟩
                                            go_simp
                                            with_reducible rfl
                                          rotate_left
                                          · simp only [Act.put, List.setIfInBounds_toArray, List.set_cons_zero, List.set_cons_succ, i64_w, i32_w]
                                            rfl
                                          refine take_ (i := 8) (N := some 106) (v := ?_) (a' := ?_) #[true, true, true, true, true, true, true, true, true, false, false, false] rfl rfl (take_ofW HT_.out HW_.out (by kernel_rfl)) (fun _ _ _ h => h) (Or.inl ⟨by rfl, ?_⟩) hHeld ?_ ?_
                                          rotate_left
                                          · rintro w' ⟨s0, s1, s2, s3, s4⟩
                                            go_simp
                                            with_reducible rfl
                                          rotate_left
                                          · simp only [Act.put, List.setIfInBounds_toArray, List.set_cons_zero, List.set_cons_succ, i64_w, i32_w]
                                            rfl
                                          refine one_ (i := 9) (N := some 107) #[true, true, true, true, true, true, true, true, true, true, false, false] rfl rfl (one_of HT_.out (by kernel_rfl)) (by decide) (fun K hK => ?_)
                                          refine goes_ Try.func22 (by kernel_rfl) rfl #[.agg #[.int .i64 ((rd_T43 t154 x14_3).f0), .bool ((rd_T43 t154 x14_3).f1), .int .i64 ((rd_T43 t154 x14_3).f2)], .agg #[.int .i64 ((rd_T45 l1 x15_3).f0), .bool ((rd_T45 l1 x15_3).f1)]] (by rfl) rfl rfl (by (try simp only [List.map_toArray, List.map_cons, List.map_nil]); first | done | rfl | (simp only [List.length_drop, List.length_take]; rfl)) ?_
                                          with_reducible refine (wageofficeref22_Cost.calls ((rd_T43 t154 x14_3).f0) ((rd_T43 t154 x14_3).f1) ((rd_T43 t154 x14_3).f2) ((rd_T45 l1 x15_3).f0) ((rd_T45 l1 x15_3).f1) t160 _ A42.out).mono ?_
                                          rintro e w45 ⟨rfl, hb⟩
                                          have HS0_ := (hb.cell (World.block_lt_of_cell? _ _ (hHeld.1))).trans (hHeld.1)
                                          have HS1_ := (hb.cell (World.block_lt_of_cell? _ _ (hHeld.2.1))).trans (hHeld.2.1)
                                          have HS2_ := (hb.cell (World.block_lt_of_cell? _ _ (hHeld.2.2.1))).trans (hHeld.2.2.1)
                                          refine ⟨_, rfl, ?_⟩
                                          have n0_ := Aside0.mk (Kd.R_below (by (with_reducible repeat (first | apply Kd.R_alloc | apply Kd.R_drewN | apply Kd.R_drew)); exact HO_13.out) hb)
                                          have n1_ := Aside0.mk (below_step (by repeat (first | (with_reducible first | exact HB.out | apply below_alloc | apply pw_below_drewN | apply below_drew1) | exact HB.out)) hb)
                                          clear HO_13
                                          clear HB
                                          have HO_13 := n0_
                                          have HB := n1_
                                          clear n0_ n1_
                                          (try clear hb)
                                          (try clear hb2)
                                          (try clear hk)
                                          (try clear hi)
                                          refine hK.out _ _ ⟨HS0_, HS1_, HS2_, ((HB.out.cell (World.block_lt_of_cell? w _ hw159_0)).trans hw159_0), ((HB.out.cell (World.block_lt_of_cell? w _ hw159_1)).trans hw159_1)⟩ (fun hHeld => ?_)
                                          clear hK K
                                          refine norm_ (a' := ?_) ?_ ?_
                                          rotate_left
                                          · show Act.put _ (some 107) _ = _
                                            simp only [Act.put, List.setIfInBounds_toArray, List.set_cons_zero, List.set_cons_succ, i64_w, i32_w]
                                            rfl
                                          refine pure_ (i := 10) (N := some 108) (v := ?_) (a' := ?_) #[true, true, true, true, true, true, true, true, true, true, true, false] rfl rfl (any_of HT_.out (by kernel_rfl)) (fun _ _ _ h => h) (Or.inl ⟨by rfl, ?_⟩) ?_ ?_
                                          rotate_left
                                          · intro w'
                                            go_simp
                                            with_reducible rfl
                                          rotate_left
                                          · simp only [Act.put, List.setIfInBounds_toArray, List.set_cons_zero, List.set_cons_succ, i64_w, i32_w]
                                            rfl
                                          refine pure_ (i := 11) (N := some 16) (v := ?_) (a' := ?_) #[true, true, true, true, true, true, true, true, true, true, true, true] rfl rfl (any_of HT_.out (by kernel_rfl)) (fun _ _ _ h => h) (Or.inl ⟨by rfl, ?_⟩) ?_ ?_
                                          rotate_left
                                          · intro w'
                                            go_simp
                                            with_reducible rfl
                                          rotate_left
                                          · simp only [Act.put, List.setIfInBounds_toArray, List.set_cons_zero, List.set_cons_succ, i64_w, i32_w]
                                            rfl
                                          refine done_ (done_of HT_.out (by kernel_rfl)) ?_
                                          try go_wp2
                                          go_roundg kj30
                                          case measure => have := HJ4.out; have := HJ13.out; have := HK3.out; have := HJ22.out; have := HJ27.out; have := HJ30.out; omega
                                          case rel => exact ⟨(wrap64 (x14_3 + 1)), (wrap64 (x15_3 + 1)), (wrap64 (x16_3 + t160)), ((wrap64 (x17_3 + 1))), (by first | rfl | (simp; done) | (simp [*]; done)), (by first | rfl | (simp; done) | (simp [*]; done)), (by first | rfl | (simp; done) | (simp [*]; done)), (by first | rfl | (simp; done) | (simp [*]; done)), H', ⟨by have := HJ4.out; have := HJ13.out; have := HK3.out; have := HJ22.out; have := HJ27.out; have := HJ30.out; omega⟩, ⟨by (with_reducible repeat (first | apply Kd.R_alloc | apply Kd.R_drewN | apply Kd.R_drew)); exact HO_13.out⟩, ⟨by repeat (first | (with_reducible first | exact HB.out | apply below_alloc | apply pw_below_drewN | apply below_drew1) | exact HB.out)⟩⟩
                                        · rw [if_neg c41] at H
                                          exact absurd H (by simp)
                                      · rw [if_neg c40] at H
                                        exact absurd H (by simp)
                                    · rw [if_neg c39] at H
                                      exact absurd H (by simp)
                                  · rw [if_neg c38] at H
                                    exact absurd H (by simp)
                                · replace c37 := Bool.eq_false_iff.mpr c37
                                  subst c37
                                  have H1 : (if x14_3 < (t154.length : Int) then (if x18_27 = 2 then (wageofficelaw22_PunchesLeast.j6 kj30 l1 l2 t145 t148 t154 x14_3 x15_3 x16_3 (wrap64 (x17_3 + 1)) true) else (wageofficelaw22_PunchesLeast.j6 kj30 l1 l2 t145 t148 t154 x14_3 x15_3 x16_3 (wrap64 (x17_3 + 1)) (x15_3 == (l1.length : Int)))) else (wageofficelaw22_PunchesLeast.j6 kj30 l1 l2 t145 t148 t154 x14_3 x15_3 x16_3 (wrap64 (x17_3 + 1)) false)) = some r := by rw [if_neg (show ¬ (false = true) by decide)] at H; exact H
                                  clear H
                                  have H := H1
                                  clear H1
                                  have HC46 := Aside0.mk H
                                  clear H
                                  go_upto_region 20 with (fail)
                                  go_cut [113] (fun v113 wc => ∃ (kq : Nat) (x113_45 : Bool), v113 = .bool x113_45 ∧ Aside0 (wageofficelaw22_PunchesLeast.j6 kq l1 l2 t145 t148 t154 x14_3 x15_3 x16_3 (wrap64 (x17_3 + 1)) x113_45 = some r) ∧ Aside0 (kq ≤ kj30) ∧ Aside0 (Kd.R k43 43 wc w.heap.size (fun _ => True) v155 t154) ∧ Aside0 (Below w.heap.size w wc))
                                  case first =>
                                    have H := HC46.out
                                    clear HC46
                                    by_cases c47 : x14_3 < (t154.length : Int)
                                    · rw [if_pos c47] at H
                                      have c47b0 : decide (x14_3 < (t154.length : Int)) = true := decide_eq_true c47
                                      clear c47
                                      (first | rw [c47b0] | (simp only [i64_w, i32_w]; rw [c47b0]) | skip)
                                      by_cases c48 : x18_27 = 2
                                      · rw [if_pos c48] at H
                                        have c48b0 : (x18_27 == 2) = true := beq_iff_eq.mpr c48
                                        have c48b1 : (x18_27 != 2) = false := bne_eq_false_iff_eq.mpr c48
                                        clear c48
                                        have H' := Aside0.mk H
                                        clear H
                                        obtain ⟨Ao49, co49, eo49⟩ := Kd.R_slice HO_13.out
                                        subst eo49
                                        go_wp2
                                        go_meet
                                        case rel => exact ⟨_, (true), (by first | rfl | (simp; done) | (simp [*]; done)), H', ⟨by have := HJ4.out; have := HJ13.out; have := HK3.out; have := HJ22.out; have := HJ27.out; have := HJ30.out; first | omega | exact Nat.le_refl _⟩, ⟨by (with_reducible repeat (first | apply Kd.R_alloc | apply Kd.R_drewN | apply Kd.R_drew)); exact HO_13.out⟩, ⟨by repeat (first | (with_reducible first | exact HB.out | apply below_alloc | apply pw_below_drewN | apply below_drew1) | exact HB.out)⟩⟩
                                      · rw [if_neg c48] at H
                                        have c48b0 : (x18_27 == 2) = false := beq_eq_false_iff_ne.mpr c48
                                        have c48b1 : (x18_27 != 2) = true := bne_iff_ne.mpr c48
                                        have H' := Aside0.mk H
                                        clear H
                                        obtain ⟨Ao50, co50, eo50⟩ := Kd.R_slice HO_13.out
                                        subst eo50
                                        go_wp2
                                        go_meet
                                        case rel => exact ⟨_, ((x15_3 == (l1.length : Int))), (by first | rfl | (simp; done) | (simp [*]; done)), H', ⟨by have := HJ4.out; have := HJ13.out; have := HK3.out; have := HJ22.out; have := HJ27.out; have := HJ30.out; first | omega | exact Nat.le_refl _⟩, ⟨by (with_reducible repeat (first | apply Kd.R_alloc | apply Kd.R_drewN | apply Kd.R_drew)); exact HO_13.out⟩, ⟨by repeat (first | (with_reducible first | exact HB.out | apply below_alloc | apply pw_below_drewN | apply below_drew1) | exact HB.out)⟩⟩
                                    · rw [if_neg c47] at H
                                      have c47b0 : decide (x14_3 < (t154.length : Int)) = false := decide_eq_false c47
                                      clear c47
                                      (first | rw [c47b0] | (simp only [i64_w, i32_w]; rw [c47b0]) | skip)
                                      have H' := Aside0.mk H
                                      clear H
                                      obtain ⟨Ao51, co51, eo51⟩ := Kd.R_slice HO_13.out
                                      subst eo51
                                      go_wp2
                                      go_meet
                                      case rel => exact ⟨_, (false), (by first | rfl | (simp; done) | (simp [*]; done)), H', ⟨by have := HJ4.out; have := HJ13.out; have := HK3.out; have := HJ22.out; have := HJ27.out; have := HJ30.out; first | omega | exact Nat.le_refl _⟩, ⟨by (with_reducible repeat (first | apply Kd.R_alloc | apply Kd.R_drewN | apply Kd.R_drew)); exact HO_13.out⟩, ⟨by repeat (first | (with_reducible first | exact HB.out | apply below_alloc | apply pw_below_drewN | apply below_drew1) | exact HB.out)⟩⟩
                                  case rest =>
                                    clear HC46
                                    try clear c1
                                    try clear p1
                                    try clear q1
                                    try clear hx1
                                    try clear c2
                                    try clear p2
                                    try clear c3
                                    try clear c4
                                    try clear p6
                                    try clear c8
                                    try clear c11
                                    try clear c13
                                    try clear p15
                                    try clear q15
                                    try clear hx15
                                    try clear c18
                                    try clear c18b0
                                    try clear c18b1
                                    try clear c19
                                    try clear c20
                                    try clear c21
                                    try clear c22
                                    try clear c24
                                    try clear c24b0
                                    try clear c27
                                    try clear c29
                                    try clear c29b0
                                    try clear c30
                                    try clear c30b0
                                    try clear c32
                                    try clear c32b0
                                    try clear c33
                                    try clear c33b0
                                    try clear c37
                                    try clear c38
                                    try clear c38b0
                                    try clear c39
                                    try clear c39b0
                                    try clear c40
                                    try clear c40b0
                                    try clear c41
                                    try clear c41b0
                                    try clear c47
                                    try clear c47b0
                                    try clear c48
                                    try clear c48b0
                                    try clear c48b1
                                    try clear hx157_0
                                    try clear hx158_0
                                    try clear hx158_1
                                    try clear hx158_2
                                    try clear hx159_0
                                    try clear hx159_1
                                    try clear p1
                                    try clear p15
                                    try clear p157
                                    try clear p158
                                    try clear p159
                                    try clear p2
                                    try clear p6
                                    try clear q1
                                    try clear q15
                                    try clear q157
                                    try clear q158
                                    try clear q159
                                    obtain ⟨kq, x113_45, rfl, HA, HJ45, HO_13, HB⟩ := hcut
                                    cases kq with
                                    | zero => exact absurd HA.out (by simp [wageofficelaw22_PunchesLeast.j6])
                                    | succ kj45 =>
                                      have H := HA.out
                                      clear HA
                                      simp only [wageofficelaw22_PunchesLeast.j6] at H
                                      by_cases c52 : x113_45 = true
                                      · subst c52
                                        have H1 : (wageofficelaw22_PunchesLeast.l0 kj45 l1 l2 t145 t148 t154 (wrap64 (x14_3 + 1)) x15_3 (wrap64 (x16_3 + 120)) (wrap64 (x17_3 + 1))) = some r := by rw [if_pos rfl] at H; exact H
                                        clear H
                                        have H := H1
                                        clear H1
                                        have H' := Aside0.mk H
                                        clear H
                                        go_wp2
                                        go_roundg kj45
                                        case measure => have := HJ4.out; have := HJ13.out; have := HK3.out; have := HJ22.out; have := HJ27.out; have := HJ30.out; have := HJ45.out; omega
                                        case rel => exact ⟨(wrap64 (x14_3 + 1)), (x15_3), (wrap64 (x16_3 + 120)), ((wrap64 (x17_3 + 1))), (by first | rfl | (simp; done) | (simp [*]; done)), (by first | rfl | (simp; done) | (simp [*]; done)), (by first | rfl | (simp; done) | (simp [*]; done)), (by first | rfl | (simp; done) | (simp [*]; done)), H', ⟨by have := HJ4.out; have := HJ13.out; have := HK3.out; have := HJ22.out; have := HJ27.out; have := HJ30.out; have := HJ45.out; omega⟩, ⟨by (with_reducible repeat (first | apply Kd.R_alloc | apply Kd.R_drewN | apply Kd.R_drew)); exact HO_13.out⟩, ⟨by repeat (first | (with_reducible first | exact HB.out | apply below_alloc | apply pw_below_drewN | apply below_drew1) | exact HB.out)⟩⟩
                                      · replace c52 := Bool.eq_false_iff.mpr c52
                                        subst c52
                                        have H1 : (if x15_3 < (l1.length : Int) then (wageofficelaw22_PunchesLeast.l0 kj45 l1 l2 t145 t148 t154 x14_3 (wrap64 (x15_3 + 1)) (wrap64 (x16_3 + 120)) (wrap64 (x17_3 + 1))) else (wageofficelaw22_PunchesLeast.l0 kj45 l1 l2 t145 t148 t154 (wrap64 (x14_3 + 1)) x15_3 (wrap64 (x16_3 + 120)) (wrap64 (x17_3 + 1)))) = some r := by rw [if_neg (show ¬ (false = true) by decide)] at H; exact H
                                        clear H
                                        have H := H1
                                        clear H1
                                        by_cases c53 : x15_3 < (l1.length : Int)
                                        · rw [if_pos c53] at H
                                          have c53b0 : decide (x15_3 < (l1.length : Int)) = true := decide_eq_true c53
                                          clear c53
                                          have H' := Aside0.mk H
                                          clear H
                                          go_wp2
                                          go_roundg kj45
                                          case measure => have := HJ4.out; have := HJ13.out; have := HK3.out; have := HJ22.out; have := HJ27.out; have := HJ30.out; have := HJ45.out; omega
                                          case rel => exact ⟨(x14_3), (wrap64 (x15_3 + 1)), (wrap64 (x16_3 + 120)), ((wrap64 (x17_3 + 1))), (by first | rfl | (simp; done) | (simp [*]; done)), (by first | rfl | (simp; done) | (simp [*]; done)), (by first | rfl | (simp; done) | (simp [*]; done)), (by first | rfl | (simp; done) | (simp [*]; done)), H', ⟨by have := HJ4.out; have := HJ13.out; have := HK3.out; have := HJ22.out; have := HJ27.out; have := HJ30.out; have := HJ45.out; omega⟩, ⟨by (with_reducible repeat (first | apply Kd.R_alloc | apply Kd.R_drewN | apply Kd.R_drew)); exact HO_13.out⟩, ⟨by repeat (first | (with_reducible first | exact HB.out | apply below_alloc | apply pw_below_drewN | apply below_drew1) | exact HB.out)⟩⟩
                                        · rw [if_neg c53] at H
                                          have c53b0 : decide (x15_3 < (l1.length : Int)) = false := decide_eq_false c53
                                          clear c53
                                          have H' := Aside0.mk H
                                          clear H
                                          go_wp2
                                          go_roundg kj45
                                          case measure => have := HJ4.out; have := HJ13.out; have := HK3.out; have := HJ22.out; have := HJ27.out; have := HJ30.out; have := HJ45.out; omega
                                          case rel => exact ⟨(wrap64 (x14_3 + 1)), (x15_3), (wrap64 (x16_3 + 120)), ((wrap64 (x17_3 + 1))), (by first | rfl | (simp; done) | (simp [*]; done)), (by first | rfl | (simp; done) | (simp [*]; done)), (by first | rfl | (simp; done) | (simp [*]; done)), (by first | rfl | (simp; done) | (simp [*]; done)), H', ⟨by have := HJ4.out; have := HJ13.out; have := HK3.out; have := HJ22.out; have := HJ27.out; have := HJ30.out; have := HJ45.out; omega⟩, ⟨by (with_reducible repeat (first | apply Kd.R_alloc | apply Kd.R_drewN | apply Kd.R_drew)); exact HO_13.out⟩, ⟨by repeat (first | (with_reducible first | exact HB.out | apply below_alloc | apply pw_below_drewN | apply below_drew1) | exact HB.out)⟩⟩
                      · replace c27 := Bool.eq_false_iff.mpr c27
                        subst c27
                        have H1 : (if t145 = true then (if t148 ≤ x16_3 then (some (decide (t148 ≥ 0))) else (some false)) else (some false)) = some r := by rw [if_neg (show ¬ (false = true) by decide)] at H; exact H
                        clear H
                        have H := H1
                        clear H1
                        by_cases c54 : t145 = true
                        · subst c54
                          have H1 : (if t148 ≤ x16_3 then (some (decide (t148 ≥ 0))) else (some false)) = some r := by rw [if_pos rfl] at H; exact H
                          clear H
                          have H := H1
                          clear H1
                          by_cases c55 : t148 ≤ x16_3
                          · rw [if_pos c55] at H
                            have c55b0 : decide (t148 ≤ x16_3) = true := decide_eq_true c55
                            clear c55
                            obtain rfl := Option.some.inj H
                            go_wp2
                            go_ret
                            exact ⟨by first | rfl | (simp [errW_none, errW_some] <;> rfl) | (simp [*, errW_none, errW_some] <;> rfl), by repeat (first | (with_reducible first | exact HB.out | apply below_alloc | apply pw_below_drewN | apply below_drew1) | exact HB.out)⟩
                          · rw [if_neg c55] at H
                            have c55b0 : decide (t148 ≤ x16_3) = false := decide_eq_false c55
                            clear c55
                            exact absurd ((Option.some.inj H).trans PR.out) (by decide)
                        · replace c54 := Bool.eq_false_iff.mpr c54
                          subst c54
                          have H1 : (some false) = some r := by rw [if_neg (show ¬ (false = true) by decide)] at H; exact H
                          clear H
                          have H := H1
                          clear H1
                          exact absurd ((Option.some.inj H).trans PR.out) (by decide)

end Go.Proofs.Ytpbamfoaoeicgaa.PAll

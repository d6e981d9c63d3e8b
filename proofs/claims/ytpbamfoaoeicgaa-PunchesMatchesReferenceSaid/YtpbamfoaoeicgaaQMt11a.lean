-- Printed by a program (the kit's print, with functions given by hand) out of the translation: machine-written for this claim.
import Derived.Test.YtpbamfoaoeicgaaQPAllx0
import Derived.Test.YtpbamfoaoeicgaaQPAllx3
import Derived.Test.YtpbamfoaoeicgaaQPAllx4
import Derived.Test.YtpbamfoaoeicgaaQPAllx5
import Derived.Test.YtpbamfoaoeicgaaQPAllx8
import Derived.Test.YtpbamfoaoeicgaaQPAllx7
import Derived.Test.YtpbamfoaoeicgaaQMt9
import Derived.Test.YtpbamfoaoeicgaaQMt10a
import Derived.Test.YtpbamfoaoeicgaaQWkM
namespace Go.Proofs.Ytpbamfoaoeicgaa.PAll
open Go.RowKit Go.Proofs.YtpbamfoaoeicgaaW.PrintWords Go.Proofs.YtpbamfoaoeicgaaW.PrintLast Go.Proofs.YtpbamfoaoeicgaaW.PrintMore
attribute [local go_sem] max2_int min2_int max_two min_two max_three min_three max_four min_four   -- for this text's walks alone
set_option linter.unusedVariables false
set_option linter.unusedSimpArgs false

/-! ### wageofficeref22_Worked: function 16 -/
mutual
def wageofficeref22_Worked.l0 : Nat → List (S48) → List (S45) → List (S57) → List Int → Int → Option (List Int × Int)
 | 0, _, _, _, _, _ => none
 | k + 1, x0, x1, x2, x11, x12 => if x12 < (x0.length : Int) then (if 0 ≤ x12 then (wageofficeref22_Worked.l1 k x0 x1 x2 x11 x12 ((rd_T48 x0 x12).f0) ((rd_T48 x0 x12).f1) false 0) else (none)) else (some (x11, 0))
def wageofficeref22_Worked.l1 : Nat → List (S48) → List (S45) → List (S57) → List Int → Int → Int → Int → Bool → Int → Option (List Int × Int)
 | 0, _, _, _, _, _, _, _, _, _ => none
 | k + 1, x0, x1, x2, x11, x12, x13, x14, x15, x16 => if x16 < (x2.length : Int) then (if 0 ≤ x16 then (if ((rd_T57 x2 x16).f0) = x12 then (wageofficeref22_Worked.j2 k x0 x1 x2 x11 x12 x13 x14 x15 x16 (decide (((rd_T57 x2 x16).f2) < 0))) else (wageofficeref22_Worked.j2 k x0 x1 x2 x11 x12 x13 x14 x15 x16 true)) else (none)) else (if x15 = true then (if x11.length < 17592186044416 then (wageofficeref22_Worked.l0 k x0 x1 x2 (x11 ++ [mx 0 (wrap64 (x14 - x13))]) (wrap64 (x12 + 1))) else (none)) else (if x11.length < 17592186044416 then (wageofficeref22_Worked.l0 k x0 x1 x2 (x11 ++ [0]) (wrap64 (x12 + 1))) else (none)))
def wageofficeref22_Worked.j2 : Nat → List (S48) → List (S45) → List (S57) → List Int → Int → Int → Int → Bool → Int → Bool → Option (List Int × Int)
 | 0, _, _, _, _, _, _, _, _, _, _ => none
 | k + 1, x0, x1, x2, x11, x12, x13, x14, x15, x16, x69 => if x69 = true then (wageofficeref22_Worked.l1 k x0 x1 x2 x11 x12 x13 x14 x15 (wrap64 (x16 + 1))) else (if 0 ≤ x16 then (if x16 < (x2.length : Int) then (if (rd_T57 x2 x16).f1 = true then (if 0 ≤ ((rd_T57 x2 x16).f2) then (if ((rd_T57 x2 x16).f2) < (x1.length : Int) then (wageofficeref22_Worked.l1 k x0 x1 x2 x11 x12 ((rd_T45 x1 ((rd_T57 x2 x16).f2)).f0) x14 true (wrap64 (x16 + 1))) else (none)) else (none)) else (if 0 ≤ ((rd_T57 x2 x16).f2) then (if ((rd_T57 x2 x16).f2) < (x1.length : Int) then (wageofficeref22_Worked.l1 k x0 x1 x2 x11 x12 x13 ((rd_T45 x1 ((rd_T57 x2 x16).f2)).f0) true (wrap64 (x16 + 1))) else (none)) else (none))) else (none)) else (none))
end
def wageofficeref22_Worked.f (k : Nat) (l0 : List (S48)) (l1 : List (S45)) (l2 : List (S57)) : Option (List Int × Int) := (wageofficeref22_Usable.f k l0 l1).bind fun t216 => (if t216 = 0 then ((rAl.f k l0 l1 l2).bind fun bt217 => (if bt217.2 = true then (wageofficeref22_Worked.l0 k l0 l1 l2 ([] : List Int) 0) else (some (([] : List Int), 1)))) else (some (([] : List Int), t216)))
theorem wageofficeref22_Worked.mono_l : ∀ k, (∀ y0 y1 y2 y3 y4, LeO (wageofficeref22_Worked.l0 k y0 y1 y2 y3 y4) (wageofficeref22_Worked.l0 (k + 1) y0 y1 y2 y3 y4)) ∧ (∀ y0 y1 y2 y3 y4 y5 y6 y7 y8, LeO (wageofficeref22_Worked.l1 k y0 y1 y2 y3 y4 y5 y6 y7 y8) (wageofficeref22_Worked.l1 (k + 1) y0 y1 y2 y3 y4 y5 y6 y7 y8)) ∧ (∀ y0 y1 y2 y3 y4 y5 y6 y7 y8 y9, LeO (wageofficeref22_Worked.j2 k y0 y1 y2 y3 y4 y5 y6 y7 y8 y9) (wageofficeref22_Worked.j2 (k + 1) y0 y1 y2 y3 y4 y5 y6 y7 y8 y9))
 | 0 => ⟨fun _ _ _ _ _ r h => by simp [wageofficeref22_Worked.l0] at h, fun _ _ _ _ _ _ _ _ _ r h => by simp [wageofficeref22_Worked.l1] at h, fun _ _ _ _ _ _ _ _ _ _ r h => by simp [wageofficeref22_Worked.j2] at h⟩
 | k + 1 => by
  obtain ⟨ih0, ih1, ih2⟩ := wageofficeref22_Worked.mono_l k
  refine ⟨?_, ?_, ?_⟩
  ·intro y0 y1 y2 y3 y4
   unfold wageofficeref22_Worked.l0
   repeat' first
   | (with_reducible exact ih0 _ _ _ _ _)
   | (with_reducible exact ih1 _ _ _ _ _ _ _ _ _)
   | (with_reducible exact ih2 _ _ _ _ _ _ _ _ _ _)
   | (with_reducible exact rAl.mono _ _ _ _)
   | (with_reducible exact wageofficeref22_Usable.mono _ _ _)
   | (with_reducible exact LeO.refl _)
   | (with_reducible exact LeO.none _)
   | (with_reducible refine LeO.ite ?_ ?_)
   | (with_reducible refine LeO.bind ?_ (fun _ => ?_))
   | exact ih0 _ _ _ _ _
   | exact ih1 _ _ _ _ _ _ _ _ _
   | exact ih2 _ _ _ _ _ _ _ _ _ _
   | exact rAl.mono _ _ _ _
   | exact wageofficeref22_Usable.mono _ _ _
   | exact LeO.none _
   | refine LeO.ite ?_ ?_
   | refine LeO.bind ?_ (fun _ => ?_)
  ·intro y0 y1 y2 y3 y4 y5 y6 y7 y8
   unfold wageofficeref22_Worked.l1
   repeat' first
   | (with_reducible exact ih0 _ _ _ _ _)
   | (with_reducible exact ih1 _ _ _ _ _ _ _ _ _)
   | (with_reducible exact ih2 _ _ _ _ _ _ _ _ _ _)
   | (with_reducible exact rAl.mono _ _ _ _)
   | (with_reducible exact wageofficeref22_Usable.mono _ _ _)
   | (with_reducible exact LeO.refl _)
   | (with_reducible exact LeO.none _)
   | (with_reducible refine LeO.ite ?_ ?_)
   | (with_reducible refine LeO.bind ?_ (fun _ => ?_))
   | exact ih0 _ _ _ _ _
   | exact ih1 _ _ _ _ _ _ _ _ _
   | exact ih2 _ _ _ _ _ _ _ _ _ _
   | exact rAl.mono _ _ _ _
   | exact wageofficeref22_Usable.mono _ _ _
   | exact LeO.none _
   | refine LeO.ite ?_ ?_
   | refine LeO.bind ?_ (fun _ => ?_)
  ·intro y0 y1 y2 y3 y4 y5 y6 y7 y8 y9
   unfold wageofficeref22_Worked.j2
   repeat' first
   | (with_reducible exact ih0 _ _ _ _ _)
   | (with_reducible exact ih1 _ _ _ _ _ _ _ _ _)
   | (with_reducible exact ih2 _ _ _ _ _ _ _ _ _ _)
   | (with_reducible exact rAl.mono _ _ _ _)
   | (with_reducible exact wageofficeref22_Usable.mono _ _ _)
   | (with_reducible exact LeO.refl _)
   | (with_reducible exact LeO.none _)
   | (with_reducible refine LeO.ite ?_ ?_)
   | (with_reducible refine LeO.bind ?_ (fun _ => ?_))
   | exact ih0 _ _ _ _ _
   | exact ih1 _ _ _ _ _ _ _ _ _
   | exact ih2 _ _ _ _ _ _ _ _ _ _
   | exact rAl.mono _ _ _ _
   | exact wageofficeref22_Usable.mono _ _ _
   | exact LeO.none _
   | refine LeO.ite ?_ ?_
   | refine LeO.bind ?_ (fun _ => ?_)
theorem wageofficeref22_Worked.mono : ∀ a0 a1 a2 k, LeO (wageofficeref22_Worked.f k a0 a1 a2) (wageofficeref22_Worked.f (k + 1) a0 a1 a2) := by
 intro a0 a1 a2 k
 obtain ⟨ih0, ih1, ih2⟩ := wageofficeref22_Worked.mono_l k
 unfold wageofficeref22_Worked.f
 repeat' first
   | (with_reducible exact ih0 _ _ _ _ _)
   | (with_reducible exact ih1 _ _ _ _ _ _ _ _ _)
   | (with_reducible exact ih2 _ _ _ _ _ _ _ _ _ _)
   | (with_reducible exact rAl.mono _ _ _ _)
   | (with_reducible exact wageofficeref22_Usable.mono _ _ _)
   | (with_reducible exact LeO.refl _)
   | (with_reducible exact LeO.none _)
   | (with_reducible refine LeO.ite ?_ ?_)
   | (with_reducible refine LeO.bind ?_ (fun _ => ?_))
   | exact ih0 _ _ _ _ _
   | exact ih1 _ _ _ _ _ _ _ _ _
   | exact ih2 _ _ _ _ _ _ _ _ _ _
   | exact rAl.mono _ _ _ _
   | exact wageofficeref22_Usable.mono _ _ _
   | exact LeO.none _
   | refine LeO.ite ?_ ?_
   | refine LeO.bind ?_ (fun _ => ?_)
/-! ### wageofficelaw22_PunchesMatchesReference: function 3 -/
def wageofficelaw22_PunchesMatchesReference.j0 : Nat → List (S48) → List (S45) → List (S57) → Bool → Bool → Option (Bool)
 | 0, _, _, _, _, _ => none
 | k + 1, x0, x1, x2, x7, x31 => if x31 = true then (some x7) else ((punches_Pair.f x0 x1).bind fun bt236 => ((wageofficeref22_Pair.f k x0 x1).bind fun bt241 => ((punches_WorkedM.f x0 x1 x2).bind fun bt246 => ((wageofficeref22_Worked.f k x0 x1 x2).bind fun bt250 => ((punches_WorkedM.f x0 x1 bt241.1).bind fun bt254 => ((wageofficeref22_Worked.f k x0 x1 bt241.1).bind fun bt258 => (if x7 = true then (if bt236.2.1 = bt241.2.1 then (if bt236.2.2 = bt241.2.2 then ((wageofficeref22_Same.f k bt236.1 bt241.1).bind fun t262 => (if t262 = true then (if bt246.2 = bt250.2 then ((wageofficeref22_SameInts.f k bt246.1 bt250.1).bind fun t263 => (if t263 = true then (if bt254.2 = bt258.2 then ((wageofficeref22_SameInts.f k bt254.1 bt258.1).bind fun t264 => (some t264)) else (some false)) else (some false))) else (some false)) else (some false))) else (some false)) else (some false)) else (some false))))))))
def wageofficelaw22_PunchesMatchesReference.f (k : Nat) (l0 : List (S48)) (l1 : List (S45)) (l2 : List (S57)) : Option (Bool) := (wageofficelaw22_head.f).bind fun t234 => ((wageofficelaw22_short.f l0 l1).bind fun t235 => (if t235 = true then (wageofficelaw22_PunchesMatchesReference.j0 k l0 l1 l2 t234 (decide ((l2.length : Int) > 200))) else (wageofficelaw22_PunchesMatchesReference.j0 k l0 l1 l2 t234 true)))
theorem wageofficelaw22_PunchesMatchesReference.mono_l : ∀ k, (∀ y0 y1 y2 y3 y4, LeO (wageofficelaw22_PunchesMatchesReference.j0 k y0 y1 y2 y3 y4) (wageofficelaw22_PunchesMatchesReference.j0 (k + 1) y0 y1 y2 y3 y4))
 | 0 => fun _ _ _ _ _ r h => by simp [wageofficelaw22_PunchesMatchesReference.j0] at h
 | k + 1 => by
  have ih0 := wageofficelaw22_PunchesMatchesReference.mono_l k
  ·intro y0 y1 y2 y3 y4
   unfold wageofficelaw22_PunchesMatchesReference.j0
   repeat' first
   | (with_reducible exact ih0 _ _ _ _ _)
   | (with_reducible exact wageofficeref22_Pair.mono _ _ _)
   | (with_reducible exact wageofficeref22_Same.mono _ _ _)
   | (with_reducible exact wageofficeref22_SameInts.mono _ _ _)
   | (with_reducible exact wageofficeref22_Worked.mono _ _ _ _)
   | (with_reducible exact LeO.refl _)
   | (with_reducible exact LeO.none _)
   | (with_reducible refine LeO.ite ?_ ?_)
   | (with_reducible refine LeO.bind ?_ (fun _ => ?_))
   | exact ih0 _ _ _ _ _
   | exact wageofficeref22_Pair.mono _ _ _
   | exact wageofficeref22_Same.mono _ _ _
   | exact wageofficeref22_SameInts.mono _ _ _
   | exact wageofficeref22_Worked.mono _ _ _ _
   | exact LeO.none _
   | refine LeO.ite ?_ ?_
   | refine LeO.bind ?_ (fun _ => ?_)
theorem wageofficelaw22_PunchesMatchesReference.mono : ∀ a0 a1 a2 k, LeO (wageofficelaw22_PunchesMatchesReference.f k a0 a1 a2) (wageofficelaw22_PunchesMatchesReference.f (k + 1) a0 a1 a2) := by
 intro a0 a1 a2 k
 have ih0 := wageofficelaw22_PunchesMatchesReference.mono_l k
 unfold wageofficelaw22_PunchesMatchesReference.f
 repeat' first
   | (with_reducible exact ih0 _ _ _ _ _)
   | (with_reducible exact wageofficeref22_Pair.mono _ _ _)
   | (with_reducible exact wageofficeref22_Same.mono _ _ _)
   | (with_reducible exact wageofficeref22_SameInts.mono _ _ _)
   | (with_reducible exact wageofficeref22_Worked.mono _ _ _ _)
   | (with_reducible exact LeO.refl _)
   | (with_reducible exact LeO.none _)
   | (with_reducible refine LeO.ite ?_ ?_)
   | (with_reducible refine LeO.bind ?_ (fun _ => ?_))
   | exact ih0 _ _ _ _ _
   | exact wageofficeref22_Pair.mono _ _ _
   | exact wageofficeref22_Same.mono _ _ _
   | exact wageofficeref22_SameInts.mono _ _ _
   | exact wageofficeref22_Worked.mono _ _ _ _
   | exact LeO.none _
   | refine LeO.ite ?_ ?_
   | refine LeO.bind ?_ (fun _ => ?_)
end Go.Proofs.Ytpbamfoaoeicgaa.PAll

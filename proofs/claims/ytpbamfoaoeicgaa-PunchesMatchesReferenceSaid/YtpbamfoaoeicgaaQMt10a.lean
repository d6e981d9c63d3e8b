-- Printed by a program (the kit's print, with functions given by hand) out of the translation: machine-written for this claim.
import Derived.Test.YtpbamfoaoeicgaaQPAllx0
import Derived.Test.YtpbamfoaoeicgaaQPAllx8
namespace Go.Proofs.Ytpbamfoaoeicgaa.PAll
open Go.RowKit Go.Proofs.YtpbamfoaoeicgaaW.PrintWords Go.Proofs.YtpbamfoaoeicgaaW.PrintLast Go.Proofs.YtpbamfoaoeicgaaW.PrintMore
attribute [local go_sem] max2_int min2_int max_two min_two max_three min_three max_four min_four   -- for this text's walks alone
set_option linter.unusedVariables false
set_option linter.unusedSimpArgs false

/-! ### rAl: function 20 -/
mutual
def rAl.l0 : Nat → List (S45) → List (S57) → List (S43) → Int → Int → Int → Int → Option (Int × Bool)
 | 0, _, _, _, _, _, _, _ => none
 | k + 1, x1, x2, x8, x9, x10, x11, x12 => if x12 < (x2.length : Int) then (if 0 ≤ x12 then (if ((rd_T57 x2 x12).f0) < 0 then (if ((rd_T57 x2 x12).f2) < 0 then (rAl.j1 k x1 x2 x8 x9 x10 x11 x12 true ((rd_T57 x2 x12).f0) ((rd_T57 x2 x12).f1) ((rd_T57 x2 x12).f2)) else (if ((rd_T57 x2 x12).f0) < (-1) then (rAl.j1 k x1 x2 x8 x9 x10 x11 x12 true ((rd_T57 x2 x12).f0) ((rd_T57 x2 x12).f1) ((rd_T57 x2 x12).f2)) else (if ((rd_T57 x2 x12).f2) < (-1) then (rAl.j1 k x1 x2 x8 x9 x10 x11 x12 true ((rd_T57 x2 x12).f0) ((rd_T57 x2 x12).f1) ((rd_T57 x2 x12).f2)) else (if ((rd_T57 x2 x12).f0) = (-1) then (rAl.j1 k x1 x2 x8 x9 x10 x11 x12 ((rd_T57 x2 x12).f1) ((rd_T57 x2 x12).f0) ((rd_T57 x2 x12).f1) ((rd_T57 x2 x12).f2)) else (rAl.j1 k x1 x2 x8 x9 x10 x11 x12 false ((rd_T57 x2 x12).f0) ((rd_T57 x2 x12).f1) ((rd_T57 x2 x12).f2)))))) else (if ((rd_T57 x2 x12).f0) < (-1) then (rAl.j1 k x1 x2 x8 x9 x10 x11 x12 true ((rd_T57 x2 x12).f0) ((rd_T57 x2 x12).f1) ((rd_T57 x2 x12).f2)) else (if ((rd_T57 x2 x12).f2) < (-1) then (rAl.j1 k x1 x2 x8 x9 x10 x11 x12 true ((rd_T57 x2 x12).f0) ((rd_T57 x2 x12).f1) ((rd_T57 x2 x12).f2)) else (if ((rd_T57 x2 x12).f0) = (-1) then (rAl.j1 k x1 x2 x8 x9 x10 x11 x12 ((rd_T57 x2 x12).f1) ((rd_T57 x2 x12).f0) ((rd_T57 x2 x12).f1) ((rd_T57 x2 x12).f2)) else (rAl.j1 k x1 x2 x8 x9 x10 x11 x12 false ((rd_T57 x2 x12).f0) ((rd_T57 x2 x12).f1) ((rd_T57 x2 x12).f2)))))) else (none)) else (if x9 = (x8.length : Int) then (some (x11, (x10 == (x1.length : Int)))) else (some (x11, false)))
def rAl.j1 : Nat → List (S45) → List (S57) → List (S43) → Int → Int → Int → Int → Bool → Int → Bool → Int → Option (Int × Bool)
 | 0, _, _, _, _, _, _, _, _, _, _, _ => none
 | k + 1, x1, x2, x8, x9, x10, x11, x12, x52, x211000, x211001, x211002 => if x52 = true then (some (0, false)) else (if x211000 ≥ 0 then (if x9 ≥ (x8.length : Int) then (rAl.j2 k x1 x2 x8 x9 x10 x11 x12 true x211000 x211001 x211002) else (if 0 ≤ x9 then (if x9 < (x8.length : Int) then (if x211000 = ((rd_T43 x8 x9).f0) then (if (x211001 != ((rd_T43 x8 x9).f1)) = true then (rAl.j2 k x1 x2 x8 x9 x10 x11 x12 true x211000 x211001 x211002) else (if x211002 ≥ 0 then (rAl.j2 k x1 x2 x8 x9 x10 x11 x12 (x211002 != x10) x211000 x211001 x211002) else (rAl.j2 k x1 x2 x8 x9 x10 x11 x12 false x211000 x211001 x211002))) else (rAl.j2 k x1 x2 x8 x9 x10 x11 x12 true x211000 x211001 x211002)) else (none)) else (none))) else (if x211002 ≥ 0 then (rAl.j2 k x1 x2 x8 x9 x10 x11 x12 (x211002 != x10) x211000 x211001 x211002) else (rAl.j2 k x1 x2 x8 x9 x10 x11 x12 false x211000 x211001 x211002)))
def rAl.j2 : Nat → List (S45) → List (S57) → List (S43) → Int → Int → Int → Int → Bool → Int → Bool → Int → Option (Int × Bool)
 | 0, _, _, _, _, _, _, _, _, _, _, _ => none
 | k + 1, x1, x2, x8, x9, x10, x11, x12, x92, x211000, x211001, x211002 => if x92 = true then (some (0, false)) else (if x211002 ≥ 0 then (rAl.j3 k x1 x2 x8 x9 x10 x11 x12 (decide (x10 ≥ (x1.length : Int))) x211000 x211001 x211002) else (rAl.j3 k x1 x2 x8 x9 x10 x11 x12 false x211000 x211001 x211002))
def rAl.j3 : Nat → List (S45) → List (S57) → List (S43) → Int → Int → Int → Int → Bool → Int → Bool → Int → Option (Int × Bool)
 | 0, _, _, _, _, _, _, _, _, _, _, _ => none
 | k + 1, x1, x2, x8, x9, x10, x11, x12, x101, x211000, x211001, x211002 => if x101 = true then (some (0, false)) else (if x211000 ≥ 0 then (rAl.j4 k x1 x2 x8 x9 x10 x11 x12 (decide (x211002 ≥ 0)) x211000 x211001 x211002) else (rAl.j4 k x1 x2 x8 x9 x10 x11 x12 false x211000 x211001 x211002))
def rAl.j4 : Nat → List (S45) → List (S57) → List (S43) → Int → Int → Int → Int → Bool → Int → Bool → Int → Option (Int × Bool)
 | 0, _, _, _, _, _, _, _, _, _, _, _ => none
 | k + 1, x1, x2, x8, x9, x10, x11, x12, x109, x211000, x211001, x211002 => if x109 = true then (if 0 ≤ x9 then (if x9 < (x8.length : Int) then (if 0 ≤ x10 then (if x10 < (x1.length : Int) then ((wageofficeref22_Cost.f ((rd_T43 x8 x9).f0) ((rd_T43 x8 x9).f1) ((rd_T43 x8 x9).f2) ((rd_T45 x1 x10).f0) ((rd_T45 x1 x10).f1)).bind fun t215 => (rAl.j5 k x1 x2 x8 x9 x10 (wrap64 (x11 + t215)) x12 x211000 x211001 x211002)) else (none)) else (none)) else (none)) else (none)) else (rAl.j5 k x1 x2 x8 x9 x10 (wrap64 (x11 + 120)) x12 x211000 x211001 x211002)
def rAl.j5 : Nat → List (S45) → List (S57) → List (S43) → Int → Int → Int → Int → Int → Bool → Int → Option (Int × Bool)
 | 0, _, _, _, _, _, _, _, _, _, _ => none
 | k + 1, x1, x2, x8, x9, x10, x11, x12, x211000, x211001, x211002 => if x211000 ≥ 0 then (if x211002 ≥ 0 then (rAl.l0 k x1 x2 x8 (wrap64 (x9 + 1)) (wrap64 (x10 + 1)) x11 (wrap64 (x12 + 1))) else (rAl.l0 k x1 x2 x8 (wrap64 (x9 + 1)) x10 x11 (wrap64 (x12 + 1)))) else (if x211002 ≥ 0 then (rAl.l0 k x1 x2 x8 x9 (wrap64 (x10 + 1)) x11 (wrap64 (x12 + 1))) else (rAl.l0 k x1 x2 x8 x9 x10 x11 (wrap64 (x12 + 1))))
end
def rAl.f (k : Nat) (l0 : List (S48)) (l1 : List (S45)) (l2 : List (S57)) : Option (Int × Bool) := (wageofficeref22_Marks.f k l0).bind fun t206 => (rAl.l0 k l1 l2 t206 0 0 0 0)
theorem rAl.mono_l : ∀ k, (∀ y0 y1 y2 y3 y4 y5 y6, LeO (rAl.l0 k y0 y1 y2 y3 y4 y5 y6) (rAl.l0 (k + 1) y0 y1 y2 y3 y4 y5 y6)) ∧ (∀ y0 y1 y2 y3 y4 y5 y6 y7 y8 y9 y10, LeO (rAl.j1 k y0 y1 y2 y3 y4 y5 y6 y7 y8 y9 y10) (rAl.j1 (k + 1) y0 y1 y2 y3 y4 y5 y6 y7 y8 y9 y10)) ∧ (∀ y0 y1 y2 y3 y4 y5 y6 y7 y8 y9 y10, LeO (rAl.j2 k y0 y1 y2 y3 y4 y5 y6 y7 y8 y9 y10) (rAl.j2 (k + 1) y0 y1 y2 y3 y4 y5 y6 y7 y8 y9 y10)) ∧ (∀ y0 y1 y2 y3 y4 y5 y6 y7 y8 y9 y10, LeO (rAl.j3 k y0 y1 y2 y3 y4 y5 y6 y7 y8 y9 y10) (rAl.j3 (k + 1) y0 y1 y2 y3 y4 y5 y6 y7 y8 y9 y10)) ∧ (∀ y0 y1 y2 y3 y4 y5 y6 y7 y8 y9 y10, LeO (rAl.j4 k y0 y1 y2 y3 y4 y5 y6 y7 y8 y9 y10) (rAl.j4 (k + 1) y0 y1 y2 y3 y4 y5 y6 y7 y8 y9 y10)) ∧ (∀ y0 y1 y2 y3 y4 y5 y6 y7 y8 y9, LeO (rAl.j5 k y0 y1 y2 y3 y4 y5 y6 y7 y8 y9) (rAl.j5 (k + 1) y0 y1 y2 y3 y4 y5 y6 y7 y8 y9))
 | 0 => ⟨fun _ _ _ _ _ _ _ r h => by simp [rAl.l0] at h, fun _ _ _ _ _ _ _ _ _ _ _ r h => by simp [rAl.j1] at h, fun _ _ _ _ _ _ _ _ _ _ _ r h => by simp [rAl.j2] at h, fun _ _ _ _ _ _ _ _ _ _ _ r h => by simp [rAl.j3] at h, fun _ _ _ _ _ _ _ _ _ _ _ r h => by simp [rAl.j4] at h, fun _ _ _ _ _ _ _ _ _ _ r h => by simp [rAl.j5] at h⟩
 | k + 1 => by
  obtain ⟨ih0, ih1, ih2, ih3, ih4, ih5⟩ := rAl.mono_l k
  refine ⟨?_, ?_, ?_, ?_, ?_, ?_⟩
  ·intro y0 y1 y2 y3 y4 y5 y6
   unfold rAl.l0
   repeat' first
   | (with_reducible exact ih0 _ _ _ _ _ _ _)
   | (with_reducible exact ih1 _ _ _ _ _ _ _ _ _ _ _)
   | (with_reducible exact ih2 _ _ _ _ _ _ _ _ _ _ _)
   | (with_reducible exact ih3 _ _ _ _ _ _ _ _ _ _ _)
   | (with_reducible exact ih4 _ _ _ _ _ _ _ _ _ _ _)
   | (with_reducible exact ih5 _ _ _ _ _ _ _ _ _ _)
   | (with_reducible exact wageofficeref22_Marks.mono _ _)
   | (with_reducible exact LeO.refl _)
   | (with_reducible exact LeO.none _)
   | (with_reducible refine LeO.ite ?_ ?_)
   | (with_reducible refine LeO.bind ?_ (fun _ => ?_))
   | exact ih0 _ _ _ _ _ _ _
   | exact ih1 _ _ _ _ _ _ _ _ _ _ _
   | exact ih2 _ _ _ _ _ _ _ _ _ _ _
   | exact ih3 _ _ _ _ _ _ _ _ _ _ _
   | exact ih4 _ _ _ _ _ _ _ _ _ _ _
   | exact ih5 _ _ _ _ _ _ _ _ _ _
   | exact wageofficeref22_Marks.mono _ _
   | exact LeO.none _
   | refine LeO.ite ?_ ?_
   | refine LeO.bind ?_ (fun _ => ?_)
  ·intro y0 y1 y2 y3 y4 y5 y6 y7 y8 y9 y10
   unfold rAl.j1
   repeat' first
   | (with_reducible exact ih0 _ _ _ _ _ _ _)
   | (with_reducible exact ih1 _ _ _ _ _ _ _ _ _ _ _)
   | (with_reducible exact ih2 _ _ _ _ _ _ _ _ _ _ _)
   | (with_reducible exact ih3 _ _ _ _ _ _ _ _ _ _ _)
   | (with_reducible exact ih4 _ _ _ _ _ _ _ _ _ _ _)
   | (with_reducible exact ih5 _ _ _ _ _ _ _ _ _ _)
   | (with_reducible exact wageofficeref22_Marks.mono _ _)
   | (with_reducible exact LeO.refl _)
   | (with_reducible exact LeO.none _)
   | (with_reducible refine LeO.ite ?_ ?_)
   | (with_reducible refine LeO.bind ?_ (fun _ => ?_))
   | exact ih0 _ _ _ _ _ _ _
   | exact ih1 _ _ _ _ _ _ _ _ _ _ _
   | exact ih2 _ _ _ _ _ _ _ _ _ _ _
   | exact ih3 _ _ _ _ _ _ _ _ _ _ _
   | exact ih4 _ _ _ _ _ _ _ _ _ _ _
   | exact ih5 _ _ _ _ _ _ _ _ _ _
   | exact wageofficeref22_Marks.mono _ _
   | exact LeO.none _
   | refine LeO.ite ?_ ?_
   | refine LeO.bind ?_ (fun _ => ?_)
  ·intro y0 y1 y2 y3 y4 y5 y6 y7 y8 y9 y10
   unfold rAl.j2
   repeat' first
   | (with_reducible exact ih0 _ _ _ _ _ _ _)
   | (with_reducible exact ih1 _ _ _ _ _ _ _ _ _ _ _)
   | (with_reducible exact ih2 _ _ _ _ _ _ _ _ _ _ _)
   | (with_reducible exact ih3 _ _ _ _ _ _ _ _ _ _ _)
   | (with_reducible exact ih4 _ _ _ _ _ _ _ _ _ _ _)
   | (with_reducible exact ih5 _ _ _ _ _ _ _ _ _ _)
   | (with_reducible exact wageofficeref22_Marks.mono _ _)
   | (with_reducible exact LeO.refl _)
   | (with_reducible exact LeO.none _)
   | (with_reducible refine LeO.ite ?_ ?_)
   | (with_reducible refine LeO.bind ?_ (fun _ => ?_))
   | exact ih0 _ _ _ _ _ _ _
   | exact ih1 _ _ _ _ _ _ _ _ _ _ _
   | exact ih2 _ _ _ _ _ _ _ _ _ _ _
   | exact ih3 _ _ _ _ _ _ _ _ _ _ _
   | exact ih4 _ _ _ _ _ _ _ _ _ _ _
   | exact ih5 _ _ _ _ _ _ _ _ _ _
   | exact wageofficeref22_Marks.mono _ _
   | exact LeO.none _
   | refine LeO.ite ?_ ?_
   | refine LeO.bind ?_ (fun _ => ?_)
  ·intro y0 y1 y2 y3 y4 y5 y6 y7 y8 y9 y10
   unfold rAl.j3
   repeat' first
   | (with_reducible exact ih0 _ _ _ _ _ _ _)
   | (with_reducible exact ih1 _ _ _ _ _ _ _ _ _ _ _)
   | (with_reducible exact ih2 _ _ _ _ _ _ _ _ _ _ _)
   | (with_reducible exact ih3 _ _ _ _ _ _ _ _ _ _ _)
   | (with_reducible exact ih4 _ _ _ _ _ _ _ _ _ _ _)
   | (with_reducible exact ih5 _ _ _ _ _ _ _ _ _ _)
   | (with_reducible exact wageofficeref22_Marks.mono _ _)
   | (with_reducible exact LeO.refl _)
   | (with_reducible exact LeO.none _)
   | (with_reducible refine LeO.ite ?_ ?_)
   | (with_reducible refine LeO.bind ?_ (fun _ => ?_))
   | exact ih0 _ _ _ _ _ _ _
   | exact ih1 _ _ _ _ _ _ _ _ _ _ _
   | exact ih2 _ _ _ _ _ _ _ _ _ _ _
   | exact ih3 _ _ _ _ _ _ _ _ _ _ _
   | exact ih4 _ _ _ _ _ _ _ _ _ _ _
   | exact ih5 _ _ _ _ _ _ _ _ _ _
   | exact wageofficeref22_Marks.mono _ _
   | exact LeO.none _
   | refine LeO.ite ?_ ?_
   | refine LeO.bind ?_ (fun _ => ?_)
  ·intro y0 y1 y2 y3 y4 y5 y6 y7 y8 y9 y10
   unfold rAl.j4
   repeat' first
   | (with_reducible exact ih0 _ _ _ _ _ _ _)
   | (with_reducible exact ih1 _ _ _ _ _ _ _ _ _ _ _)
   | (with_reducible exact ih2 _ _ _ _ _ _ _ _ _ _ _)
   | (with_reducible exact ih3 _ _ _ _ _ _ _ _ _ _ _)
   | (with_reducible exact ih4 _ _ _ _ _ _ _ _ _ _ _)
   | (with_reducible exact ih5 _ _ _ _ _ _ _ _ _ _)
   | (with_reducible exact wageofficeref22_Marks.mono _ _)
   | (with_reducible exact LeO.refl _)
   | (with_reducible exact LeO.none _)
   | (with_reducible refine LeO.ite ?_ ?_)
   | (with_reducible refine LeO.bind ?_ (fun _ => ?_))
   | exact ih0 _ _ _ _ _ _ _
   | exact ih1 _ _ _ _ _ _ _ _ _ _ _
   | exact ih2 _ _ _ _ _ _ _ _ _ _ _
   | exact ih3 _ _ _ _ _ _ _ _ _ _ _
   | exact ih4 _ _ _ _ _ _ _ _ _ _ _
   | exact ih5 _ _ _ _ _ _ _ _ _ _
   | exact wageofficeref22_Marks.mono _ _
   | exact LeO.none _
   | refine LeO.ite ?_ ?_
   | refine LeO.bind ?_ (fun _ => ?_)
  ·intro y0 y1 y2 y3 y4 y5 y6 y7 y8 y9
   unfold rAl.j5
   repeat' first
   | (with_reducible exact ih0 _ _ _ _ _ _ _)
   | (with_reducible exact ih1 _ _ _ _ _ _ _ _ _ _ _)
   | (with_reducible exact ih2 _ _ _ _ _ _ _ _ _ _ _)
   | (with_reducible exact ih3 _ _ _ _ _ _ _ _ _ _ _)
   | (with_reducible exact ih4 _ _ _ _ _ _ _ _ _ _ _)
   | (with_reducible exact ih5 _ _ _ _ _ _ _ _ _ _)
   | (with_reducible exact wageofficeref22_Marks.mono _ _)
   | (with_reducible exact LeO.refl _)
   | (with_reducible exact LeO.none _)
   | (with_reducible refine LeO.ite ?_ ?_)
   | (with_reducible refine LeO.bind ?_ (fun _ => ?_))
   | exact ih0 _ _ _ _ _ _ _
   | exact ih1 _ _ _ _ _ _ _ _ _ _ _
   | exact ih2 _ _ _ _ _ _ _ _ _ _ _
   | exact ih3 _ _ _ _ _ _ _ _ _ _ _
   | exact ih4 _ _ _ _ _ _ _ _ _ _ _
   | exact ih5 _ _ _ _ _ _ _ _ _ _
   | exact wageofficeref22_Marks.mono _ _
   | exact LeO.none _
   | refine LeO.ite ?_ ?_
   | refine LeO.bind ?_ (fun _ => ?_)
theorem rAl.mono : ∀ a0 a1 a2 k, LeO (rAl.f k a0 a1 a2) (rAl.f (k + 1) a0 a1 a2) := by
 intro a0 a1 a2 k
 obtain ⟨ih0, ih1, ih2, ih3, ih4, ih5⟩ := rAl.mono_l k
 unfold rAl.f
 repeat' first
   | (with_reducible exact ih0 _ _ _ _ _ _ _)
   | (with_reducible exact ih1 _ _ _ _ _ _ _ _ _ _ _)
   | (with_reducible exact ih2 _ _ _ _ _ _ _ _ _ _ _)
   | (with_reducible exact ih3 _ _ _ _ _ _ _ _ _ _ _)
   | (with_reducible exact ih4 _ _ _ _ _ _ _ _ _ _ _)
   | (with_reducible exact ih5 _ _ _ _ _ _ _ _ _ _)
   | (with_reducible exact wageofficeref22_Marks.mono _ _)
   | (with_reducible exact LeO.refl _)
   | (with_reducible exact LeO.none _)
   | (with_reducible refine LeO.ite ?_ ?_)
   | (with_reducible refine LeO.bind ?_ (fun _ => ?_))
   | exact ih0 _ _ _ _ _ _ _
   | exact ih1 _ _ _ _ _ _ _ _ _ _ _
   | exact ih2 _ _ _ _ _ _ _ _ _ _ _
   | exact ih3 _ _ _ _ _ _ _ _ _ _ _
   | exact ih4 _ _ _ _ _ _ _ _ _ _ _
   | exact ih5 _ _ _ _ _ _ _ _ _ _
   | exact wageofficeref22_Marks.mono _ _
   | exact LeO.none _
   | refine LeO.ite ?_ ?_
   | refine LeO.bind ?_ (fun _ => ?_)
end Go.Proofs.Ytpbamfoaoeicgaa.PAll

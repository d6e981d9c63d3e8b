-- Printed by a program (the kit's print, with functions given by hand) out of the translation: machine-written for this claim.
import Derived.Test.YtpbamfoaoeicgaaPAllx0
import Derived.Test.YtpbamfoaoeicgaaPAllx3
import Derived.Test.YtpbamfoaoeicgaaPAllx5
import Derived.Test.YtpbamfoaoeicgaaPAllx8
namespace Go.Proofs.Ytpbamfoaoeicgaa.PAll
open Go.RowKit Go.Proofs.YtpbamfoaoeicgaaW.PrintWords Go.Proofs.YtpbamfoaoeicgaaW.PrintLast Go.Proofs.YtpbamfoaoeicgaaW.PrintMore
attribute [local go_sem] max2_int min2_int max_two min_two max_three min_three max_four min_four   -- for this text's walks alone
set_option linter.unusedVariables false
set_option linter.unusedSimpArgs false

/-! ### pMin: function 10 -/
mutual
def pMin.j0 : Nat → List (S48) → List (S45) → Int → Int → Bool → List (S57) → List Int → Bool → Option (Bool)
 | 0, _, _, _, _, _, _, _, _ => none
 | k + 1, x0, x1, x2, x3, x9, x10, x13, x58 => if x58 = true then (some false) else (if 0 ≤ (x0.length : Int) then (if ((x0.length : Int) : Int).toNat ≤ 281474976710656 then (pMin.l0 k x0 x1 x2 x3 x9 x10 x13 (List.replicate ((x0.length : Int) : Int).toNat false) ([] : List (S57)) x10 (x10.length : Int) 0) else (none)) else (none))
def pMin.l0 : Nat → List (S48) → List (S45) → Int → Int → Bool → List (S57) → List Int → List Bool → List (S57) → List (S57) → Int → Int → Option (Bool)
 | 0, _, _, _, _, _, _, _, _, _, _, _, _ => none
 | k + 1, x0, x1, x2, x3, x9, x10, x13, x15, x16, x62, x63, x64 => if x64 < x63 then (if 0 ≤ x64 then (if x64 < (x62.length : Int) then (if ((rd_T57 x62 x64).f0) < 0 then (pMin.j2 k x0 x1 x2 x3 x9 x10 x13 x15 x16 x62 x63 x64 true ((rd_T57 x62 x64).f0) ((rd_T57 x62 x64).f1) ((rd_T57 x62 x64).f2)) else (if ((rd_T57 x62 x64).f0) ≥ (x0.length : Int) then (pMin.j2 k x0 x1 x2 x3 x9 x10 x13 x15 x16 x62 x63 x64 true ((rd_T57 x62 x64).f0) ((rd_T57 x62 x64).f1) ((rd_T57 x62 x64).f2)) else (if ((rd_T57 x62 x64).f2) < 0 then (pMin.j2 k x0 x1 x2 x3 x9 x10 x13 x15 x16 x62 x63 x64 true ((rd_T57 x62 x64).f0) ((rd_T57 x62 x64).f1) ((rd_T57 x62 x64).f2)) else (pMin.j2 k x0 x1 x2 x3 x9 x10 x13 x15 x16 x62 x63 x64 (decide (((rd_T57 x62 x64).f2) ≥ (x1.length : Int))) ((rd_T57 x62 x64).f0) ((rd_T57 x62 x64).f1) ((rd_T57 x62 x64).f2))))) else (none)) else (none)) else (pMin.l1 k x0 x1 x2 x3 x9 x10 x13 x15 x16 x13 (x13.length : Int) 0)
def pMin.j2 : Nat → List (S48) → List (S45) → Int → Int → Bool → List (S57) → List Int → List Bool → List (S57) → List (S57) → Int → Int → Bool → Int → Bool → Int → Option (Bool)
 | 0, _, _, _, _, _, _, _, _, _, _, _, _, _, _, _, _ => none
 | k + 1, x0, x1, x2, x3, x9, x10, x13, x15, x16, x62, x63, x64, x89, x366000, x366001, x366002 => if x89 = true then (pMin.l0 k x0 x1 x2 x3 x9 x10 x13 x15 x16 x62 x63 (wrap64 (x64 + 1))) else (if 0 ≤ x366000 then (if x366000 < (x15.length : Int) then ((some (x15.set (x366000 : Int).toNat true : List Bool)).bind fun y366 => (if x366001 = true then (if x16.length < 5864062014805 then (pMin.l0 k x0 x1 x2 x3 x9 x10 x13 y366 (x16 ++ [(⟨x366000, x366001, x366002⟩ : S57)]) x62 x63 (wrap64 (x64 + 1))) else (none)) else (pMin.l0 k x0 x1 x2 x3 x9 x10 x13 y366 x16 x62 x63 (wrap64 (x64 + 1))))) else (none)) else (none))
def pMin.l1 : Nat → List (S48) → List (S45) → Int → Int → Bool → List (S57) → List Int → List Bool → List (S57) → List Int → Int → Int → Option (Bool)
 | 0, _, _, _, _, _, _, _, _, _, _, _, _ => none
 | k + 1, x0, x1, x2, x3, x9, x10, x13, x15, x16, x101, x102, x103 => if x103 < x102 then (if 0 ≤ x103 then (if x103 < (x101.length : Int) then (if (rd x101 x103) < 0 then (some false) else (if x103 < (x15.length : Int) then (if rdOf false x15 x103 = true then (pMin.l1 k x0 x1 x2 x3 x9 x10 x13 x15 x16 x101 x102 (wrap64 (x103 + 1))) else (if (rd x101 x103) = 0 then (pMin.l1 k x0 x1 x2 x3 x9 x10 x13 x15 x16 x101 x102 (wrap64 (x103 + 1))) else (some false))) else (none))) else (none)) else (none)) else (if (x16.length : Int) = 0 then (some x9) else (if 0 ≤ (Int.tmod (wrap64 (x2)) (x16.length : Int)) then (if (Int.tmod (wrap64 (x2)) (x16.length : Int)) < (x16.length : Int) then ((some (([] : List (S45)) : List (S45))).bind fun y374 => (if y374.length + x1.length < 8796093022208 then ((some (y374 ++ x1 : List (S45))).bind fun y377 => (if 0 ≤ ((rd_T57 x16 (Int.tmod (wrap64 (x2)) (x16.length : Int))).f2) then (if ((rd_T57 x16 (Int.tmod (wrap64 (x2)) (x16.length : Int))).f2) < (y377.length : Int) then ((some (y377.set (((rd_T57 x16 (Int.tmod (wrap64 (x2)) (x16.length : Int))).f2) : Int).toNat (⟨wrap64 (((rd_T45 y377 ((rd_T57 x16 (Int.tmod (wrap64 (x2)) (x16.length : Int))).f2)).f0) - (wrap64 (x3))), (rd_T45 y377 ((rd_T57 x16 (Int.tmod (wrap64 (x2)) (x16.length : Int))).f2)).f1⟩ : S45) : List (S45))).bind fun y381 => ((wageofficelaw22_usable.f k x0 y381).bind fun t382 => (if t382 = true then ((punches_Worked.f x0 y381 x10).bind fun bt383 => (if bt383.2 = 0 then (pMin.j4 k x3 x9 x13 bt383.1 ((bt383.1.length : Int) != (x13.length : Int)) ((rd_T57 x16 (Int.tmod (wrap64 (x2)) (x16.length : Int))).f0) ((rd_T57 x16 (Int.tmod (wrap64 (x2)) (x16.length : Int))).f1) ((rd_T57 x16 (Int.tmod (wrap64 (x2)) (x16.length : Int))).f2)) else (pMin.j4 k x3 x9 x13 bt383.1 true ((rd_T57 x16 (Int.tmod (wrap64 (x2)) (x16.length : Int))).f0) ((rd_T57 x16 (Int.tmod (wrap64 (x2)) (x16.length : Int))).f1) ((rd_T57 x16 (Int.tmod (wrap64 (x2)) (x16.length : Int))).f2)))) else (some x9)))) else (none)) else (none))) else (none))) else (none)) else (none)))
def pMin.j4 : Nat → Int → Bool → List Int → List Int → Bool → Int → Bool → Int → Option (Bool)
 | 0, _, _, _, _, _, _, _, _ => none
 | k + 1, x3, x9, x13, x23, x168, x374000, x374001, x374002 => if x168 = true then (some false) else (pMin.l2 k x3 x9 x13 x23 (x13.length : Int) 0 x374000 x374001 x374002)
def pMin.l2 : Nat → Int → Bool → List Int → List Int → Int → Int → Int → Bool → Int → Option (Bool)
 | 0, _, _, _, _, _, _, _, _, _ => none
 | k + 1, x3, x9, x13, x23, x170, x171, x374000, x374001, x374002 => if x171 < x170 then (if x171 = x374000 then (if 0 ≤ x171 then (if x171 < (x23.length : Int) then (if x171 < (x13.length : Int) then (if (rd x23 x171) < (rd x13 x171) then (some false) else (if (rd x23 x171) > (wrap64 ((rd x13 x171) + (wrap64 (x3)))) then (some false) else (if (rd x13 x171) > 0 then (if (rd x23 x171) = (wrap64 ((rd x13 x171) + (wrap64 (x3)))) then (pMin.l2 k x3 x9 x13 x23 x170 (wrap64 (x171 + 1)) x374000 x374001 x374002) else (some false)) else (pMin.l2 k x3 x9 x13 x23 x170 (wrap64 (x171 + 1)) x374000 x374001 x374002)))) else (none)) else (none)) else (none)) else (if 0 ≤ x171 then (if x171 < (x23.length : Int) then (if x171 < (x13.length : Int) then (if (rd x23 x171) = (rd x13 x171) then (pMin.l2 k x3 x9 x13 x23 x170 (wrap64 (x171 + 1)) x374000 x374001 x374002) else (some false)) else (none)) else (none)) else (none))) else (some x9)
end
def pMin.f (k : Nat) (l0 : List (S48)) (l1 : List (S45)) (a2 : Int) (a3 : Int) : Option (Bool) := (wageofficelaw22_head.f).bind fun t350 => ((wageofficelaw22_usable.f k l0 l1).bind fun t351 => (if t351 = true then ((punches_Pair.f l0 l1).bind fun bt352 => ((punches_Worked.f l0 l1 bt352.1).bind fun bt357 => (if bt352.2.2 = 0 then (if bt357.2 = 0 then (pMin.j0 k l0 l1 a2 a3 t350 bt352.1 bt357.1 ((bt357.1.length : Int) != (l0.length : Int))) else (pMin.j0 k l0 l1 a2 a3 t350 bt352.1 bt357.1 true)) else (pMin.j0 k l0 l1 a2 a3 t350 bt352.1 bt357.1 true)))) else (some t350)))
theorem pMin.mono_l : ∀ k, (∀ y0 y1 y2 y3 y4 y5 y6 y7, LeO (pMin.j0 k y0 y1 y2 y3 y4 y5 y6 y7) (pMin.j0 (k + 1) y0 y1 y2 y3 y4 y5 y6 y7)) ∧ (∀ y0 y1 y2 y3 y4 y5 y6 y7 y8 y9 y10 y11, LeO (pMin.l0 k y0 y1 y2 y3 y4 y5 y6 y7 y8 y9 y10 y11) (pMin.l0 (k + 1) y0 y1 y2 y3 y4 y5 y6 y7 y8 y9 y10 y11)) ∧ (∀ y0 y1 y2 y3 y4 y5 y6 y7 y8 y9 y10 y11 y12 y13 y14 y15, LeO (pMin.j2 k y0 y1 y2 y3 y4 y5 y6 y7 y8 y9 y10 y11 y12 y13 y14 y15) (pMin.j2 (k + 1) y0 y1 y2 y3 y4 y5 y6 y7 y8 y9 y10 y11 y12 y13 y14 y15)) ∧ (∀ y0 y1 y2 y3 y4 y5 y6 y7 y8 y9 y10 y11, LeO (pMin.l1 k y0 y1 y2 y3 y4 y5 y6 y7 y8 y9 y10 y11) (pMin.l1 (k + 1) y0 y1 y2 y3 y4 y5 y6 y7 y8 y9 y10 y11)) ∧ (∀ y0 y1 y2 y3 y4 y5 y6 y7, LeO (pMin.j4 k y0 y1 y2 y3 y4 y5 y6 y7) (pMin.j4 (k + 1) y0 y1 y2 y3 y4 y5 y6 y7)) ∧ (∀ y0 y1 y2 y3 y4 y5 y6 y7 y8, LeO (pMin.l2 k y0 y1 y2 y3 y4 y5 y6 y7 y8) (pMin.l2 (k + 1) y0 y1 y2 y3 y4 y5 y6 y7 y8))
 | 0 => ⟨fun _ _ _ _ _ _ _ _ r h => by simp [pMin.j0] at h, fun _ _ _ _ _ _ _ _ _ _ _ _ r h => by simp [pMin.l0] at h, fun _ _ _ _ _ _ _ _ _ _ _ _ _ _ _ _ r h => by simp [pMin.j2] at h, fun _ _ _ _ _ _ _ _ _ _ _ _ r h => by simp [pMin.l1] at h, fun _ _ _ _ _ _ _ _ r h => by simp [pMin.j4] at h, fun _ _ _ _ _ _ _ _ _ r h => by simp [pMin.l2] at h⟩
 | k + 1 => by
  obtain ⟨ih0, ih1, ih2, ih3, ih4, ih5⟩ := pMin.mono_l k
  refine ⟨?_, ?_, ?_, ?_, ?_, ?_⟩
  ·intro y0 y1 y2 y3 y4 y5 y6 y7
   unfold pMin.j0
   repeat' first
   | (with_reducible exact ih0 _ _ _ _ _ _ _ _)
   | (with_reducible exact ih1 _ _ _ _ _ _ _ _ _ _ _ _)
   | (with_reducible exact ih2 _ _ _ _ _ _ _ _ _ _ _ _ _ _ _ _)
   | (with_reducible exact ih3 _ _ _ _ _ _ _ _ _ _ _ _)
   | (with_reducible exact ih4 _ _ _ _ _ _ _ _)
   | (with_reducible exact ih5 _ _ _ _ _ _ _ _ _)
   | (with_reducible exact wageofficelaw22_usable.mono _ _ _)
   | (with_reducible exact LeO.refl _)
   | (with_reducible exact LeO.none _)
   | (with_reducible refine LeO.ite ?_ ?_)
   | (with_reducible refine LeO.bind ?_ (fun _ => ?_))
   | exact ih0 _ _ _ _ _ _ _ _
   | exact ih1 _ _ _ _ _ _ _ _ _ _ _ _
   | exact ih2 _ _ _ _ _ _ _ _ _ _ _ _ _ _ _ _
   | exact ih3 _ _ _ _ _ _ _ _ _ _ _ _
   | exact ih4 _ _ _ _ _ _ _ _
   | exact ih5 _ _ _ _ _ _ _ _ _
   | exact wageofficelaw22_usable.mono _ _ _
   | exact LeO.none _
   | refine LeO.ite ?_ ?_
   | refine LeO.bind ?_ (fun _ => ?_)
  ·intro y0 y1 y2 y3 y4 y5 y6 y7 y8 y9 y10 y11
   unfold pMin.l0
   repeat' first
   | (with_reducible exact ih0 _ _ _ _ _ _ _ _)
   | (with_reducible exact ih1 _ _ _ _ _ _ _ _ _ _ _ _)
   | (with_reducible exact ih2 _ _ _ _ _ _ _ _ _ _ _ _ _ _ _ _)
   | (with_reducible exact ih3 _ _ _ _ _ _ _ _ _ _ _ _)
   | (with_reducible exact ih4 _ _ _ _ _ _ _ _)
   | (with_reducible exact ih5 _ _ _ _ _ _ _ _ _)
   | (with_reducible exact wageofficelaw22_usable.mono _ _ _)
   | (with_reducible exact LeO.refl _)
   | (with_reducible exact LeO.none _)
   | (with_reducible refine LeO.ite ?_ ?_)
   | (with_reducible refine LeO.bind ?_ (fun _ => ?_))
   | exact ih0 _ _ _ _ _ _ _ _
   | exact ih1 _ _ _ _ _ _ _ _ _ _ _ _
   | exact ih2 _ _ _ _ _ _ _ _ _ _ _ _ _ _ _ _
   | exact ih3 _ _ _ _ _ _ _ _ _ _ _ _
   | exact ih4 _ _ _ _ _ _ _ _
   | exact ih5 _ _ _ _ _ _ _ _ _
   | exact wageofficelaw22_usable.mono _ _ _
   | exact LeO.none _
   | refine LeO.ite ?_ ?_
   | refine LeO.bind ?_ (fun _ => ?_)
  ·intro y0 y1 y2 y3 y4 y5 y6 y7 y8 y9 y10 y11 y12 y13 y14 y15
   unfold pMin.j2
   repeat' first
   | (with_reducible exact ih0 _ _ _ _ _ _ _ _)
   | (with_reducible exact ih1 _ _ _ _ _ _ _ _ _ _ _ _)
   | (with_reducible exact ih2 _ _ _ _ _ _ _ _ _ _ _ _ _ _ _ _)
   | (with_reducible exact ih3 _ _ _ _ _ _ _ _ _ _ _ _)
   | (with_reducible exact ih4 _ _ _ _ _ _ _ _)
   | (with_reducible exact ih5 _ _ _ _ _ _ _ _ _)
   | (with_reducible exact wageofficelaw22_usable.mono _ _ _)
   | (with_reducible exact LeO.refl _)
   | (with_reducible exact LeO.none _)
   | (with_reducible refine LeO.ite ?_ ?_)
   | (with_reducible refine LeO.bind ?_ (fun _ => ?_))
   | exact ih0 _ _ _ _ _ _ _ _
   | exact ih1 _ _ _ _ _ _ _ _ _ _ _ _
   | exact ih2 _ _ _ _ _ _ _ _ _ _ _ _ _ _ _ _
   | exact ih3 _ _ _ _ _ _ _ _ _ _ _ _
   | exact ih4 _ _ _ _ _ _ _ _
   | exact ih5 _ _ _ _ _ _ _ _ _
   | exact wageofficelaw22_usable.mono _ _ _
   | exact LeO.none _
   | refine LeO.ite ?_ ?_
   | refine LeO.bind ?_ (fun _ => ?_)
  ·intro y0 y1 y2 y3 y4 y5 y6 y7 y8 y9 y10 y11
   unfold pMin.l1
   repeat' first
   | (with_reducible exact ih0 _ _ _ _ _ _ _ _)
   | (with_reducible exact ih1 _ _ _ _ _ _ _ _ _ _ _ _)
   | (with_reducible exact ih2 _ _ _ _ _ _ _ _ _ _ _ _ _ _ _ _)
   | (with_reducible exact ih3 _ _ _ _ _ _ _ _ _ _ _ _)
   | (with_reducible exact ih4 _ _ _ _ _ _ _ _)
   | (with_reducible exact ih5 _ _ _ _ _ _ _ _ _)
   | (with_reducible exact wageofficelaw22_usable.mono _ _ _)
   | (with_reducible exact LeO.refl _)
   | (with_reducible exact LeO.none _)
   | (with_reducible refine LeO.ite ?_ ?_)
   | (with_reducible refine LeO.bind ?_ (fun _ => ?_))
   | exact ih0 _ _ _ _ _ _ _ _
   | exact ih1 _ _ _ _ _ _ _ _ _ _ _ _
   | exact ih2 _ _ _ _ _ _ _ _ _ _ _ _ _ _ _ _
   | exact ih3 _ _ _ _ _ _ _ _ _ _ _ _
   | exact ih4 _ _ _ _ _ _ _ _
   | exact ih5 _ _ _ _ _ _ _ _ _
   | exact wageofficelaw22_usable.mono _ _ _
   | exact LeO.none _
   | refine LeO.ite ?_ ?_
   | refine LeO.bind ?_ (fun _ => ?_)
  ·intro y0 y1 y2 y3 y4 y5 y6 y7
   unfold pMin.j4
   repeat' first
   | (with_reducible exact ih0 _ _ _ _ _ _ _ _)
   | (with_reducible exact ih1 _ _ _ _ _ _ _ _ _ _ _ _)
   | (with_reducible exact ih2 _ _ _ _ _ _ _ _ _ _ _ _ _ _ _ _)
   | (with_reducible exact ih3 _ _ _ _ _ _ _ _ _ _ _ _)
   | (with_reducible exact ih4 _ _ _ _ _ _ _ _)
   | (with_reducible exact ih5 _ _ _ _ _ _ _ _ _)
   | (with_reducible exact wageofficelaw22_usable.mono _ _ _)
   | (with_reducible exact LeO.refl _)
   | (with_reducible exact LeO.none _)
   | (with_reducible refine LeO.ite ?_ ?_)
   | (with_reducible refine LeO.bind ?_ (fun _ => ?_))
   | exact ih0 _ _ _ _ _ _ _ _
   | exact ih1 _ _ _ _ _ _ _ _ _ _ _ _
   | exact ih2 _ _ _ _ _ _ _ _ _ _ _ _ _ _ _ _
   | exact ih3 _ _ _ _ _ _ _ _ _ _ _ _
   | exact ih4 _ _ _ _ _ _ _ _
   | exact ih5 _ _ _ _ _ _ _ _ _
   | exact wageofficelaw22_usable.mono _ _ _
   | exact LeO.none _
   | refine LeO.ite ?_ ?_
   | refine LeO.bind ?_ (fun _ => ?_)
  ·intro y0 y1 y2 y3 y4 y5 y6 y7 y8
   unfold pMin.l2
   repeat' first
   | (with_reducible exact ih0 _ _ _ _ _ _ _ _)
   | (with_reducible exact ih1 _ _ _ _ _ _ _ _ _ _ _ _)
   | (with_reducible exact ih2 _ _ _ _ _ _ _ _ _ _ _ _ _ _ _ _)
   | (with_reducible exact ih3 _ _ _ _ _ _ _ _ _ _ _ _)
   | (with_reducible exact ih4 _ _ _ _ _ _ _ _)
   | (with_reducible exact ih5 _ _ _ _ _ _ _ _ _)
   | (with_reducible exact wageofficelaw22_usable.mono _ _ _)
   | (with_reducible exact LeO.refl _)
   | (with_reducible exact LeO.none _)
   | (with_reducible refine LeO.ite ?_ ?_)
   | (with_reducible refine LeO.bind ?_ (fun _ => ?_))
   | exact ih0 _ _ _ _ _ _ _ _
   | exact ih1 _ _ _ _ _ _ _ _ _ _ _ _
   | exact ih2 _ _ _ _ _ _ _ _ _ _ _ _ _ _ _ _
   | exact ih3 _ _ _ _ _ _ _ _ _ _ _ _
   | exact ih4 _ _ _ _ _ _ _ _
   | exact ih5 _ _ _ _ _ _ _ _ _
   | exact wageofficelaw22_usable.mono _ _ _
   | exact LeO.none _
   | refine LeO.ite ?_ ?_
   | refine LeO.bind ?_ (fun _ => ?_)
theorem pMin.mono : ∀ a0 a1 a2 a3 k, LeO (pMin.f k a0 a1 a2 a3) (pMin.f (k + 1) a0 a1 a2 a3) := by
 intro a0 a1 a2 a3 k
 obtain ⟨ih0, ih1, ih2, ih3, ih4, ih5⟩ := pMin.mono_l k
 unfold pMin.f
 repeat' first
   | (with_reducible exact ih0 _ _ _ _ _ _ _ _)
   | (with_reducible exact ih1 _ _ _ _ _ _ _ _ _ _ _ _)
   | (with_reducible exact ih2 _ _ _ _ _ _ _ _ _ _ _ _ _ _ _ _)
   | (with_reducible exact ih3 _ _ _ _ _ _ _ _ _ _ _ _)
   | (with_reducible exact ih4 _ _ _ _ _ _ _ _)
   | (with_reducible exact ih5 _ _ _ _ _ _ _ _ _)
   | (with_reducible exact wageofficelaw22_usable.mono _ _ _)
   | (with_reducible exact LeO.refl _)
   | (with_reducible exact LeO.none _)
   | (with_reducible refine LeO.ite ?_ ?_)
   | (with_reducible refine LeO.bind ?_ (fun _ => ?_))
   | exact ih0 _ _ _ _ _ _ _ _
   | exact ih1 _ _ _ _ _ _ _ _ _ _ _ _
   | exact ih2 _ _ _ _ _ _ _ _ _ _ _ _ _ _ _ _
   | exact ih3 _ _ _ _ _ _ _ _ _ _ _ _
   | exact ih4 _ _ _ _ _ _ _ _
   | exact ih5 _ _ _ _ _ _ _ _ _
   | exact wageofficelaw22_usable.mono _ _ _
   | exact LeO.none _
   | refine LeO.ite ?_ ?_
   | refine LeO.bind ?_ (fun _ => ?_)
end Go.Proofs.Ytpbamfoaoeicgaa.PAll

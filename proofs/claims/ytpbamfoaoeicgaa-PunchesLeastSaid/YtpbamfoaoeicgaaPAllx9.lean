/- The reference's Aligned, as the printed texts ask it. -/
import Derived.Test.YtpbamfoaoeicgaaRefAlT
set_option linter.unusedVariables false
set_option linter.unusedSimpArgs false
namespace Go.Proofs.Ytpbamfoaoeicgaa.PAll
open Go Go.RowKit Go.Proofs.YtpbamfoaoeicgaaW.PrintWords Go.Proofs.YtpbamfoaoeicgaaW.PrintLast Go.Proofs.YtpbamfoaoeicgaaW.PrintMore
def wageofficeref22_Aligned.f (l0 : List (S48)) (l1 : List (S45)) (l2 : List (S57)) : Option (Int × Bool) := if Usable l0 l1 ∧ l2.length ≤ 200 ∧ (ral (marksOf l0) l1 0 0 0 l2).2 = true then some (ral (marksOf l0) l1 0 0 0 l2) else none
theorem wageofficeref22_Aligned.calls (A0 : Option Addr) (c0 : Nat) (l0 : List (S48)) (A1 : Option Addr) (c1 : Nat) (l1 : List (S45)) (A2 : Option Addr) (c2 : Nat) (l2 : List (S57)) (r1 : Int) (r2 : Bool) (w : World) (hr0 : Kd.C k48 w A0 l0.length l0) (hc0 : l0.length ≤ c0) (hr1 : Kd.C k45 w A1 l1.length l1) (hc1 : l1.length ≤ c1) (hr2 : Kd.C k57 w A2 l2.length l2) (hc2 : l2.length ≤ c2) (h : wageofficeref22_Aligned.f l0 l1 l2 = some (r1, r2)) :
    Calls Try.prog 20 #[.slice A0 l0.length c0, .slice A1 l1.length c1, .slice A2 l2.length c2] w fun e w' => e = .returned (.tuple #[.int .i64 r1, .bool r2]) ∧ Below w.heap.size w w' := by
  unfold wageofficeref22_Aligned.f at h
  split at h
  · rename_i hu
    have e := Option.some.inj h
    have e1 : (ral (marksOf l0) l1 0 0 0 l2).1 = r1 := by rw [e]
    have e2 : (ral (marksOf l0) l1 0 0 0 l2).2 = r2 := by rw [e]
    have := ref_aligned_true A0 c0 l0 A1 c1 l1 A2 c2 l2 w hr0 hc0 hr1 hc1 hr2 hc2 (by have := hu.1.1; omega) (by have := hu.1.2.1; omega) hu.2.1 (near_usable hu.1).1 (near_usable hu.1).2 hu.2.2
    rw [e1, e2] at this
    exact this
  · cases h
end Go.Proofs.Ytpbamfoaoeicgaa.PAll

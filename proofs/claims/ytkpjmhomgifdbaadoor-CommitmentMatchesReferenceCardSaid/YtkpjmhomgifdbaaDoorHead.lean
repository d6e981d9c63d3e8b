/- The fixed examples of the laws' head: each function's value at them; head returns true. -/
import Derived.Test.YtkpjmhomgifdbaaDoorFns
namespace Go.Proofs.YtkpjmhomgifdbaaDoor
open Go Go.RowKit

theorem com_nat (v r : Nat) (hv : v < 1073741789) (hr : r < 1073741789) : comV v r = ((M.com v r : Nat) : Int) ∧ comE v r = 0 := by
  unfold comV comE; rw [if_pos (by omega), if_pos (by omega)]; exact ⟨rfl, rfl⟩
theorem pow_nat (a e : Nat) (ha : a < 2147483579) : powS a e = ((M.pw a e : Nat) : Int) := by
  unfold powS; rw [if_pos (by omega)]; rfl
theorem pow_Q (a : Nat) (ha : a < 2147483579) : powS a 1073741789 = ((M.pw a M.Q : Nat) : Int) := pow_nat a 1073741789 ha
theorem el_nat (a : Nat) (h0 : 0 < a) (ha : a < 2147483579) (h : M.pw a M.Q = 1) : elB a = true := by
  unfold elB; rw [pow_Q a ha, h]; simp; omega
theorem el_no (a : Nat) (ha : a < 2147483579) (h : M.pw a M.Q ≠ 1) : elB a = false := by
  unfold elB; rw [pow_Q a ha]
  have : ((((M.pw a M.Q : Nat) : Int)) == 1) = false := by rw [beq_eq_false_iff_ne]; intro e; exact h (by exact_mod_cast e)
  rw [this]; simp
theorem pw_of {b e : Nat} (h : b ^ e % M.P = 1) : M.pw b e = 1 := h
theorem pw4 : M.pw 4 M.Q = 1 := pw_of M.four_Q
theorem pw9 : M.pw 9 M.Q = 1 := pw_of M.nine_Q
theorem el4 : elB 4 = true := el_nat 4 (by omega) (by omega) pw4
theorem el9 : elB 9 = true := el_nat 9 (by omega) (by omega) pw9
theorem one_Q : M.pw 1 M.Q = 1 := by unfold M.pw; rw [Nat.one_pow]; decide
theorem el_neg : elB 2147483578 = false := el_no 2147483578 (by omega) (M.pw_neg (a := 1) (by decide) one_Q)
theorem el0 : elB 0 = false := by unfold elB; simp

theorem c10 : comV 1 0 = 4 ∧ comE 1 0 = 0 := by have := com_nat 1 0 (by omega) (by omega); exact ⟨this.1.trans (by decide), this.2⟩
theorem c01 : comV 0 1 = 9 ∧ comE 0 1 = 0 := by have := com_nat 0 1 (by omega) (by omega); exact ⟨this.1.trans (by decide), this.2⟩
theorem c21 : comV 2 1 = 144 ∧ comE 2 1 = 0 := by have := com_nat 2 1 (by omega) (by omega); exact ⟨this.1.trans (by decide), this.2⟩
theorem c12 : comV 1 2 = 324 ∧ comE 1 2 = 0 := by have := com_nat 1 2 (by omega) (by omega); exact ⟨this.1.trans (by decide), this.2⟩
theorem cQ0 : comV 1073741789 0 = 0 ∧ comE 1073741789 0 = 1 := by
  unfold comV comE; rw [if_neg (by omega), if_neg (by omega)]; exact ⟨rfl, rfl⟩
theorem a49 : addV 4 9 = 36 ∧ addE 4 9 = 0 := by
  unfold addV addE; rw [if_pos ⟨el4, el9⟩, if_pos ⟨el4, el9⟩]; exact ⟨by decide, rfl⟩
theorem a04 : addV 0 4 = 0 ∧ addE 0 4 = 1 := by
  unfold addV addE; rw [if_neg (by simp [el0]), if_neg (by simp [el0])]; exact ⟨rfl, rfl⟩
theorem an4 : addV 2147483578 4 = 0 ∧ addE 2147483578 4 = 1 := by
  unfold addV addE; rw [if_neg (by simp [el_neg]), if_neg (by simp [el_neg])]; exact ⟨rfl, rfl⟩
theorem o1 : opB 144 2 1 = true := by unfold opB; rw [c21.1, c21.2]; rfl
theorem o2 : opB 144 1 2 = false := by unfold opB; rw [c12.1, c12.2]; rfl
theorem p34 : powS 3 4 = 81 := by rw [show (3 : Int) = ((3 : Nat) : Int) from rfl, show (4 : Int) = ((4 : Nat) : Int) from rfl, pow_nat 3 4 (by omega)]; decide
theorem p50 : powS 5 0 = 1 := by rw [show (5 : Int) = ((5 : Nat) : Int) from rfl, show (0 : Int) = ((0 : Nat) : Int) from rfl, pow_nat 5 0 (by omega)]; decide
theorem p231 : powS 2 31 = 69 := by rw [show (2 : Int) = ((2 : Nat) : Int) from rfl, show (31 : Int) = ((31 : Nat) : Int) from rfl, pow_nat 2 31 (by omega)]; decide
theorem pm2 : powS (-1) 2 = 0 := by unfold powS; rw [if_neg (by omega)]
theorem p2m : powS 2 (-1) = 0 := by unfold powS; rw [if_neg (by omega)]

set_option maxRecDepth 100000 in
set_option maxHeartbeats 2000000 in
theorem head_eq (w0 w : World) (hs0 : St w0 w) :
    Calls Tryd.prog 9 #[] w fun en W' => en = .returned (.bool true) ∧ St w0 W' := by
  go_enter Tryd.func9, Tryd.ntmps9
  go_wp2_with (fail)
  refine (Commit_eq w0 1 0 _ _ c10.1 c10.2 _ hs0).mono ?_
  rintro e w1 ⟨rfl, hs1⟩; clear hs0
  go_wp2_with (fail)
  refine (Commit_eq w0 0 1 _ _ c01.1 c01.2 _ hs1).mono ?_
  rintro e w2 ⟨rfl, hs2⟩; clear hs1
  go_wp2_with (fail)
  refine (Commit_eq w0 2 1 _ _ c21.1 c21.2 _ hs2).mono ?_
  rintro e w3 ⟨rfl, hs3⟩; clear hs2
  go_wp2_with (fail)
  refine (Commit_eq w0 1073741789 0 _ _ cQ0.1 cQ0.2 _ hs3).mono ?_
  rintro e w4 ⟨rfl, hs4⟩; clear hs3
  go_wp2_with (fail)
  refine (Add_eq w0 4 9 _ _ a49.1 a49.2 _ hs4).mono ?_
  rintro e w5 ⟨rfl, hs5⟩; clear hs4
  go_wp2_with (fail)
  refine (Add_eq w0 0 4 _ _ a04.1 a04.2 _ hs5).mono ?_
  rintro e w6 ⟨rfl, hs6⟩; clear hs5
  go_wp2_with (fail)
  refine (Add_eq w0 2147483578 4 _ _ an4.1 an4.2 _ hs6).mono ?_
  rintro e w7 ⟨rfl, hs7⟩; clear hs6
  go_wp2_with (fail)
  refine (Open_eq w0 144 2 1 _ o1 _ hs7).mono ?_
  rintro e w8 ⟨rfl, hs8⟩; clear hs7
  go_wp2_with (fail)
  refine (Open_eq w0 144 1 2 _ o2 _ hs8).mono ?_
  rintro e w9 ⟨rfl, hs9⟩; clear hs8
  go_wp2_with (fail)
  refine (Power_eq w0 3 4 _ p34 _ (Lib.hid (by decide)) hs9).mono ?_
  rintro e w10 ⟨rfl, hs10⟩; clear hs9
  go_wp2_with (fail)
  refine (Power_eq w0 5 0 _ p50 _ (Lib.hid (by decide)) hs10).mono ?_
  rintro e w11 ⟨rfl, hs11⟩; clear hs10
  go_wp2_with (fail)
  refine (Power_eq w0 2 31 _ p231 _ (Lib.hid (by decide)) hs11).mono ?_
  rintro e w12 ⟨rfl, hs12⟩; clear hs11
  go_wp2_with (fail)
  refine (Power_eq w0 (-1) 2 _ pm2 _ (Lib.hid (by decide)) hs12).mono ?_
  rintro e w13 ⟨rfl, hs13⟩; clear hs12
  go_wp2_with (fail)
  refine (Power_eq w0 2 (-1) _ p2m _ (Lib.hid (by decide)) hs13).mono ?_
  rintro e w14 ⟨rfl, hs14⟩; clear hs13
  go_wp2
  go_ret
  exact ⟨rfl, hs14⟩

end Go.Proofs.YtkpjmhomgifdbaaDoor

/- The walk of the law on powers: it returns true at every input. -/
import Derived.Test.YtkpjmhomgifdbaaDoorSums
namespace Go.Proofs.YtkpjmhomgifdbaaDoor
open Go Go.RowKit

theorem one_add (u : Nat) (h : u < 2147483578) : wrap64 (1 + (u : Int)) = ((1 + u : Nat) : Int) := by unfold wrap64; omega
theorem add_exp (m n : Nat) (hm : m < 1073741824) (hn : n < 1073741824) : wrap64 ((m : Int) + (n : Int)) = ((m + n : Nat) : Int) := by unfold wrap64; omega
theorem mul_lt (m n : Nat) (hm : m < 1073741824) (hn : n < 1073741824) : m * n < 1152921504606846976 := by
  have h2 : m * n ≤ 1073741823 * 1073741823 := Nat.mul_le_mul (by omega) (by omega)
  omega
theorem mul_exp (m n : Nat) (hm : m < 1073741824) (hn : n < 1073741824) : wrap64 ((m : Int) * (n : Int)) = ((m * n : Nat) : Int) := by
  have h2 := mul_lt m n hm hn
  rw [show ((m : Int) * (n : Int)) = ((m * n : Nat) : Int) by simp]; unfold wrap64; omega
theorem mul_pow (x m n : Nat) : Int.tmod (wrap64 (((M.pw x m : Nat) : Int) * ((M.pw x n : Nat) : Int))) 2147483579 = ((M.pw x (m + n) : Nat) : Int) := by
  have h0 := M.pw_lt x m
  have h1 := M.pw_lt x n
  have h3 := M.pw_add x m n
  generalize M.pw x m = a at *
  generalize M.pw x n = b at *
  generalize M.pw x (m + n) = c at *
  unfold M.P at h0 h1 h3
  have h2 : a * b ≤ 2147483579 * 2147483579 := Nat.mul_le_mul (by omega) (by omega)
  rw [show wrap64 ((a : Int) * (b : Int)) = ((a * b : Nat) : Int) by rw [show ((a : Int) * (b : Int)) = ((a * b : Nat) : Int) by simp]; unfold wrap64; omega, Int.tmod_eq_emod_of_nonneg (by omega), ← h3]
  exact (Int.natCast_emod _ _).symm
theorem pow_low {x : Nat} (h : ¬ M.P ∣ x) (m : Nat) : decide ((1 : Int) ≤ ((M.pw x m : Nat) : Int)) = true := by have := M.pw_pos h m; simp; omega
theorem pow_high (x m : Nat) : decide (((M.pw x m : Nat) : Int) < 2147483579) = true := by
  have h2 : M.pw x m < 2147483579 := M.pw_lt x m
  simp; omega

theorem Power_nat (w0 : World) (x e r : Nat) (hx : x < 2147483579) (he : e < 9223372036854775808) (hr : M.pw x e = r) (w : World) (hs : St w0 w) :
    Calls Tryd.prog 16 #[.int .i64 (x : Int), .int .i64 (e : Int)] w fun en W' => en = .returned (.int .i64 (r : Int)) ∧ St w0 W' :=
  Power_eq w0 x e r (by rw [pow_nat x e hx, hr]) w (Lib.hid (by omega)) hs

set_option maxRecDepth 100000 in
set_option maxHeartbeats 2000000 in
theorem Powers_core (base a b : Int) (w0 : World) (st0 : St w0 w0) (u x m n y z t s g : Nat) (q : Int)
    (e1 : wrap64 (1 + (u : Int)) = (x : Int)) (e2 : wrap64 ((m : Int) + (n : Int)) = (s : Int)) (e3 : wrap64 ((m : Int) * (n : Int)) = (g : Int))
    (e4 : Int.tmod (wrap64 ((y : Int) * (z : Int))) 2147483579 = (t : Int)) (d1 : decide ((1 : Int) ≤ (y : Int)) = true) (d2 : decide ((y : Int) < 2147483579) = true) (hq : q = 1 ∨ q = 2147483578) (v : Nat)
    (K0 : Hid (∀ W, St w0 W → Calls Tryd.prog 9 #[] W fun en W' => en = .returned (.bool true) ∧ St w0 W'))
    (J1 : Hid (∀ W, St w0 W → Calls Tryd.prog 10 #[.int .i64 base, .int .i64 2147483578] W fun en W' => en = .returned (.int .i64 (u : Int)) ∧ St w0 W'))
    (J2 : Hid (∀ W, St w0 W → Calls Tryd.prog 10 #[.int .i64 a, .int .i64 1073741824] W fun en W' => en = .returned (.int .i64 (m : Int)) ∧ St w0 W'))
    (J3 : Hid (∀ W, St w0 W → Calls Tryd.prog 10 #[.int .i64 b, .int .i64 1073741824] W fun en W' => en = .returned (.int .i64 (n : Int)) ∧ St w0 W'))
    (E1 : Hid (∀ W, St w0 W → Calls Tryd.prog 16 #[.int .i64 (x : Int), .int .i64 (m : Int)] W fun en W' => en = .returned (.int .i64 (y : Int)) ∧ St w0 W'))
    (E2 : Hid (∀ W, St w0 W → Calls Tryd.prog 16 #[.int .i64 (x : Int), .int .i64 (n : Int)] W fun en W' => en = .returned (.int .i64 (z : Int)) ∧ St w0 W'))
    (E3 : Hid (∀ W, St w0 W → Calls Tryd.prog 16 #[.int .i64 (x : Int), .int .i64 1073741789] W fun en W' => en = .returned (.int .i64 q) ∧ St w0 W'))
    (E4 : Hid (∀ W, St w0 W → Calls Tryd.prog 16 #[.int .i64 (x : Int), .int .i64 (s : Int)] W fun en W' => en = .returned (.int .i64 (t : Int)) ∧ St w0 W'))
    (E5 : Hid (∀ W, St w0 W → Calls Tryd.prog 16 #[.int .i64 (y : Int), .int .i64 (n : Int)] W fun en W' => en = .returned (.int .i64 (v : Int)) ∧ St w0 W'))
    (E6 : Hid (∀ W, St w0 W → Calls Tryd.prog 16 #[.int .i64 (x : Int), .int .i64 (g : Int)] W fun en W' => en = .returned (.int .i64 (v : Int)) ∧ St w0 W'))
    (E7 : Hid (∀ W, St w0 W → Calls Tryd.prog 16 #[.int .i64 (x : Int), .int .i64 2147483578] W fun en W' => en = .returned (.int .i64 1) ∧ St w0 W')) :
    Calls Tryd.prog 4 #[.int .i64 base, .int .i64 a, .int .i64 b] w0 fun en W' => en = .returned (.bool true) ∧ Below w0.heap.size w0 W' := by
  rcases hq with rfl | rfl
  all_goals
    go_enter Tryd.func4, Tryd.ntmps4
    go_wp2_with (fail)
    refine (K0.out _ st0).mono ?_
    rintro e w1 ⟨rfl, st1⟩; clear st0
    go_wp2_with (fail)
    refine (J1.out _ st1).mono ?_
    rintro e w2 ⟨rfl, st2⟩; clear st1
    go_wp2_with (fail)
    refine (J2.out _ st2).mono ?_
    rintro e w3 ⟨rfl, st3⟩; clear st2
    go_wp2_with (fail)
    refine (J3.out _ st3).mono ?_
    rintro e w4 ⟨rfl, st4⟩; clear st3
    go_wp2_with (fail)
    refine (E1.out _ st4).mono ?_
    rintro e w5 ⟨rfl, st5⟩; clear st4
    go_wp2_with (fail)
    refine (E2.out _ st5).mono ?_
    rintro e w6 ⟨rfl, st6⟩; clear st5
    go_wp2_with (fail)
    refine (E3.out _ st6).mono ?_
    rintro e w7 ⟨rfl, st7⟩; clear st6
    go_wp2_with (fail)
    refine (E4.out _ st7).mono ?_
    rintro e w8 ⟨rfl, st8⟩; clear st7
    go_wp2_with (fail)
    refine (E5.out _ st8).mono ?_
    rintro e w9 ⟨rfl, st9⟩; clear st8
    go_wp2_with (fail)
    refine (E6.out _ st9).mono ?_
    rintro e w10 ⟨rfl, st10⟩; clear st9
    go_wp2_with (fail)
    refine (E7.out _ st10).mono ?_
    rintro e w11 ⟨rfl, st11⟩; clear st10
    go_wp2
    go_ret
    exact ⟨rfl, st11.2⟩

theorem Powers_walk (base a b : Int) (hv : Hid (-9223372036854775808 ≤ base)) (hw : Hid (-9223372036854775808 ≤ a)) (hr : Hid (-9223372036854775808 ≤ b)) (w0 : World) (ht : Tab w0) :
    Calls Tryd.prog 4 #[.int .i64 base, .int .i64 a, .int .i64 b] w0 fun en W' => en = .returned (.bool true) ∧ Below w0.heap.size w0 W' := by
  obtain ⟨u, eu, lu⟩ := pk_nat base 2147483578 (by omega)
  obtain ⟨m, em, lm⟩ := pk_nat a 1073741824 (by omega)
  obtain ⟨n, en, ln⟩ := pk_nat b 1073741824 (by omega)
  have hx : ¬ M.P ∣ (1 + u) := M.not_dvd (by omega) (by unfold M.P; omega)
  have lx : 1 + u < 2147483579 := by omega
  refine Powers_core base a b w0 (St.refl ht) u (1 + u) m n (M.pw (1 + u) m) (M.pw (1 + u) n) (M.pw (1 + u) (m + n)) (m + n) (m * n) ((M.pw (1 + u) M.Q : Nat) : Int)
    (one_add u lu) (add_exp m n lm ln) (mul_exp m n lm ln) (mul_pow (1 + u) m n) (pow_low hx m) (pow_high _ m) ?_ (M.pw (1 + u) (m * n))
    (fun W st => head_eq w0 W st)
    (fun W st => pick_at w0 base 2147483578 u eu hv (by omega) W st) (fun W st => pick_at w0 a 1073741824 m em hw (by omega) W st) (fun W st => pick_at w0 b 1073741824 n en hr (by omega) W st)
    (fun W st => Power_nat w0 _ m _ lx (by omega) rfl W st) (fun W st => Power_nat w0 _ n _ lx (by omega) rfl W st)
    (fun W st => Power_eq w0 _ _ _ (pow_Q _ lx) W (Lib.hid (by decide)) st) (fun W st => Power_nat w0 _ (m + n) _ lx (by omega) rfl W st)
    (fun W st => Power_nat w0 _ n _ (M.pw_lt _ m) (by omega) (M.pw_mul _ m n) W st) (fun W st => Power_nat w0 _ (m * n) _ lx (Nat.lt_trans (mul_lt m n lm ln) (by decide)) rfl W st)
    (fun W st => Power_nat w0 (1 + u) 2147483578 1 lx (by omega) (M.pw_fermat hx) W st)
  rcases M.pw_Q hx with h | h
  · left; rw [h]; rfl
  · right; rw [h]; rfl

end Go.Proofs.YtkpjmhomgifdbaaDoor

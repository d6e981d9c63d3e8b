/- The reference's functions of this layer: they return what the program's functions return. -/
import Derived.Test.YtkpjmhomgifdbaaDoorSums
import Derived.Laws.BitsLemmas
namespace Go.Proofs.YtkpjmhomgifdbaaDoor
open Go Go.RowKit

set_option maxHeartbeats 1000000 in
theorem RPower_out (a e : Int) (w : World) (h : ¬ (0 ≤ a ∧ a < 2147483579 ∧ 0 ≤ e)) :
    Calls Tryd.prog 11 #[.int .i64 a, .int .i64 e] w fun en W' => en = .returned (.int .i64 0) ∧ w = W' := by
  by_cases h1 : a < 0
  · have c1 : decide (a < 0) = true := by simpa using h1
    clear h
    go_enter Tryd.func11, Tryd.ntmps11
    go_wp2
    go_ret
    exact ⟨rfl, rfl⟩
  · have c1 : decide (a < 0) = false := by simpa using h1
    by_cases h2 : 2147483579 ≤ a
    · have c2 : decide (2147483579 ≤ a) = true := by simpa using h2
      clear h h1 h2
      go_enter Tryd.func11, Tryd.ntmps11
      go_wp2
      go_ret
      exact ⟨rfl, rfl⟩
    · have c2 : decide (2147483579 ≤ a) = false := by simpa using h2
      have c3 : decide (e < 0) = true := by simp; omega
      clear h h1 h2
      go_enter Tryd.func11, Tryd.ntmps11
      go_wp2
      go_ret
      exact ⟨rfl, rfl⟩

/-- the power so far: of the exponent without its k lowest bits -/
def part (b e k : Nat) : Nat := M.pw b (e / 2 ^ k)
theorem part_zero (b e : Nat) : part b e 0 = M.pw b e := by unfold part; rw [Nat.pow_zero, Nat.div_one]
theorem part_start (b e : Nat) (h : e < 2 ^ 63) : part b e 63 = 1 := by unfold part; rw [Nat.div_eq_of_lt h]; unfold M.pw; rw [Nat.pow_zero]; decide
theorem part_lt (b e k : Nat) : part b e k < 2147483579 := M.pw_lt _ _
theorem part_step (b e k : Nat) : part b e k = if e / 2 ^ k % 2 = 1 then part b e (k + 1) * part b e (k + 1) % M.P * b % M.P else part b e (k + 1) * part b e (k + 1) % M.P := by
  unfold part
  have hd : e / 2 ^ (k + 1) = e / 2 ^ k / 2 := by rw [Nat.pow_succ, Nat.div_div_eq_div_mul]
  rw [hd]
  generalize e / 2 ^ k = x
  have hx : x = x / 2 + x / 2 + x % 2 := by omega
  rw [M.pw_add]
  split
  · rename_i h1
    conv => lhs; rw [hx, h1]
    unfold M.pw; rw [Nat.mod_mul_mod, Nat.pow_succ]
  · rename_i h1
    conv => lhs; rw [hx, show x % 2 = 0 by omega]
    rfl

theorem small_mul {x y : Nat} (hx : x < 2147483579) (hy : y < 2147483579) : wrap64 ((x : Int) * (y : Int)) = ((x * y : Nat) : Int) := by
  have h2 : x * y ≤ 2147483579 * 2147483579 := Nat.mul_le_mul (by omega) (by omega)
  rw [show ((x : Int) * (y : Int)) = ((x * y : Nat) : Int) by simp]; unfold wrap64; omega
theorem small_mod {x y : Nat} (hx : x < 2147483579) (hy : y < 2147483579) : Int.tmod (wrap64 ((x : Int) * (y : Int))) 2147483579 = ((x * y % M.P : Nat) : Int) := by
  rw [small_mul hx hy, Int.tmod_eq_emod_of_nonneg (by omega)]
  exact (Int.natCast_emod _ _).symm

theorem bit_at (e j : Nat) (h : e < 2 ^ 63) : (Go.bits .and .i64 ((e : Int) / 2 ^ j) 1 == 1) = (e / 2 ^ j % 2 == 1) := by
  have hc : ((e : Int) / 2 ^ j) = ((e / 2 ^ j : Nat) : Int) := by rw [Int.natCast_ediv]; simp
  rw [hc]
  exact bit_and _ (Nat.lt_of_le_of_lt (Nat.div_le_self _ _) h)
theorem fld_e (y b : Nat) : ((y : Int) * (b : Int)) % 2147483579 = ((y * b % M.P : Nat) : Int) := by
  rw [show ((y : Int) * (b : Int)) = ((y * b : Nat) : Int) by simp]
  exact (Int.natCast_emod _ _).symm
theorem com_prod (v r : Int) (h : (0 ≤ v ∧ v < 1073741789) ∧ 0 ≤ r ∧ r < 1073741789) : comV v r = Int.tmod (wrap64 (powS 4 v * powS 9 r)) 2147483579 := by
  obtain ⟨a, rfl⟩ := Int.eq_ofNat_of_zero_le h.1.1
  obtain ⟨b, rfl⟩ := Int.eq_ofNat_of_zero_le h.2.1
  have e1 : powS 4 (a : Int) = ((M.pw 4 a : Nat) : Int) := by unfold powS; rw [if_pos (by omega)]; rfl
  have e2 : powS 9 (b : Int) = ((M.pw 9 b : Nat) : Int) := by unfold powS; rw [if_pos (by omega)]; rfl
  rw [e1, e2, small_mod (M.pw_lt _ _) (M.pw_lt _ _)]
  unfold comV; rw [if_pos h]; rfl

set_option maxRecDepth 100000 in
set_option maxHeartbeats 1000000 in
theorem RPower_in (b e : Nat) (hb : b < 2147483579) (h63 : Hid (e < 2 ^ 63)) (w : World) :
    Calls Tryd.prog 11 #[.int .i64 (b : Int), .int .i64 (e : Int)] w fun en W' => en = .returned (.int .i64 ((M.pw b e : Nat) : Int)) ∧ w = W' := by
  have c1 : decide ((b : Int) < 0) = false := by simp
  have c2 : decide (2147483579 ≤ (b : Int)) = false := by simp; omega
  have c3 : decide ((e : Int) < 0) = false := by simp
  have HB := Lib.hid (show ∀ x : Nat, x < 2147483579 → Int.tmod (wrap64 ((x : Int) * (b : Int))) 2147483579 = ((x * b % M.P : Nat) : Int) from fun x hx => small_mod hx hb)
  clear hb
  go_enter Tryd.func11, Tryd.ntmps11
  go_wp2
  go_loop [5, 6] (fun o i => ∃ k : Nat, k ≤ 63 ∧ i = .int .i64 ((k : Int) - 1) ∧ o = .int .i64 ((part b e k : Nat) : Int)) (fun _ i => (intOf i + 1).toNat)
  case atStart => exact ⟨63, by omega, rfl, by rw [part_start b e h63.out]; rfl⟩
  case round =>
    obtain ⟨k, hk, rfl, rfl⟩ := hrel
    by_cases h0 : k = 0
    · subst h0
      rw [part_zero]
      go_wp2
      go_ret
      exact ⟨rfl, rfl⟩
    · obtain ⟨j, rfl⟩ : ∃ j, k = j + 1 := ⟨k - 1, by omega⟩
      have hl := part_lt b e (j + 1)
      have m1 := small_mod hl hl
      have l2 : part b e (j + 1) * part b e (j + 1) % M.P < 2147483579 := Nat.mod_lt _ (by decide)
      have m2 := HB.out _ l2
      have hs := Lib.hid (part_step b e j)
      clear hl l2
      generalize part b e (j + 1) = x at *
      generalize x * x % M.P = y at *
      rw [show (((j + 1 : Nat) : Int) - 1) = (j : Int) by omega]
      go_wp2
      · have hb : (Go.bits .and .i64 ((e : Int) / 2 ^ j) 1 == 1) = true := by assumption
        rw [bit_at e j h63.out, beq_iff_eq] at hb
        rw [fld_e y b]
        exact ⟨⟨j, by omega, rfl, by rw [hs.out, if_pos hb]⟩, by simp [intOf] <;> omega⟩
      · have hb : (Go.bits .and .i64 ((e : Int) / 2 ^ j) 1 == 1) = false := by assumption
        rw [bit_at e j h63.out, beq_eq_false_iff_ne] at hb
        exact ⟨⟨j, by omega, rfl, by rw [hs.out, if_neg hb]⟩, by simp [intOf] <;> omega⟩

/-- the reference's Power, over a world that it leaves as it is -/
theorem RPower_any (a e : Int) (w : World) (he : Hid (e < 9223372036854775808)) :
    Calls Tryd.prog 11 #[.int .i64 a, .int .i64 e] w fun en W' => en = .returned (.int .i64 (powS a e)) ∧ w = W' := by
  by_cases h : 0 ≤ a ∧ a < 2147483579 ∧ 0 ≤ e
  · obtain ⟨h1, h2, h3⟩ := h
    obtain ⟨b, rfl⟩ := Int.eq_ofNat_of_zero_le h1
    obtain ⟨n, rfl⟩ := Int.eq_ofNat_of_zero_le h3
    refine (RPower_in b n (by omega) (Lib.hid (by have := he.out; omega)) w).mono ?_
    rintro en W' ⟨rfl, hB⟩
    exact ⟨by unfold powS; rw [if_pos ⟨h1, h2, h3⟩]; rfl, hB⟩
  · refine (RPower_out a e w h).mono ?_
    rintro en W' ⟨rfl, rfl⟩
    exact ⟨by unfold powS; rw [if_neg h], rfl⟩

set_option maxHeartbeats 1000000 in
theorem RCommit_any (v r c e : Int) (hc : comV v r = c) (he : comE v r = e) (w : World) :
    Calls Tryd.prog 13 #[.int .i64 v, .int .i64 r] w fun en W' => en = .returned (.tuple #[.int .i64 c, .int .i64 e]) ∧ w = W' := by
  subst hc he
  by_cases h : (0 ≤ v ∧ v < 1073741789) ∧ 0 ≤ r ∧ r < 1073741789
  · have H1 := Lib.hid (fun W => RPower_any 4 v W (Lib.hid (by omega)))
    have H2 := Lib.hid (fun W => RPower_any 9 r W (Lib.hid (by omega)))
    have hp := Lib.hid (com_prod v r h)
    have he := Lib.hid (show comE v r = 0 by unfold comE; rw [if_pos h])
    have c1 : decide (v < 0) = false := by simp; omega
    have c2 : decide (1073741789 ≤ v) = false := by simp; omega
    have c3 : decide (r < 0) = false := by simp; omega
    have c4 : decide (1073741789 ≤ r) = false := by simp; omega
    clear h
    generalize powS 4 v = x at *
    generalize powS 9 r = y at *
    go_enter Tryd.func13, Tryd.ntmps13
    go_wp2_with (fail)
    refine (H1.out _).mono ?_
    rintro en w1 ⟨rfl, rfl⟩
    go_wp2_with (fail)
    refine (H2.out _).mono ?_
    rintro en w1 ⟨rfl, rfl⟩
    go_wp2
    go_ret2
    exact ⟨ret2 (hp.out.symm) he.out.symm, rfl⟩
  · have hcv := Lib.hid (show comV v r = 0 by unfold comV; rw [if_neg h])
    have he := Lib.hid (show comE v r = 1 by unfold comE; rw [if_neg h])
    by_cases h1 : v < 0
    · have c1 : decide (v < 0) = true := by simpa using h1
      clear h h1
      go_enter Tryd.func13, Tryd.ntmps13
      go_wp2
      go_ret2
      exact ⟨ret2 hcv.out.symm he.out.symm, rfl⟩
    · have c1 : decide (v < 0) = false := by simpa using h1
      by_cases h2 : 1073741789 ≤ v
      · have c2 : decide (1073741789 ≤ v) = true := by simpa using h2
        clear h h1 h2
        go_enter Tryd.func13, Tryd.ntmps13
        go_wp2
        go_ret2
        exact ⟨ret2 hcv.out.symm he.out.symm, rfl⟩
      · have c2 : decide (1073741789 ≤ v) = false := by simpa using h2
        by_cases h3 : r < 0
        · have c3 : decide (r < 0) = true := by simpa using h3
          clear h h1 h2 h3
          go_enter Tryd.func13, Tryd.ntmps13
          go_wp2
          go_ret2
          exact ⟨ret2 hcv.out.symm he.out.symm, rfl⟩
        · have c3 : decide (r < 0) = false := by simpa using h3
          have c4 : decide (1073741789 ≤ r) = true := by simp; omega
          clear h h1 h2 h3
          go_enter Tryd.func13, Tryd.ntmps13
          go_wp2
          go_ret2
          exact ⟨ret2 hcv.out.symm he.out.symm, rfl⟩

set_option maxHeartbeats 1000000 in
theorem RElement_any (x : Int) (b : Bool) (h : elB x = b) (w : World) :
    Calls Tryd.prog 21 #[.int .i64 x] w fun en W' => en = .returned (.bool b) ∧ w = W' := by
  subst h
  by_cases h1 : 1 ≤ x
  · have c1 : decide (1 ≤ x) = true := by simpa using h1
    by_cases h2 : x < 2147483579
    · have c2 : decide (x < 2147483579) = true := by simpa using h2
      have H1 := Lib.hid (fun W => RPower_any x 1073741789 W (Lib.hid (by decide)))
      have hb := Lib.hid (show elB x = (powS x 1073741789 == 1) by unfold elB; rw [show decide (0 < x) = true by simp; omega]; rfl)
      clear h1 h2
      generalize powS x 1073741789 = y at *
      go_enter Tryd.func21, Tryd.ntmps21
      go_wp2_with (fail)
      refine (H1.out _).mono ?_
      rintro en w1 ⟨rfl, rfl⟩
      go_wp2
      go_ret
      exact ⟨retB hb.out.symm, rfl⟩
    · have c2 : decide (x < 2147483579) = false := by simpa using h2
      have hb := Lib.hid (show elB x = false by
        cases h3 : elB x with
        | false => rfl
        | true => have := elB_bd h3; omega)
      clear h1 h2
      go_enter Tryd.func21, Tryd.ntmps21
      go_wp2
      go_ret
      exact ⟨retB hb.out.symm, rfl⟩
  · have c1 : decide (1 ≤ x) = false := by simpa using h1
    have hb := Lib.hid (show elB x = false by
      cases h3 : elB x with
      | false => rfl
      | true => have := elB_bd h3; omega)
    clear h1
    go_enter Tryd.func21, Tryd.ntmps21
    go_wp2
    go_ret
    exact ⟨retB hb.out.symm, rfl⟩

theorem RAdd_any (a b c e : Int) (hc : addV a b = c) (he : addE a b = e) (w : World) :
    Calls Tryd.prog 15 #[.int .i64 a, .int .i64 b] w fun en W' => en = .returned (.tuple #[.int .i64 c, .int .i64 e]) ∧ w = W' := by
  subst hc he
  have D1 := Lib.hid (fun W => RElement_any a _ rfl W)
  have D2 := Lib.hid (fun W => RElement_any b _ rfl W)
  by_cases hab : elB a = true ∧ elB b = true
  · have E1 := Lib.hid (show addV a b = a * b % 2147483579 by unfold addV; rw [if_pos hab])
    have E2 := Lib.hid (show addE a b = 0 by unfold addE; rw [if_pos hab])
    have w1 := prod_wrap (elB_bd hab.1) (elB_bd hab.2)
    have w2 := prod_tmod (elB_bd hab.1).1 (elB_bd hab.2).1
    rw [hab.1] at D1
    rw [hab.2] at D2
    clear hab
    go_enter Tryd.func15, Tryd.ntmps15
    go_wp2_with (fail)
    refine (D1.out _).mono ?_
    rintro e w1 ⟨rfl, rfl⟩
    go_wp2_with (fail)
    refine (D2.out _).mono ?_
    rintro e w1 ⟨rfl, rfl⟩
    go_wp2
    go_ret2
    exact ⟨ret2 (by rw [E1.out]) E2.out.symm, rfl⟩
  · have E1 := Lib.hid (show addV a b = 0 by unfold addV; rw [if_neg hab])
    have E2 := Lib.hid (show addE a b = 1 by unfold addE; rw [if_neg hab])
    have hx : (elB a = true ∧ elB b = true) → False := hab
    clear hab
    generalize elB a = p at *
    generalize elB b = q at *
    cases p <;> cases q <;> first | exact (hx ⟨rfl, rfl⟩).elim | skip
    all_goals
      clear hx
      go_enter Tryd.func15, Tryd.ntmps15
      go_wp2_with (fail)
      refine (D1.out _).mono ?_
      rintro e w1 ⟨rfl, rfl⟩
      go_wp2_with (fail)
      refine (D2.out _).mono ?_
      rintro e w1 ⟨rfl, rfl⟩
      go_wp2
      go_ret2
      exact ⟨ret2 E1.out.symm E2.out.symm, rfl⟩

theorem ROpen_any (c v r : Int) (b : Bool) (h : opB c v r = b) (w : World) :
    Calls Tryd.prog 18 #[.int .i64 c, .int .i64 v, .int .i64 r] w fun en W' => en = .returned (.bool b) ∧ w = W' := by
  subst h
  unfold opB
  have C1 := Lib.hid (fun W => RCommit_any v r _ _ rfl rfl W)
  generalize comV v r = x at *
  generalize comE v r = y at *
  by_cases h0 : y = 0
  · subst h0
    go_enter Tryd.func18, Tryd.ntmps18
    go_wp2_with (fail)
    refine (C1.out _).mono ?_
    rintro e w1 ⟨rfl, rfl⟩
    go_wp2
    go_ret
    exact ⟨by simp, rfl⟩
  · have c0 : (y == 0) = false := by simpa using h0
    clear h0
    go_enter Tryd.func18, Tryd.ntmps18
    go_wp2_with (fail)
    refine (C1.out _).mono ?_
    rintro e w1 ⟨rfl, rfl⟩
    go_wp2
    go_ret
    exact ⟨retB (by rw [c0]; rfl), rfl⟩

end Go.Proofs.YtkpjmhomgifdbaaDoor

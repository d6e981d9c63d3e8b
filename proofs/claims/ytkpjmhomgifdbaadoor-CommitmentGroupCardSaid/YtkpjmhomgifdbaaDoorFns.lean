/- The contracts of the program's functions of this layer: Power, Commit, Add, Open. -/
import Derived.Test.YtkpjmhomgifdbaaDoorPower
import Derived.Deep.RegionHeld3
import Derived.WalkSpells
namespace Go.Proofs.YtkpjmhomgifdbaaDoor
open Go Go.RowKit

/-- the generators' table lies in block 0 -/
def Tab (W : World) : Prop := W.cell? ⟨0, 0, none⟩ = some (.int .i64 4) ∧ W.cell? ⟨0, 1, none⟩ = some (.int .i64 9) ∧ 0 < W.heap.size
/-- a world behind w0: the table lies, and what lay at w0 lies -/
def St (w0 W : World) : Prop := Tab W ∧ Below w0.heap.size w0 W
theorem Tab.below {W W' : World} (h : Tab W) (hb : Below W.heap.size W W') : Tab W' :=
  ⟨(hb.cell (p := ⟨0, 0, none⟩) h.2.2).trans h.1, (hb.cell (p := ⟨0, 1, none⟩) h.2.2).trans h.2.1, Nat.lt_of_lt_of_le h.2.2 hb.size⟩
theorem St.below {w0 W W' : World} (h : St w0 W) (hb : Below W.heap.size W W') : St w0 W' := ⟨h.1.below hb, h.2.trans (hb.mono h.2.size)⟩
theorem St.refl {w : World} (h : Tab w) : St w w := ⟨h, Below.refl _ _⟩

/-- Power's results -/
def powS (a e : Int) : Int := if 0 ≤ a ∧ a < 2147483579 ∧ 0 ≤ e then ((M.pw a.toNat e.toNat : Nat) : Int) else 0

set_option maxHeartbeats 1000000 in
theorem Power_out (a e : Int) (w : World) (h : ¬ (0 ≤ a ∧ a < 2147483579 ∧ 0 ≤ e)) :
    Calls Tryd.prog 16 #[.int .i64 a, .int .i64 e] w fun en W' => en = .returned (.int .i64 0) ∧ W' = w := by
  by_cases h1 : a < 0
  · have c1 : decide (a < 0) = true := by simpa using h1
    clear h
    go_enter Tryd.func16, Tryd.ntmps16
    go_wp2
    go_ret
    exact ⟨rfl, rfl⟩
  · have c1 : decide (a < 0) = false := by simpa using h1
    by_cases h2 : 2147483579 ≤ a
    · have c2 : decide (2147483579 ≤ a) = true := by simpa using h2
      clear h h1 h2
      go_enter Tryd.func16, Tryd.ntmps16
      go_wp2
      go_ret
      exact ⟨rfl, rfl⟩
    · have c2 : decide (2147483579 ≤ a) = false := by simpa using h2
      have c3 : decide (e < 0) = true := by simp; omega
      clear h h1 h2
      go_enter Tryd.func16, Tryd.ntmps16
      go_wp2
      go_ret
      exact ⟨rfl, rfl⟩

theorem Power_any (a e : Int) (w : World) (he : Hid (e < 9223372036854775808)) :
    Calls Tryd.prog 16 #[.int .i64 a, .int .i64 e] w fun en W' => en = .returned (.int .i64 (powS a e)) ∧ Below w.heap.size w W' := by
  by_cases h : 0 ≤ a ∧ a < 2147483579 ∧ 0 ≤ e
  · obtain ⟨h1, h2, h3⟩ := h
    obtain ⟨b, rfl⟩ := Int.eq_ofNat_of_zero_le h1
    obtain ⟨n, rfl⟩ := Int.eq_ofNat_of_zero_le h3
    have hb : Small b := by unfold Small M.P; omega
    have hn : Hid (n < 2 ^ 63) := Lib.hid (by have := he.out; omega)
    have := Power_in Fence.wide 3 trivial trivial trivial rfl (by omega) ⟨b, hb⟩ n hn w (by simp) (by simp; omega) (by simp)
    refine (callsIn_wide.1 this).mono ?_
    rintro en W' ⟨rfl, hB⟩
    exact ⟨by unfold powS; rw [if_pos ⟨h1, h2, h3⟩]; rfl, hB⟩
  · refine (Power_out a e w h).mono ?_
    rintro en W' ⟨rfl, rfl⟩
    exact ⟨by unfold powS; rw [if_neg h], Below.refl _ _⟩

/-- the same, over a world behind w0; the result by its value -/
theorem Power_eq (w0 : World) (a e r : Int) (h : powS a e = r) (w : World) (he : Hid (e < 9223372036854775808)) (hs : St w0 w) :
    Calls Tryd.prog 16 #[.int .i64 a, .int .i64 e] w fun en W' => en = .returned (.int .i64 r) ∧ St w0 W' :=
  (Power_any a e w he).mono fun _ _ ⟨h1, h2⟩ => ⟨by rw [h1, h], hs.below h2⟩

theorem isExp_yes (n : Int) (w : World) (h0 : decide (0 ≤ n) = true) (h1 : decide (n < 1073741789) = true) :
    Calls Tryd.prog 19 #[.int .i64 n] w fun en W' => en = .returned (.bool true) ∧ w = W' := by
  go_enter Tryd.func19, Tryd.ntmps19
  go_wp2
  go_ret
  exact ⟨rfl, rfl⟩
theorem isExp_no (n : Int) (w : World) (h : ¬ (0 ≤ n ∧ n < 1073741789)) :
    Calls Tryd.prog 19 #[.int .i64 n] w fun en W' => en = .returned (.bool false) ∧ w = W' := by
  by_cases h0 : 0 ≤ n
  · have c0 : decide (0 ≤ n) = true := by simpa using h0
    have c1 : decide (n < 1073741789) = false := by simp; omega
    clear h h0
    go_enter Tryd.func19, Tryd.ntmps19
    go_wp2
    go_ret
    exact ⟨rfl, rfl⟩
  · have c0 : decide (0 ≤ n) = false := by simpa using h0
    clear h h0
    go_enter Tryd.func19, Tryd.ntmps19
    go_wp2
    go_ret
    exact ⟨rfl, rfl⟩

theorem pow4_wrap (v r : Nat) : wrap64 (((M.pw 4 v : Nat) : Int) * ((M.pw 9 r : Nat) : Int)) = ((M.pw 4 v : Nat) : Int) * ((M.pw 9 r : Nat) : Int) := by
  have h0 := M.pw_lt 4 v
  have h1 := M.pw_lt 9 r
  generalize M.pw 4 v = x at *
  generalize M.pw 9 r = y at *
  unfold M.P at h0 h1
  have h2 : x * y ≤ 2147483579 * 2147483579 := Nat.mul_le_mul (by omega) (by omega)
  rw [show ((x : Int) * (y : Int)) = ((x * y : Nat) : Int) by simp]; unfold wrap64; omega

theorem keep_start {w : World} (h0 : w.cell? ⟨0, 0, none⟩ = some (.int .i64 4)) (h1 : w.cell? ⟨0, 1, none⟩ = some (.int .i64 9)) (hz : 0 < w.heap.size) :
    w.drew.cell? ⟨0, 0, none⟩ = some (.int .i64 4) ∧ w.drew.cell? ⟨0, 1, none⟩ = some (.int .i64 9) ∧ 0 < w.drew.heap.size ∧ Below w.heap.size w w.drew :=
  ⟨h0, h1, hz, (Below.refl _ _).drew⟩
theorem keep_call {w W W1 : World} (hS : W.cell? ⟨0, 0, none⟩ = some (.int .i64 4) ∧ W.cell? ⟨0, 1, none⟩ = some (.int .i64 9) ∧ 0 < W.heap.size ∧ Below w.heap.size w W) (hb : Below W.heap.size W W1) :
    W1.cell? ⟨0, 0, none⟩ = some (.int .i64 4) ∧ W1.cell? ⟨0, 1, none⟩ = some (.int .i64 9) ∧ 0 < W1.heap.size ∧ Below w.heap.size w W1 :=
  ⟨(hb.cell (p := ⟨0, 0, none⟩) hS.2.2.1).trans hS.1, (hb.cell (p := ⟨0, 1, none⟩) hS.2.2.1).trans hS.2.1, Nat.lt_of_lt_of_le hS.2.2.1 hb.size, hS.2.2.2.trans (hb.mono hS.2.2.2.size)⟩

theorem ret2 {a b c d : Int} (h : a = c) (h' : b = d) : Ending.returned (.tuple #[.int .i64 a, .int .i64 b]) = Ending.returned (.tuple #[.int .i64 c, .int .i64 d]) := by rw [h, h']
theorem retB {a b : Bool} (h : a = b) : Ending.returned (.bool a) = Ending.returned (.bool b) := by rw [h]
theorem com_val (x y : Nat) (h : wrap64 ((x : Int) * (y : Int)) = (x : Int) * (y : Int)) : Int.tmod (IntKind.i64.wrap ((x : Int) * (y : Int))) 2147483579 = ((x * y % 2147483579 : Nat) : Int) := by
  rw [show IntKind.i64.wrap ((x : Int) * (y : Int)) = wrap64 ((x : Int) * (y : Int)) by rw [IntKind.wrap_i64]; unfold wrap64; omega, h]
  rw [show ((x : Int) * (y : Int)) = ((x * y : Nat) : Int) by simp, Int.tmod_eq_emod_of_nonneg (by omega)]
  exact (Int.natCast_emod _ _).symm
set_option maxRecDepth 100000 in
set_option maxHeartbeats 2000000 in
theorem Commit_in (v r : Nat) (hv : v < 1073741789) (hr : r < 1073741789) (w : World) (ht : Tab w) :
    Calls Tryd.prog 12 #[.int .i64 (v : Int), .int .i64 (r : Int)] w fun en W' => en = .returned (.tuple #[.int .i64 ((M.com v r : Nat) : Int), .int .i64 0]) ∧ Below w.heap.size w W' := by
  have hm := pow4_wrap v r
  have p1 := fun W => Power_any 4 (v : Int) W (Lib.hid (by omega))
  have p2 := fun W => Power_any 9 (r : Int) W (Lib.hid (by omega))
  have e1 : powS 4 (v : Int) = ((M.pw 4 v : Nat) : Int) := by unfold powS; rw [if_pos (by omega)]; rfl
  have e2 : powS 9 (r : Int) = ((M.pw 9 r : Nat) : Int) := by unfold powS; rw [if_pos (by omega)]; rfl
  rw [e1] at p1; rw [e2] at p2
  have ec : M.com v r = M.pw 4 v * M.pw 9 r % 2147483579 := rfl
  clear e1 e2
  rw [ec]; clear ec
  generalize M.pw 4 v = x at *
  generalize M.pw 9 r = y at *
  have P1 := Lib.hid p1; clear p1
  have P2 := Lib.hid p2; clear p2
  have d1 := fun W => isExp_yes (v : Int) W (by simp) (by simp; omega)
  have d2 := fun W => isExp_yes (r : Int) W (by simp) (by simp; omega)
  have D1 := Lib.hid d1; clear d1
  have D2 := Lib.hid d2; clear d2
  clear hv hr
  obtain ⟨h0, h1, hz⟩ := ht
  go_enter Tryd.func12, Tryd.ntmps12
  go_wp2_with (fail)
  refine (D1.out _).mono ?_
  rintro e w1 ⟨rfl, rfl⟩
  go_wp2_with (fail)
  refine (D2.out _).mono ?_
  rintro e w1 ⟨rfl, rfl⟩
  go_wp2_with (fail)
  have hB0 : Below w.heap.size w w := Below.refl _ _
  go_region_held3 (fun w' => w'.cell? ⟨0, 0, none⟩ = some (.int .i64 4) ∧ w'.cell? ⟨0, 1, none⟩ = some (.int .i64 9) ∧ 0 < w'.heap.size ∧ Below w.heap.size w w')
    (first
      | exact keep_start h0 h1 hz
      | exact keep_call (by assumption) hb1
      | exact keep_call (by assumption) hb2
      | (trace_state; fail))
    (first
      | (go_at_call_of 16 (Value.int .i64 4); refine (P1.out _).mono ?_; rintro e w1 ⟨rfl, hb1⟩)
      | (go_at_call_of 16 (Value.int .i64 9); refine (P2.out _).mono ?_; rintro e w2 ⟨rfl, hb2⟩))
  go_wp2
  go_ret2
  obtain ⟨_, _, _, hB⟩ := ‹w2.cell? ⟨0, 0, none⟩ = some (.int .i64 4) ∧ w2.cell? ⟨0, 1, none⟩ = some (.int .i64 9) ∧ 0 < w2.heap.size ∧ Below w.heap.size w w2›
  exact ⟨ret2 (com_val x y hm) rfl, hB⟩

/-- Commit's results -/
def comV (v r : Int) : Int := if (0 ≤ v ∧ v < 1073741789) ∧ 0 ≤ r ∧ r < 1073741789 then ((M.com v.toNat r.toNat : Nat) : Int) else 0
def comE (v r : Int) : Int := if (0 ≤ v ∧ v < 1073741789) ∧ 0 ≤ r ∧ r < 1073741789 then 0 else 1

set_option maxHeartbeats 1000000 in
theorem Commit_out (v r : Int) (h : ¬ ((0 ≤ v ∧ v < 1073741789) ∧ 0 ≤ r ∧ r < 1073741789)) (w : World) :
    Calls Tryd.prog 12 #[.int .i64 v, .int .i64 r] w fun en W' => en = .returned (.tuple #[.int .i64 0, .int .i64 1]) ∧ w = W' := by
  by_cases hv : 0 ≤ v ∧ v < 1073741789
  · have D1 := Lib.hid (fun W => isExp_yes v W (by simp; omega) (by simp; omega))
    have D2 := Lib.hid (fun W => isExp_no r W (fun hr => h ⟨hv, hr⟩))
    clear h hv
    go_enter Tryd.func12, Tryd.ntmps12
    go_wp2_with (fail)
    refine (D1.out _).mono ?_
    rintro e w1 ⟨rfl, rfl⟩
    go_wp2_with (fail)
    refine (D2.out _).mono ?_
    rintro e w1 ⟨rfl, rfl⟩
    go_wp2
    go_ret2
    exact ⟨rfl, rfl⟩
  · have D1 := Lib.hid (fun W => isExp_no v W hv)
    clear h hv
    go_enter Tryd.func12, Tryd.ntmps12
    go_wp2_with (fail)
    refine (D1.out _).mono ?_
    rintro e w1 ⟨rfl, rfl⟩
    go_wp2
    go_ret2
    exact ⟨rfl, rfl⟩

/-- Commit, for every argument, over a world behind w0; the results by their values. -/
theorem Commit_eq (w0 : World) (v r c e : Int) (hc : comV v r = c) (he : comE v r = e) (w : World) (hs : St w0 w) :
    Calls Tryd.prog 12 #[.int .i64 v, .int .i64 r] w fun en W' => en = .returned (.tuple #[.int .i64 c, .int .i64 e]) ∧ St w0 W' := by
  subst hc he
  by_cases h : (0 ≤ v ∧ v < 1073741789) ∧ 0 ≤ r ∧ r < 1073741789
  · obtain ⟨a, rfl⟩ := Int.eq_ofNat_of_zero_le h.1.1
    obtain ⟨b, rfl⟩ := Int.eq_ofNat_of_zero_le h.2.1
    refine (Commit_in a b (by omega) (by omega) w hs.1).mono ?_
    rintro en W' ⟨rfl, hB⟩
    exact ⟨by unfold comV comE; rw [if_pos h, if_pos h]; rfl, hs.below hB⟩
  · refine (Commit_out v r h w).mono ?_
    rintro en W' ⟨rfl, rfl⟩
    exact ⟨by unfold comV comE; rw [if_neg h, if_neg h], hs⟩

/-- isElement's result -/
def elB (x : Int) : Bool := decide (0 < x) && powS x 1073741789 == 1
theorem isElement_eq (w0 : World) (x : Int) (b : Bool) (h : elB x = b) (w : World) (hs : St w0 w) :
    Calls Tryd.prog 20 #[.int .i64 x] w fun en W' => en = .returned (.bool b) ∧ St w0 W' := by
  subst h
  unfold elB
  have P1 := Lib.hid (fun W (hs : St w0 W) => Power_eq w0 x 1073741789 (powS x 1073741789) rfl W (Lib.hid (by decide)) hs)
  generalize powS x 1073741789 = y at *
  by_cases h0 : 0 < x
  · have c0 : decide (0 < x) = true := by simpa using h0
    clear h0
    go_enter Tryd.func20, Tryd.ntmps20
    go_wp2_with (fail)
    refine (P1.out _ hs).mono ?_
    rintro e w1 ⟨rfl, hs1⟩
    go_wp2
    go_ret
    exact ⟨retB (by rw [c0]; rfl), hs1⟩
  · have c0 : decide (0 < x) = false := by simpa using h0
    clear h0
    go_enter Tryd.func20, Tryd.ntmps20
    go_wp2
    go_ret
    exact ⟨retB (by rw [c0]; rfl), hs⟩

/-- Add's results -/
def addV (a b : Int) : Int := if elB a = true ∧ elB b = true then a * b % 2147483579 else 0
def addE (a b : Int) : Int := if elB a = true ∧ elB b = true then 0 else 1
theorem elB_bd {a : Int} (h : elB a = true) : 0 < a ∧ a < 2147483579 := by
  unfold elB at h
  simp only [Bool.and_eq_true, decide_eq_true_eq, beq_iff_eq] at h
  refine ⟨h.1, ?_⟩
  have h2 := h.2
  unfold powS at h2
  split at h2
  · omega
  · omega
theorem prod_wrap {a b : Int} (ha : 0 < a ∧ a < 2147483579) (hb : 0 < b ∧ b < 2147483579) : wrap64 (a * b) = a * b := by
  obtain ⟨x, rfl⟩ := Int.eq_ofNat_of_zero_le (Int.le_of_lt ha.1)
  obtain ⟨y, rfl⟩ := Int.eq_ofNat_of_zero_le (Int.le_of_lt hb.1)
  have h2 : x * y ≤ 2147483579 * 2147483579 := Nat.mul_le_mul (by omega) (by omega)
  rw [show ((x : Int) * (y : Int)) = ((x * y : Nat) : Int) by simp]; unfold wrap64; omega
theorem prod_tmod {a b : Int} (ha : 0 < a) (hb : 0 < b) : Int.tmod (a * b) 2147483579 = a * b % 2147483579 :=
  Int.tmod_eq_emod_of_nonneg (Int.mul_nonneg (Int.le_of_lt ha) (Int.le_of_lt hb))

theorem Add_eq (w0 : World) (a b c e : Int) (hc : addV a b = c) (he : addE a b = e) (w : World) (hs : St w0 w) :
    Calls Tryd.prog 14 #[.int .i64 a, .int .i64 b] w fun en W' => en = .returned (.tuple #[.int .i64 c, .int .i64 e]) ∧ St w0 W' := by
  subst hc he
  cases ha : elB a with
  | false =>
    have D1 := Lib.hid (fun W (hs : St w0 W) => isElement_eq w0 a false ha W hs)
    have E1 := Lib.hid (show addV a b = 0 by unfold addV; rw [if_neg (by simp [ha])])
    have E2 := Lib.hid (show addE a b = 1 by unfold addE; rw [if_neg (by simp [ha])])
    clear ha
    go_enter Tryd.func14, Tryd.ntmps14
    go_wp2_with (fail)
    refine (D1.out _ hs).mono ?_
    rintro e w1 ⟨rfl, hs1⟩
    go_wp2
    go_ret2
    exact ⟨ret2 E1.out.symm E2.out.symm, hs1⟩
  | true =>
    have D1 := Lib.hid (fun W (hs : St w0 W) => isElement_eq w0 a true ha W hs)
    cases hb : elB b with
    | false =>
      have D2 := Lib.hid (fun W (hs : St w0 W) => isElement_eq w0 b false hb W hs)
      have E1 := Lib.hid (show addV a b = 0 by unfold addV; rw [if_neg (by simp [hb])])
      have E2 := Lib.hid (show addE a b = 1 by unfold addE; rw [if_neg (by simp [hb])])
      clear ha hb
      go_enter Tryd.func14, Tryd.ntmps14
      go_wp2_with (fail)
      refine (D1.out _ hs).mono ?_
      rintro e w1 ⟨rfl, hs1⟩
      go_wp2_with (fail)
      refine (D2.out _ hs1).mono ?_
      rintro e w1 ⟨rfl, hs2⟩
      go_wp2
      go_ret2
      exact ⟨ret2 E1.out.symm E2.out.symm, hs2⟩
    | true =>
      have D2 := Lib.hid (fun W (hs : St w0 W) => isElement_eq w0 b true hb W hs)
      have E1 := Lib.hid (show addV a b = a * b % 2147483579 by unfold addV; rw [if_pos ⟨ha, hb⟩])
      have E2 := Lib.hid (show addE a b = 0 by unfold addE; rw [if_pos ⟨ha, hb⟩])
      have w1 := prod_wrap (elB_bd ha) (elB_bd hb)
      have w2 := prod_tmod (elB_bd ha).1 (elB_bd hb).1
      clear ha hb
      go_enter Tryd.func14, Tryd.ntmps14
      go_wp2_with (fail)
      refine (D1.out _ hs).mono ?_
      rintro e w1 ⟨rfl, hs1⟩
      go_wp2_with (fail)
      refine (D2.out _ hs1).mono ?_
      rintro e w1 ⟨rfl, hs2⟩
      go_wp2
      go_ret2
      exact ⟨ret2 (by rw [E1.out]) E2.out.symm, hs2⟩

/-- Open's result -/
def opB (c v r : Int) : Bool := comE v r == 0 && comV v r == c
theorem Open_eq (w0 : World) (c v r : Int) (b : Bool) (h : opB c v r = b) (w : World) (hs : St w0 w) :
    Calls Tryd.prog 17 #[.int .i64 c, .int .i64 v, .int .i64 r] w fun en W' => en = .returned (.bool b) ∧ St w0 W' := by
  subst h
  unfold opB
  have C1 := Lib.hid (fun W (hs : St w0 W) => Commit_eq w0 v r _ _ rfl rfl W hs)
  generalize comV v r = x at *
  generalize comE v r = y at *
  by_cases h0 : y = 0
  · subst h0
    go_enter Tryd.func17, Tryd.ntmps17
    go_wp2_with (fail)
    refine (C1.out _ hs).mono ?_
    rintro e w1 ⟨rfl, hs1⟩
    go_wp2
    go_ret
    exact ⟨by simp, hs1⟩
  · have c0 : (y == 0) = false := by simpa using h0
    clear h0
    go_enter Tryd.func17, Tryd.ntmps17
    go_wp2_with (fail)
    refine (C1.out _ hs).mono ?_
    rintro e w1 ⟨rfl, hs1⟩
    go_wp2
    go_ret
    exact ⟨retB (by rw [c0]; rfl), hs1⟩

/-- pick -/
def pk (c n : Int) : Int := (if c < 0 then -(c + 1) else c) % n
theorem pk_bd (c : Int) {n : Int} (hn : 0 < n) : 0 ≤ pk c n ∧ pk c n < n := by
  unfold pk; exact ⟨Int.emod_nonneg _ (by omega), Int.emod_lt_of_pos _ hn⟩
theorem pick_neg (c : Int) (hc : Hid (-9223372036854775808 ≤ c)) (h0 : c < 0) : wrap64 (-wrap64 (c + 1)) = -(c + 1) := by
  have := hc.out; unfold wrap64; omega
theorem pick_eq (c n : Int) (hc : Hid (-9223372036854775808 ≤ c)) (hn : 0 < n) (w : World) :
    Calls Tryd.prog 10 #[.int .i64 c, .int .i64 n] w fun en W' => en = .returned (.int .i64 (pk c n)) ∧ w = W' := by
  have hne : (n == 0) = false := by simp; omega
  have hne' : (n != 0) = true := by simp; omega
  by_cases h0 : c < 0
  · have hp := Lib.hid (show pk c n = Int.tmod (wrap64 (-wrap64 (c + 1))) n by
      rw [pick_neg c hc h0]; unfold pk; rw [if_pos h0]; exact (Int.tmod_eq_emod_of_nonneg (by omega)).symm)
    have c0 : decide (c < 0) = true := by simpa using h0
    rw [hp.out]
    clear h0 hc hp
    go_enter Tryd.func10, Tryd.ntmps10
    go_wp2
    go_ret
    exact ⟨by simp, rfl⟩
  · have hp := Lib.hid (show pk c n = Int.tmod c n by
      unfold pk; rw [if_neg h0]; exact (Int.tmod_eq_emod_of_nonneg (by omega)).symm)
    have c0 : decide (c < 0) = false := by simpa using h0
    rw [hp.out]
    clear h0 hc hp
    go_enter Tryd.func10, Tryd.ntmps10
    go_wp2
    go_ret
    exact ⟨by simp, rfl⟩

end Go.Proofs.YtkpjmhomgifdbaaDoor

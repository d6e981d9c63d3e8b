-- Printed by a program (the kit's print, with functions given by hand) out of the translation: machine-written for this claim.
import Derived.Test.YticmjkjojhcdpaaDoorPAllx0
import Derived.Test.YticmjkjojhcdpaaDoorPAllx3
namespace Go.Proofs.YticmjkjojhcdpaaDoor.PAll
open Go.RowKit Go.Proofs.YticmjkjojhcdpaaDoorW.PrintWords Go.Proofs.YticmjkjojhcdpaaDoorW.PrintLast Go.Proofs.YticmjkjojhcdpaaDoorW.PrintMore
attribute [local go_sem] max2_int min2_int max_two min_two max_three min_three max_four min_four   -- for this text's walks alone
set_option linter.unusedVariables false
set_option linter.unusedSimpArgs false

/-! ### lexer_numeric: function 38 -/
mutual
def lexer_numeric.j0 : Nat → ByteArray → Int → Int → Bool → Option (Int × Int)
  | 0, _, _, _, _ => none
  | k + 1, x0, x4, x5, x6 => (lexer_isDate.f k x0).bind fun t110 => (if t110 = true then (if 10 < (x0.size : Int) then ((lexer_class.f k (bt x0 10)).bind fun t111 => (if (Go.bits .and .i64 t111 15) = 0 then (if (bt x0 10) = 46 then (some (0, 0)) else (some (5, 10))) else (some (0, 0)))) else (some (5, 10))) else (if x5 < (x0.size : Int) then (if 0 ≤ x5 then (lexer_numeric.j1 k x0 x4 x5 x6 ((bt x0 x5) == 46)) else (none)) else (lexer_numeric.j1 k x0 x4 x5 x6 false)))
def lexer_numeric.j1 : Nat → ByteArray → Int → Int → Bool → Bool → Option (Int × Int)
  | 0, _, _, _, _, _ => none
  | k + 1, x0, x4, x5, x6, x23 => if x23 = true then (if x6 = true then (if x5 ≤ 10 then (if 0 ≤ (wrap64 (x5 + 1)) then (if (wrap64 (x5 + 1)) ≤ (x0.size : Int) then ((lexer_span.f k (x0.extract ((wrap64 (x5 + 1)) : Int).toNat x0.size) 4).bind fun t112 => (if t112 = 2 then (if (wrap64 (x5 + 3)) < (x0.size : Int) then (if 0 ≤ (wrap64 (x5 + 3)) then ((lexer_class.f k (bt x0 (wrap64 (x5 + 3)))).bind fun t113 => (if (Go.bits .and .i64 t113 15) = 0 then (if (bt x0 (wrap64 (x5 + 3))) = 46 then (some (0, 0)) else (some (4, wrap64 (x5 + 3)))) else (some (0, 0)))) else (none)) else (some (4, wrap64 (x5 + 3)))) else (some (0, 0)))) else (none)) else (none)) else (some (0, 0))) else (some (0, 0))) else (if x6 = true then (if x5 < (x0.size : Int) then (if 0 ≤ x5 then ((lexer_class.f k (bt x0 x5)).bind fun t114 => (if (Go.bits .and .i64 t114 15) = 0 then (if (bt x0 x5) = 46 then (some (0, 0)) else (some (x4, x5))) else (some (0, 0)))) else (none)) else (some (x4, x5))) else (some (0, 0)))
end
def lexer_numeric.f (k : Nat) (a0 : ByteArray) : Option (Int × Int) := (lexer_span.f k a0 4).bind fun t109 => (if t109 ≤ 12 then (if t109 = 1 then (lexer_numeric.j0 k a0 3 t109 true) else (if 0 < (a0.size : Int) then (lexer_numeric.j0 k a0 3 t109 ((bt a0 0) != 48)) else (none))) else (lexer_numeric.j0 k a0 3 t109 false))
theorem lexer_numeric.mono_l : ∀ k, (∀ y0 y1 y2 y3, LeO (lexer_numeric.j0 k y0 y1 y2 y3) (lexer_numeric.j0 (k + 1) y0 y1 y2 y3)) ∧ (∀ y0 y1 y2 y3 y4, LeO (lexer_numeric.j1 k y0 y1 y2 y3 y4) (lexer_numeric.j1 (k + 1) y0 y1 y2 y3 y4))
  | 0 => ⟨fun _ _ _ _ r h => by simp [lexer_numeric.j0] at h, fun _ _ _ _ _ r h => by simp [lexer_numeric.j1] at h⟩
  | k + 1 => by
    obtain ⟨ih0, ih1⟩ := lexer_numeric.mono_l k
    refine ⟨?_, ?_⟩
    · intro y0 y1 y2 y3
      unfold lexer_numeric.j0
      repeat' first
      | (with_reducible exact ih0 _ _ _ _)
      | (with_reducible exact ih1 _ _ _ _ _)
      | (with_reducible exact lexer_class.mono _ _)
      | (with_reducible exact lexer_isDate.mono _ _)
      | (with_reducible exact lexer_span.mono _ _ _)
      | (with_reducible exact LeO.refl _)
      | (with_reducible exact LeO.none _)
      | (with_reducible refine LeO.ite ?_ ?_)
      | (with_reducible refine LeO.bind ?_ (fun _ => ?_))
      | exact ih0 _ _ _ _
      | exact ih1 _ _ _ _ _
      | exact lexer_class.mono _ _
      | exact lexer_isDate.mono _ _
      | exact lexer_span.mono _ _ _
      | exact LeO.none _
      | refine LeO.ite ?_ ?_
      | refine LeO.bind ?_ (fun _ => ?_)
    · intro y0 y1 y2 y3 y4
      unfold lexer_numeric.j1
      repeat' first
      | (with_reducible exact ih0 _ _ _ _)
      | (with_reducible exact ih1 _ _ _ _ _)
      | (with_reducible exact lexer_class.mono _ _)
      | (with_reducible exact lexer_isDate.mono _ _)
      | (with_reducible exact lexer_span.mono _ _ _)
      | (with_reducible exact LeO.refl _)
      | (with_reducible exact LeO.none _)
      | (with_reducible refine LeO.ite ?_ ?_)
      | (with_reducible refine LeO.bind ?_ (fun _ => ?_))
      | exact ih0 _ _ _ _
      | exact ih1 _ _ _ _ _
      | exact lexer_class.mono _ _
      | exact lexer_isDate.mono _ _
      | exact lexer_span.mono _ _ _
      | exact LeO.none _
      | refine LeO.ite ?_ ?_
      | refine LeO.bind ?_ (fun _ => ?_)
theorem lexer_numeric.mono : ∀ a0 k, LeO (lexer_numeric.f k a0) (lexer_numeric.f (k + 1) a0) := by
  intro a0 k
  obtain ⟨ih0, ih1⟩ := lexer_numeric.mono_l k
  unfold lexer_numeric.f
  repeat' first
      | (with_reducible exact ih0 _ _ _ _)
      | (with_reducible exact ih1 _ _ _ _ _)
      | (with_reducible exact lexer_class.mono _ _)
      | (with_reducible exact lexer_isDate.mono _ _)
      | (with_reducible exact lexer_span.mono _ _ _)
      | (with_reducible exact LeO.refl _)
      | (with_reducible exact LeO.none _)
      | (with_reducible refine LeO.ite ?_ ?_)
      | (with_reducible refine LeO.bind ?_ (fun _ => ?_))
      | exact ih0 _ _ _ _
      | exact ih1 _ _ _ _ _
      | exact lexer_class.mono _ _
      | exact lexer_isDate.mono _ _
      | exact lexer_span.mono _ _ _
      | exact LeO.none _
      | refine LeO.ite ?_ ?_
      | refine LeO.bind ?_ (fun _ => ?_)
set_option maxHeartbeats 8000000 in
set_option maxRecDepth 100000 in
theorem lexer_numeric.calls (k : Nat) (a0 : ByteArray) (r1 : Int) (r2 : Int) (w : World) (h : lexer_numeric.f k a0 = some (r1, r2)) :
    Calls Tryd.prog 38 #[.string a0] w fun e w' => e = .returned (.tuple #[.int .i64 r1, .int .i64 r2]) ∧ Drawn0 w w' := by
  have H : ((lexer_span.f k a0 4).bind fun t109 => (if t109 ≤ 12 then (if t109 = 1 then (lexer_numeric.j0 k a0 3 t109 true) else (if 0 < (a0.size : Int) then (lexer_numeric.j0 k a0 3 t109 ((bt a0 0) != 48)) else (none))) else (lexer_numeric.j0 k a0 3 t109 false))) = some (r1, r2) := h
  clear h
  replace H := Option.bind_eq_some_iff.mp H
  obtain ⟨t109, A20, H⟩ := H
  replace H : (if t109 ≤ 12 then (if t109 = 1 then (lexer_numeric.j0 k a0 3 t109 true) else (if 0 < (a0.size : Int) then (lexer_numeric.j0 k a0 3 t109 ((bt a0 0) != 48)) else (none))) else (lexer_numeric.j0 k a0 3 t109 false)) = some (r1, r2) := H
  have A2 := Aside0.mk A20
  clear A20
  have HC3 := Aside0.mk H
  clear H
  go_enter Tryd.func38, Tryd.ntmps38
  go_upto_region 2 with (first | ((with_reducible refine gate_callee (f := 34) rfl ?_); refine goesL_ (some 8) rfl rfl Tryd.func34 (by kernel_rfl) rfl #[.string a0, .int .i64 4] rfl (by (try simp only [List.map_toArray, List.map_cons, List.map_nil]); first | done | rfl | (simp only [List.length_drop, List.length_take]; rfl)) ?_; (with_reducible refine (lexer_span.calls k a0 4 t109 _ A2.out).mono ?_); rintro e w' ⟨rfl, ⟨nd, rfl⟩⟩; refine ⟨_, rfl, ?_⟩))
  (try simp only [Act.put, List.setIfInBounds_toArray, List.set_cons_zero, List.set_cons_succ])
  go_cut [6] (fun v6 wc => ∃ (kq : Nat) (x6_2 : Bool), v6 = .bool x6_2 ∧ Aside0 (lexer_numeric.j0 kq a0 3 t109 x6_2 = some (r1, r2)) ∧ Aside0 (kq ≤ k) ∧ Drawn0 w wc)
  case first =>
    have H := HC3.out
    clear HC3
    by_cases c4 : t109 ≤ 12
    · rw [if_pos c4] at H
      have c4b0 : decide (t109 ≤ 12) = true := decide_eq_true c4
      clear c4
      (first | rw [c4b0] | (simp only [i64_w, i32_w]; rw [c4b0]) | skip)
      by_cases c5 : t109 = 1
      · rw [if_pos c5] at H
        have c5b0 : (t109 == 1) = true := beq_iff_eq.mpr c5
        have c5b1 : (t109 != 1) = false := bne_eq_false_iff_eq.mpr c5
        clear c5
        have H' := Aside0.mk H
        clear H
        go_wp2
        go_meet
        case rel => exact ⟨_, (true), (by first | rfl | (simp; done) | (simp [*]; done)), H', ⟨by first | omega | exact Nat.le_refl _⟩, by repeat (first | exact Drawn0.refl _ | apply Drawn0.step)⟩
      · rw [if_neg c5] at H
        have c5b0 : (t109 == 1) = false := beq_eq_false_iff_ne.mpr c5
        have c5b1 : (t109 != 1) = true := bne_iff_ne.mpr c5
        by_cases c6 : 0 < (a0.size : Int)
        · rw [if_pos c6] at H
          have c6b0 : decide (0 < (a0.size : Int)) = true := decide_eq_true c6
          have c6b1 : decide (0 < a0.size) = true := decide_eq_true (by omega)
          clear c6
          have H' := Aside0.mk H
          clear H
          have p7 : 0 ≤ (0 : Int) := (by omega)
          have q7 : 0 < a0.size := (by have : (0 : Int) < (a0.size : Int) := of_decide_eq_true (by first | (with_reducible assumption) | assumption); omega)
          have hx7 : ∀ h : 0 < a0.size, ((a0[0]'h).toNat : Int) = bt a0 0 := bt_at a0 0
          clear p7
          have qi7 : (0 < (a0.size : Int)) = True := eq_true (of_decide_eq_true (by first | (with_reducible assumption) | assumption))
          replace q7 := eq_true q7
          go_wp2
          go_meet
          case rel => exact ⟨_, (((bt a0 0) != 48)), (by first | rfl | (simp; done) | (simp [*]; done)), H', ⟨by first | omega | exact Nat.le_refl _⟩, by repeat (first | exact Drawn0.refl _ | apply Drawn0.step)⟩
        · rw [if_neg c6] at H
          exact absurd H (by simp)
    · rw [if_neg c4] at H
      have c4b0 : decide (t109 ≤ 12) = false := decide_eq_false c4
      clear c4
      (first | rw [c4b0] | (simp only [i64_w, i32_w]; rw [c4b0]) | skip)
      have H' := Aside0.mk H
      clear H
      go_wp2
      go_meet
      case rel => exact ⟨_, (false), (by first | rfl | (simp; done) | (simp [*]; done)), H', ⟨by first | omega | exact Nat.le_refl _⟩, by repeat (first | exact Drawn0.refl _ | apply Drawn0.step)⟩
  case rest =>
    clear HC3
    try clear p2
    try clear c3
    try clear c4
    try clear c4b0
    try clear c5
    try clear c5b0
    try clear c5b1
    try clear c6
    try clear c6b0
    try clear c6b1
    try clear p7
    try clear q7
    try clear hx7
    try clear qi7
    try clear p7
    try clear q7
    obtain ⟨kq, x6_2, rfl, HA, HJ2, ⟨mc2, rfl⟩⟩ := hcut
    cases kq with
    | zero => exact absurd HA.out (by simp [lexer_numeric.j0])
    | succ kj2 =>
      have H := HA.out
      clear HA
      simp only [lexer_numeric.j0] at H
      replace H := Option.bind_eq_some_iff.mp H
      obtain ⟨t110, A80, H⟩ := H
      replace H : (if t110 = true then (if 10 < (a0.size : Int) then ((lexer_class.f kj2 (bt a0 10)).bind fun t111 => (if (Go.bits .and .i64 t111 15) = 0 then (if (bt a0 10) = 46 then (some (0, 0)) else (some (5, 10))) else (some (0, 0)))) else (some (5, 10))) else (if t109 < (a0.size : Int) then (if 0 ≤ t109 then (lexer_numeric.j1 kj2 a0 3 t109 x6_2 ((bt a0 t109) == 46)) else (none)) else (lexer_numeric.j1 kj2 a0 3 t109 x6_2 false))) = some (r1, r2) := H
      have A8 := Aside0.mk A80
      clear A80
      by_cases c9 : t110 = true
      · subst c9
        have H1 : (if 10 < (a0.size : Int) then ((lexer_class.f kj2 (bt a0 10)).bind fun t111 => (if (Go.bits .and .i64 t111 15) = 0 then (if (bt a0 10) = 46 then (some (0, 0)) else (some (5, 10))) else (some (0, 0)))) else (some (5, 10))) = some (r1, r2) := by rw [if_pos rfl] at H; exact H
        clear H
        have H := H1
        clear H1
        by_cases c10 : 10 < (a0.size : Int)
        · rw [if_pos c10] at H
          have c10b0 : decide (10 < (a0.size : Int)) = true := decide_eq_true c10
          have c10b1 : decide (10 < a0.size) = true := decide_eq_true (by omega)
          clear c10
          replace H := Option.bind_eq_some_iff.mp H
          obtain ⟨t111, A120, H⟩ := H
          replace H : (if (Go.bits .and .i64 t111 15) = 0 then (if (bt a0 10) = 46 then (some (0, 0)) else (some (5, 10))) else (some (0, 0))) = some (r1, r2) := H
          have A12 := Aside0.mk A120
          clear A120
          by_cases c13 : (Go.bits .and .i64 t111 15) = 0
          · rw [if_pos c13] at H
            have c13b0 : ((Go.bits .and .i64 t111 15) == 0) = true := beq_iff_eq.mpr c13
            have c13b1 : ((Go.bits .and .i64 t111 15) != 0) = false := bne_eq_false_iff_eq.mpr c13
            clear c13
            by_cases c15 : (bt a0 10) = 46
            · rw [if_pos c15] at H
              have c15b0 : ((bt a0 10) == 46) = true := beq_iff_eq.mpr c15
              have c15b1 : ((bt a0 10) != 46) = false := bne_eq_false_iff_eq.mpr c15
              clear c15
              simp only [Option.some.injEq, Prod.mk.injEq] at H
              obtain ⟨rfl, rfl⟩ := H
              go_wp2_with (first | ((with_reducible refine gate_callee (f := 45) rfl ?_); refine goesL_ (some 22) rfl rfl Tryd.func45 (by kernel_rfl) rfl #[.string a0] rfl (by (try simp only [List.map_toArray, List.map_cons, List.map_nil]); first | done | rfl | (simp only [List.length_drop, List.length_take]; rfl)) ?_; (with_reducible refine (lexer_isDate.calls kj2 a0 true _ A8.out).mono ?_); rintro e w' ⟨rfl, ⟨nd, rfl⟩⟩; refine ⟨_, rfl, ?_⟩; have p11 : 0 ≤ (10 : Int) := (by omega); have q11 : 10 < a0.size := (by have : (10 : Int) < (a0.size : Int) := of_decide_eq_true (by first | (with_reducible assumption) | assumption); omega); have hx11 : ∀ h : 10 < a0.size, ((a0[10]'h).toNat : Int) = bt a0 10 := bt_at a0 10; clear p11; have qi11 : (10 < (a0.size : Int)) = True := eq_true (of_decide_eq_true (by first | (with_reducible assumption) | assumption)); replace q11 := eq_true q11) | (go_at_call 37; (with_reducible refine (lexer_class.calls kj2 (bt a0 10) t111 _ A12.out).mono ?_); rintro e w' ⟨rfl, ⟨nd, rfl⟩⟩; have p14 : 0 ≤ (10 : Int) := (by omega); have q14 : 10 < a0.size := (by have : (10 : Int) < (a0.size : Int) := of_decide_eq_true (by first | (with_reducible assumption) | assumption); omega); have hx14 : ∀ h : 10 < a0.size, ((a0[10]'h).toNat : Int) = bt a0 10 := bt_at a0 10; clear p14; have qi14 : (10 < (a0.size : Int)) = True := eq_true (of_decide_eq_true (by first | (with_reducible assumption) | assumption)); replace q14 := eq_true q14))
              go_ret2
              exact ⟨by first | rfl | (simp; done) | (simp [*]; done), by repeat (first | exact Drawn0.refl _ | apply Drawn0.step)⟩
            · rw [if_neg c15] at H
              have c15b0 : ((bt a0 10) == 46) = false := beq_eq_false_iff_ne.mpr c15
              have c15b1 : ((bt a0 10) != 46) = true := bne_iff_ne.mpr c15
              simp only [Option.some.injEq, Prod.mk.injEq] at H
              obtain ⟨rfl, rfl⟩ := H
              go_wp2_with (first | ((with_reducible refine gate_callee (f := 45) rfl ?_); refine goesL_ (some 22) rfl rfl Tryd.func45 (by kernel_rfl) rfl #[.string a0] rfl (by (try simp only [List.map_toArray, List.map_cons, List.map_nil]); first | done | rfl | (simp only [List.length_drop, List.length_take]; rfl)) ?_; (with_reducible refine (lexer_isDate.calls kj2 a0 true _ A8.out).mono ?_); rintro e w' ⟨rfl, ⟨nd, rfl⟩⟩; refine ⟨_, rfl, ?_⟩; have p11 : 0 ≤ (10 : Int) := (by omega); have q11 : 10 < a0.size := (by have : (10 : Int) < (a0.size : Int) := of_decide_eq_true (by first | (with_reducible assumption) | assumption); omega); have hx11 : ∀ h : 10 < a0.size, ((a0[10]'h).toNat : Int) = bt a0 10 := bt_at a0 10; clear p11; have qi11 : (10 < (a0.size : Int)) = True := eq_true (of_decide_eq_true (by first | (with_reducible assumption) | assumption)); replace q11 := eq_true q11) | (go_at_call 37; (with_reducible refine (lexer_class.calls kj2 (bt a0 10) t111 _ A12.out).mono ?_); rintro e w' ⟨rfl, ⟨nd, rfl⟩⟩; have p14 : 0 ≤ (10 : Int) := (by omega); have q14 : 10 < a0.size := (by have : (10 : Int) < (a0.size : Int) := of_decide_eq_true (by first | (with_reducible assumption) | assumption); omega); have hx14 : ∀ h : 10 < a0.size, ((a0[10]'h).toNat : Int) = bt a0 10 := bt_at a0 10; clear p14; have qi14 : (10 < (a0.size : Int)) = True := eq_true (of_decide_eq_true (by first | (with_reducible assumption) | assumption)); replace q14 := eq_true q14))
              go_ret2
              exact ⟨by first | rfl | (simp; done) | (simp [*]; done), by repeat (first | exact Drawn0.refl _ | apply Drawn0.step)⟩
          · rw [if_neg c13] at H
            have c13b0 : ((Go.bits .and .i64 t111 15) == 0) = false := beq_eq_false_iff_ne.mpr c13
            have c13b1 : ((Go.bits .and .i64 t111 15) != 0) = true := bne_iff_ne.mpr c13
            simp only [Option.some.injEq, Prod.mk.injEq] at H
            obtain ⟨rfl, rfl⟩ := H
            go_wp2_with (first | ((with_reducible refine gate_callee (f := 45) rfl ?_); refine goesL_ (some 22) rfl rfl Tryd.func45 (by kernel_rfl) rfl #[.string a0] rfl (by (try simp only [List.map_toArray, List.map_cons, List.map_nil]); first | done | rfl | (simp only [List.length_drop, List.length_take]; rfl)) ?_; (with_reducible refine (lexer_isDate.calls kj2 a0 true _ A8.out).mono ?_); rintro e w' ⟨rfl, ⟨nd, rfl⟩⟩; refine ⟨_, rfl, ?_⟩; have p11 : 0 ≤ (10 : Int) := (by omega); have q11 : 10 < a0.size := (by have : (10 : Int) < (a0.size : Int) := of_decide_eq_true (by first | (with_reducible assumption) | assumption); omega); have hx11 : ∀ h : 10 < a0.size, ((a0[10]'h).toNat : Int) = bt a0 10 := bt_at a0 10; clear p11; have qi11 : (10 < (a0.size : Int)) = True := eq_true (of_decide_eq_true (by first | (with_reducible assumption) | assumption)); replace q11 := eq_true q11) | (go_at_call 37; (with_reducible refine (lexer_class.calls kj2 (bt a0 10) t111 _ A12.out).mono ?_); rintro e w' ⟨rfl, ⟨nd, rfl⟩⟩))
            go_ret2
            exact ⟨by first | rfl | (simp; done) | (simp [*]; done), by repeat (first | exact Drawn0.refl _ | apply Drawn0.step)⟩
        · rw [if_neg c10] at H
          have c10b0 : decide (10 < (a0.size : Int)) = false := decide_eq_false c10
          have c10b1 : decide (10 < a0.size) = false := decide_eq_false (by omega)
          clear c10
          simp only [Option.some.injEq, Prod.mk.injEq] at H
          obtain ⟨rfl, rfl⟩ := H
          go_wp2_with (first | ((with_reducible refine gate_callee (f := 45) rfl ?_); refine goesL_ (some 22) rfl rfl Tryd.func45 (by kernel_rfl) rfl #[.string a0] rfl (by (try simp only [List.map_toArray, List.map_cons, List.map_nil]); first | done | rfl | (simp only [List.length_drop, List.length_take]; rfl)) ?_; (with_reducible refine (lexer_isDate.calls kj2 a0 true _ A8.out).mono ?_); rintro e w' ⟨rfl, ⟨nd, rfl⟩⟩; refine ⟨_, rfl, ?_⟩))
          go_ret2
          exact ⟨by first | rfl | (simp; done) | (simp [*]; done), by repeat (first | exact Drawn0.refl _ | apply Drawn0.step)⟩
      · replace c9 := Bool.eq_false_iff.mpr c9
        subst c9
        have H1 : (if t109 < (a0.size : Int) then (if 0 ≤ t109 then (lexer_numeric.j1 kj2 a0 3 t109 x6_2 ((bt a0 t109) == 46)) else (none)) else (lexer_numeric.j1 kj2 a0 3 t109 x6_2 false)) = some (r1, r2) := by rw [if_neg (show ¬ (false = true) by decide)] at H; exact H
        clear H
        have H := H1
        clear H1
        have HC16 := Aside0.mk H
        clear H
        go_upto_region 5 with (first | ((with_reducible refine gate_callee (f := 45) rfl ?_); refine goesL_ (some 22) rfl rfl Tryd.func45 (by kernel_rfl) rfl #[.string a0] rfl (by (try simp only [List.map_toArray, List.map_cons, List.map_nil]); first | done | rfl | (simp only [List.length_drop, List.length_take]; rfl)) ?_; (with_reducible refine (lexer_isDate.calls kj2 a0 false _ A8.out).mono ?_); rintro e w' ⟨rfl, ⟨nd, rfl⟩⟩; refine ⟨_, rfl, ?_⟩))
        (try simp only [Act.put, List.setIfInBounds_toArray, List.set_cons_zero, List.set_cons_succ])
        go_cut [23] (fun v23 wc => ∃ (kq : Nat) (x23_15 : Bool), v23 = .bool x23_15 ∧ Aside0 (lexer_numeric.j1 kq a0 3 t109 x6_2 x23_15 = some (r1, r2)) ∧ Aside0 (kq ≤ kj2) ∧ Drawn0 w wc)
        case first =>
          have H := HC16.out
          clear HC16
          by_cases c17 : t109 < (a0.size : Int)
          · rw [if_pos c17] at H
            have c17b0 : decide (t109 < (a0.size : Int)) = true := decide_eq_true c17
            clear c17
            (first | rw [c17b0] | (simp only [i64_w, i32_w]; rw [c17b0]) | skip)
            by_cases c18 : 0 ≤ t109
            · rw [if_pos c18] at H
              have c18b0 : decide (0 ≤ t109) = true := decide_eq_true c18
              clear c18
              have H' := Aside0.mk H
              clear H
              have p19 : 0 ≤ (t109 : Int) := of_decide_eq_true (by first | (with_reducible assumption) | assumption)
              have q19 : t109 < (a0.size : Int) := of_decide_eq_true (by first | (with_reducible assumption) | assumption)
              have hx19 := bt_at a0 t109
              replace p19 := eq_true p19
              replace q19 := eq_true q19
              go_wp2
              go_meet
              case rel => exact ⟨_, (((bt a0 t109) == 46)), (by first | rfl | (simp; done) | (simp [*]; done)), H', ⟨by have := HJ2.out; first | omega | exact Nat.le_refl _⟩, by repeat (first | exact Drawn0.refl _ | apply Drawn0.step)⟩
            · rw [if_neg c18] at H
              exact absurd H (by simp)
          · rw [if_neg c17] at H
            have c17b0 : decide (t109 < (a0.size : Int)) = false := decide_eq_false c17
            clear c17
            (first | rw [c17b0] | (simp only [i64_w, i32_w]; rw [c17b0]) | skip)
            have H' := Aside0.mk H
            clear H
            go_wp2
            go_meet
            case rel => exact ⟨_, (false), (by first | rfl | (simp; done) | (simp [*]; done)), H', ⟨by have := HJ2.out; first | omega | exact Nat.le_refl _⟩, by repeat (first | exact Drawn0.refl _ | apply Drawn0.step)⟩
        case rest =>
          clear HC16
          try clear c1
          try clear p1
          try clear q1
          try clear hx1
          try clear qi1
          try clear c2
          try clear p2
          try clear c3
          try clear c4
          try clear c4b0
          try clear c5
          try clear c5b0
          try clear c5b1
          try clear c6
          try clear c6b0
          try clear c6b1
          try clear p7
          try clear q7
          try clear hx7
          try clear qi7
          try clear c9
          try clear c10
          try clear c10b0
          try clear c10b1
          try clear p11
          try clear q11
          try clear hx11
          try clear qi11
          try clear c13
          try clear c13b0
          try clear c13b1
          try clear p14
          try clear q14
          try clear hx14
          try clear qi14
          try clear c15
          try clear c15b0
          try clear c15b1
          try clear c17
          try clear c17b0
          try clear c18
          try clear c18b0
          try clear p19
          try clear q19
          try clear hx19
          try clear p11
          try clear p14
          try clear p19
          try clear p2
          try clear p7
          try clear q11
          try clear q14
          try clear q19
          try clear q7
          obtain ⟨kq, x23_15, rfl, HA, HJ15, ⟨mc15, rfl⟩⟩ := hcut
          cases kq with
          | zero => exact absurd HA.out (by simp [lexer_numeric.j1])
          | succ kj15 =>
            have H := HA.out
            clear HA
            simp only [lexer_numeric.j1] at H
            by_cases c20 : x23_15 = true
            · subst c20
              have H1 : (if x6_2 = true then (if t109 ≤ 10 then (if 0 ≤ (wrap64 (t109 + 1)) then (if (wrap64 (t109 + 1)) ≤ (a0.size : Int) then ((lexer_span.f kj15 (a0.extract ((wrap64 (t109 + 1)) : Int).toNat a0.size) 4).bind fun t112 => (if t112 = 2 then (if (wrap64 (t109 + 3)) < (a0.size : Int) then (if 0 ≤ (wrap64 (t109 + 3)) then ((lexer_class.f kj15 (bt a0 (wrap64 (t109 + 3)))).bind fun t113 => (if (Go.bits .and .i64 t113 15) = 0 then (if (bt a0 (wrap64 (t109 + 3))) = 46 then (some (0, 0)) else (some (4, wrap64 (t109 + 3)))) else (some (0, 0)))) else (none)) else (some (4, wrap64 (t109 + 3)))) else (some (0, 0)))) else (none)) else (none)) else (some (0, 0))) else (some (0, 0))) = some (r1, r2) := by rw [if_pos rfl] at H; exact H
              clear H
              have H := H1
              clear H1
              by_cases c21 : x6_2 = true
              · subst c21
                have H1 : (if t109 ≤ 10 then (if 0 ≤ (wrap64 (t109 + 1)) then (if (wrap64 (t109 + 1)) ≤ (a0.size : Int) then ((lexer_span.f kj15 (a0.extract ((wrap64 (t109 + 1)) : Int).toNat a0.size) 4).bind fun t112 => (if t112 = 2 then (if (wrap64 (t109 + 3)) < (a0.size : Int) then (if 0 ≤ (wrap64 (t109 + 3)) then ((lexer_class.f kj15 (bt a0 (wrap64 (t109 + 3)))).bind fun t113 => (if (Go.bits .and .i64 t113 15) = 0 then (if (bt a0 (wrap64 (t109 + 3))) = 46 then (some (0, 0)) else (some (4, wrap64 (t109 + 3)))) else (some (0, 0)))) else (none)) else (some (4, wrap64 (t109 + 3)))) else (some (0, 0)))) else (none)) else (none)) else (some (0, 0))) = some (r1, r2) := by rw [if_pos rfl] at H; exact H
                clear H
                have H := H1
                clear H1
                by_cases c22 : t109 ≤ 10
                · rw [if_pos c22] at H
                  have c22b0 : decide (t109 ≤ 10) = true := decide_eq_true c22
                  clear c22
                  obtain ⟨ji23, hji23⟩ : ∃ j_ : Int, (wrap64 (t109 + 1)) = j_ := ⟨_, rfl⟩
                  replace H : (if 0 ≤ (ji23) then (if (ji23) ≤ (a0.size : Int) then ((lexer_span.f kj15 (a0.extract ((ji23) : Int).toNat a0.size) 4).bind fun t112 => (if t112 = 2 then (if (wrap64 (t109 + 3)) < (a0.size : Int) then (if 0 ≤ (wrap64 (t109 + 3)) then ((lexer_class.f kj15 (bt a0 (wrap64 (t109 + 3)))).bind fun t113 => (if (Go.bits .and .i64 t113 15) = 0 then (if (bt a0 (wrap64 (t109 + 3))) = 46 then (some (0, 0)) else (some (4, wrap64 (t109 + 3)))) else (some (0, 0)))) else (none)) else (some (4, wrap64 (t109 + 3)))) else (some (0, 0)))) else (none)) else (none)) = some (r1, r2) := by first | (rw [hji23] at H; exact H) | (simp only [hji23] at H ⊢; exact H)
                  have hji23w : (IntKind.i64.wrap (t109 + 1)) = ji23 := (i64_w _).trans hji23
                  by_cases c24 : 0 ≤ (ji23)
                  · rw [if_pos c24] at H
                    have c24b0 := eq_true c24
                    have c24b1 : decide (0 ≤ (ji23)) = true := decide_eq_true c24
                    clear c24
                    by_cases c25 : (ji23) ≤ (a0.size : Int)
                    · rw [if_pos c25] at H
                      have c25b0 := eq_true c25
                      have c25b1 : decide ((ji23) ≤ (a0.size : Int)) = true := decide_eq_true c25
                      clear c25
                      replace H := Option.bind_eq_some_iff.mp H
                      obtain ⟨t112, A260, H⟩ := H
                      replace H : (if t112 = 2 then (if (wrap64 (t109 + 3)) < (a0.size : Int) then (if 0 ≤ (wrap64 (t109 + 3)) then ((lexer_class.f kj15 (bt a0 (wrap64 (t109 + 3)))).bind fun t113 => (if (Go.bits .and .i64 t113 15) = 0 then (if (bt a0 (wrap64 (t109 + 3))) = 46 then (some (0, 0)) else (some (4, wrap64 (t109 + 3)))) else (some (0, 0)))) else (none)) else (some (4, wrap64 (t109 + 3)))) else (some (0, 0))) = some (r1, r2) := H
                      have A26 := Aside0.mk A260
                      clear A260
                      by_cases c27 : t112 = 2
                      · rw [if_pos c27] at H
                        have c27b0 : (t112 == 2) = true := beq_iff_eq.mpr c27
                        have c27b1 : (t112 != 2) = false := bne_eq_false_iff_eq.mpr c27
                        clear c27
                        by_cases c28 : (wrap64 (t109 + 3)) < (a0.size : Int)
                        · rw [if_pos c28] at H
                          have c28b0 : decide ((wrap64 (t109 + 3)) < (a0.size : Int)) = true := decide_eq_true c28
                          clear c28
                          obtain ⟨ji29, hji29⟩ : ∃ j_ : Int, (wrap64 (t109 + 3)) = j_ := ⟨_, rfl⟩
                          replace H : (if 0 ≤ (ji29) then ((lexer_class.f kj15 (bt a0 (ji29))).bind fun t113 => (if (Go.bits .and .i64 t113 15) = 0 then (if (bt a0 (ji29)) = 46 then (some (0, 0)) else (some (4, ji29))) else (some (0, 0)))) else (none)) = some (r1, r2) := by first | (rw [hji29] at H; exact H) | (simp only [hji29] at H ⊢; exact H)
                          (try rw [hji29] at c28b0)
                          (try rw [hji29] at A26)
                          have hji29w : (IntKind.i64.wrap (t109 + 3)) = ji29 := (i64_w _).trans hji29
                          by_cases c30 : 0 ≤ (ji29)
                          · rw [if_pos c30] at H
                            have c30b0 : decide (0 ≤ (ji29)) = true := decide_eq_true c30
                            clear c30
                            replace H := Option.bind_eq_some_iff.mp H
                            obtain ⟨t113, A320, H⟩ := H
                            replace H : (if (Go.bits .and .i64 t113 15) = 0 then (if (bt a0 (ji29)) = 46 then (some (0, 0)) else (some (4, ji29))) else (some (0, 0))) = some (r1, r2) := H
                            have A32 := Aside0.mk A320
                            clear A320
                            by_cases c33 : (Go.bits .and .i64 t113 15) = 0
                            · rw [if_pos c33] at H
                              have c33b0 : ((Go.bits .and .i64 t113 15) == 0) = true := beq_iff_eq.mpr c33
                              have c33b1 : ((Go.bits .and .i64 t113 15) != 0) = false := bne_eq_false_iff_eq.mpr c33
                              clear c33
                              by_cases c35 : (bt a0 (ji29)) = 46
                              · rw [if_pos c35] at H
                                have c35b0 : ((bt a0 (ji29)) == 46) = true := beq_iff_eq.mpr c35
                                have c35b1 : ((bt a0 (ji29)) != 46) = false := bne_eq_false_iff_eq.mpr c35
                                clear c35
                                simp only [Option.some.injEq, Prod.mk.injEq] at H
                                obtain ⟨rfl, rfl⟩ := H
                                go_wp2_with (first | (go_at_call 34; (with_reducible refine (lexer_span.calls kj15 (a0.extract ((ji23) : Int).toNat a0.size) 4 t112 _ A26.out).mono ?_); rintro e w' ⟨rfl, ⟨nd, rfl⟩⟩; have p31 : 0 ≤ ((ji29) : Int) := of_decide_eq_true (by first | (with_reducible assumption) | assumption); have q31 : (ji29) < (a0.size : Int) := of_decide_eq_true (by first | (with_reducible assumption) | assumption); have hx31 := bt_at a0 (ji29); replace p31 := eq_true p31; replace q31 := eq_true q31) | (go_at_call 37; (with_reducible refine (lexer_class.calls kj15 (bt a0 (ji29)) t113 _ A32.out).mono ?_); rintro e w' ⟨rfl, ⟨nd, rfl⟩⟩; have p34 : 0 ≤ ((ji29) : Int) := of_decide_eq_true (by first | (with_reducible assumption) | assumption); have q34 : (ji29) < (a0.size : Int) := of_decide_eq_true (by first | (with_reducible assumption) | assumption); have hx34 := bt_at a0 (ji29); replace p34 := eq_true p34; replace q34 := eq_true q34))
                                go_ret2
                                exact ⟨by first | rfl | (simp; done) | (simp only [← hji23, ← hji29] <;> (first | rfl | simp)) | (simp [*]; done), by repeat (first | exact Drawn0.refl _ | apply Drawn0.step)⟩
                              · rw [if_neg c35] at H
                                have c35b0 : ((bt a0 (ji29)) == 46) = false := beq_eq_false_iff_ne.mpr c35
                                have c35b1 : ((bt a0 (ji29)) != 46) = true := bne_iff_ne.mpr c35
                                simp only [Option.some.injEq, Prod.mk.injEq] at H
                                obtain ⟨rfl, rfl⟩ := H
                                go_wp2_with (first | (go_at_call 34; (with_reducible refine (lexer_span.calls kj15 (a0.extract ((ji23) : Int).toNat a0.size) 4 t112 _ A26.out).mono ?_); rintro e w' ⟨rfl, ⟨nd, rfl⟩⟩; have p31 : 0 ≤ ((ji29) : Int) := of_decide_eq_true (by first | (with_reducible assumption) | assumption); have q31 : (ji29) < (a0.size : Int) := of_decide_eq_true (by first | (with_reducible assumption) | assumption); have hx31 := bt_at a0 (ji29); replace p31 := eq_true p31; replace q31 := eq_true q31) | (go_at_call 37; (with_reducible refine (lexer_class.calls kj15 (bt a0 (ji29)) t113 _ A32.out).mono ?_); rintro e w' ⟨rfl, ⟨nd, rfl⟩⟩; have p34 : 0 ≤ ((ji29) : Int) := of_decide_eq_true (by first | (with_reducible assumption) | assumption); have q34 : (ji29) < (a0.size : Int) := of_decide_eq_true (by first | (with_reducible assumption) | assumption); have hx34 := bt_at a0 (ji29); replace p34 := eq_true p34; replace q34 := eq_true q34))
                                go_ret2
                                exact ⟨by first | rfl | (simp; done) | (simp only [← hji23, ← hji29] <;> (first | rfl | simp)) | (simp [*]; done), by repeat (first | exact Drawn0.refl _ | apply Drawn0.step)⟩
                            · rw [if_neg c33] at H
                              have c33b0 : ((Go.bits .and .i64 t113 15) == 0) = false := beq_eq_false_iff_ne.mpr c33
                              have c33b1 : ((Go.bits .and .i64 t113 15) != 0) = true := bne_iff_ne.mpr c33
                              simp only [Option.some.injEq, Prod.mk.injEq] at H
                              obtain ⟨rfl, rfl⟩ := H
                              go_wp2_with (first | (go_at_call 34; (with_reducible refine (lexer_span.calls kj15 (a0.extract ((ji23) : Int).toNat a0.size) 4 t112 _ A26.out).mono ?_); rintro e w' ⟨rfl, ⟨nd, rfl⟩⟩; have p31 : 0 ≤ ((ji29) : Int) := of_decide_eq_true (by first | (with_reducible assumption) | assumption); have q31 : (ji29) < (a0.size : Int) := of_decide_eq_true (by first | (with_reducible assumption) | assumption); have hx31 := bt_at a0 (ji29); replace p31 := eq_true p31; replace q31 := eq_true q31) | (go_at_call 37; (with_reducible refine (lexer_class.calls kj15 (bt a0 (ji29)) t113 _ A32.out).mono ?_); rintro e w' ⟨rfl, ⟨nd, rfl⟩⟩))
                              go_ret2
                              exact ⟨by first | rfl | (simp; done) | (simp only [← hji23, ← hji29] <;> (first | rfl | simp)) | (simp [*]; done), by repeat (first | exact Drawn0.refl _ | apply Drawn0.step)⟩
                          · rw [if_neg c30] at H
                            exact absurd H (by simp)
                        · rw [if_neg c28] at H
                          have c28b0 : decide ((wrap64 (t109 + 3)) < (a0.size : Int)) = false := decide_eq_false c28
                          clear c28
                          simp only [Option.some.injEq, Prod.mk.injEq] at H
                          obtain ⟨rfl, rfl⟩ := H
                          go_wp2_with (first | (go_at_call 34; (with_reducible refine (lexer_span.calls kj15 (a0.extract ((ji23) : Int).toNat a0.size) 4 t112 _ A26.out).mono ?_); rintro e w' ⟨rfl, ⟨nd, rfl⟩⟩))
                          go_ret2
                          exact ⟨by first | rfl | (simp; done) | (simp only [← hji23] <;> (first | rfl | simp)) | (simp [*]; done), by repeat (first | exact Drawn0.refl _ | apply Drawn0.step)⟩
                      · rw [if_neg c27] at H
                        have c27b0 : (t112 == 2) = false := beq_eq_false_iff_ne.mpr c27
                        have c27b1 : (t112 != 2) = true := bne_iff_ne.mpr c27
                        simp only [Option.some.injEq, Prod.mk.injEq] at H
                        obtain ⟨rfl, rfl⟩ := H
                        go_wp2_with (first | (go_at_call 34; (with_reducible refine (lexer_span.calls kj15 (a0.extract ((ji23) : Int).toNat a0.size) 4 t112 _ A26.out).mono ?_); rintro e w' ⟨rfl, ⟨nd, rfl⟩⟩))
                        go_ret2
                        exact ⟨by first | rfl | (simp; done) | (simp only [← hji23] <;> (first | rfl | simp)) | (simp [*]; done), by repeat (first | exact Drawn0.refl _ | apply Drawn0.step)⟩
                    · rw [if_neg c25] at H
                      exact absurd H (by simp)
                  · rw [if_neg c24] at H
                    exact absurd H (by simp)
                · rw [if_neg c22] at H
                  have c22b0 : decide (t109 ≤ 10) = false := decide_eq_false c22
                  clear c22
                  simp only [Option.some.injEq, Prod.mk.injEq] at H
                  obtain ⟨rfl, rfl⟩ := H
                  go_wp2
                  go_ret2
                  exact ⟨by first | rfl | (simp; done) | (simp [*]; done), by repeat (first | exact Drawn0.refl _ | apply Drawn0.step)⟩
              · replace c21 := Bool.eq_false_iff.mpr c21
                subst c21
                have H1 : (some (0, 0)) = some (r1, r2) := by rw [if_neg (show ¬ (false = true) by decide)] at H; exact H
                clear H
                have H := H1
                clear H1
                simp only [Option.some.injEq, Prod.mk.injEq] at H
                obtain ⟨rfl, rfl⟩ := H
                go_wp2
                go_ret2
                exact ⟨by first | rfl | (simp; done) | (simp [*]; done), by repeat (first | exact Drawn0.refl _ | apply Drawn0.step)⟩
            · replace c20 := Bool.eq_false_iff.mpr c20
              subst c20
              have H1 : (if x6_2 = true then (if t109 < (a0.size : Int) then (if 0 ≤ t109 then ((lexer_class.f kj15 (bt a0 t109)).bind fun t114 => (if (Go.bits .and .i64 t114 15) = 0 then (if (bt a0 t109) = 46 then (some (0, 0)) else (some (3, t109))) else (some (0, 0)))) else (none)) else (some (3, t109))) else (some (0, 0))) = some (r1, r2) := by rw [if_neg (show ¬ (false = true) by decide)] at H; exact H
              clear H
              have H := H1
              clear H1
              by_cases c36 : x6_2 = true
              · subst c36
                have H1 : (if t109 < (a0.size : Int) then (if 0 ≤ t109 then ((lexer_class.f kj15 (bt a0 t109)).bind fun t114 => (if (Go.bits .and .i64 t114 15) = 0 then (if (bt a0 t109) = 46 then (some (0, 0)) else (some (3, t109))) else (some (0, 0)))) else (none)) else (some (3, t109))) = some (r1, r2) := by rw [if_pos rfl] at H; exact H
                clear H
                have H := H1
                clear H1
                by_cases c37 : t109 < (a0.size : Int)
                · rw [if_pos c37] at H
                  have c37b0 : decide (t109 < (a0.size : Int)) = true := decide_eq_true c37
                  clear c37
                  by_cases c38 : 0 ≤ t109
                  · rw [if_pos c38] at H
                    have c38b0 : decide (0 ≤ t109) = true := decide_eq_true c38
                    clear c38
                    replace H := Option.bind_eq_some_iff.mp H
                    obtain ⟨t114, A400, H⟩ := H
                    replace H : (if (Go.bits .and .i64 t114 15) = 0 then (if (bt a0 t109) = 46 then (some (0, 0)) else (some (3, t109))) else (some (0, 0))) = some (r1, r2) := H
                    have A40 := Aside0.mk A400
                    clear A400
                    by_cases c41 : (Go.bits .and .i64 t114 15) = 0
                    · rw [if_pos c41] at H
                      have c41b0 : ((Go.bits .and .i64 t114 15) == 0) = true := beq_iff_eq.mpr c41
                      have c41b1 : ((Go.bits .and .i64 t114 15) != 0) = false := bne_eq_false_iff_eq.mpr c41
                      clear c41
                      by_cases c43 : (bt a0 t109) = 46
                      · rw [if_pos c43] at H
                        have c43b0 : ((bt a0 t109) == 46) = true := beq_iff_eq.mpr c43
                        have c43b1 : ((bt a0 t109) != 46) = false := bne_eq_false_iff_eq.mpr c43
                        clear c43
                        simp only [Option.some.injEq, Prod.mk.injEq] at H
                        obtain ⟨rfl, rfl⟩ := H
                        have p39 : 0 ≤ (t109 : Int) := of_decide_eq_true (by first | (with_reducible assumption) | assumption)
                        have q39 : t109 < (a0.size : Int) := of_decide_eq_true (by first | (with_reducible assumption) | assumption)
                        have hx39 := bt_at a0 t109
                        replace p39 := eq_true p39
                        replace q39 := eq_true q39
                        go_wp2_with (first | (go_at_call 37; (with_reducible refine (lexer_class.calls kj15 (bt a0 t109) t114 _ A40.out).mono ?_); rintro e w' ⟨rfl, ⟨nd, rfl⟩⟩; have p42 : 0 ≤ (t109 : Int) := of_decide_eq_true (by first | (with_reducible assumption) | assumption); have q42 : t109 < (a0.size : Int) := of_decide_eq_true (by first | (with_reducible assumption) | assumption); have hx42 := bt_at a0 t109; replace p42 := eq_true p42; replace q42 := eq_true q42))
                        go_ret2
                        exact ⟨by first | rfl | (simp; done) | (simp [*]; done), by repeat (first | exact Drawn0.refl _ | apply Drawn0.step)⟩
                      · rw [if_neg c43] at H
                        have c43b0 : ((bt a0 t109) == 46) = false := beq_eq_false_iff_ne.mpr c43
                        have c43b1 : ((bt a0 t109) != 46) = true := bne_iff_ne.mpr c43
                        simp only [Option.some.injEq, Prod.mk.injEq] at H
                        obtain ⟨rfl, rfl⟩ := H
                        have p39 : 0 ≤ (t109 : Int) := of_decide_eq_true (by first | (with_reducible assumption) | assumption)
                        have q39 : t109 < (a0.size : Int) := of_decide_eq_true (by first | (with_reducible assumption) | assumption)
                        have hx39 := bt_at a0 t109
                        replace p39 := eq_true p39
                        replace q39 := eq_true q39
                        go_wp2_with (first | (go_at_call 37; (with_reducible refine (lexer_class.calls kj15 (bt a0 t109) t114 _ A40.out).mono ?_); rintro e w' ⟨rfl, ⟨nd, rfl⟩⟩; have p42 : 0 ≤ (t109 : Int) := of_decide_eq_true (by first | (with_reducible assumption) | assumption); have q42 : t109 < (a0.size : Int) := of_decide_eq_true (by first | (with_reducible assumption) | assumption); have hx42 := bt_at a0 t109; replace p42 := eq_true p42; replace q42 := eq_true q42))
                        go_ret2
                        exact ⟨by first | rfl | (simp; done) | (simp [*]; done), by repeat (first | exact Drawn0.refl _ | apply Drawn0.step)⟩
                    · rw [if_neg c41] at H
                      have c41b0 : ((Go.bits .and .i64 t114 15) == 0) = false := beq_eq_false_iff_ne.mpr c41
                      have c41b1 : ((Go.bits .and .i64 t114 15) != 0) = true := bne_iff_ne.mpr c41
                      simp only [Option.some.injEq, Prod.mk.injEq] at H
                      obtain ⟨rfl, rfl⟩ := H
                      have p39 : 0 ≤ (t109 : Int) := of_decide_eq_true (by first | (with_reducible assumption) | assumption)
                      have q39 : t109 < (a0.size : Int) := of_decide_eq_true (by first | (with_reducible assumption) | assumption)
                      have hx39 := bt_at a0 t109
                      replace p39 := eq_true p39
                      replace q39 := eq_true q39
                      go_wp2_with (first | (go_at_call 37; (with_reducible refine (lexer_class.calls kj15 (bt a0 t109) t114 _ A40.out).mono ?_); rintro e w' ⟨rfl, ⟨nd, rfl⟩⟩))
                      go_ret2
                      exact ⟨by first | rfl | (simp; done) | (simp [*]; done), by repeat (first | exact Drawn0.refl _ | apply Drawn0.step)⟩
                  · rw [if_neg c38] at H
                    exact absurd H (by simp)
                · rw [if_neg c37] at H
                  have c37b0 : decide (t109 < (a0.size : Int)) = false := decide_eq_false c37
                  clear c37
                  simp only [Option.some.injEq, Prod.mk.injEq] at H
                  obtain ⟨rfl, rfl⟩ := H
                  go_wp2
                  go_ret2
                  exact ⟨by first | rfl | (simp; done) | (simp [*]; done), by repeat (first | exact Drawn0.refl _ | apply Drawn0.step)⟩
              · replace c36 := Bool.eq_false_iff.mpr c36
                subst c36
                have H1 : (some (0, 0)) = some (r1, r2) := by rw [if_neg (show ¬ (false = true) by decide)] at H; exact H
                clear H
                have H := H1
                clear H1
                simp only [Option.some.injEq, Prod.mk.injEq] at H
                obtain ⟨rfl, rfl⟩ := H
                go_wp2
                go_ret2
                exact ⟨by first | rfl | (simp; done) | (simp [*]; done), by repeat (first | exact Drawn0.refl _ | apply Drawn0.step)⟩

end Go.Proofs.YticmjkjojhcdpaaDoor.PAll

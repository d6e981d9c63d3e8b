-- Printed by a program (the kit's print, with functions given by hand) out of the translation: machine-written for this claim.
import Derived.Test.YticmjkjojhcdpaaDoorPAllx0
import Derived.Test.YticmjkjojhcdpaaDoorPAllx2
namespace Go.Proofs.YticmjkjojhcdpaaDoor.PAll
open Go.RowKit Go.Proofs.YticmjkjojhcdpaaDoorW.PrintWords Go.Proofs.YticmjkjojhcdpaaDoorW.PrintLast Go.Proofs.YticmjkjojhcdpaaDoorW.PrintMore
attribute [local go_sem] max2_int min2_int max_two min_two max_three min_three max_four min_four   -- for this text's walks alone
set_option linter.unusedVariables false
set_option linter.unusedSimpArgs false

/-! ### strings_IndexByte: function 36 -/
def strings_IndexByte.f (a0 : ByteArray) (a1 : Int) : Option (Int) := (stringslite_IndexByte.f a0 a1).bind fun t101 => (some t101)
set_option maxHeartbeats 8000000 in
set_option maxRecDepth 100000 in
theorem strings_IndexByte.calls (a0 : ByteArray) (a1 : Int) (r : Int) (w : World) (h : strings_IndexByte.f a0 a1 = some r) :
    Calls Tryd.prog 36 #[.string a0, .int .u8 a1] w fun e w' => e = .returned (.int .i64 r) ∧ Drawn0 w w' := by
  have H : ((stringslite_IndexByte.f a0 a1).bind fun t101 => (some t101)) = some r := h
  clear h
  replace H := Option.bind_eq_some_iff.mp H
  obtain ⟨t101, A30, H⟩ := H
  replace H : (some t101) = some r := H
  have A3 := Aside0.mk A30
  clear A30
  obtain rfl := Option.some.inj H
  go_enter Tryd.func36, Tryd.ntmps36
  go_wp2_with (first | ((with_reducible refine gate_callee (f := 44) rfl ?_); refine goesL_ (some 7) rfl rfl Tryd.func44 (by kernel_rfl) rfl #[.string a0, .int .u8 a1] rfl (by (try simp only [List.map_toArray, List.map_cons, List.map_nil]); first | done | rfl | (simp only [List.length_drop, List.length_take]; rfl)) ?_; (with_reducible refine (stringslite_IndexByte.calls a0 a1 t101 _ A3.out).mono ?_); rintro e w' ⟨rfl, ⟨nd, rfl⟩⟩; refine ⟨_, rfl, ?_⟩))
  go_ret
  exact ⟨by first | rfl | (simp; done) | (simp [*]; done), by repeat (first | exact Drawn0.refl _ | apply Drawn0.step)⟩

/-! ### lexer_class: function 37 -/
mutual
def lexer_class.j0 : Nat → Int → Bool → Option (Int)
  | 0, _, _ => none
  | k + 1, x0, x3 => if x3 = true then (some 1) else (if x0 ≥ 65 then (lexer_class.j1 k x0 (decide (x0 ≤ 90))) else (lexer_class.j1 k x0 false))
def lexer_class.j1 : Nat → Int → Bool → Option (Int)
  | 0, _, _ => none
  | k + 1, x0, x10 => if x10 = true then (some 2) else (if x0 ≥ 48 then (lexer_class.j2 k x0 (decide (x0 ≤ 57))) else (lexer_class.j2 k x0 false))
def lexer_class.j2 : Nat → Int → Bool → Option (Int)
  | 0, _, _ => none
  | k + 1, x0, x17 => if x17 = true then (some 4) else (if x0 = 95 then (some 8) else ((strings_IndexByte.f (⟨#[32, 9, 10, 13]⟩ : ByteArray) x0).bind fun t102 => (if t102 ≥ 0 then (some 16) else (some 0))))
end
def lexer_class.f (k : Nat) (a0 : Int) : Option (Int) := if a0 ≥ 97 then (lexer_class.j0 k a0 (decide (a0 ≤ 122))) else (lexer_class.j0 k a0 false)
theorem lexer_class.mono_l : ∀ k, (∀ y0 y1, LeO (lexer_class.j0 k y0 y1) (lexer_class.j0 (k + 1) y0 y1)) ∧ (∀ y0 y1, LeO (lexer_class.j1 k y0 y1) (lexer_class.j1 (k + 1) y0 y1)) ∧ (∀ y0 y1, LeO (lexer_class.j2 k y0 y1) (lexer_class.j2 (k + 1) y0 y1))
  | 0 => ⟨fun _ _ r h => by simp [lexer_class.j0] at h, fun _ _ r h => by simp [lexer_class.j1] at h, fun _ _ r h => by simp [lexer_class.j2] at h⟩
  | k + 1 => by
    obtain ⟨ih0, ih1, ih2⟩ := lexer_class.mono_l k
    refine ⟨?_, ?_, ?_⟩
    · intro y0 y1
      unfold lexer_class.j0
      repeat' first
      | (with_reducible exact ih0 _ _)
      | (with_reducible exact ih1 _ _)
      | (with_reducible exact ih2 _ _)
      | (with_reducible exact LeO.refl _)
      | (with_reducible exact LeO.none _)
      | (with_reducible refine LeO.ite ?_ ?_)
      | (with_reducible refine LeO.bind ?_ (fun _ => ?_))
      | exact ih0 _ _
      | exact ih1 _ _
      | exact ih2 _ _
      | exact LeO.none _
      | refine LeO.ite ?_ ?_
      | refine LeO.bind ?_ (fun _ => ?_)
    · intro y0 y1
      unfold lexer_class.j1
      repeat' first
      | (with_reducible exact ih0 _ _)
      | (with_reducible exact ih1 _ _)
      | (with_reducible exact ih2 _ _)
      | (with_reducible exact LeO.refl _)
      | (with_reducible exact LeO.none _)
      | (with_reducible refine LeO.ite ?_ ?_)
      | (with_reducible refine LeO.bind ?_ (fun _ => ?_))
      | exact ih0 _ _
      | exact ih1 _ _
      | exact ih2 _ _
      | exact LeO.none _
      | refine LeO.ite ?_ ?_
      | refine LeO.bind ?_ (fun _ => ?_)
    · intro y0 y1
      unfold lexer_class.j2
      repeat' first
      | (with_reducible exact ih0 _ _)
      | (with_reducible exact ih1 _ _)
      | (with_reducible exact ih2 _ _)
      | (with_reducible exact LeO.refl _)
      | (with_reducible exact LeO.none _)
      | (with_reducible refine LeO.ite ?_ ?_)
      | (with_reducible refine LeO.bind ?_ (fun _ => ?_))
      | exact ih0 _ _
      | exact ih1 _ _
      | exact ih2 _ _
      | exact LeO.none _
      | refine LeO.ite ?_ ?_
      | refine LeO.bind ?_ (fun _ => ?_)
theorem lexer_class.mono : ∀ a0 k, LeO (lexer_class.f k a0) (lexer_class.f (k + 1) a0) := by
  intro a0 k
  obtain ⟨ih0, ih1, ih2⟩ := lexer_class.mono_l k
  unfold lexer_class.f
  repeat' first
      | (with_reducible exact ih0 _ _)
      | (with_reducible exact ih1 _ _)
      | (with_reducible exact ih2 _ _)
      | (with_reducible exact LeO.refl _)
      | (with_reducible exact LeO.none _)
      | (with_reducible refine LeO.ite ?_ ?_)
      | (with_reducible refine LeO.bind ?_ (fun _ => ?_))
      | exact ih0 _ _
      | exact ih1 _ _
      | exact ih2 _ _
      | exact LeO.none _
      | refine LeO.ite ?_ ?_
      | refine LeO.bind ?_ (fun _ => ?_)
set_option maxHeartbeats 8000000 in
set_option maxRecDepth 100000 in
theorem lexer_class.calls (k : Nat) (a0 : Int) (r : Int) (w : World) (h : lexer_class.f k a0 = some r) :
    Calls Tryd.prog 37 #[.int .u8 a0] w fun e w' => e = .returned (.int .i64 r) ∧ Drawn0 w w' := by
  have H : (if a0 ≥ 97 then (lexer_class.j0 k a0 (decide (a0 ≤ 122))) else (lexer_class.j0 k a0 false)) = some r := h
  clear h
  have HC2 := Aside0.mk H
  clear H
  go_enter Tryd.func37, Tryd.ntmps37
  go_upto_region 1 with (fail)
  go_cut [3] (fun v3 wc => ∃ (kq : Nat) (x3_1 : Bool), v3 = .bool x3_1 ∧ Aside0 (lexer_class.j0 kq a0 x3_1 = some r) ∧ Aside0 (kq ≤ k) ∧ Drawn0 w wc)
  case first =>
    have H := HC2.out
    clear HC2
    by_cases c3 : a0 ≥ 97
    · rw [if_pos c3] at H
      have c3b0 : decide (97 ≤ a0) = true := decide_eq_true c3
      clear c3
      (first | rw [c3b0] | (simp only [i64_w, i32_w]; rw [c3b0]) | skip)
      have H' := Aside0.mk H
      clear H
      go_wp2
      go_meet
      case rel => exact ⟨_, (decide (a0 ≤ 122)), (by first | rfl | (simp; done) | (simp [*]; done)), H', ⟨by first | omega | exact Nat.le_refl _⟩, by repeat (first | exact Drawn0.refl _ | apply Drawn0.step)⟩
    · rw [if_neg c3] at H
      have c3b0 : decide (97 ≤ a0) = false := decide_eq_false c3
      clear c3
      (first | rw [c3b0] | (simp only [i64_w, i32_w]; rw [c3b0]) | skip)
      have H' := Aside0.mk H
      clear H
      go_wp2
      go_meet
      case rel => exact ⟨_, (false), (by first | rfl | (simp; done) | (simp [*]; done)), H', ⟨by first | omega | exact Nat.le_refl _⟩, by repeat (first | exact Drawn0.refl _ | apply Drawn0.step)⟩
  case rest =>
    clear HC2
    try clear p2
    try clear c3
    try clear c3b0
    obtain ⟨kq, x3_1, rfl, HA, HJ1, ⟨mc1, rfl⟩⟩ := hcut
    cases kq with
    | zero => exact absurd HA.out (by simp [lexer_class.j0])
    | succ kj1 =>
      have H := HA.out
      clear HA
      simp only [lexer_class.j0] at H
      by_cases c4 : x3_1 = true
      · subst c4
        have H1 : (some 1) = some r := by rw [if_pos rfl] at H; exact H
        clear H
        have H := H1
        clear H1
        obtain rfl := Option.some.inj H
        go_wp2
        go_ret
        exact ⟨by first | rfl | (simp; done) | (simp [*]; done), by repeat (first | exact Drawn0.refl _ | apply Drawn0.step)⟩
      · replace c4 := Bool.eq_false_iff.mpr c4
        subst c4
        have H1 : (if a0 ≥ 65 then (lexer_class.j1 kj1 a0 (decide (a0 ≤ 90))) else (lexer_class.j1 kj1 a0 false)) = some r := by rw [if_neg (show ¬ (false = true) by decide)] at H; exact H
        clear H
        have H := H1
        clear H1
        have HC5 := Aside0.mk H
        clear H
        go_upto_region 3 with (fail)
        go_cut [10] (fun v10 wc => ∃ (kq : Nat) (x10_4 : Bool), v10 = .bool x10_4 ∧ Aside0 (lexer_class.j1 kq a0 x10_4 = some r) ∧ Aside0 (kq ≤ kj1) ∧ Drawn0 w wc)
        case first =>
          have H := HC5.out
          clear HC5
          by_cases c6 : a0 ≥ 65
          · rw [if_pos c6] at H
            have c6b0 : decide (65 ≤ a0) = true := decide_eq_true c6
            clear c6
            (first | rw [c6b0] | (simp only [i64_w, i32_w]; rw [c6b0]) | skip)
            have H' := Aside0.mk H
            clear H
            go_wp2
            go_meet
            case rel => exact ⟨_, (decide (a0 ≤ 90)), (by first | rfl | (simp; done) | (simp [*]; done)), H', ⟨by have := HJ1.out; first | omega | exact Nat.le_refl _⟩, by repeat (first | exact Drawn0.refl _ | apply Drawn0.step)⟩
          · rw [if_neg c6] at H
            have c6b0 : decide (65 ≤ a0) = false := decide_eq_false c6
            clear c6
            (first | rw [c6b0] | (simp only [i64_w, i32_w]; rw [c6b0]) | skip)
            have H' := Aside0.mk H
            clear H
            go_wp2
            go_meet
            case rel => exact ⟨_, (false), (by first | rfl | (simp; done) | (simp [*]; done)), H', ⟨by have := HJ1.out; first | omega | exact Nat.le_refl _⟩, by repeat (first | exact Drawn0.refl _ | apply Drawn0.step)⟩
        case rest =>
          clear HC5
          try clear c1
          try clear p2
          try clear c3
          try clear c3b0
          try clear c4
          try clear c6
          try clear c6b0
          try clear p2
          obtain ⟨kq, x10_4, rfl, HA, HJ4, ⟨mc4, rfl⟩⟩ := hcut
          cases kq with
          | zero => exact absurd HA.out (by simp [lexer_class.j1])
          | succ kj4 =>
            have H := HA.out
            clear HA
            simp only [lexer_class.j1] at H
            by_cases c7 : x10_4 = true
            · subst c7
              have H1 : (some 2) = some r := by rw [if_pos rfl] at H; exact H
              clear H
              have H := H1
              clear H1
              obtain rfl := Option.some.inj H
              go_wp2
              go_ret
              exact ⟨by first | rfl | (simp; done) | (simp [*]; done), by repeat (first | exact Drawn0.refl _ | apply Drawn0.step)⟩
            · replace c7 := Bool.eq_false_iff.mpr c7
              subst c7
              have H1 : (if a0 ≥ 48 then (lexer_class.j2 kj4 a0 (decide (a0 ≤ 57))) else (lexer_class.j2 kj4 a0 false)) = some r := by rw [if_neg (show ¬ (false = true) by decide)] at H; exact H
              clear H
              have H := H1
              clear H1
              have HC8 := Aside0.mk H
              clear H
              go_upto_region 5 with (fail)
              go_cut [17] (fun v17 wc => ∃ (kq : Nat) (x17_7 : Bool), v17 = .bool x17_7 ∧ Aside0 (lexer_class.j2 kq a0 x17_7 = some r) ∧ Aside0 (kq ≤ kj4) ∧ Drawn0 w wc)
              case first =>
                have H := HC8.out
                clear HC8
                by_cases c9 : a0 ≥ 48
                · rw [if_pos c9] at H
                  have c9b0 : decide (48 ≤ a0) = true := decide_eq_true c9
                  clear c9
                  (first | rw [c9b0] | (simp only [i64_w, i32_w]; rw [c9b0]) | skip)
                  have H' := Aside0.mk H
                  clear H
                  go_wp2
                  go_meet
                  case rel => exact ⟨_, (decide (a0 ≤ 57)), (by first | rfl | (simp; done) | (simp [*]; done)), H', ⟨by have := HJ1.out; have := HJ4.out; first | omega | exact Nat.le_refl _⟩, by repeat (first | exact Drawn0.refl _ | apply Drawn0.step)⟩
                · rw [if_neg c9] at H
                  have c9b0 : decide (48 ≤ a0) = false := decide_eq_false c9
                  clear c9
                  (first | rw [c9b0] | (simp only [i64_w, i32_w]; rw [c9b0]) | skip)
                  have H' := Aside0.mk H
                  clear H
                  go_wp2
                  go_meet
                  case rel => exact ⟨_, (false), (by first | rfl | (simp; done) | (simp [*]; done)), H', ⟨by have := HJ1.out; have := HJ4.out; first | omega | exact Nat.le_refl _⟩, by repeat (first | exact Drawn0.refl _ | apply Drawn0.step)⟩
              case rest =>
                clear HC8
                try clear c1
                try clear p2
                try clear c3
                try clear c3b0
                try clear c4
                try clear c6
                try clear c6b0
                try clear c7
                try clear c9
                try clear c9b0
                try clear p2
                obtain ⟨kq, x17_7, rfl, HA, HJ7, ⟨mc7, rfl⟩⟩ := hcut
                cases kq with
                | zero => exact absurd HA.out (by simp [lexer_class.j2])
                | succ kj7 =>
                  have H := HA.out
                  clear HA
                  simp only [lexer_class.j2] at H
                  by_cases c10 : x17_7 = true
                  · subst c10
                    have H1 : (some 4) = some r := by rw [if_pos rfl] at H; exact H
                    clear H
                    have H := H1
                    clear H1
                    obtain rfl := Option.some.inj H
                    go_wp2
                    go_ret
                    exact ⟨by first | rfl | (simp; done) | (simp [*]; done), by repeat (first | exact Drawn0.refl _ | apply Drawn0.step)⟩
                  · replace c10 := Bool.eq_false_iff.mpr c10
                    subst c10
                    have H1 : (if a0 = 95 then (some 8) else ((strings_IndexByte.f (⟨#[32, 9, 10, 13]⟩ : ByteArray) a0).bind fun t102 => (if t102 ≥ 0 then (some 16) else (some 0)))) = some r := by rw [if_neg (show ¬ (false = true) by decide)] at H; exact H
                    clear H
                    have H := H1
                    clear H1
                    by_cases c11 : a0 = 95
                    · rw [if_pos c11] at H
                      have c11b0 : (a0 == 95) = true := beq_iff_eq.mpr c11
                      have c11b1 : (a0 != 95) = false := bne_eq_false_iff_eq.mpr c11
                      clear c11
                      obtain rfl := Option.some.inj H
                      go_wp2
                      go_ret
                      exact ⟨by first | rfl | (simp; done) | (simp [*]; done), by repeat (first | exact Drawn0.refl _ | apply Drawn0.step)⟩
                    · rw [if_neg c11] at H
                      have c11b0 : (a0 == 95) = false := beq_eq_false_iff_ne.mpr c11
                      have c11b1 : (a0 != 95) = true := bne_iff_ne.mpr c11
                      replace H := Option.bind_eq_some_iff.mp H
                      obtain ⟨t102, A120, H⟩ := H
                      replace H : (if t102 ≥ 0 then (some 16) else (some 0)) = some r := H
                      have A12 := Aside0.mk A120
                      clear A120
                      by_cases c13 : t102 ≥ 0
                      · rw [if_pos c13] at H
                        have c13b0 : decide (0 ≤ t102) = true := decide_eq_true c13
                        clear c13
                        obtain rfl := Option.some.inj H
                        go_wp2_with (first | ((with_reducible refine gate_callee (f := 36) rfl ?_); refine goesL_ (some 29) rfl rfl Tryd.func36 (by kernel_rfl) rfl #[.string (⟨#[32, 9, 10, 13]⟩ : ByteArray), .int .u8 a0] rfl (by (try simp only [List.map_toArray, List.map_cons, List.map_nil]); first | done | rfl | (simp only [List.length_drop, List.length_take]; rfl)) ?_; (with_reducible refine (strings_IndexByte.calls (⟨#[32, 9, 10, 13]⟩ : ByteArray) a0 t102 _ A12.out).mono ?_); rintro e w' ⟨rfl, ⟨nd, rfl⟩⟩; refine ⟨_, rfl, ?_⟩))
                        go_ret
                        exact ⟨by first | rfl | (simp; done) | (simp [*]; done), by repeat (first | exact Drawn0.refl _ | apply Drawn0.step)⟩
                      · rw [if_neg c13] at H
                        have c13b0 : decide (0 ≤ t102) = false := decide_eq_false c13
                        clear c13
                        obtain rfl := Option.some.inj H
                        go_wp2_with (first | ((with_reducible refine gate_callee (f := 36) rfl ?_); refine goesL_ (some 29) rfl rfl Tryd.func36 (by kernel_rfl) rfl #[.string (⟨#[32, 9, 10, 13]⟩ : ByteArray), .int .u8 a0] rfl (by (try simp only [List.map_toArray, List.map_cons, List.map_nil]); first | done | rfl | (simp only [List.length_drop, List.length_take]; rfl)) ?_; (with_reducible refine (strings_IndexByte.calls (⟨#[32, 9, 10, 13]⟩ : ByteArray) a0 t102 _ A12.out).mono ?_); rintro e w' ⟨rfl, ⟨nd, rfl⟩⟩; refine ⟨_, rfl, ?_⟩))
                        go_ret
                        exact ⟨by first | rfl | (simp; done) | (simp [*]; done), by repeat (first | exact Drawn0.refl _ | apply Drawn0.step)⟩

/-! ### lexer_span: function 34 -/
def lexer_span.l0 : Nat → ByteArray → Int → Int → Option (Int)
  | 0, _, _, _ => none
  | k + 1, x0, x1, x5 => if x5 < (x0.size : Int) then (if 0 ≤ x5 then ((lexer_class.f k (bt x0 x5)).bind fun t103 => (if (Go.bits .and .i64 t103 x1) = 0 then (some x5) else (lexer_span.l0 k x0 x1 (wrap64 (x5 + 1))))) else (none)) else (some x5)
def lexer_span.f (k : Nat) (a0 : ByteArray) (a1 : Int) : Option (Int) := lexer_span.l0 k a0 a1 0
theorem lexer_span.mono_l : ∀ k, (∀ y0 y1 y2, LeO (lexer_span.l0 k y0 y1 y2) (lexer_span.l0 (k + 1) y0 y1 y2))
  | 0 => fun _ _ _ r h => by simp [lexer_span.l0] at h
  | k + 1 => by
    have ih0 := lexer_span.mono_l k
    · intro y0 y1 y2
      unfold lexer_span.l0
      repeat' first
      | (with_reducible exact ih0 _ _ _)
      | (with_reducible exact lexer_class.mono _ _)
      | (with_reducible exact LeO.refl _)
      | (with_reducible exact LeO.none _)
      | (with_reducible refine LeO.ite ?_ ?_)
      | (with_reducible refine LeO.bind ?_ (fun _ => ?_))
      | exact ih0 _ _ _
      | exact lexer_class.mono _ _
      | exact LeO.none _
      | refine LeO.ite ?_ ?_
      | refine LeO.bind ?_ (fun _ => ?_)
theorem lexer_span.mono : ∀ a0 a1 k, LeO (lexer_span.f k a0 a1) (lexer_span.f (k + 1) a0 a1) := by
  intro a0 a1 k
  have ih0 := lexer_span.mono_l k
  unfold lexer_span.f
  repeat' first
      | (with_reducible exact ih0 _ _ _)
      | (with_reducible exact lexer_class.mono _ _)
      | (with_reducible exact LeO.refl _)
      | (with_reducible exact LeO.none _)
      | (with_reducible refine LeO.ite ?_ ?_)
      | (with_reducible refine LeO.bind ?_ (fun _ => ?_))
      | exact ih0 _ _ _
      | exact lexer_class.mono _ _
      | exact LeO.none _
      | refine LeO.ite ?_ ?_
      | refine LeO.bind ?_ (fun _ => ?_)
set_option maxHeartbeats 8000000 in
set_option maxRecDepth 100000 in
theorem lexer_span.calls (k : Nat) (a0 : ByteArray) (a1 : Int) (r : Int) (w : World) (h : lexer_span.f k a0 a1 = some r) :
    Calls Tryd.prog 34 #[.string a0, .int .i64 a1] w fun e w' => e = .returned (.int .i64 r) ∧ Drawn0 w w' := by
  have H : (lexer_span.l0 k a0 a1 0) = some r := h
  clear h
  have H' := Aside0.mk H
  clear H
  go_enter Tryd.func34, Tryd.ntmps34
  go_wp2
  go_loopg [5] k (fun kq v5 w' => ∃ (x5_1 : Int), v5 = .int .i64 x5_1 ∧ Aside0 (lexer_span.l0 kq a0 a1 x5_1 = some r) ∧ Aside0 (kq ≤ k) ∧ Drawn0 w w')
  case atStart => exact ⟨(0), (by first | rfl | (simp; done) | (simp [*]; done)), H', ⟨Nat.le_refl _⟩, by repeat (first | exact Drawn0.refl _ | apply Drawn0.step)⟩
  case round =>
    clear H'
    try clear p2
    obtain ⟨x5_1, rfl, HA, HK1, ⟨m1, rfl⟩⟩ := hrel
    cases gk with
    | zero => exact absurd HA.out (by simp [lexer_span.l0])
    | succ k1 =>
      have H := HA.out
      clear HA
      simp only [lexer_span.l0] at H
      by_cases c3 : x5_1 < (a0.size : Int)
      · rw [if_pos c3] at H
        have c3b0 : decide (x5_1 < (a0.size : Int)) = true := decide_eq_true c3
        clear c3
        by_cases c4 : 0 ≤ x5_1
        · rw [if_pos c4] at H
          have c4b0 : decide (0 ≤ x5_1) = true := decide_eq_true c4
          clear c4
          replace H := Option.bind_eq_some_iff.mp H
          obtain ⟨t103, A60, H⟩ := H
          replace H : (if (Go.bits .and .i64 t103 a1) = 0 then (some x5_1) else (lexer_span.l0 k1 a0 a1 (wrap64 (x5_1 + 1)))) = some r := H
          have A6 := Aside0.mk A60
          clear A60
          by_cases c7 : (Go.bits .and .i64 t103 a1) = 0
          · rw [if_pos c7] at H
            have c7b0 : ((Go.bits .and .i64 t103 a1) == 0) = true := beq_iff_eq.mpr c7
            have c7b1 : ((Go.bits .and .i64 t103 a1) != 0) = false := bne_eq_false_iff_eq.mpr c7
            clear c7
            obtain rfl := Option.some.inj H
            have p5 : 0 ≤ (x5_1 : Int) := of_decide_eq_true (by first | (with_reducible assumption) | assumption)
            have q5 : x5_1 < (a0.size : Int) := of_decide_eq_true (by first | (with_reducible assumption) | assumption)
            have hx5 := bt_at a0 x5_1
            replace p5 := eq_true p5
            replace q5 := eq_true q5
            go_wp2_with (first | (go_at_call 37; (with_reducible refine (lexer_class.calls k1 (bt a0 x5_1) t103 _ A6.out).mono ?_); rintro e w' ⟨rfl, ⟨nd, rfl⟩⟩))
            go_ret
            exact ⟨by first | rfl | (simp; done) | (simp [*]; done), by repeat (first | exact Drawn0.refl _ | apply Drawn0.step)⟩
          · rw [if_neg c7] at H
            have c7b0 : ((Go.bits .and .i64 t103 a1) == 0) = false := beq_eq_false_iff_ne.mpr c7
            have c7b1 : ((Go.bits .and .i64 t103 a1) != 0) = true := bne_iff_ne.mpr c7
            have H' := Aside0.mk H
            clear H
            have p5 : 0 ≤ (x5_1 : Int) := of_decide_eq_true (by first | (with_reducible assumption) | assumption)
            have q5 : x5_1 < (a0.size : Int) := of_decide_eq_true (by first | (with_reducible assumption) | assumption)
            have hx5 := bt_at a0 x5_1
            replace p5 := eq_true p5
            replace q5 := eq_true q5
            go_wp2_with (first | (go_at_call 37; (with_reducible refine (lexer_class.calls k1 (bt a0 x5_1) t103 _ A6.out).mono ?_); rintro e w' ⟨rfl, ⟨nd, rfl⟩⟩))
            go_roundg k1
            case measure => have := HK1.out; omega
            case rel => exact ⟨(wrap64 (x5_1 + 1)), (by first | rfl | (simp; done) | (simp [*]; done)), H', ⟨by have := HK1.out; omega⟩, by repeat (first | exact Drawn0.refl _ | apply Drawn0.step)⟩
        · rw [if_neg c4] at H
          exact absurd H (by simp)
      · rw [if_neg c3] at H
        have c3b0 : decide (x5_1 < (a0.size : Int)) = false := decide_eq_false c3
        clear c3
        obtain rfl := Option.some.inj H
        go_wp2
        go_ret
        exact ⟨by first | rfl | (simp; done) | (simp [*]; done), by repeat (first | exact Drawn0.refl _ | apply Drawn0.step)⟩

/-! ### stringslite_HasPrefix: function 43 -/
def stringslite_HasPrefix.f (a0 : ByteArray) (a1 : ByteArray) : Option (Bool) := if (a0.size : Int) ≥ (a1.size : Int) then (if 0 ≤ (a1.size : Int) then (if (a1.size : Int) ≤ (a0.size : Int) then (some ((a0.extract 0 ((a1.size : Int) : Int).toNat).toList == a1.toList)) else (none)) else (none)) else (some false)
set_option maxHeartbeats 8000000 in
set_option maxRecDepth 100000 in
theorem stringslite_HasPrefix.calls (a0 : ByteArray) (a1 : ByteArray) (r : Bool) (w : World) (h : stringslite_HasPrefix.f a0 a1 = some r) :
    Calls Tryd.prog 43 #[.string a0, .string a1] w fun e w' => e = .returned (.bool r) ∧ Drawn0 w w' := by
  have H : (if (a0.size : Int) ≥ (a1.size : Int) then (if 0 ≤ (a1.size : Int) then (if (a1.size : Int) ≤ (a0.size : Int) then (some ((a0.extract 0 ((a1.size : Int) : Int).toNat).toList == a1.toList)) else (none)) else (none)) else (some false)) = some r := h
  clear h
  by_cases c3 : (a0.size : Int) ≥ (a1.size : Int)
  · rw [if_pos c3] at H
    have c3b0 : decide ((a1.size : Int) ≤ (a0.size : Int)) = true := decide_eq_true c3
    have c3b1 : decide (a1.size ≤ a0.size) = true := decide_eq_true (Int.ofNat_le.mp c3)
    clear c3
    by_cases c4 : 0 ≤ (a1.size : Int)
    · rw [if_pos c4] at H
      have c4b0 := eq_true c4
      have c4b1 : decide (0 ≤ (a1.size : Int)) = true := decide_eq_true c4
      clear c4
      by_cases c5 : (a1.size : Int) ≤ (a0.size : Int)
      · rw [if_pos c5] at H
        have c5b0 := eq_true c5
        have c5b1 : decide ((a1.size : Int) ≤ (a0.size : Int)) = true := decide_eq_true c5
        clear c5
        obtain rfl := Option.some.inj H
        go_enter Tryd.func43, Tryd.ntmps43
        go_wp2
        go_ret
        exact ⟨by first | rfl | (simp; done) | (simp [*]; done), by repeat (first | exact Drawn0.refl _ | apply Drawn0.step)⟩
      · rw [if_neg c5] at H
        exact absurd H (by simp)
    · rw [if_neg c4] at H
      exact absurd H (by simp)
  · rw [if_neg c3] at H
    have c3b0 : decide ((a1.size : Int) ≤ (a0.size : Int)) = false := decide_eq_false c3
    have c3b1 : decide (a1.size ≤ a0.size) = false := decide_eq_false (fun h => c3 (Int.ofNat_le.mpr h))
    clear c3
    obtain rfl := Option.some.inj H
    go_enter Tryd.func43, Tryd.ntmps43
    go_wp2
    go_ret
    exact ⟨by first | rfl | (simp; done) | (simp [*]; done), by repeat (first | exact Drawn0.refl _ | apply Drawn0.step)⟩

/-! ### strings_HasPrefix: function 35 -/
def strings_HasPrefix.f (a0 : ByteArray) (a1 : ByteArray) : Option (Bool) := (stringslite_HasPrefix.f a0 a1).bind fun t104 => (some t104)
set_option maxHeartbeats 8000000 in
set_option maxRecDepth 100000 in
theorem strings_HasPrefix.calls (a0 : ByteArray) (a1 : ByteArray) (r : Bool) (w : World) (h : strings_HasPrefix.f a0 a1 = some r) :
    Calls Tryd.prog 35 #[.string a0, .string a1] w fun e w' => e = .returned (.bool r) ∧ Drawn0 w w' := by
  have H : ((stringslite_HasPrefix.f a0 a1).bind fun t104 => (some t104)) = some r := h
  clear h
  replace H := Option.bind_eq_some_iff.mp H
  obtain ⟨t104, A30, H⟩ := H
  replace H : (some t104) = some r := H
  have A3 := Aside0.mk A30
  clear A30
  obtain rfl := Option.some.inj H
  go_enter Tryd.func35, Tryd.ntmps35
  go_wp2_with (first | ((with_reducible refine gate_callee (f := 43) rfl ?_); refine goesL_ (some 7) rfl rfl Tryd.func43 (by kernel_rfl) rfl #[.string a0, .string a1] rfl (by (try simp only [List.map_toArray, List.map_cons, List.map_nil]); first | done | rfl | (simp only [List.length_drop, List.length_take]; rfl)) ?_; (with_reducible refine (stringslite_HasPrefix.calls a0 a1 t104 _ A3.out).mono ?_); rintro e w' ⟨rfl, ⟨nd, rfl⟩⟩; refine ⟨_, rfl, ?_⟩))
  go_ret
  exact ⟨by first | rfl | (simp; done) | (simp [*]; done), by repeat (first | exact Drawn0.refl _ | apply Drawn0.step)⟩

/-! ### lexer_gap: function 23 -/
def lexer_gap.l0 : Nat → ByteArray → Int → Option (Int)
  | 0, _, _ => none
  | k + 1, x0, x3 => if 0 ≤ x3 then (if x3 ≤ (x0.size : Int) then ((lexer_span.f k (x0.extract (x3 : Int).toNat x0.size) 16).bind fun t105 => (if 0 ≤ (wrap64 (x3 + t105)) then (if (wrap64 (x3 + t105)) ≤ (x0.size : Int) then ((strings_HasPrefix.f (x0.extract ((wrap64 (x3 + t105)) : Int).toNat x0.size) (⟨#[47, 47]⟩ : ByteArray)).bind fun t106 => (if t106 = true then ((strings_IndexByte.f (x0.extract ((wrap64 (x3 + t105)) : Int).toNat x0.size) 10).bind fun t107 => (if t107 < 0 then (some (x0.size : Int)) else (lexer_gap.l0 k x0 (wrap64 ((wrap64 (x3 + t105)) + t107))))) else (some (wrap64 (x3 + t105))))) else (none)) else (none))) else (none)) else (none)
def lexer_gap.f (k : Nat) (a0 : ByteArray) : Option (Int) := lexer_gap.l0 k a0 0
theorem lexer_gap.mono_l : ∀ k, (∀ y0 y1, LeO (lexer_gap.l0 k y0 y1) (lexer_gap.l0 (k + 1) y0 y1))
  | 0 => fun _ _ r h => by simp [lexer_gap.l0] at h
  | k + 1 => by
    have ih0 := lexer_gap.mono_l k
    · intro y0 y1
      unfold lexer_gap.l0
      repeat' first
      | (with_reducible exact ih0 _ _)
      | (with_reducible exact lexer_span.mono _ _ _)
      | (with_reducible exact LeO.refl _)
      | (with_reducible exact LeO.none _)
      | (with_reducible refine LeO.ite ?_ ?_)
      | (with_reducible refine LeO.bind ?_ (fun _ => ?_))
      | exact ih0 _ _
      | exact lexer_span.mono _ _ _
      | exact LeO.none _
      | refine LeO.ite ?_ ?_
      | refine LeO.bind ?_ (fun _ => ?_)
theorem lexer_gap.mono : ∀ a0 k, LeO (lexer_gap.f k a0) (lexer_gap.f (k + 1) a0) := by
  intro a0 k
  have ih0 := lexer_gap.mono_l k
  unfold lexer_gap.f
  repeat' first
      | (with_reducible exact ih0 _ _)
      | (with_reducible exact lexer_span.mono _ _ _)
      | (with_reducible exact LeO.refl _)
      | (with_reducible exact LeO.none _)
      | (with_reducible refine LeO.ite ?_ ?_)
      | (with_reducible refine LeO.bind ?_ (fun _ => ?_))
      | exact ih0 _ _
      | exact lexer_span.mono _ _ _
      | exact LeO.none _
      | refine LeO.ite ?_ ?_
      | refine LeO.bind ?_ (fun _ => ?_)
set_option maxHeartbeats 8000000 in
set_option maxRecDepth 100000 in
theorem lexer_gap.calls (k : Nat) (a0 : ByteArray) (r : Int) (w : World) (h : lexer_gap.f k a0 = some r) :
    Calls Tryd.prog 23 #[.string a0] w fun e w' => e = .returned (.int .i64 r) ∧ Drawn0 w w' := by
  have H : (lexer_gap.l0 k a0 0) = some r := h
  clear h
  have H' := Aside0.mk H
  clear H
  go_enter Tryd.func23, Tryd.ntmps23
  go_wp2
  go_loopg [3] k (fun kq v3 w' => ∃ (x3_1 : Int), v3 = .int .i64 x3_1 ∧ Aside0 (lexer_gap.l0 kq a0 x3_1 = some r) ∧ Aside0 (kq ≤ k) ∧ Drawn0 w w')
  case atStart => exact ⟨(0), (by first | rfl | (simp; done) | (simp [*]; done)), H', ⟨Nat.le_refl _⟩, by repeat (first | exact Drawn0.refl _ | apply Drawn0.step)⟩
  case round =>
    clear H'
    obtain ⟨x3_1, rfl, HA, HK1, ⟨m1, rfl⟩⟩ := hrel
    cases gk with
    | zero => exact absurd HA.out (by simp [lexer_gap.l0])
    | succ k1 =>
      have H := HA.out
      clear HA
      simp only [lexer_gap.l0] at H
      by_cases c2 : 0 ≤ x3_1
      · rw [if_pos c2] at H
        have c2b0 := eq_true c2
        have c2b1 : decide (0 ≤ x3_1) = true := decide_eq_true c2
        clear c2
        by_cases c3 : x3_1 ≤ (a0.size : Int)
        · rw [if_pos c3] at H
          have c3b0 := eq_true c3
          have c3b1 : decide (x3_1 ≤ (a0.size : Int)) = true := decide_eq_true c3
          clear c3
          replace H := Option.bind_eq_some_iff.mp H
          obtain ⟨t105, A40, H⟩ := H
          replace H : (if 0 ≤ (wrap64 (x3_1 + t105)) then (if (wrap64 (x3_1 + t105)) ≤ (a0.size : Int) then ((strings_HasPrefix.f (a0.extract ((wrap64 (x3_1 + t105)) : Int).toNat a0.size) (⟨#[47, 47]⟩ : ByteArray)).bind fun t106 => (if t106 = true then ((strings_IndexByte.f (a0.extract ((wrap64 (x3_1 + t105)) : Int).toNat a0.size) 10).bind fun t107 => (if t107 < 0 then (some (a0.size : Int)) else (lexer_gap.l0 k1 a0 (wrap64 ((wrap64 (x3_1 + t105)) + t107))))) else (some (wrap64 (x3_1 + t105))))) else (none)) else (none)) = some r := H
          have A4 := Aside0.mk A40
          clear A40
          obtain ⟨ji5, hji5⟩ : ∃ j_ : Int, (wrap64 (x3_1 + t105)) = j_ := ⟨_, rfl⟩
          replace H : (if 0 ≤ (ji5) then (if (ji5) ≤ (a0.size : Int) then ((strings_HasPrefix.f (a0.extract ((ji5) : Int).toNat a0.size) (⟨#[47, 47]⟩ : ByteArray)).bind fun t106 => (if t106 = true then ((strings_IndexByte.f (a0.extract ((ji5) : Int).toNat a0.size) 10).bind fun t107 => (if t107 < 0 then (some (a0.size : Int)) else (lexer_gap.l0 k1 a0 (wrap64 ((ji5) + t107))))) else (some ji5))) else (none)) else (none)) = some r := by first | (rw [hji5] at H; exact H) | (simp only [hji5] at H ⊢; exact H)
          (try rw [hji5] at A4)
          have hji5w : (IntKind.i64.wrap (x3_1 + t105)) = ji5 := (i64_w _).trans hji5
          by_cases c6 : 0 ≤ (ji5)
          · rw [if_pos c6] at H
            have c6b0 := eq_true c6
            have c6b1 : decide (0 ≤ (ji5)) = true := decide_eq_true c6
            clear c6
            by_cases c7 : (ji5) ≤ (a0.size : Int)
            · rw [if_pos c7] at H
              have c7b0 := eq_true c7
              have c7b1 : decide ((ji5) ≤ (a0.size : Int)) = true := decide_eq_true c7
              clear c7
              replace H := Option.bind_eq_some_iff.mp H
              obtain ⟨t106, A80, H⟩ := H
              replace H : (if t106 = true then ((strings_IndexByte.f (a0.extract ((ji5) : Int).toNat a0.size) 10).bind fun t107 => (if t107 < 0 then (some (a0.size : Int)) else (lexer_gap.l0 k1 a0 (wrap64 ((ji5) + t107))))) else (some ji5)) = some r := H
              have A8 := Aside0.mk A80
              clear A80
              by_cases c9 : t106 = true
              · subst c9
                have H1 : ((strings_IndexByte.f (a0.extract ((ji5) : Int).toNat a0.size) 10).bind fun t107 => (if t107 < 0 then (some (a0.size : Int)) else (lexer_gap.l0 k1 a0 (wrap64 ((ji5) + t107))))) = some r := by rw [if_pos rfl] at H; exact H
                clear H
                have H := H1
                clear H1
                have c10b0 := eq_true (of_decide_eq_true (by first | (with_reducible assumption) | assumption) : 0 ≤ (ji5))
                have c11b0 := eq_true (of_decide_eq_true (by first | (with_reducible assumption) | assumption) : (ji5) ≤ (a0.size : Int))
                replace H := Option.bind_eq_some_iff.mp H
                obtain ⟨t107, A120, H⟩ := H
                replace H : (if t107 < 0 then (some (a0.size : Int)) else (lexer_gap.l0 k1 a0 (wrap64 ((ji5) + t107)))) = some r := H
                have A12 := Aside0.mk A120
                clear A120
                by_cases c13 : t107 < 0
                · rw [if_pos c13] at H
                  have c13b0 : decide (t107 < 0) = true := decide_eq_true c13
                  clear c13
                  obtain rfl := Option.some.inj H
                  go_wp2_with (first | ((with_reducible refine gate_callee (f := 34) rfl ?_); refine goesL_ (some 9) rfl rfl Tryd.func34 (by kernel_rfl) rfl #[.string (a0.extract (x3_1 : Int).toNat a0.size), .int .i64 16] rfl (by (try simp only [List.map_toArray, List.map_cons, List.map_nil]); first | done | rfl | (simp only [List.length_drop, List.length_take]; rfl)) ?_; (with_reducible refine (lexer_span.calls k1 (a0.extract (x3_1 : Int).toNat a0.size) 16 t105 _ A4.out).mono ?_); rintro e w' ⟨rfl, ⟨nd, rfl⟩⟩; refine ⟨_, rfl, ?_⟩) | ((with_reducible refine gate_callee (f := 35) rfl ?_); refine goesL_ (some 14) rfl rfl Tryd.func35 (by kernel_rfl) rfl #[.string (a0.extract ((ji5) : Int).toNat a0.size), .string (⟨#[47, 47]⟩ : ByteArray)] rfl (by (try simp only [List.map_toArray, List.map_cons, List.map_nil]); first | done | (simp only [hji5]; rfl) | rfl | (simp only [List.length_drop, List.length_take]; rfl)) ?_; (with_reducible refine (strings_HasPrefix.calls (a0.extract ((ji5) : Int).toNat a0.size) (⟨#[47, 47]⟩ : ByteArray) true _ A8.out).mono ?_); rintro e w' ⟨rfl, ⟨nd, rfl⟩⟩; refine ⟨_, rfl, ?_⟩) | ((with_reducible refine gate_callee (f := 36) rfl ?_); refine goesL_ (some 20) rfl rfl Tryd.func36 (by kernel_rfl) rfl #[.string (a0.extract ((ji5) : Int).toNat a0.size), .int .u8 10] rfl (by (try simp only [List.map_toArray, List.map_cons, List.map_nil]); first | done | (simp only [hji5]; rfl) | rfl | (simp only [List.length_drop, List.length_take]; rfl)) ?_; (with_reducible refine (strings_IndexByte.calls (a0.extract ((ji5) : Int).toNat a0.size) 10 t107 _ A12.out).mono ?_); rintro e w' ⟨rfl, ⟨nd, rfl⟩⟩; refine ⟨_, rfl, ?_⟩))
                  go_ret
                  exact ⟨by first | rfl | (simp; done) | (simp only [← hji5] <;> (first | rfl | simp)) | (simp [*]; done), by repeat (first | exact Drawn0.refl _ | apply Drawn0.step)⟩
                · rw [if_neg c13] at H
                  have c13b0 : decide (t107 < 0) = false := decide_eq_false c13
                  clear c13
                  have H' := Aside0.mk H
                  clear H
                  go_wp2_with (first | ((with_reducible refine gate_callee (f := 34) rfl ?_); refine goesL_ (some 9) rfl rfl Tryd.func34 (by kernel_rfl) rfl #[.string (a0.extract (x3_1 : Int).toNat a0.size), .int .i64 16] rfl (by (try simp only [List.map_toArray, List.map_cons, List.map_nil]); first | done | rfl | (simp only [List.length_drop, List.length_take]; rfl)) ?_; (with_reducible refine (lexer_span.calls k1 (a0.extract (x3_1 : Int).toNat a0.size) 16 t105 _ A4.out).mono ?_); rintro e w' ⟨rfl, ⟨nd, rfl⟩⟩; refine ⟨_, rfl, ?_⟩) | ((with_reducible refine gate_callee (f := 35) rfl ?_); refine goesL_ (some 14) rfl rfl Tryd.func35 (by kernel_rfl) rfl #[.string (a0.extract ((ji5) : Int).toNat a0.size), .string (⟨#[47, 47]⟩ : ByteArray)] rfl (by (try simp only [List.map_toArray, List.map_cons, List.map_nil]); first | done | (simp only [hji5]; rfl) | rfl | (simp only [List.length_drop, List.length_take]; rfl)) ?_; (with_reducible refine (strings_HasPrefix.calls (a0.extract ((ji5) : Int).toNat a0.size) (⟨#[47, 47]⟩ : ByteArray) true _ A8.out).mono ?_); rintro e w' ⟨rfl, ⟨nd, rfl⟩⟩; refine ⟨_, rfl, ?_⟩) | ((with_reducible refine gate_callee (f := 36) rfl ?_); refine goesL_ (some 20) rfl rfl Tryd.func36 (by kernel_rfl) rfl #[.string (a0.extract ((ji5) : Int).toNat a0.size), .int .u8 10] rfl (by (try simp only [List.map_toArray, List.map_cons, List.map_nil]); first | done | (simp only [hji5]; rfl) | rfl | (simp only [List.length_drop, List.length_take]; rfl)) ?_; (with_reducible refine (strings_IndexByte.calls (a0.extract ((ji5) : Int).toNat a0.size) 10 t107 _ A12.out).mono ?_); rintro e w' ⟨rfl, ⟨nd, rfl⟩⟩; refine ⟨_, rfl, ?_⟩))
                  go_roundg k1
                  case measure => have := HK1.out; omega
                  case rel => exact ⟨(wrap64 ((ji5) + t107)), (by first | rfl | (simp; done) | (simp only [← hji5] <;> (first | rfl | simp)) | (simp [*]; done)), H', ⟨by have := HK1.out; omega⟩, by repeat (first | exact Drawn0.refl _ | apply Drawn0.step)⟩
              · replace c9 := Bool.eq_false_iff.mpr c9
                subst c9
                have H1 : (some ji5) = some r := by rw [if_neg (show ¬ (false = true) by decide)] at H; exact H
                clear H
                have H := H1
                clear H1
                obtain rfl := Option.some.inj H
                go_wp2_with (first | ((with_reducible refine gate_callee (f := 34) rfl ?_); refine goesL_ (some 9) rfl rfl Tryd.func34 (by kernel_rfl) rfl #[.string (a0.extract (x3_1 : Int).toNat a0.size), .int .i64 16] rfl (by (try simp only [List.map_toArray, List.map_cons, List.map_nil]); first | done | rfl | (simp only [List.length_drop, List.length_take]; rfl)) ?_; (with_reducible refine (lexer_span.calls k1 (a0.extract (x3_1 : Int).toNat a0.size) 16 t105 _ A4.out).mono ?_); rintro e w' ⟨rfl, ⟨nd, rfl⟩⟩; refine ⟨_, rfl, ?_⟩) | ((with_reducible refine gate_callee (f := 35) rfl ?_); refine goesL_ (some 14) rfl rfl Tryd.func35 (by kernel_rfl) rfl #[.string (a0.extract ((ji5) : Int).toNat a0.size), .string (⟨#[47, 47]⟩ : ByteArray)] rfl (by (try simp only [List.map_toArray, List.map_cons, List.map_nil]); first | done | (simp only [hji5]; rfl) | rfl | (simp only [List.length_drop, List.length_take]; rfl)) ?_; (with_reducible refine (strings_HasPrefix.calls (a0.extract ((ji5) : Int).toNat a0.size) (⟨#[47, 47]⟩ : ByteArray) false _ A8.out).mono ?_); rintro e w' ⟨rfl, ⟨nd, rfl⟩⟩; refine ⟨_, rfl, ?_⟩))
                go_ret
                exact ⟨by first | rfl | (simp; done) | (simp only [← hji5] <;> (first | rfl | simp)) | (simp [*]; done), by repeat (first | exact Drawn0.refl _ | apply Drawn0.step)⟩
            · rw [if_neg c7] at H
              exact absurd H (by simp)
          · rw [if_neg c6] at H
            exact absurd H (by simp)
        · rw [if_neg c3] at H
          exact absurd H (by simp)
      · rw [if_neg c2] at H
        exact absurd H (by simp)

/-! ### lexer_isDate: function 45 -/
def lexer_isDate.l0 : Nat → ByteArray → Int → Option (Bool)
  | 0, _, _ => none
  | k + 1, x0, x7 => if x7 < 10 then (if 0 ≤ x7 then (if x7 < (x0.size : Int) then ((lexer_class.f k (bt x0 x7)).bind fun t108 => (if (((bt (⟨#[100, 100, 100, 100, 45, 100, 100, 45, 100, 100]⟩ : ByteArray) x7) == 100) != (t108 == 4)) = true then (some false) else (if (bt (⟨#[100, 100, 100, 100, 45, 100, 100, 45, 100, 100]⟩ : ByteArray) x7) = 45 then (if (bt x0 x7) = 45 then (lexer_isDate.l0 k x0 (wrap64 (x7 + 1))) else (some false)) else (lexer_isDate.l0 k x0 (wrap64 (x7 + 1)))))) else (none)) else (none)) else (some true)
def lexer_isDate.f (k : Nat) (a0 : ByteArray) : Option (Bool) := if (a0.size : Int) < 10 then (some false) else (lexer_isDate.l0 k a0 0)
theorem lexer_isDate.mono_l : ∀ k, (∀ y0 y1, LeO (lexer_isDate.l0 k y0 y1) (lexer_isDate.l0 (k + 1) y0 y1))
  | 0 => fun _ _ r h => by simp [lexer_isDate.l0] at h
  | k + 1 => by
    have ih0 := lexer_isDate.mono_l k
    · intro y0 y1
      unfold lexer_isDate.l0
      repeat' first
      | (with_reducible exact ih0 _ _)
      | (with_reducible exact lexer_class.mono _ _)
      | (with_reducible exact LeO.refl _)
      | (with_reducible exact LeO.none _)
      | (with_reducible refine LeO.ite ?_ ?_)
      | (with_reducible refine LeO.bind ?_ (fun _ => ?_))
      | exact ih0 _ _
      | exact lexer_class.mono _ _
      | exact LeO.none _
      | refine LeO.ite ?_ ?_
      | refine LeO.bind ?_ (fun _ => ?_)
theorem lexer_isDate.mono : ∀ a0 k, LeO (lexer_isDate.f k a0) (lexer_isDate.f (k + 1) a0) := by
  intro a0 k
  have ih0 := lexer_isDate.mono_l k
  unfold lexer_isDate.f
  repeat' first
      | (with_reducible exact ih0 _ _)
      | (with_reducible exact lexer_class.mono _ _)
      | (with_reducible exact LeO.refl _)
      | (with_reducible exact LeO.none _)
      | (with_reducible refine LeO.ite ?_ ?_)
      | (with_reducible refine LeO.bind ?_ (fun _ => ?_))
      | exact ih0 _ _
      | exact lexer_class.mono _ _
      | exact LeO.none _
      | refine LeO.ite ?_ ?_
      | refine LeO.bind ?_ (fun _ => ?_)
set_option maxHeartbeats 8000000 in
set_option maxRecDepth 100000 in
theorem lexer_isDate.calls (k : Nat) (a0 : ByteArray) (r : Bool) (w : World) (h : lexer_isDate.f k a0 = some r) :
    Calls Tryd.prog 45 #[.string a0] w fun e w' => e = .returned (.bool r) ∧ Drawn0 w w' := by
  have H : (if (a0.size : Int) < 10 then (some false) else (lexer_isDate.l0 k a0 0)) = some r := h
  clear h
  by_cases c2 : (a0.size : Int) < 10
  · rw [if_pos c2] at H
    have c2b0 : decide ((a0.size : Int) < 10) = true := decide_eq_true c2
    have c2b1 : decide (a0.size < 10) = true := decide_eq_true (by omega)
    clear c2
    obtain rfl := Option.some.inj H
    go_enter Tryd.func45, Tryd.ntmps45
    go_wp2
    repeat (go_quiet (fail); try go_wp2)
    go_ret
    exact ⟨by first | rfl | (simp; done) | (simp [*]; done), by repeat (first | exact Drawn0.refl _ | apply Drawn0.step)⟩
  · rw [if_neg c2] at H
    have c2b0 : decide ((a0.size : Int) < 10) = false := decide_eq_false c2
    have c2b1 : decide (a0.size < 10) = false := decide_eq_false (by omega)
    clear c2
    have H' := Aside0.mk H
    clear H
    go_enter Tryd.func45, Tryd.ntmps45
    go_wp2
    repeat (go_quiet (fail); try go_wp2)
    go_loopg [7] k (fun kq v7 w' => ∃ (x7_1 : Int), v7 = .int .i64 x7_1 ∧ Aside0 (lexer_isDate.l0 kq a0 x7_1 = some r) ∧ Aside0 (kq ≤ k) ∧ Drawn0 w w')
    case atStart => exact ⟨(0), (by first | rfl | (simp; done) | (simp [*]; done)), H', ⟨Nat.le_refl _⟩, by repeat (first | exact Drawn0.refl _ | apply Drawn0.step)⟩
    case round =>
      clear H'
      try clear c2
      try clear c2b0
      try clear c2b1
      try clear p2
      obtain ⟨x7_1, rfl, HA, HK1, ⟨m1, rfl⟩⟩ := hrel
      cases gk with
      | zero => exact absurd HA.out (by simp [lexer_isDate.l0])
      | succ k1 =>
        have H := HA.out
        clear HA
        simp only [lexer_isDate.l0] at H
        by_cases c3 : x7_1 < 10
        · rw [if_pos c3] at H
          have c3b0 : decide (x7_1 < 10) = true := decide_eq_true c3
          clear c3
          by_cases c4 : 0 ≤ x7_1
          · rw [if_pos c4] at H
            have c4b0 : decide (0 ≤ x7_1) = true := decide_eq_true c4
            clear c4
            by_cases c6 : x7_1 < (a0.size : Int)
            · rw [if_pos c6] at H
              have c6b0 : decide (x7_1 < (a0.size : Int)) = true := decide_eq_true c6
              clear c6
              replace H := Option.bind_eq_some_iff.mp H
              obtain ⟨t108, A80, H⟩ := H
              replace H : (if (((bt (⟨#[100, 100, 100, 100, 45, 100, 100, 45, 100, 100]⟩ : ByteArray) x7_1) == 100) != (t108 == 4)) = true then (some false) else (if (bt (⟨#[100, 100, 100, 100, 45, 100, 100, 45, 100, 100]⟩ : ByteArray) x7_1) = 45 then (if (bt a0 x7_1) = 45 then (lexer_isDate.l0 k1 a0 (wrap64 (x7_1 + 1))) else (some false)) else (lexer_isDate.l0 k1 a0 (wrap64 (x7_1 + 1))))) = some r := H
              have A8 := Aside0.mk A80
              clear A80
              by_cases c9 : (((bt (⟨#[100, 100, 100, 100, 45, 100, 100, 45, 100, 100]⟩ : ByteArray) x7_1) == 100) != (t108 == 4)) = true
              · rw [if_pos c9] at H
                have c9b0 : (((bt (⟨#[100, 100, 100, 100, 45, 100, 100, 45, 100, 100]⟩ : ByteArray) x7_1) == 100) != (t108 == 4)) = true := c9
                (try (have c9b1 : decide (((bt (⟨#[100, 100, 100, 100, 45, 100, 100, 45, 100, 100]⟩ : ByteArray) x7_1) == 100) = (t108 == 4)) = false := by simpa using c9))
                (try (have c9b2 : (((bt (⟨#[100, 100, 100, 100, 45, 100, 100, 45, 100, 100]⟩ : ByteArray) x7_1) == 100) == (t108 == 4)) = false := by simpa using c9))
                (try (have c9b3 : ¬ (((bt (⟨#[100, 100, 100, 100, 45, 100, 100, 45, 100, 100]⟩ : ByteArray) x7_1) == 100) = (t108 == 4)) := by simpa using c9))
                clear c9
                obtain rfl := Option.some.inj H
                have p5 : 0 ≤ (x7_1 : Int) := of_decide_eq_true (by first | (with_reducible assumption) | assumption)
                have q5 : x7_1 < (10 : Int) := of_decide_eq_true (by first | (with_reducible assumption) | assumption)
                have hx5 := bt_at (⟨#[100, 100, 100, 100, 45, 100, 100, 45, 100, 100]⟩ : ByteArray) x7_1
                replace p5 := eq_true p5
                replace q5 := eq_true q5
                have p7 : 0 ≤ (x7_1 : Int) := of_decide_eq_true (by first | (with_reducible assumption) | assumption)
                have q7 : x7_1 < (a0.size : Int) := of_decide_eq_true (by first | (with_reducible assumption) | assumption)
                have hx7 := bt_at a0 x7_1
                replace p7 := eq_true p7
                replace q7 := eq_true q7
                go_wp2_with (first | (go_at_call 37; (with_reducible refine (lexer_class.calls k1 (bt a0 x7_1) t108 _ A8.out).mono ?_); rintro e w' ⟨rfl, ⟨nd, rfl⟩⟩; (try first | exact ⟨rfl, _, World.drewN_drewN _ _ _⟩ | exact ⟨rfl, _, Eq.trans (World.drewN_drewN _ _ _) (congrArg (World.drewN _) (Nat.add_assoc _ _ _))⟩)))
                repeat (go_quiet (first | (go_at_call 37; (with_reducible refine (lexer_class.calls k1 (bt a0 x7_1) t108 _ A8.out).mono ?_); rintro e w' ⟨rfl, ⟨nd, rfl⟩⟩; (try first | exact ⟨rfl, _, World.drewN_drewN _ _ _⟩ | exact ⟨rfl, _, Eq.trans (World.drewN_drewN _ _ _) (congrArg (World.drewN _) (Nat.add_assoc _ _ _))⟩))); try go_wp2_with (first | (go_at_call 37; (with_reducible refine (lexer_class.calls k1 (bt a0 x7_1) t108 _ A8.out).mono ?_); rintro e w' ⟨rfl, ⟨nd, rfl⟩⟩; (try first | exact ⟨rfl, _, World.drewN_drewN _ _ _⟩ | exact ⟨rfl, _, Eq.trans (World.drewN_drewN _ _ _) (congrArg (World.drewN _) (Nat.add_assoc _ _ _))⟩))))
                go_ret
                exact ⟨by first | rfl | (simp; done) | (simp [*]; done), by repeat (first | exact Drawn0.refl _ | apply Drawn0.step)⟩
              · rw [if_neg c9] at H
                have c9b0 : (((bt (⟨#[100, 100, 100, 100, 45, 100, 100, 45, 100, 100]⟩ : ByteArray) x7_1) == 100) != (t108 == 4)) = false := by simpa using c9
                (try (have c9b1 : decide (((bt (⟨#[100, 100, 100, 100, 45, 100, 100, 45, 100, 100]⟩ : ByteArray) x7_1) == 100) = (t108 == 4)) = true := by simpa using c9))
                (try (have c9b2 : (((bt (⟨#[100, 100, 100, 100, 45, 100, 100, 45, 100, 100]⟩ : ByteArray) x7_1) == 100) == (t108 == 4)) = true := by simpa using c9))
                clear c9
                by_cases c11 : (bt (⟨#[100, 100, 100, 100, 45, 100, 100, 45, 100, 100]⟩ : ByteArray) x7_1) = 45
                · rw [if_pos c11] at H
                  have c11b0 : ((bt (⟨#[100, 100, 100, 100, 45, 100, 100, 45, 100, 100]⟩ : ByteArray) x7_1) == 45) = true := beq_iff_eq.mpr c11
                  have c11b1 : ((bt (⟨#[100, 100, 100, 100, 45, 100, 100, 45, 100, 100]⟩ : ByteArray) x7_1) != 45) = false := bne_eq_false_iff_eq.mpr c11
                  clear c11
                  by_cases c13 : (bt a0 x7_1) = 45
                  · rw [if_pos c13] at H
                    have c13b0 : ((bt a0 x7_1) == 45) = true := beq_iff_eq.mpr c13
                    have c13b1 : ((bt a0 x7_1) != 45) = false := bne_eq_false_iff_eq.mpr c13
                    clear c13
                    have H' := Aside0.mk H
                    clear H
                    have p5 : 0 ≤ (x7_1 : Int) := of_decide_eq_true (by first | (with_reducible assumption) | assumption)
                    have q5 : x7_1 < (10 : Int) := of_decide_eq_true (by first | (with_reducible assumption) | assumption)
                    have hx5 := bt_at (⟨#[100, 100, 100, 100, 45, 100, 100, 45, 100, 100]⟩ : ByteArray) x7_1
                    replace p5 := eq_true p5
                    replace q5 := eq_true q5
                    have p7 : 0 ≤ (x7_1 : Int) := of_decide_eq_true (by first | (with_reducible assumption) | assumption)
                    have q7 : x7_1 < (a0.size : Int) := of_decide_eq_true (by first | (with_reducible assumption) | assumption)
                    have hx7 := bt_at a0 x7_1
                    replace p7 := eq_true p7
                    replace q7 := eq_true q7
                    go_wp2_with (first | (go_at_call 37; (with_reducible refine (lexer_class.calls k1 (bt a0 x7_1) t108 _ A8.out).mono ?_); rintro e w' ⟨rfl, ⟨nd, rfl⟩⟩; (try first | exact ⟨rfl, _, World.drewN_drewN _ _ _⟩ | exact ⟨rfl, _, Eq.trans (World.drewN_drewN _ _ _) (congrArg (World.drewN _) (Nat.add_assoc _ _ _))⟩); have p10 : 0 ≤ (x7_1 : Int) := of_decide_eq_true (by first | (with_reducible assumption) | assumption); have q10 : x7_1 < (10 : Int) := of_decide_eq_true (by first | (with_reducible assumption) | assumption); have hx10 := bt_at (⟨#[100, 100, 100, 100, 45, 100, 100, 45, 100, 100]⟩ : ByteArray) x7_1; replace p10 := eq_true p10; replace q10 := eq_true q10; have p12 : 0 ≤ (x7_1 : Int) := of_decide_eq_true (by first | (with_reducible assumption) | assumption); have q12 : x7_1 < (a0.size : Int) := of_decide_eq_true (by first | (with_reducible assumption) | assumption); have hx12 := bt_at a0 x7_1; replace p12 := eq_true p12; replace q12 := eq_true q12))
                    repeat (go_quiet (first | (go_at_call 37; (with_reducible refine (lexer_class.calls k1 (bt a0 x7_1) t108 _ A8.out).mono ?_); rintro e w' ⟨rfl, ⟨nd, rfl⟩⟩; (try first | exact ⟨rfl, _, World.drewN_drewN _ _ _⟩ | exact ⟨rfl, _, Eq.trans (World.drewN_drewN _ _ _) (congrArg (World.drewN _) (Nat.add_assoc _ _ _))⟩); have p10 : 0 ≤ (x7_1 : Int) := of_decide_eq_true (by first | (with_reducible assumption) | assumption); have q10 : x7_1 < (10 : Int) := of_decide_eq_true (by first | (with_reducible assumption) | assumption); have hx10 := bt_at (⟨#[100, 100, 100, 100, 45, 100, 100, 45, 100, 100]⟩ : ByteArray) x7_1; replace p10 := eq_true p10; replace q10 := eq_true q10; have p12 : 0 ≤ (x7_1 : Int) := of_decide_eq_true (by first | (with_reducible assumption) | assumption); have q12 : x7_1 < (a0.size : Int) := of_decide_eq_true (by first | (with_reducible assumption) | assumption); have hx12 := bt_at a0 x7_1; replace p12 := eq_true p12; replace q12 := eq_true q12)); try go_wp2_with (first | (go_at_call 37; (with_reducible refine (lexer_class.calls k1 (bt a0 x7_1) t108 _ A8.out).mono ?_); rintro e w' ⟨rfl, ⟨nd, rfl⟩⟩; (try first | exact ⟨rfl, _, World.drewN_drewN _ _ _⟩ | exact ⟨rfl, _, Eq.trans (World.drewN_drewN _ _ _) (congrArg (World.drewN _) (Nat.add_assoc _ _ _))⟩); have p10 : 0 ≤ (x7_1 : Int) := of_decide_eq_true (by first | (with_reducible assumption) | assumption); have q10 : x7_1 < (10 : Int) := of_decide_eq_true (by first | (with_reducible assumption) | assumption); have hx10 := bt_at (⟨#[100, 100, 100, 100, 45, 100, 100, 45, 100, 100]⟩ : ByteArray) x7_1; replace p10 := eq_true p10; replace q10 := eq_true q10; have p12 : 0 ≤ (x7_1 : Int) := of_decide_eq_true (by first | (with_reducible assumption) | assumption); have q12 : x7_1 < (a0.size : Int) := of_decide_eq_true (by first | (with_reducible assumption) | assumption); have hx12 := bt_at a0 x7_1; replace p12 := eq_true p12; replace q12 := eq_true q12)))
                    go_roundg k1
                    case measure => have := HK1.out; omega
                    case rel => exact ⟨(wrap64 (x7_1 + 1)), (by first | rfl | (simp; done) | (simp [*]; done)), H', ⟨by have := HK1.out; omega⟩, by repeat (first | exact Drawn0.refl _ | apply Drawn0.step)⟩
                  · rw [if_neg c13] at H
                    have c13b0 : ((bt a0 x7_1) == 45) = false := beq_eq_false_iff_ne.mpr c13
                    have c13b1 : ((bt a0 x7_1) != 45) = true := bne_iff_ne.mpr c13
                    obtain rfl := Option.some.inj H
                    have p5 : 0 ≤ (x7_1 : Int) := of_decide_eq_true (by first | (with_reducible assumption) | assumption)
                    have q5 : x7_1 < (10 : Int) := of_decide_eq_true (by first | (with_reducible assumption) | assumption)
                    have hx5 := bt_at (⟨#[100, 100, 100, 100, 45, 100, 100, 45, 100, 100]⟩ : ByteArray) x7_1
                    replace p5 := eq_true p5
                    replace q5 := eq_true q5
                    have p7 : 0 ≤ (x7_1 : Int) := of_decide_eq_true (by first | (with_reducible assumption) | assumption)
                    have q7 : x7_1 < (a0.size : Int) := of_decide_eq_true (by first | (with_reducible assumption) | assumption)
                    have hx7 := bt_at a0 x7_1
                    replace p7 := eq_true p7
                    replace q7 := eq_true q7
                    go_wp2_with (first | (go_at_call 37; (with_reducible refine (lexer_class.calls k1 (bt a0 x7_1) t108 _ A8.out).mono ?_); rintro e w' ⟨rfl, ⟨nd, rfl⟩⟩; (try first | exact ⟨rfl, _, World.drewN_drewN _ _ _⟩ | exact ⟨rfl, _, Eq.trans (World.drewN_drewN _ _ _) (congrArg (World.drewN _) (Nat.add_assoc _ _ _))⟩); have p10 : 0 ≤ (x7_1 : Int) := of_decide_eq_true (by first | (with_reducible assumption) | assumption); have q10 : x7_1 < (10 : Int) := of_decide_eq_true (by first | (with_reducible assumption) | assumption); have hx10 := bt_at (⟨#[100, 100, 100, 100, 45, 100, 100, 45, 100, 100]⟩ : ByteArray) x7_1; replace p10 := eq_true p10; replace q10 := eq_true q10; have p12 : 0 ≤ (x7_1 : Int) := of_decide_eq_true (by first | (with_reducible assumption) | assumption); have q12 : x7_1 < (a0.size : Int) := of_decide_eq_true (by first | (with_reducible assumption) | assumption); have hx12 := bt_at a0 x7_1; replace p12 := eq_true p12; replace q12 := eq_true q12))
                    repeat (go_quiet (first | (go_at_call 37; (with_reducible refine (lexer_class.calls k1 (bt a0 x7_1) t108 _ A8.out).mono ?_); rintro e w' ⟨rfl, ⟨nd, rfl⟩⟩; (try first | exact ⟨rfl, _, World.drewN_drewN _ _ _⟩ | exact ⟨rfl, _, Eq.trans (World.drewN_drewN _ _ _) (congrArg (World.drewN _) (Nat.add_assoc _ _ _))⟩); have p10 : 0 ≤ (x7_1 : Int) := of_decide_eq_true (by first | (with_reducible assumption) | assumption); have q10 : x7_1 < (10 : Int) := of_decide_eq_true (by first | (with_reducible assumption) | assumption); have hx10 := bt_at (⟨#[100, 100, 100, 100, 45, 100, 100, 45, 100, 100]⟩ : ByteArray) x7_1; replace p10 := eq_true p10; replace q10 := eq_true q10; have p12 : 0 ≤ (x7_1 : Int) := of_decide_eq_true (by first | (with_reducible assumption) | assumption); have q12 : x7_1 < (a0.size : Int) := of_decide_eq_true (by first | (with_reducible assumption) | assumption); have hx12 := bt_at a0 x7_1; replace p12 := eq_true p12; replace q12 := eq_true q12)); try go_wp2_with (first | (go_at_call 37; (with_reducible refine (lexer_class.calls k1 (bt a0 x7_1) t108 _ A8.out).mono ?_); rintro e w' ⟨rfl, ⟨nd, rfl⟩⟩; (try first | exact ⟨rfl, _, World.drewN_drewN _ _ _⟩ | exact ⟨rfl, _, Eq.trans (World.drewN_drewN _ _ _) (congrArg (World.drewN _) (Nat.add_assoc _ _ _))⟩); have p10 : 0 ≤ (x7_1 : Int) := of_decide_eq_true (by first | (with_reducible assumption) | assumption); have q10 : x7_1 < (10 : Int) := of_decide_eq_true (by first | (with_reducible assumption) | assumption); have hx10 := bt_at (⟨#[100, 100, 100, 100, 45, 100, 100, 45, 100, 100]⟩ : ByteArray) x7_1; replace p10 := eq_true p10; replace q10 := eq_true q10; have p12 : 0 ≤ (x7_1 : Int) := of_decide_eq_true (by first | (with_reducible assumption) | assumption); have q12 : x7_1 < (a0.size : Int) := of_decide_eq_true (by first | (with_reducible assumption) | assumption); have hx12 := bt_at a0 x7_1; replace p12 := eq_true p12; replace q12 := eq_true q12)))
                    go_ret
                    exact ⟨by first | rfl | (simp; done) | (simp [*]; done), by repeat (first | exact Drawn0.refl _ | apply Drawn0.step)⟩
                · rw [if_neg c11] at H
                  have c11b0 : ((bt (⟨#[100, 100, 100, 100, 45, 100, 100, 45, 100, 100]⟩ : ByteArray) x7_1) == 45) = false := beq_eq_false_iff_ne.mpr c11
                  have c11b1 : ((bt (⟨#[100, 100, 100, 100, 45, 100, 100, 45, 100, 100]⟩ : ByteArray) x7_1) != 45) = true := bne_iff_ne.mpr c11
                  have H' := Aside0.mk H
                  clear H
                  have p5 : 0 ≤ (x7_1 : Int) := of_decide_eq_true (by first | (with_reducible assumption) | assumption)
                  have q5 : x7_1 < (10 : Int) := of_decide_eq_true (by first | (with_reducible assumption) | assumption)
                  have hx5 := bt_at (⟨#[100, 100, 100, 100, 45, 100, 100, 45, 100, 100]⟩ : ByteArray) x7_1
                  replace p5 := eq_true p5
                  replace q5 := eq_true q5
                  have p7 : 0 ≤ (x7_1 : Int) := of_decide_eq_true (by first | (with_reducible assumption) | assumption)
                  have q7 : x7_1 < (a0.size : Int) := of_decide_eq_true (by first | (with_reducible assumption) | assumption)
                  have hx7 := bt_at a0 x7_1
                  replace p7 := eq_true p7
                  replace q7 := eq_true q7
                  go_wp2_with (first | (go_at_call 37; (with_reducible refine (lexer_class.calls k1 (bt a0 x7_1) t108 _ A8.out).mono ?_); rintro e w' ⟨rfl, ⟨nd, rfl⟩⟩; (try first | exact ⟨rfl, _, World.drewN_drewN _ _ _⟩ | exact ⟨rfl, _, Eq.trans (World.drewN_drewN _ _ _) (congrArg (World.drewN _) (Nat.add_assoc _ _ _))⟩); have p10 : 0 ≤ (x7_1 : Int) := of_decide_eq_true (by first | (with_reducible assumption) | assumption); have q10 : x7_1 < (10 : Int) := of_decide_eq_true (by first | (with_reducible assumption) | assumption); have hx10 := bt_at (⟨#[100, 100, 100, 100, 45, 100, 100, 45, 100, 100]⟩ : ByteArray) x7_1; replace p10 := eq_true p10; replace q10 := eq_true q10))
                  repeat (go_quiet (first | (go_at_call 37; (with_reducible refine (lexer_class.calls k1 (bt a0 x7_1) t108 _ A8.out).mono ?_); rintro e w' ⟨rfl, ⟨nd, rfl⟩⟩; (try first | exact ⟨rfl, _, World.drewN_drewN _ _ _⟩ | exact ⟨rfl, _, Eq.trans (World.drewN_drewN _ _ _) (congrArg (World.drewN _) (Nat.add_assoc _ _ _))⟩); have p10 : 0 ≤ (x7_1 : Int) := of_decide_eq_true (by first | (with_reducible assumption) | assumption); have q10 : x7_1 < (10 : Int) := of_decide_eq_true (by first | (with_reducible assumption) | assumption); have hx10 := bt_at (⟨#[100, 100, 100, 100, 45, 100, 100, 45, 100, 100]⟩ : ByteArray) x7_1; replace p10 := eq_true p10; replace q10 := eq_true q10)); try go_wp2_with (first | (go_at_call 37; (with_reducible refine (lexer_class.calls k1 (bt a0 x7_1) t108 _ A8.out).mono ?_); rintro e w' ⟨rfl, ⟨nd, rfl⟩⟩; (try first | exact ⟨rfl, _, World.drewN_drewN _ _ _⟩ | exact ⟨rfl, _, Eq.trans (World.drewN_drewN _ _ _) (congrArg (World.drewN _) (Nat.add_assoc _ _ _))⟩); have p10 : 0 ≤ (x7_1 : Int) := of_decide_eq_true (by first | (with_reducible assumption) | assumption); have q10 : x7_1 < (10 : Int) := of_decide_eq_true (by first | (with_reducible assumption) | assumption); have hx10 := bt_at (⟨#[100, 100, 100, 100, 45, 100, 100, 45, 100, 100]⟩ : ByteArray) x7_1; replace p10 := eq_true p10; replace q10 := eq_true q10)))
                  go_roundg k1
                  case measure => have := HK1.out; omega
                  case rel => exact ⟨(wrap64 (x7_1 + 1)), (by first | rfl | (simp; done) | (simp [*]; done)), H', ⟨by have := HK1.out; omega⟩, by repeat (first | exact Drawn0.refl _ | apply Drawn0.step)⟩
            · rw [if_neg c6] at H
              exact absurd H (by simp)
          · rw [if_neg c4] at H
            exact absurd H (by simp)
        · rw [if_neg c3] at H
          have c3b0 : decide (x7_1 < 10) = false := decide_eq_false c3
          clear c3
          obtain rfl := Option.some.inj H
          go_wp2
          repeat (go_quiet (fail); try go_wp2)
          go_ret
          exact ⟨by first | rfl | (simp; done) | (simp [*]; done), by repeat (first | exact Drawn0.refl _ | apply Drawn0.step)⟩

end Go.Proofs.YticmjkjojhcdpaaDoor.PAll

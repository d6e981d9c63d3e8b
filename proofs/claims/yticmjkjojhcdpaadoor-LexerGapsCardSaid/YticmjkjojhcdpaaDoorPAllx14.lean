-- Printed by a program (the kit's print, with functions given by hand) out of the translation: machine-written for this claim.
import Derived.Test.YticmjkjojhcdpaaDoorPAllx0
import Derived.Test.YticmjkjojhcdpaaDoorLex
import Derived.Test.YticmjkjojhcdpaaDoorPAllx6
import Derived.Test.YticmjkjojhcdpaaDoorPAllx10
namespace Go.Proofs.YticmjkjojhcdpaaDoor.PAll
open Go.RowKit Go.Proofs.YticmjkjojhcdpaaDoorW.PrintWords Go.Proofs.YticmjkjojhcdpaaDoorW.PrintLast Go.Proofs.YticmjkjojhcdpaaDoorW.PrintMore
attribute [local go_sem] max2_int min2_int max_two min_two max_three min_three max_four min_four   -- for this text's walks alone
set_option linter.unusedVariables false
set_option linter.unusedSimpArgs false

/-! ### wageofficelaw06_LexerGaps: function 6 -/
mutual
def wageofficelaw06_LexerGaps.j0 : Nat → List Int → Bool → List (S30) → Int → Bool → Option (Bool)
  | 0, _, _, _, _, _ => none
  | k + 1, x1, x5, x6, x7, x33 => if x33 = true then (if x5 = true then (some (x7 != 0)) else (some false)) else (wageofficelaw06_LexerGaps.l0 k x1 x5 x6 (([(⟨#[32]⟩ : ByteArray), (⟨#[10]⟩ : ByteArray), (⟨#[9, 13]⟩ : ByteArray), (⟨#[32, 47, 47, 32, 99, 10]⟩ : ByteArray), (⟨#[32, 47, 47, 32, 69, 85, 82, 10, 32]⟩ : ByteArray)] : List ByteArray)) (⟨#[]⟩ : ByteArray) ([] : List (S30)) 0)
def wageofficelaw06_LexerGaps.l0 : Nat → List Int → Bool → List (S30) → List ByteArray → ByteArray → List (S30) → Int → Option (Bool)
  | 0, _, _, _, _, _, _, _ => none
  | k + 1, x1, x5, x6, x9, x10, x11, x12 => if x12 < (x6.length : Int) then (if x12 < (x1.length : Int) then (if 0 ≤ x12 then (if (x9.length : Int) = 0 then (none) else (if 0 ≤ (Int.tmod (wrap64 (rd x1 x12)) (x9.length : Int)) then (if (Int.tmod (wrap64 (rd x1 x12)) (x9.length : Int)) < (x9.length : Int) then (if x10.size + (rdOf ByteArray.empty x9 (Int.tmod (wrap64 (rd x1 x12)) (x9.length : Int))).size ≤ 9223372036854775807 then (if x11.length < 4398046511104 then (if (x10 ++ (rdOf ByteArray.empty x9 (Int.tmod (wrap64 (rd x1 x12)) (x9.length : Int)))).size + ((rd_T30 x6 x12).f1).size ≤ 9223372036854775807 then (wageofficelaw06_LexerGaps.l0 k x1 x5 x6 x9 ((x10 ++ (rdOf ByteArray.empty x9 (Int.tmod (wrap64 (rd x1 x12)) (x9.length : Int)))) ++ ((rd_T30 x6 x12).f1)) (x11 ++ [(⟨(rd_T30 x6 x12).f0, (rd_T30 x6 x12).f1, ((x10 ++ (rdOf ByteArray.empty x9 (Int.tmod (wrap64 (rd x1 x12)) (x9.length : Int)))).size : Int)⟩ : S30)]) (wrap64 (x12 + 1))) else (none)) else (none)) else (none)) else (none)) else (none))) else (none)) else (if x10.size + 1 ≤ 9223372036854775807 then (if 0 ≤ x12 then (if x11.length < 4398046511104 then (if (x10 ++ (⟨#[32]⟩ : ByteArray)).size + ((rd_T30 x6 x12).f1).size ≤ 9223372036854775807 then (wageofficelaw06_LexerGaps.l0 k x1 x5 x6 x9 ((x10 ++ (⟨#[32]⟩ : ByteArray)) ++ ((rd_T30 x6 x12).f1)) (x11 ++ [(⟨(rd_T30 x6 x12).f0, (rd_T30 x6 x12).f1, ((x10 ++ (⟨#[32]⟩ : ByteArray)).size : Int)⟩ : S30)]) (wrap64 (x12 + 1))) else (none)) else (none)) else (none)) else (none))) else (if (x10.size : Int) > 6000 then (some x5) else ((lexer_Lex.f x10).bind fun bt279 => (if x5 = true then (if bt279.2.1 = 0 then ((wageofficeref06_Same.f k bt279.1 x11).bind fun t284 => (some t284)) else (some false)) else (some false))))
end
def wageofficelaw06_LexerGaps.f (k : Nat) (a0 : ByteArray) (l1 : List Int) : Option (Bool) := (wageofficelaw06_head.f k).bind fun t256 => (if (a0.size : Int) > 7000 then (some t256) else ((lexer_Lex.f a0).bind fun bt257 => (if bt257.2.1 = 0 then (wageofficelaw06_LexerGaps.j0 k l1 t256 bt257.1 bt257.2.1 (decide ((bt257.1.length : Int) > 2000))) else (wageofficelaw06_LexerGaps.j0 k l1 t256 bt257.1 bt257.2.1 true))))
theorem wageofficelaw06_LexerGaps.mono_l : ∀ k, (∀ y0 y1 y2 y3 y4, LeO (wageofficelaw06_LexerGaps.j0 k y0 y1 y2 y3 y4) (wageofficelaw06_LexerGaps.j0 (k + 1) y0 y1 y2 y3 y4)) ∧ (∀ y0 y1 y2 y3 y4 y5 y6, LeO (wageofficelaw06_LexerGaps.l0 k y0 y1 y2 y3 y4 y5 y6) (wageofficelaw06_LexerGaps.l0 (k + 1) y0 y1 y2 y3 y4 y5 y6))
  | 0 => ⟨fun _ _ _ _ _ r h => by simp [wageofficelaw06_LexerGaps.j0] at h, fun _ _ _ _ _ _ _ r h => by simp [wageofficelaw06_LexerGaps.l0] at h⟩
  | k + 1 => by
    obtain ⟨ih0, ih1⟩ := wageofficelaw06_LexerGaps.mono_l k
    refine ⟨?_, ?_⟩
    · intro y0 y1 y2 y3 y4
      unfold wageofficelaw06_LexerGaps.j0
      repeat' first
      | (with_reducible exact ih0 _ _ _ _ _)
      | (with_reducible exact ih1 _ _ _ _ _ _ _)
      | (with_reducible exact wageofficelaw06_head.mono _)
      | (with_reducible exact wageofficeref06_Same.mono _ _ _)
      | (with_reducible exact LeO.refl _)
      | (with_reducible exact LeO.none _)
      | (with_reducible refine LeO.ite ?_ ?_)
      | (with_reducible refine LeO.bind ?_ (fun _ => ?_))
      | exact ih0 _ _ _ _ _
      | exact ih1 _ _ _ _ _ _ _
      | exact wageofficelaw06_head.mono _
      | exact wageofficeref06_Same.mono _ _ _
      | exact LeO.none _
      | refine LeO.ite ?_ ?_
      | refine LeO.bind ?_ (fun _ => ?_)
    · intro y0 y1 y2 y3 y4 y5 y6
      unfold wageofficelaw06_LexerGaps.l0
      repeat' first
      | (with_reducible exact ih0 _ _ _ _ _)
      | (with_reducible exact ih1 _ _ _ _ _ _ _)
      | (with_reducible exact wageofficelaw06_head.mono _)
      | (with_reducible exact wageofficeref06_Same.mono _ _ _)
      | (with_reducible exact LeO.refl _)
      | (with_reducible exact LeO.none _)
      | (with_reducible refine LeO.ite ?_ ?_)
      | (with_reducible refine LeO.bind ?_ (fun _ => ?_))
      | exact ih0 _ _ _ _ _
      | exact ih1 _ _ _ _ _ _ _
      | exact wageofficelaw06_head.mono _
      | exact wageofficeref06_Same.mono _ _ _
      | exact LeO.none _
      | refine LeO.ite ?_ ?_
      | refine LeO.bind ?_ (fun _ => ?_)
theorem wageofficelaw06_LexerGaps.mono : ∀ a0 a1 k, LeO (wageofficelaw06_LexerGaps.f k a0 a1) (wageofficelaw06_LexerGaps.f (k + 1) a0 a1) := by
  intro a0 a1 k
  obtain ⟨ih0, ih1⟩ := wageofficelaw06_LexerGaps.mono_l k
  unfold wageofficelaw06_LexerGaps.f
  repeat' first
      | (with_reducible exact ih0 _ _ _ _ _)
      | (with_reducible exact ih1 _ _ _ _ _ _ _)
      | (with_reducible exact wageofficelaw06_head.mono _)
      | (with_reducible exact wageofficeref06_Same.mono _ _ _)
      | (with_reducible exact LeO.refl _)
      | (with_reducible exact LeO.none _)
      | (with_reducible refine LeO.ite ?_ ?_)
      | (with_reducible refine LeO.bind ?_ (fun _ => ?_))
      | exact ih0 _ _ _ _ _
      | exact ih1 _ _ _ _ _ _ _
      | exact wageofficelaw06_head.mono _
      | exact wageofficeref06_Same.mono _ _ _
      | exact LeO.none _
      | refine LeO.ite ?_ ?_
      | refine LeO.bind ?_ (fun _ => ?_)
def wageofficelaw06_LexerGaps.T16 : Bool × List (List Nat × List Nat) := (true, [([], []), ([], []), ([], []), ([1, 2], [1, 2]), ([3], [3]), ([4], [4]), ([], []), ([], []), ([6, 7], [6, 7]), ([8], [8]), ([9], [9]), ([], []), ([11], [11]), ([5, 10, 12], [5, 10, 12]), ([13], [13]), ([0, 14], [0, 14]), ([15, 15, 0, 1, 2, 3, 4, 5, 6, 7, 8, 9, 10, 11, 12, 13, 14, 15], [0, 15])])
def wageofficelaw06_LexerGaps.B16 : List Nat := [0, 0, 0, 6, 14, 30, 0, 0, 192, 448, 960, 0, 2048, 8190, 16382, 32767, 65535]
theorem wageofficelaw06_LexerGaps.tab16 : rtab .any (opsOf Tryd.f6 16) = wageofficelaw06_LexerGaps.T16 := by kernel_rfl
theorem wageofficelaw06_LexerGaps.bits16 : waitsOk wageofficelaw06_LexerGaps.T16.2 wageofficelaw06_LexerGaps.B16 = true := by kernel_rfl
set_option maxHeartbeats 8000000 in
set_option maxRecDepth 100000 in
theorem wageofficelaw06_LexerGaps.calls (k : Nat) (a0 : ByteArray) (A1 : Option Addr) (c1 : Nat) (l1 : List Int) (r : Bool) (w : World) (hr1 : Kd.C (Kd.int .u8) w A1 l1.length l1) (hc1 : l1.length ≤ c1) (hG : Glob w) (hr : r = true) (h : wageofficelaw06_LexerGaps.f k a0 l1 = some r) :
    Calls Tryd.prog 6 #[.string a0, .slice A1 l1.length c1] w fun e w' => e = .returned (.bool r) ∧ Below w.heap.size w w' := by
  have HG := Aside0.mk hG
  clear hG
  have hu30 := Tryd.underlying30
  have HR1 := Aside0.mk hr1
  have HC1 := Aside0.mk hc1
  clear hr1 hc1
  have HB := Aside0.mk (Below.refl w.heap.size w)
  have PR := Aside0.mk hr
  clear hr
  have H : ((wageofficelaw06_head.f k).bind fun t256 => (if (a0.size : Int) > 7000 then (some t256) else ((lexer_Lex.f a0).bind fun bt257 => (if bt257.2.1 = 0 then (wageofficelaw06_LexerGaps.j0 k l1 t256 bt257.1 bt257.2.1 (decide ((bt257.1.length : Int) > 2000))) else (wageofficelaw06_LexerGaps.j0 k l1 t256 bt257.1 bt257.2.1 true))))) = some r := h
  clear h
  replace H := Option.bind_eq_some_iff.mp H
  obtain ⟨t256, A30, H⟩ := H
  replace H : (if (a0.size : Int) > 7000 then (some t256) else ((lexer_Lex.f a0).bind fun bt257 => (if bt257.2.1 = 0 then (wageofficelaw06_LexerGaps.j0 k l1 t256 bt257.1 bt257.2.1 (decide ((bt257.1.length : Int) > 2000))) else (wageofficelaw06_LexerGaps.j0 k l1 t256 bt257.1 bt257.2.1 true)))) = some r := H
  have A3 := Aside0.mk A30
  clear A30
  by_cases c4 : (a0.size : Int) > 7000
  · rw [if_pos c4] at H
    have c4b0 : decide (7000 < (a0.size : Int)) = true := decide_eq_true c4
    have c4b1 : decide (7000 < a0.size) = true := decide_eq_true (by omega)
    clear c4
    obtain rfl := Option.some.inj H
    go_enter Tryd.func6, Tryd.ntmps6
    go_wp2_with (first | ((with_reducible refine gate_callee (f := 10) rfl ?_); refine goesL_ (some 16) rfl rfl Tryd.func10 (by kernel_rfl) rfl #[] rfl (by (try simp only [List.map_toArray, List.map_cons, List.map_nil]); first | done | rfl | (simp only [List.length_drop, List.length_take]; rfl)) ?_; (with_reducible refine (wageofficelaw06_head.calls k  t256 _ ?sideG A3.out).mono ?_); (case sideG => exact HG.out.below (by repeat (first | (with_reducible first | exact HB.out | apply below_alloc | apply pw_below_drewN | apply below_drew1) | exact HB.out))); rintro e w5 ⟨rfl, hb⟩; refine ⟨_, rfl, ?_⟩; have n0_ := Aside0.mk (below_step (by repeat (first | (with_reducible first | exact HB.out | apply below_alloc | apply pw_below_drewN | apply below_drew1) | exact HB.out)) hb); clear HB; have HB := n0_; clear n0_; (try clear hb); (try clear hb2); (try clear hk); (try clear hi)))
    go_ret
    exact ⟨by first | rfl | (simp [errW_none, errW_some] <;> rfl) | (simp [*, errW_none, errW_some] <;> rfl), by repeat (first | (with_reducible first | exact HB.out | apply below_alloc | apply pw_below_drewN | apply below_drew1) | exact HB.out)⟩
  · rw [if_neg c4] at H
    have c4b0 : decide (7000 < (a0.size : Int)) = false := decide_eq_false c4
    have c4b1 : decide (7000 < a0.size) = false := decide_eq_false (by omega)
    clear c4
    replace H := Option.bind_eq_some_iff.mp H
    obtain ⟨⟨t257, t258, t259⟩, A60, H⟩ := H
    replace H : (if t258 = 0 then (wageofficelaw06_LexerGaps.j0 k l1 t256 t257 t258 (decide ((t257.length : Int) > 2000))) else (wageofficelaw06_LexerGaps.j0 k l1 t256 t257 t258 true)) = some r := H
    have A6 := Aside0.mk A60
    clear A60
    have HC7 := Aside0.mk H
    clear H
    go_enter Tryd.func6, Tryd.ntmps6
    go_upto_region 5 with (first | ((with_reducible refine gate_callee (f := 10) rfl ?_); refine goesL_ (some 16) rfl rfl Tryd.func10 (by kernel_rfl) rfl #[] rfl (by (try simp only [List.map_toArray, List.map_cons, List.map_nil]); first | done | rfl | (simp only [List.length_drop, List.length_take]; rfl)) ?_; (with_reducible refine (wageofficelaw06_head.calls k  t256 _ ?sideG A3.out).mono ?_); (case sideG => exact HG.out.below (by repeat (first | (with_reducible first | exact HB.out | apply below_alloc | apply pw_below_drewN | apply below_drew1) | exact HB.out))); rintro e w8 ⟨rfl, hb⟩; refine ⟨_, rfl, ?_⟩; have n0_ := Aside0.mk (below_step (by repeat (first | (with_reducible first | exact HB.out | apply below_alloc | apply pw_below_drewN | apply below_drew1) | exact HB.out)) hb); clear HB; have HB := n0_; clear n0_; (try clear hb); (try clear hb2); (try clear hk); (try clear hi)) | ((with_reducible refine gate_callee (f := 11) rfl ?_); refine goesL_ (some 23) rfl rfl Tryd.func11 (by kernel_rfl) rfl #[.string a0] rfl (by (try simp only [List.map_toArray, List.map_cons, List.map_nil]); first | done | rfl | (simp only [List.length_drop, List.length_take]; rfl)) ?_; (with_reducible refine (lexer_Lex.calls a0 t257 t258 t259 _ ?sideG A6.out).mono ?_); (case sideG => exact HG.out.below (by repeat (first | (with_reducible first | exact HB.out | apply below_alloc | apply pw_below_drewN | apply below_drew1) | exact HB.out))); rintro e w9 ⟨v260, rfl, ho0, hb⟩; refine ⟨_, rfl, ?_⟩; have n0_ := Aside0.mk (Kd.R_lower ho0 (below_size (by repeat (first | (with_reducible first | exact HB.out | apply below_alloc | apply pw_below_drewN | apply below_drew1) | exact HB.out)))); have n1_ := Aside0.mk (below_step (by repeat (first | (with_reducible first | exact HB.out | apply below_alloc | apply pw_below_drewN | apply below_drew1) | exact HB.out)) hb); clear HB; have HO261 := n0_; have HB := n1_; clear n0_ n1_; (try clear hb); (try clear hb2); (try clear hk); (try clear hi); (try clear ho0)))
    (try simp only [Act.put, List.setIfInBounds_toArray, List.set_cons_zero, List.set_cons_succ])
    go_cut [33] (fun v33 wc => ∃ (kq : Nat) (x33_6 : Bool), v33 = .bool x33_6 ∧ Aside0 (wageofficelaw06_LexerGaps.j0 kq l1 t256 t257 t258 x33_6 = some r) ∧ Aside0 (kq ≤ k) ∧ Aside0 (Kd.R k30 30 wc w.heap.size (fun _ => True) v260 t257) ∧ Aside0 (Below w.heap.size w wc))
    case first =>
      have H := HC7.out
      clear HC7
      by_cases c10 : t258 = 0
      · rw [if_pos c10] at H
        have c10b0 : (t258 == 0) = true := beq_iff_eq.mpr c10
        have c10b1 : (t258 != 0) = false := bne_eq_false_iff_eq.mpr c10
        clear c10
        (first | rw [c10b0] | (simp only [i64_w, i32_w]; rw [c10b0]) | skip)
        have H' := Aside0.mk H
        clear H
        obtain ⟨Ao11, co11, eo11⟩ := Kd.R_slice HO261.out
        subst eo11
        go_wp2
        go_meet
        case rel => exact ⟨_, (decide ((t257.length : Int) > 2000)), (by first | rfl | (simp; done) | (simp [*]; done)), H', ⟨by first | omega | exact Nat.le_refl _⟩, ⟨by (with_reducible repeat (first | apply Kd.R_alloc | apply Kd.R_drewN | apply Kd.R_drew)); exact HO261.out⟩, ⟨by repeat (first | (with_reducible first | exact HB.out | apply below_alloc | apply pw_below_drewN | apply below_drew1) | exact HB.out)⟩⟩
      · rw [if_neg c10] at H
        have c10b0 : (t258 == 0) = false := beq_eq_false_iff_ne.mpr c10
        have c10b1 : (t258 != 0) = true := bne_iff_ne.mpr c10
        (first | rw [c10b0] | (simp only [i64_w, i32_w]; rw [c10b0]) | skip)
        have H' := Aside0.mk H
        clear H
        go_wp2
        go_meet
        case rel => exact ⟨_, (true), (by first | rfl | (simp; done) | (simp [*]; done)), H', ⟨by first | omega | exact Nat.le_refl _⟩, ⟨by (with_reducible repeat (first | apply Kd.R_alloc | apply Kd.R_drewN | apply Kd.R_drew)); exact HO261.out⟩, ⟨by repeat (first | (with_reducible first | exact HB.out | apply below_alloc | apply pw_below_drewN | apply below_drew1) | exact HB.out)⟩⟩
    case rest =>
      clear HC7
      try clear c1
      try clear p2
      try clear c4
      try clear c4b0
      try clear c4b1
      try clear c6
      try clear c10
      try clear c10b0
      try clear c10b1
      try clear c11
      obtain ⟨kq, x33_6, rfl, HA, HJ6, HO_6, HB⟩ := hcut
      cases kq with
      | zero => exact absurd HA.out (by simp [wageofficelaw06_LexerGaps.j0])
      | succ kj6 =>
        have H := HA.out
        clear HA
        simp only [wageofficelaw06_LexerGaps.j0] at H
        by_cases c12 : x33_6 = true
        · subst c12
          have H1 : (if t256 = true then (some (t258 != 0)) else (some false)) = some r := by rw [if_pos rfl] at H; exact H
          clear H
          have H := H1
          clear H1
          by_cases c13 : t256 = true
          · subst c13
            have H1 : (some (t258 != 0)) = some r := by rw [if_pos rfl] at H; exact H
            clear H
            have H := H1
            clear H1
            obtain rfl := Option.some.inj H
            go_wp2
            go_ret
            exact ⟨by first | rfl | (simp [errW_none, errW_some] <;> rfl) | (simp [*, errW_none, errW_some] <;> rfl), by repeat (first | (with_reducible first | exact HB.out | apply below_alloc | apply pw_below_drewN | apply below_drew1) | exact HB.out)⟩
          · replace c13 := Bool.eq_false_iff.mpr c13
            subst c13
            have H1 : (some false) = some r := by rw [if_neg (show ¬ (false = true) by decide)] at H; exact H
            clear H
            have H := H1
            clear H1
            exact absurd ((Option.some.inj H).trans PR.out) (by decide)
        · replace c12 := Bool.eq_false_iff.mpr c12
          subst c12
          have H1 : (wageofficelaw06_LexerGaps.l0 kj6 l1 t256 t257 (([(⟨#[32]⟩ : ByteArray), (⟨#[10]⟩ : ByteArray), (⟨#[9, 13]⟩ : ByteArray), (⟨#[32, 47, 47, 32, 99, 10]⟩ : ByteArray), (⟨#[32, 47, 47, 32, 69, 85, 82, 10, 32]⟩ : ByteArray)] : List ByteArray)) (⟨#[]⟩ : ByteArray) ([] : List (S30)) 0) = some r := by rw [if_neg (show ¬ (false = true) by decide)] at H; exact H
          clear H
          have H := H1
          clear H1
          obtain ⟨y262, hy262⟩ : ∃ y_ : List ByteArray, y_ = (([(⟨#[32]⟩ : ByteArray), (⟨#[10]⟩ : ByteArray), (⟨#[9, 13]⟩ : ByteArray), (⟨#[32, 47, 47, 32, 99, 10]⟩ : ByteArray), (⟨#[32, 47, 47, 32, 69, 85, 82, 10, 32]⟩ : ByteArray)] : List ByteArray)) := ⟨_, rfl⟩
          replace H : (wageofficelaw06_LexerGaps.l0 kj6 l1 t256 t257 y262 (⟨#[]⟩ : ByteArray) ([] : List (S30)) 0) = some r := by first | (rw [hy262]; with_reducible exact H) | (have H2_ := (Option.bind_some _ _).symm.trans H; rw [hy262]; with_reducible exact H2_) | (have H2_ := (Option.bind_some _ _).symm.trans H; with_reducible exact H2_) | with_reducible exact H | (rw [hy262]; exact H) | exact H
          have Ny262 := Aside0.mk hy262
          clear hy262
          have H' := Aside0.mk H
          clear H
          go_wp2_with (first | ((with_reducible refine gate_dst (N := 39) rfl ?_); (try (refine gate_guard (by rfl) ?_; dsimp only)); refine Kd.R_lit Kd.string _ 9 ?hg (N := 39) ?hd (xs := ([(⟨#[32]⟩ : ByteArray), (⟨#[10]⟩ : ByteArray), (⟨#[9, 13]⟩ : ByteArray), (⟨#[32, 47, 47, 32, 99, 10]⟩ : ByteArray), (⟨#[32, 47, 47, 32, 69, 85, 82, 10, 32]⟩ : ByteArray)] : List ByteArray)) (inner := [.string (⟨#[32]⟩ : ByteArray), .string (⟨#[10]⟩ : ByteArray), .string (⟨#[9, 13]⟩ : ByteArray), .string (⟨#[32, 47, 47, 32, 99, 10]⟩ : ByteArray), .string (⟨#[32, 47, 47, 32, 69, 85, 82, 10, 32]⟩ : ByteArray)]) (ok := fun _ => True) (okp := fun _ => True) ?hr ?hp (fun _ hk => hk) trivial (Below.refl _ _) (Nat.le_refl _) (by simp) ?_; (case hd => rfl); (case hg => rfl); (case hr => first | (go_simp; done) | (go_simp; rfl)); (case hp => exact (Reps.one (show Kd.M Kd.string _ _ _ (⟨#[32]⟩ : ByteArray) [.string (⟨#[32]⟩ : ByteArray)] from rfl) (Reps.one (show Kd.M Kd.string _ _ _ (⟨#[10]⟩ : ByteArray) [.string (⟨#[10]⟩ : ByteArray)] from rfl) (Reps.one (show Kd.M Kd.string _ _ _ (⟨#[9, 13]⟩ : ByteArray) [.string (⟨#[9, 13]⟩ : ByteArray)] from rfl) (Reps.one (show Kd.M Kd.string _ _ _ (⟨#[32, 47, 47, 32, 99, 10]⟩ : ByteArray) [.string (⟨#[32, 47, 47, 32, 99, 10]⟩ : ByteArray)] from rfl) (Reps.one (show Kd.M Kd.string _ _ _ (⟨#[32, 47, 47, 32, 69, 85, 82, 10, 32]⟩ : ByteArray) [.string (⟨#[32, 47, 47, 32, 69, 85, 82, 10, 32]⟩ : ByteArray)] from rfl) (Reps.none _ _))))))); intro v263 w14 ho15 hb hg_ hnew_; clear hg_ hnew_; (first | rw [← Ny262.out] at ho15 | (simp only [Int.reduceToNat] at ho15; rw [← Ny262.out] at ho15)); have n0_ := Aside0.mk (Kd.R_below (by (with_reducible repeat (first | apply Kd.R_alloc | apply Kd.R_drewN | apply Kd.R_drew)); exact HO_6.out) hb); have n1_ := Aside0.mk (Kd.R_lower ho15 (below_size (by repeat (first | (with_reducible first | exact HB.out | apply below_alloc | apply pw_below_drewN | apply below_drew1) | exact HB.out)))); have n2_ := Aside0.mk (below_step (by repeat (first | (with_reducible first | exact HB.out | apply below_alloc | apply pw_below_drewN | apply below_drew1) | exact HB.out)) hb); clear HO_6; clear HB; have HO_6 := n0_; have HO264 := n1_; have HB := n2_; clear n0_ n1_ n2_; clear hb ho15))
          go_loopg [10, 11, 12] kj6 (fun kq v10 v11 v12 w' => ∃ (x10_2 : ByteArray) (x11_2 : List (S30)) (x12_2 : Int), v10 = .string x10_2 ∧ v12 = .int .i64 x12_2 ∧ Aside0 (wageofficelaw06_LexerGaps.l0 kq l1 t256 t257 y262 x10_2 x11_2 x12_2 = some r) ∧ Aside0 (kq ≤ kj6) ∧ Aside0 (Kd.R k30 30 w' w.heap.size (fun k_ => some k_ ≠ (v11 : Value).ownBlock) v260 t257) ∧ Aside0 (Kd.R Kd.string 9 w' w.heap.size (fun _ => True) v263 y262) ∧ Aside0 (Kd.R k30 30 w' w.heap.size (fun k_ => some k_ ≠ (v260 : Value).ownBlock) v11 x11_2) ∧ Aside0 (Below w.heap.size w w'))
          case atStart => exact ⟨((⟨#[]⟩ : ByteArray)), (([] : List (S30))), (0), (by first | rfl | (simp; done) | (simp [*]; done)), (by first | rfl | (simp; done) | (simp [*]; done)), H', ⟨Nat.le_refl _⟩, ⟨by (with_reducible repeat (first | apply Kd.R_alloc | apply Kd.R_drewN | apply Kd.R_drew)); exact Kd.R_mono HO_6.out (fun _ hk => (by simp [Value.ownBlock]))⟩, ⟨by (with_reducible repeat (first | apply Kd.R_alloc | apply Kd.R_drewN | apply Kd.R_drew)); exact HO264.out⟩, ⟨by first | exact Kd.R_nil _ _ _ _ _ | exact Kd.N_nil _ _ _ _ _ | exact Kd.V_nil _ _ _ _ _ | exact Kd.Q_nil _ _ _ _ _ | exact Kd.S_nil _ _ _ _ _⟩, ⟨by repeat (first | (with_reducible first | exact HB.out | apply below_alloc | apply pw_below_drewN | apply below_drew1) | exact HB.out)⟩⟩
          case round =>
            clear H'
            try clear c1
            try clear p2
            try clear c4
            try clear c4b0
            try clear c4b1
            try clear c6
            try clear c10
            try clear c10b0
            try clear c10b1
            try clear c11
            try clear c12
            try clear c13
            try clear p2
            obtain ⟨x10_2, x11_2, x12_2, rfl, rfl, HA, HK2, HO_6, HO_9, HO_11, HB⟩ := hrel
            cases gk with
            | zero => exact absurd HA.out (by simp [wageofficelaw06_LexerGaps.l0])
            | succ k2 =>
              have H := HA.out
              clear HA
              simp only [wageofficelaw06_LexerGaps.l0] at H
              by_cases c16 : x12_2 < (t257.length : Int)
              · rw [if_pos c16] at H
                have c16b0 : decide (x12_2 < (t257.length : Int)) = true := decide_eq_true c16
                clear c16
                by_cases c17 : x12_2 < (l1.length : Int)
                · rw [if_pos c17] at H
                  have c17b0 : decide (x12_2 < (l1.length : Int)) = true := decide_eq_true c17
                  clear c17
                  by_cases c18 : 0 ≤ x12_2
                  · rw [if_pos c18] at H
                    have c18b0 : decide (0 ≤ x12_2) = true := decide_eq_true c18
                    clear c18
                    by_cases c19 : (y262.length : Int) = 0
                    · rw [if_pos c19] at H
                      exact absurd H (by simp)
                    · rw [if_neg c19] at H
                      have c19b0 : ((y262.length : Int) == 0) = false := beq_eq_false_iff_ne.mpr c19
                      have c19b1 : ((y262.length : Int) != 0) = true := bne_iff_ne.mpr c19
                      have c19b2 : ¬ (y262 = []) := fun h_ => c19 (by rw [h_]; rfl)
                      obtain ⟨ji20, hji20⟩ : ∃ j_ : Int, (Int.tmod (wrap64 (rd l1 x12_2)) (y262.length : Int)) = j_ := ⟨_, rfl⟩
                      replace H : (if 0 ≤ (ji20) then (if (ji20) < (y262.length : Int) then (if x10_2.size + (rdOf ByteArray.empty y262 (ji20)).size ≤ 9223372036854775807 then (if x11_2.length < 4398046511104 then (if (x10_2 ++ (rdOf ByteArray.empty y262 (ji20))).size + ((rd_T30 t257 x12_2).f1).size ≤ 9223372036854775807 then (wageofficelaw06_LexerGaps.l0 k2 l1 t256 t257 y262 ((x10_2 ++ (rdOf ByteArray.empty y262 (ji20))) ++ ((rd_T30 t257 x12_2).f1)) (x11_2 ++ [(⟨(rd_T30 t257 x12_2).f0, (rd_T30 t257 x12_2).f1, ((x10_2 ++ (rdOf ByteArray.empty y262 (ji20))).size : Int)⟩ : S30)]) (wrap64 (x12_2 + 1))) else (none)) else (none)) else (none)) else (none)) else (none)) = some r := by first | (rw [hji20] at H; exact H) | (simp only [hji20] at H ⊢; exact H)
                      by_cases c21 : 0 ≤ (ji20)
                      · rw [if_pos c21] at H
                        have c21b0 : decide (0 ≤ (ji20)) = true := decide_eq_true c21
                        clear c21
                        by_cases c22 : (ji20) < (y262.length : Int)
                        · rw [if_pos c22] at H
                          have c22b0 : decide ((ji20) < (y262.length : Int)) = true := decide_eq_true c22
                          clear c22
                          by_cases c23 : x10_2.size + (rdOf ByteArray.empty y262 (ji20)).size ≤ 9223372036854775807
                          · rw [if_pos c23] at H
                            have c23b0 := eq_true c23
                            have c23b1 : decide (x10_2.size + (rdOf ByteArray.empty y262 (ji20)).size ≤ 9223372036854775807) = true := decide_eq_true c23
                            try have c23b2 : (9223372036854775807 < x10_2.size + (rdOf ByteArray.empty y262 (ji20)).size) = False := eq_false (Nat.not_lt.2 c23)
                            by_cases c24 : x11_2.length < 4398046511104
                            · rw [if_pos c24] at H
                              have LMc24 := Aside0.mk c24
                              clear c24
                              obtain ⟨y269, hy269⟩ : ∃ y_ : List (S30), y_ = (x11_2 ++ [(⟨(rd_T30 t257 x12_2).f0, (rd_T30 t257 x12_2).f1, ((x10_2 ++ (rdOf ByteArray.empty y262 (ji20))).size : Int)⟩ : S30)]) := ⟨_, rfl⟩
                              replace H : (if (x10_2 ++ (rdOf ByteArray.empty y262 (ji20))).size + ((rd_T30 t257 x12_2).f1).size ≤ 9223372036854775807 then (wageofficelaw06_LexerGaps.l0 k2 l1 t256 t257 y262 ((x10_2 ++ (rdOf ByteArray.empty y262 (ji20))) ++ ((rd_T30 t257 x12_2).f1)) y269 (wrap64 (x12_2 + 1))) else (none)) = some r := by first | (rw [hy269]; with_reducible exact H) | (have H2_ := (Option.bind_some _ _).symm.trans H; rw [hy269]; with_reducible exact H2_) | (have H2_ := (Option.bind_some _ _).symm.trans H; with_reducible exact H2_) | with_reducible exact H | (rw [hy269]; exact H) | exact H
                              have Ny269 := Aside0.mk hy269
                              clear hy269
                              by_cases c25 : (x10_2 ++ (rdOf ByteArray.empty y262 (ji20))).size + ((rd_T30 t257 x12_2).f1).size ≤ 9223372036854775807
                              · rw [if_pos c25] at H
                                have c25b0 := eq_true c25
                                have c25b1 : decide ((x10_2 ++ (rdOf ByteArray.empty y262 (ji20))).size + ((rd_T30 t257 x12_2).f1).size ≤ 9223372036854775807) = true := decide_eq_true c25
                                try have c25b2 : (9223372036854775807 < (x10_2 ++ (rdOf ByteArray.empty y262 (ji20))).size + ((rd_T30 t257 x12_2).f1).size) = False := eq_false (Nat.not_lt.2 c25)
                                have H' := Aside0.mk H
                                clear H
                                obtain ⟨Ao26, co26, eo26⟩ := Kd.R_slice HO_6.out
                                subst eo26
                                have p265 : 0 ≤ (x12_2 : Int) := of_decide_eq_true (by first | (with_reducible assumption) | assumption)
                                have q265 : x12_2 < (l1.length : Int) := of_decide_eq_true (by first | (with_reducible assumption) | assumption)
                                obtain ⟨ad265, e265, hx265_0⟩ := Kd.at_int HR1.out x12_2 p265 q265
                                cases e265
                                replace hx265_0 := (HB.out.cell (World.block_lt_of_cell? w _ hx265_0)).trans hx265_0
                                replace p265 := eq_true p265
                                replace q265 := eq_true q265
                                obtain ⟨Ao27, co27, eo27⟩ := Kd.R_slice HO_9.out
                                subst eo27
                                have p266 : 0 ≤ ((ji20) : Int) := of_decide_eq_true (by first | (with_reducible assumption) | assumption)
                                have q266 : (ji20) < (y262.length : Int) := of_decide_eq_true (by first | (with_reducible assumption) | assumption)
                                obtain ⟨ad266, e266, hx266_0⟩ := Kd.at_string (Kd.R_reads' HO_9.out).2.2 (ji20) p266 q266
                                cases e266
                                replace p266 := eq_true p266
                                replace q266 := eq_true q266
                                try go_wp2
                                have n0_ := Aside0.mk (Kd.R_drew HO_6.out)
                                have n1_ := Aside0.mk (Kd.R_drew HO_9.out)
                                have n2_ := Aside0.mk (Kd.R_drew HO_11.out)
                                have n3_ := Aside0.mk (below_drew1 HB.out)
                                clear HO_6
                                clear HO_9
                                clear HO_11
                                clear HB
                                have HO_6 := n0_
                                have HO_9 := n1_
                                have HO_11 := n2_
                                have HB := n3_
                                clear n0_ n1_ n2_ n3_
                                have p267 : 0 ≤ (x12_2 : Int) := of_decide_eq_true (by first | (with_reducible assumption) | assumption)
                                have q267 : x12_2 < (t257.length : Int) := of_decide_eq_true (by first | (with_reducible assumption) | assumption)
                                obtain ⟨ad267, e267, hx267_0, hx267_1, hx267_2⟩ := at_T30 (Kd.R_reads' HO_6.out).2.2 x12_2 p267 q267
                                cases e267
                                replace p267 := eq_true p267
                                replace q267 := eq_true q267
                                have p268 : 0 ≤ (x12_2 : Int) := of_decide_eq_true (by first | (with_reducible assumption) | assumption)
                                have q268 : x12_2 < (t257.length : Int) := of_decide_eq_true (by first | (with_reducible assumption) | assumption)
                                obtain ⟨ad268, e268, hx268_0, hx268_1, hx268_2⟩ := at_T30 (Kd.R_reads' HO_6.out).2.2 x12_2 p268 q268
                                obtain rfl : ad267 = ad268 := (by injection e268)
                                replace p268 := eq_true p268
                                replace q268 := eq_true q268
                                refine start_ (n := 17) (S := fun w' => w'.cell? (ad267.add ((x12_2).toNat * 3)) = some (.int .i64 ((rd_T30 t257 x12_2).f0)) ∧ w'.cell? ⟨(ad267.add ((x12_2).toNat * 3)).block, (ad267.add ((x12_2).toNat * 3)).off + 1, none⟩ = some (.string ((rd_T30 t257 x12_2).f1)) ∧ w'.cell? ⟨(ad267.add ((x12_2).toNat * 3)).block, (ad267.add ((x12_2).toNat * 3)).off + 2, none⟩ = some (.int .i64 ((rd_T30 t257 x12_2).f2)) ∧ w'.cell? (ad267.add ((x12_2).toNat * 3)) = some (.int .i64 ((rd_T30 t257 x12_2).f0)) ∧ w'.cell? ⟨(ad267.add ((x12_2).toNat * 3)).block, (ad267.add ((x12_2).toNat * 3)).off + 1, none⟩ = some (.string ((rd_T30 t257 x12_2).f1)) ∧ w'.cell? ⟨(ad267.add ((x12_2).toNat * 3)).block, (ad267.add ((x12_2).toNat * 3)).off + 2, none⟩ = some (.int .i64 ((rd_T30 t257 x12_2).f2))) (ds := [14, 15]) #[false, false, false, false, false, false, false, false, false, false, false, false, false, false, false, false, false] (by kernel_rfl) rfl rfl ⟨hx267_0, hx267_1, hx267_2, hx268_0, hx268_1, hx268_2⟩ (fun hHeld => ?_); refine with_tabW wageofficelaw06_LexerGaps.tab16 wageofficelaw06_LexerGaps.bits16 (fun HT_ HW_ => ?_)
                                generalize wr.drew = w28 at HO_6 HO_9 HO_11 HB hx267_0 hx267_1 hx267_2 hx268_0 hx268_1 hx268_2 hHeld ⊢
                                refine pure_ (i := 0) (N := some 65) (v := ?_) (a' := ?_) #[true, false, false, false, false, false, false, false, false, false, false, false, false, false, false, false, false] rfl rfl (any_of HT_.out (by kernel_rfl)) (fun _ _ _ h => h) (Or.inl ⟨by rfl, ?_⟩) ?_ ?_
                                rotate_left
                                · intro w'
                                  go_simp
                                  with_reducible rfl
                                rotate_left
                                · simp only [Act.put, List.setIfInBounds_toArray, List.set_cons_zero, List.set_cons_succ, i64_w, i32_w]
                                  rfl
                                refine pure_ (i := 1) (N := some 66) (v := ?_) (a' := ?_) #[true, true, false, false, false, false, false, false, false, false, false, false, false, false, false, false, false] rfl rfl (any_of HT_.out (by kernel_rfl)) (fun _ _ _ h => h) (Or.inl ⟨by rfl, ?_⟩) ?_ ?_
                                rotate_left
                                · intro w'
                                  go_simp
                                  with_reducible rfl
                                rotate_left
                                · simp only [Act.put, List.setIfInBounds_toArray, List.set_cons_zero, List.set_cons_succ, i64_w, i32_w]
                                  rfl
                                refine pure_ (i := 2) (N := some 67) (v := ?_) (a' := ?_) #[true, true, true, false, false, false, false, false, false, false, false, false, false, false, false, false, false] rfl rfl (any_of HT_.out (by kernel_rfl)) (fun _ _ _ h => h) (Or.inl ⟨by rfl, ?_⟩) ?_ ?_
                                rotate_left
                                · intro w'
                                  go_simp
                                  with_reducible rfl
                                rotate_left
                                · simp only [Act.put, List.setIfInBounds_toArray, List.set_cons_zero, List.set_cons_succ, i64_w, i32_w]
                                  rfl
                                refine pure_ (i := 3) (N := some 68) (v := ?_) (a' := ?_) #[true, true, true, true, false, false, false, false, false, false, false, false, false, false, false, false, false] rfl rfl (any_of HT_.out (by kernel_rfl)) (fun _ _ _ h => h) (Or.inl ⟨by rfl, ?_⟩) ?_ ?_
                                rotate_left
                                · intro w'
                                  go_simp
                                  with_reducible rfl
                                rotate_left
                                · simp only [Act.put, List.setIfInBounds_toArray, List.set_cons_zero, List.set_cons_succ, i64_w, i32_w]
                                  rfl
                                refine pure_ (i := 4) (N := some 69) (v := ?_) (a' := ?_) #[true, true, true, true, true, false, false, false, false, false, false, false, false, false, false, false, false] rfl rfl (any_of HT_.out (by kernel_rfl)) (fun _ _ _ h => h) (Or.inl ⟨by rfl, ?_⟩) ?_ ?_
                                rotate_left
                                · intro w'
                                  go_simp
                                  with_reducible rfl
                                rotate_left
                                · simp only [Act.put, List.setIfInBounds_toArray, List.set_cons_zero, List.set_cons_succ, i64_w, i32_w]
                                  rfl
                                refine pure_ (i := 6) (N := some 71) (v := ?_) (a' := ?_) #[true, true, true, true, true, false, true, false, false, false, false, false, false, false, false, false, false] rfl rfl (any_of HT_.out (by kernel_rfl)) (fun _ _ _ h => h) (Or.inl ⟨by rfl, ?_⟩) ?_ ?_
                                rotate_left
                                · intro w'
                                  go_simp
                                  with_reducible rfl
                                rotate_left
                                · simp only [Act.put, List.setIfInBounds_toArray, List.set_cons_zero, List.set_cons_succ, i64_w, i32_w]
                                  rfl
                                refine pure_ (i := 7) (N := some 72) (v := ?_) (a' := ?_) #[true, true, true, true, true, false, true, true, false, false, false, false, false, false, false, false, false] rfl rfl (any_of HT_.out (by kernel_rfl)) (fun _ _ _ h => h) (Or.inl ⟨by rfl, ?_⟩) ?_ ?_
                                rotate_left
                                · intro w'
                                  go_simp
                                  with_reducible rfl
                                rotate_left
                                · simp only [Act.put, List.setIfInBounds_toArray, List.set_cons_zero, List.set_cons_succ, i64_w, i32_w]
                                  rfl
                                refine pure_ (i := 8) (N := some 73) (v := ?_) (a' := ?_) #[true, true, true, true, true, false, true, true, true, false, false, false, false, false, false, false, false] rfl rfl (any_of HT_.out (by kernel_rfl)) (fun _ _ _ h => h) (Or.inl ⟨by rfl, ?_⟩) ?_ ?_
                                rotate_left
                                · intro w'
                                  go_simp
                                  with_reducible rfl
                                rotate_left
                                · simp only [Act.put, List.setIfInBounds_toArray, List.set_cons_zero, List.set_cons_succ, i64_w, i32_w]
                                  rfl
                                refine pure_ (i := 9) (N := some 74) (v := ?_) (a' := ?_) #[true, true, true, true, true, false, true, true, true, true, false, false, false, false, false, false, false] rfl rfl (any_of HT_.out (by kernel_rfl)) (fun _ _ _ h => h) (Or.inl ⟨by rfl, ?_⟩) ?_ ?_
                                rotate_left
                                · intro w'
                                  go_simp
                                  with_reducible rfl
                                rotate_left
                                · simp only [Act.put, List.setIfInBounds_toArray, List.set_cons_zero, List.set_cons_succ, i64_w, i32_w]
                                  rfl
                                refine pure_ (i := 11) (N := some 76) (v := ?_) (a' := ?_) #[true, true, true, true, true, false, true, true, true, true, false, true, false, false, false, false, false] rfl rfl (any_of HT_.out (by kernel_rfl)) (fun _ _ _ h => h) (Or.inl ⟨by rfl, ?_⟩) ?_ ?_
                                rotate_left
                                · intro w'
                                  go_simp
                                  with_reducible rfl
                                rotate_left
                                · simp only [Act.put, List.setIfInBounds_toArray, List.set_cons_zero, List.set_cons_succ, i64_w, i32_w]
                                  rfl
                                refine pure_ (i := 12) (N := some 77) (v := ?_) (a' := ?_) #[true, true, true, true, true, false, true, true, true, true, false, true, true, false, false, false, false] rfl rfl (any_of HT_.out (by kernel_rfl)) (fun _ _ _ h => h) (Or.inl ⟨by rfl, ?_⟩) ?_ ?_
                                rotate_left
                                · intro w'
                                  go_simp
                                  with_reducible rfl
                                rotate_left
                                · simp only [Act.put, List.setIfInBounds_toArray, List.set_cons_zero, List.set_cons_succ, i64_w, i32_w]
                                  rfl
                                refine take_ (i := 5) (N := some 70) (v := ?_) (a' := ?_) #[true, true, true, true, true, true, true, true, true, true, false, true, true, false, false, false, false] rfl rfl (take_ofW HT_.out HW_.out (by kernel_rfl)) (fun _ _ _ h => h) (Or.inl ⟨by rfl, ?_⟩) hHeld ?_ ?_
                                rotate_left
                                · rintro w' ⟨s0, s1, s2, s3, s4, s5⟩
                                  go_simp
                                  with_reducible rfl
                                rotate_left
                                · simp only [Act.put, List.setIfInBounds_toArray, List.set_cons_zero, List.set_cons_succ, i64_w, i32_w]
                                  rfl
                                refine take_ (i := 10) (N := some 75) (v := ?_) (a' := ?_) #[true, true, true, true, true, true, true, true, true, true, true, true, true, false, false, false, false] rfl rfl (take_ofW HT_.out HW_.out (by kernel_rfl)) (fun _ _ _ h => h) (Or.inl ⟨by rfl, ?_⟩) hHeld ?_ ?_
                                rotate_left
                                · rintro w' ⟨s0, s1, s2, s3, s4, s5⟩
                                  go_simp
                                  with_reducible rfl
                                rotate_left
                                · simp only [Act.put, List.setIfInBounds_toArray, List.set_cons_zero, List.set_cons_succ, i64_w, i32_w]
                                  rfl
                                refine pure_ (i := 13) (N := some 78) (v := ?_) (a' := ?_) #[true, true, true, true, true, true, true, true, true, true, true, true, true, true, false, false, false] rfl rfl (any_of HT_.out (by kernel_rfl)) (fun _ _ _ h => h) (Or.inl ⟨by rfl, ?_⟩) ?_ ?_
                                rotate_left
                                · intro w'
                                  go_simp
                                  with_reducible rfl
                                rotate_left
                                · simp only [Act.put, List.setIfInBounds_toArray, List.set_cons_zero, List.set_cons_succ, i64_w, i32_w]
                                  rfl
                                refine last_ (i := 14) (N := some 79) #[true, true, true, true, true, true, true, true, true, true, true, true, true, true, true, false, false] rfl rfl (one_of HT_.out (by kernel_rfl)) (by decide) (fun K hK => ?_)
                                refine value_ (w1 := ?_) (v := ?_) (by rfl) rfl ?_ ?_
                                rotate_left 2
                                · go_simp
                                  constructor
                                  · rfl
                                  · rfl
                                refine hK.out _ _ ?_
                                clear hK K
                                refine norm_ (a' := ?_) ?_ ?_
                                rotate_left
                                · show Act.put _ (some 79) _ = _
                                  simp only [Act.put, List.setIfInBounds_toArray, List.set_cons_zero, List.set_cons_succ, i64_w, i32_w]
                                  rfl
                                refine last_ (i := 15) (N := some 80) #[true, true, true, true, true, true, true, true, true, true, true, true, true, true, true, true, false] rfl rfl (one_of HT_.out (by kernel_rfl)) (by decide) (fun K hK => ?_)
                                rw [show ((x10_2.size : Int) + ((rdOf ByteArray.empty y262 (ji20)).size : Int)) = ((x10_2 ++ (rdOf ByteArray.empty y262 (ji20))).size : Int) by rw [ByteArray.size_append]; first | rfl | omega]
                                refine Kd.R_append_step k30 (w0 := w) w.heap.size (by rfl) (.tmp 65) (.tmp 79) 23 30 (.agg #[(.int .i64 0), (.string ⟨#[]⟩), (.int .i64 0)]) 32 rfl Tryd.underlying23 info30 rfl (by decide) (by omega) u11 x11_2 (⟨(rd_T30 t257 x12_2).f0, (rd_T30 t257 x12_2).f1, ((x10_2 ++ (rdOf ByteArray.empty y262 (ji20))).size : Int)⟩ : S30) [.int .i64 ((rd_T30 t257 x12_2).f0), .string ((rd_T30 t257 x12_2).f1), .int .i64 ((x10_2 ++ (rdOf ByteArray.empty y262 (ji20))).size : Int)] (fun k_ => some k_ ≠ (.slice (some ad267) t257.length co26 : Value).ownBlock) (fun _ => False) rfl rfl ?aP (fun _ hk => hk.elim) ?aF ?aO ?aB ?aS ?aL ?_
                                (case aP => exact k30_mkM _ _ _ (⟨(rd_T30 t257 x12_2).f0, (rd_T30 t257 x12_2).f1, ((x10_2 ++ (rdOf ByteArray.empty y262 (ji20))).size : Int)⟩ : S30))
                                (case aB => exact (by repeat (first | (with_reducible first | exact HB.out | apply below_alloc | apply pw_below_drewN | apply below_drew1) | exact HB.out)))
                                (case aF => exact (fun k_ hk => Kd.fresh' (Kd.R_lt (by (with_reducible repeat (first | apply Kd.R_alloc | apply Kd.R_drewN | apply Kd.R_drew)); exact HO_6.out)) k_ hk))
                                (case aO => exact (by (with_reducible repeat (first | apply Kd.R_alloc | apply Kd.R_drewN | apply Kd.R_drew)); exact HO_11.out))
                                (case aS => exact (below_size (by repeat (first | (with_reducible first | exact HB.out | apply below_alloc | apply pw_below_drewN | apply below_drew1) | exact HB.out))))
                                (case aL => have := LMc24.out; omega)
                                intro v270 w29 ho hb hg hat
                                rw [← Ny269.out] at ho
                                have n0_ := Aside0.mk (Kd.R_after (ok := (fun _ => True)) (by (with_reducible repeat (first | apply Kd.R_alloc | apply Kd.R_drewN | apply Kd.R_drew)); exact Kd.R_mono HO_6.out (fun _ hk => ⟨trivial, hk⟩)) hg hat)
                                have n1_ := Aside0.mk (Kd.R_over' (by (with_reducible repeat (first | apply Kd.R_alloc | apply Kd.R_drewN | apply Kd.R_drew)); exact HO_9.out) (Kd.R_typed (by (with_reducible repeat (first | apply Kd.R_alloc | apply Kd.R_drewN | apply Kd.R_drew)); exact HO_11.out)) (by decide) hg)
                                have n2_ := Aside0.mk (hb)
                                have n3_ := Aside0.mk (ho)
                                clear HO_6
                                clear HO_9
                                clear HB
                                clear HO_11
                                have HO_6 := n0_
                                have HO_9 := n1_
                                have HB := n2_
                                have HO271 := n3_
                                clear n0_ n1_ n2_ n3_
                                clear ho hb hg hat
                                refine hK.out _ _ ?_
                                clear hK K
                                refine norm_ (a' := ?_) ?_ ?_
                                rotate_left
                                · show Act.put _ (some 80) _ = _
                                  simp only [Act.put, List.setIfInBounds_toArray, List.set_cons_zero, List.set_cons_succ, i64_w, i32_w]
                                  rfl
                                refine pure_ (i := 16) (N := some 11) (v := ?_) (a' := ?_) #[true, true, true, true, true, true, true, true, true, true, true, true, true, true, true, true, true] rfl rfl (any_of HT_.out (by kernel_rfl)) (fun _ _ _ h => h) (Or.inl ⟨by rfl, ?_⟩) ?_ ?_
                                rotate_left
                                · intro w'
                                  go_simp
                                  with_reducible rfl
                                rotate_left
                                · simp only [Act.put, List.setIfInBounds_toArray, List.set_cons_zero, List.set_cons_succ, i64_w, i32_w]
                                  rfl
                                refine done_ (done_of HT_.out (by kernel_rfl)) ?_
                                have p272 : 0 ≤ (x12_2 : Int) := of_decide_eq_true (by first | (with_reducible assumption) | assumption)
                                have q272 : x12_2 < (t257.length : Int) := of_decide_eq_true (by first | (with_reducible assumption) | assumption)
                                obtain ⟨ad272, e272, hx272_0, hx272_1, hx272_2⟩ := at_T30 (Kd.R_reads' HO_6.out).2.2 x12_2 p272 q272
                                obtain rfl : ad267 = ad272 := (by injection e272)
                                replace p272 := eq_true p272
                                replace q272 := eq_true q272
                                try go_wp2
                                go_roundg k2
                                case measure => have := HJ6.out; have := HK2.out; omega
                                case rel => exact ⟨((x10_2 ++ (rdOf ByteArray.empty y262 (ji20))) ++ ((rd_T30 t257 x12_2).f1)), (y269), (wrap64 (x12_2 + 1)), (by first | rfl | (simp; done) | (simp only [← hji20] <;> (first | rfl | simp)) | (simp [*]; done)), (by first | rfl | (simp; done) | (simp [*]; done)), H', ⟨by have := HJ6.out; have := HK2.out; omega⟩, ⟨by (with_reducible repeat (first | apply Kd.R_alloc | apply Kd.R_drewN | apply Kd.R_drew)); exact Kd.R_mono HO_6.out (fun _ hk => hk.2)⟩, ⟨by (with_reducible repeat (first | apply Kd.R_alloc | apply Kd.R_drewN | apply Kd.R_drew)); exact HO_9.out⟩, ⟨by (with_reducible repeat (first | apply Kd.R_alloc | apply Kd.R_drewN | apply Kd.R_drew)); exact HO271.out⟩, ⟨by repeat (first | (with_reducible first | exact HB.out | apply below_alloc | apply pw_below_drewN | apply below_drew1) | exact HB.out)⟩⟩
                              · rw [if_neg c25] at H
                                exact absurd H (by simp)
                            · rw [if_neg c24] at H
                              exact absurd H (by simp)
                          · rw [if_neg c23] at H
                            exact absurd H (by simp)
                        · rw [if_neg c22] at H
                          exact absurd H (by simp)
                      · rw [if_neg c21] at H
                        exact absurd H (by simp)
                  · rw [if_neg c18] at H
                    exact absurd H (by simp)
                · rw [if_neg c17] at H
                  have c17b0 : decide (x12_2 < (l1.length : Int)) = false := decide_eq_false c17
                  clear c17
                  by_cases c30 : x10_2.size + 1 ≤ 9223372036854775807
                  · rw [if_pos c30] at H
                    have c30b0 := eq_true c30
                    have c30b1 : decide (x10_2.size + 1 ≤ 9223372036854775807) = true := decide_eq_true c30
                    try have c30b2 : (9223372036854775807 < x10_2.size + 1) = False := eq_false (Nat.not_lt.2 c30)
                    by_cases c31 : 0 ≤ x12_2
                    · rw [if_pos c31] at H
                      have c31b0 : decide (0 ≤ x12_2) = true := decide_eq_true c31
                      clear c31
                      by_cases c32 : x11_2.length < 4398046511104
                      · rw [if_pos c32] at H
                        have LMc32 := Aside0.mk c32
                        clear c32
                        obtain ⟨y275, hy275⟩ : ∃ y_ : List (S30), y_ = (x11_2 ++ [(⟨(rd_T30 t257 x12_2).f0, (rd_T30 t257 x12_2).f1, ((x10_2 ++ (⟨#[32]⟩ : ByteArray)).size : Int)⟩ : S30)]) := ⟨_, rfl⟩
                        replace H : (if (x10_2 ++ (⟨#[32]⟩ : ByteArray)).size + ((rd_T30 t257 x12_2).f1).size ≤ 9223372036854775807 then (wageofficelaw06_LexerGaps.l0 k2 l1 t256 t257 y262 ((x10_2 ++ (⟨#[32]⟩ : ByteArray)) ++ ((rd_T30 t257 x12_2).f1)) y275 (wrap64 (x12_2 + 1))) else (none)) = some r := by first | (rw [hy275]; with_reducible exact H) | (have H2_ := (Option.bind_some _ _).symm.trans H; rw [hy275]; with_reducible exact H2_) | (have H2_ := (Option.bind_some _ _).symm.trans H; with_reducible exact H2_) | with_reducible exact H | (rw [hy275]; exact H) | exact H
                        have Ny275 := Aside0.mk hy275
                        clear hy275
                        by_cases c33 : (x10_2 ++ (⟨#[32]⟩ : ByteArray)).size + ((rd_T30 t257 x12_2).f1).size ≤ 9223372036854775807
                        · rw [if_pos c33] at H
                          have c33b0 := eq_true c33
                          have c33b1 : decide ((x10_2 ++ (⟨#[32]⟩ : ByteArray)).size + ((rd_T30 t257 x12_2).f1).size ≤ 9223372036854775807) = true := decide_eq_true c33
                          try have c33b2 : (9223372036854775807 < (x10_2 ++ (⟨#[32]⟩ : ByteArray)).size + ((rd_T30 t257 x12_2).f1).size) = False := eq_false (Nat.not_lt.2 c33)
                          have H' := Aside0.mk H
                          clear H
                          obtain ⟨Ao34, co34, eo34⟩ := Kd.R_slice HO_6.out
                          subst eo34
                          try go_wp2
                          have n0_ := Aside0.mk (Kd.R_drew HO_6.out)
                          have n1_ := Aside0.mk (Kd.R_drew HO_9.out)
                          have n2_ := Aside0.mk (Kd.R_drew HO_11.out)
                          have n3_ := Aside0.mk (below_drew1 HB.out)
                          clear HO_6
                          clear HO_9
                          clear HO_11
                          clear HB
                          have HO_6 := n0_
                          have HO_9 := n1_
                          have HO_11 := n2_
                          have HB := n3_
                          clear n0_ n1_ n2_ n3_
                          have p273 : 0 ≤ (x12_2 : Int) := of_decide_eq_true (by first | (with_reducible assumption) | assumption)
                          have q273 : x12_2 < (t257.length : Int) := of_decide_eq_true (by first | (with_reducible assumption) | assumption)
                          obtain ⟨ad273, e273, hx273_0, hx273_1, hx273_2⟩ := at_T30 (Kd.R_reads' HO_6.out).2.2 x12_2 p273 q273
                          cases e273
                          replace p273 := eq_true p273
                          replace q273 := eq_true q273
                          have p274 : 0 ≤ (x12_2 : Int) := of_decide_eq_true (by first | (with_reducible assumption) | assumption)
                          have q274 : x12_2 < (t257.length : Int) := of_decide_eq_true (by first | (with_reducible assumption) | assumption)
                          obtain ⟨ad274, e274, hx274_0, hx274_1, hx274_2⟩ := at_T30 (Kd.R_reads' HO_6.out).2.2 x12_2 p274 q274
                          obtain rfl : ad273 = ad274 := (by injection e274)
                          replace p274 := eq_true p274
                          replace q274 := eq_true q274
                          refine start_ (n := 17) (S := fun w' => w'.cell? (ad273.add ((x12_2).toNat * 3)) = some (.int .i64 ((rd_T30 t257 x12_2).f0)) ∧ w'.cell? ⟨(ad273.add ((x12_2).toNat * 3)).block, (ad273.add ((x12_2).toNat * 3)).off + 1, none⟩ = some (.string ((rd_T30 t257 x12_2).f1)) ∧ w'.cell? ⟨(ad273.add ((x12_2).toNat * 3)).block, (ad273.add ((x12_2).toNat * 3)).off + 2, none⟩ = some (.int .i64 ((rd_T30 t257 x12_2).f2)) ∧ w'.cell? (ad273.add ((x12_2).toNat * 3)) = some (.int .i64 ((rd_T30 t257 x12_2).f0)) ∧ w'.cell? ⟨(ad273.add ((x12_2).toNat * 3)).block, (ad273.add ((x12_2).toNat * 3)).off + 1, none⟩ = some (.string ((rd_T30 t257 x12_2).f1)) ∧ w'.cell? ⟨(ad273.add ((x12_2).toNat * 3)).block, (ad273.add ((x12_2).toNat * 3)).off + 2, none⟩ = some (.int .i64 ((rd_T30 t257 x12_2).f2))) (ds := [14, 15]) #[false, false, false, false, false, false, false, false, false, false, false, false, false, false, false, false, false] (by kernel_rfl) rfl rfl ⟨hx273_0, hx273_1, hx273_2, hx274_0, hx274_1, hx274_2⟩ (fun hHeld => ?_); refine with_tabW wageofficelaw06_LexerGaps.tab16 wageofficelaw06_LexerGaps.bits16 (fun HT_ HW_ => ?_)
                          generalize wr.drew = w35 at HO_6 HO_9 HO_11 HB hx273_0 hx273_1 hx273_2 hx274_0 hx274_1 hx274_2 hHeld ⊢
                          refine pure_ (i := 0) (N := some 65) (v := ?_) (a' := ?_) #[true, false, false, false, false, false, false, false, false, false, false, false, false, false, false, false, false] rfl rfl (any_of HT_.out (by kernel_rfl)) (fun _ _ _ h => h) (Or.inl ⟨by rfl, ?_⟩) ?_ ?_
                          rotate_left
                          · intro w'
                            go_simp
                            with_reducible rfl
                          rotate_left
                          · simp only [Act.put, List.setIfInBounds_toArray, List.set_cons_zero, List.set_cons_succ, i64_w, i32_w]
                            rfl
                          refine pure_ (i := 1) (N := some 66) (v := ?_) (a' := ?_) #[true, true, false, false, false, false, false, false, false, false, false, false, false, false, false, false, false] rfl rfl (any_of HT_.out (by kernel_rfl)) (fun _ _ _ h => h) (Or.inl ⟨by rfl, ?_⟩) ?_ ?_
                          rotate_left
                          · intro w'
                            go_simp
                            with_reducible rfl
                          rotate_left
                          · simp only [Act.put, List.setIfInBounds_toArray, List.set_cons_zero, List.set_cons_succ, i64_w, i32_w]
                            rfl
                          refine pure_ (i := 2) (N := some 67) (v := ?_) (a' := ?_) #[true, true, true, false, false, false, false, false, false, false, false, false, false, false, false, false, false] rfl rfl (any_of HT_.out (by kernel_rfl)) (fun _ _ _ h => h) (Or.inl ⟨by rfl, ?_⟩) ?_ ?_
                          rotate_left
                          · intro w'
                            go_simp
                            with_reducible rfl
                          rotate_left
                          · simp only [Act.put, List.setIfInBounds_toArray, List.set_cons_zero, List.set_cons_succ, i64_w, i32_w]
                            rfl
                          refine pure_ (i := 3) (N := some 68) (v := ?_) (a' := ?_) #[true, true, true, true, false, false, false, false, false, false, false, false, false, false, false, false, false] rfl rfl (any_of HT_.out (by kernel_rfl)) (fun _ _ _ h => h) (Or.inl ⟨by rfl, ?_⟩) ?_ ?_
                          rotate_left
                          · intro w'
                            go_simp
                            with_reducible rfl
                          rotate_left
                          · simp only [Act.put, List.setIfInBounds_toArray, List.set_cons_zero, List.set_cons_succ, i64_w, i32_w]
                            rfl
                          refine pure_ (i := 4) (N := some 69) (v := ?_) (a' := ?_) #[true, true, true, true, true, false, false, false, false, false, false, false, false, false, false, false, false] rfl rfl (any_of HT_.out (by kernel_rfl)) (fun _ _ _ h => h) (Or.inl ⟨by rfl, ?_⟩) ?_ ?_
                          rotate_left
                          · intro w'
                            go_simp
                            with_reducible rfl
                          rotate_left
                          · simp only [Act.put, List.setIfInBounds_toArray, List.set_cons_zero, List.set_cons_succ, i64_w, i32_w]
                            rfl
                          refine pure_ (i := 6) (N := some 71) (v := ?_) (a' := ?_) #[true, true, true, true, true, false, true, false, false, false, false, false, false, false, false, false, false] rfl rfl (any_of HT_.out (by kernel_rfl)) (fun _ _ _ h => h) (Or.inl ⟨by rfl, ?_⟩) ?_ ?_
                          rotate_left
                          · intro w'
                            go_simp
                            with_reducible rfl
                          rotate_left
                          · simp only [Act.put, List.setIfInBounds_toArray, List.set_cons_zero, List.set_cons_succ, i64_w, i32_w]
                            rfl
                          refine pure_ (i := 7) (N := some 72) (v := ?_) (a' := ?_) #[true, true, true, true, true, false, true, true, false, false, false, false, false, false, false, false, false] rfl rfl (any_of HT_.out (by kernel_rfl)) (fun _ _ _ h => h) (Or.inl ⟨by rfl, ?_⟩) ?_ ?_
                          rotate_left
                          · intro w'
                            go_simp
                            with_reducible rfl
                          rotate_left
                          · simp only [Act.put, List.setIfInBounds_toArray, List.set_cons_zero, List.set_cons_succ, i64_w, i32_w]
                            rfl
                          refine pure_ (i := 8) (N := some 73) (v := ?_) (a' := ?_) #[true, true, true, true, true, false, true, true, true, false, false, false, false, false, false, false, false] rfl rfl (any_of HT_.out (by kernel_rfl)) (fun _ _ _ h => h) (Or.inl ⟨by rfl, ?_⟩) ?_ ?_
                          rotate_left
                          · intro w'
                            go_simp
                            with_reducible rfl
                          rotate_left
                          · simp only [Act.put, List.setIfInBounds_toArray, List.set_cons_zero, List.set_cons_succ, i64_w, i32_w]
                            rfl
                          refine pure_ (i := 9) (N := some 74) (v := ?_) (a' := ?_) #[true, true, true, true, true, false, true, true, true, true, false, false, false, false, false, false, false] rfl rfl (any_of HT_.out (by kernel_rfl)) (fun _ _ _ h => h) (Or.inl ⟨by rfl, ?_⟩) ?_ ?_
                          rotate_left
                          · intro w'
                            go_simp
                            with_reducible rfl
                          rotate_left
                          · simp only [Act.put, List.setIfInBounds_toArray, List.set_cons_zero, List.set_cons_succ, i64_w, i32_w]
                            rfl
                          refine pure_ (i := 11) (N := some 76) (v := ?_) (a' := ?_) #[true, true, true, true, true, false, true, true, true, true, false, true, false, false, false, false, false] rfl rfl (any_of HT_.out (by kernel_rfl)) (fun _ _ _ h => h) (Or.inl ⟨by rfl, ?_⟩) ?_ ?_
                          rotate_left
                          · intro w'
                            go_simp
                            with_reducible rfl
                          rotate_left
                          · simp only [Act.put, List.setIfInBounds_toArray, List.set_cons_zero, List.set_cons_succ, i64_w, i32_w]
                            rfl
                          refine pure_ (i := 12) (N := some 77) (v := ?_) (a' := ?_) #[true, true, true, true, true, false, true, true, true, true, false, true, true, false, false, false, false] rfl rfl (any_of HT_.out (by kernel_rfl)) (fun _ _ _ h => h) (Or.inl ⟨by rfl, ?_⟩) ?_ ?_
                          rotate_left
                          · intro w'
                            go_simp
                            with_reducible rfl
                          rotate_left
                          · simp only [Act.put, List.setIfInBounds_toArray, List.set_cons_zero, List.set_cons_succ, i64_w, i32_w]
                            rfl
                          refine take_ (i := 5) (N := some 70) (v := ?_) (a' := ?_) #[true, true, true, true, true, true, true, true, true, true, false, true, true, false, false, false, false] rfl rfl (take_ofW HT_.out HW_.out (by kernel_rfl)) (fun _ _ _ h => h) (Or.inl ⟨by rfl, ?_⟩) hHeld ?_ ?_
                          rotate_left
                          · rintro w' ⟨s0, s1, s2, s3, s4, s5⟩
                            go_simp
                            with_reducible rfl
                          rotate_left
                          · simp only [Act.put, List.setIfInBounds_toArray, List.set_cons_zero, List.set_cons_succ, i64_w, i32_w]
                            rfl
                          refine take_ (i := 10) (N := some 75) (v := ?_) (a' := ?_) #[true, true, true, true, true, true, true, true, true, true, true, true, true, false, false, false, false] rfl rfl (take_ofW HT_.out HW_.out (by kernel_rfl)) (fun _ _ _ h => h) (Or.inl ⟨by rfl, ?_⟩) hHeld ?_ ?_
                          rotate_left
                          · rintro w' ⟨s0, s1, s2, s3, s4, s5⟩
                            go_simp
                            with_reducible rfl
                          rotate_left
                          · simp only [Act.put, List.setIfInBounds_toArray, List.set_cons_zero, List.set_cons_succ, i64_w, i32_w]
                            rfl
                          refine pure_ (i := 13) (N := some 78) (v := ?_) (a' := ?_) #[true, true, true, true, true, true, true, true, true, true, true, true, true, true, false, false, false] rfl rfl (any_of HT_.out (by kernel_rfl)) (fun _ _ _ h => h) (Or.inl ⟨by rfl, ?_⟩) ?_ ?_
                          rotate_left
                          · intro w'
                            go_simp
                            with_reducible rfl
                          rotate_left
                          · simp only [Act.put, List.setIfInBounds_toArray, List.set_cons_zero, List.set_cons_succ, i64_w, i32_w]
                            rfl
                          refine last_ (i := 14) (N := some 79) #[true, true, true, true, true, true, true, true, true, true, true, true, true, true, true, false, false] rfl rfl (one_of HT_.out (by kernel_rfl)) (by decide) (fun K hK => ?_)
                          refine value_ (w1 := ?_) (v := ?_) (by rfl) rfl ?_ ?_
                          rotate_left 2
                          · go_simp
                            constructor
                            · rfl
                            · rfl
                          refine hK.out _ _ ?_
                          clear hK K
                          refine norm_ (a' := ?_) ?_ ?_
                          rotate_left
                          · show Act.put _ (some 79) _ = _
                            simp only [Act.put, List.setIfInBounds_toArray, List.set_cons_zero, List.set_cons_succ, i64_w, i32_w]
                            rfl
                          refine last_ (i := 15) (N := some 80) #[true, true, true, true, true, true, true, true, true, true, true, true, true, true, true, true, false] rfl rfl (one_of HT_.out (by kernel_rfl)) (by decide) (fun K hK => ?_)
                          rw [show ((x10_2.size : Int) + 1) = ((x10_2 ++ (⟨#[32]⟩ : ByteArray)).size : Int) by rw [ByteArray.size_append]; first | rfl | omega]
                          refine Kd.R_append_step k30 (w0 := w) w.heap.size (by rfl) (.tmp 65) (.tmp 79) 23 30 (.agg #[(.int .i64 0), (.string ⟨#[]⟩), (.int .i64 0)]) 32 rfl Tryd.underlying23 info30 rfl (by decide) (by omega) u11 x11_2 (⟨(rd_T30 t257 x12_2).f0, (rd_T30 t257 x12_2).f1, ((x10_2 ++ (⟨#[32]⟩ : ByteArray)).size : Int)⟩ : S30) [.int .i64 ((rd_T30 t257 x12_2).f0), .string ((rd_T30 t257 x12_2).f1), .int .i64 ((x10_2 ++ (⟨#[32]⟩ : ByteArray)).size : Int)] (fun k_ => some k_ ≠ (.slice (some ad273) t257.length co34 : Value).ownBlock) (fun _ => False) rfl rfl ?aP (fun _ hk => hk.elim) ?aF ?aO ?aB ?aS ?aL ?_
                          (case aP => exact k30_mkM _ _ _ (⟨(rd_T30 t257 x12_2).f0, (rd_T30 t257 x12_2).f1, ((x10_2 ++ (⟨#[32]⟩ : ByteArray)).size : Int)⟩ : S30))
                          (case aB => exact (by repeat (first | (with_reducible first | exact HB.out | apply below_alloc | apply pw_below_drewN | apply below_drew1) | exact HB.out)))
                          (case aF => exact (fun k_ hk => Kd.fresh' (Kd.R_lt (by (with_reducible repeat (first | apply Kd.R_alloc | apply Kd.R_drewN | apply Kd.R_drew)); exact HO_6.out)) k_ hk))
                          (case aO => exact (by (with_reducible repeat (first | apply Kd.R_alloc | apply Kd.R_drewN | apply Kd.R_drew)); exact HO_11.out))
                          (case aS => exact (below_size (by repeat (first | (with_reducible first | exact HB.out | apply below_alloc | apply pw_below_drewN | apply below_drew1) | exact HB.out))))
                          (case aL => have := LMc32.out; omega)
                          intro v276 w36 ho hb hg hat
                          rw [← Ny275.out] at ho
                          have n0_ := Aside0.mk (Kd.R_after (ok := (fun _ => True)) (by (with_reducible repeat (first | apply Kd.R_alloc | apply Kd.R_drewN | apply Kd.R_drew)); exact Kd.R_mono HO_6.out (fun _ hk => ⟨trivial, hk⟩)) hg hat)
                          have n1_ := Aside0.mk (Kd.R_over' (by (with_reducible repeat (first | apply Kd.R_alloc | apply Kd.R_drewN | apply Kd.R_drew)); exact HO_9.out) (Kd.R_typed (by (with_reducible repeat (first | apply Kd.R_alloc | apply Kd.R_drewN | apply Kd.R_drew)); exact HO_11.out)) (by decide) hg)
                          have n2_ := Aside0.mk (hb)
                          have n3_ := Aside0.mk (ho)
                          clear HO_6
                          clear HO_9
                          clear HB
                          clear HO_11
                          have HO_6 := n0_
                          have HO_9 := n1_
                          have HB := n2_
                          have HO277 := n3_
                          clear n0_ n1_ n2_ n3_
                          clear ho hb hg hat
                          refine hK.out _ _ ?_
                          clear hK K
                          refine norm_ (a' := ?_) ?_ ?_
                          rotate_left
                          · show Act.put _ (some 80) _ = _
                            simp only [Act.put, List.setIfInBounds_toArray, List.set_cons_zero, List.set_cons_succ, i64_w, i32_w]
                            rfl
                          refine pure_ (i := 16) (N := some 11) (v := ?_) (a' := ?_) #[true, true, true, true, true, true, true, true, true, true, true, true, true, true, true, true, true] rfl rfl (any_of HT_.out (by kernel_rfl)) (fun _ _ _ h => h) (Or.inl ⟨by rfl, ?_⟩) ?_ ?_
                          rotate_left
                          · intro w'
                            go_simp
                            with_reducible rfl
                          rotate_left
                          · simp only [Act.put, List.setIfInBounds_toArray, List.set_cons_zero, List.set_cons_succ, i64_w, i32_w]
                            rfl
                          refine done_ (done_of HT_.out (by kernel_rfl)) ?_
                          have p278 : 0 ≤ (x12_2 : Int) := of_decide_eq_true (by first | (with_reducible assumption) | assumption)
                          have q278 : x12_2 < (t257.length : Int) := of_decide_eq_true (by first | (with_reducible assumption) | assumption)
                          obtain ⟨ad278, e278, hx278_0, hx278_1, hx278_2⟩ := at_T30 (Kd.R_reads' HO_6.out).2.2 x12_2 p278 q278
                          obtain rfl : ad273 = ad278 := (by injection e278)
                          replace p278 := eq_true p278
                          replace q278 := eq_true q278
                          try go_wp2
                          go_roundg k2
                          case measure => have := HJ6.out; have := HK2.out; omega
                          case rel => exact ⟨((x10_2 ++ (⟨#[32]⟩ : ByteArray)) ++ ((rd_T30 t257 x12_2).f1)), (y275), (wrap64 (x12_2 + 1)), (by first | rfl | (simp; done) | (simp [*]; done)), (by first | rfl | (simp; done) | (simp [*]; done)), H', ⟨by have := HJ6.out; have := HK2.out; omega⟩, ⟨by (with_reducible repeat (first | apply Kd.R_alloc | apply Kd.R_drewN | apply Kd.R_drew)); exact Kd.R_mono HO_6.out (fun _ hk => hk.2)⟩, ⟨by (with_reducible repeat (first | apply Kd.R_alloc | apply Kd.R_drewN | apply Kd.R_drew)); exact HO_9.out⟩, ⟨by (with_reducible repeat (first | apply Kd.R_alloc | apply Kd.R_drewN | apply Kd.R_drew)); exact HO277.out⟩, ⟨by repeat (first | (with_reducible first | exact HB.out | apply below_alloc | apply pw_below_drewN | apply below_drew1) | exact HB.out)⟩⟩
                        · rw [if_neg c33] at H
                          exact absurd H (by simp)
                      · rw [if_neg c32] at H
                        exact absurd H (by simp)
                    · rw [if_neg c31] at H
                      exact absurd H (by simp)
                  · rw [if_neg c30] at H
                    exact absurd H (by simp)
              · rw [if_neg c16] at H
                have c16b0 : decide (x12_2 < (t257.length : Int)) = false := decide_eq_false c16
                clear c16
                by_cases c37 : (x10_2.size : Int) > 6000
                · rw [if_pos c37] at H
                  have c37b0 : decide (6000 < (x10_2.size : Int)) = true := decide_eq_true c37
                  have c37b1 : decide (6000 < x10_2.size) = true := decide_eq_true (by omega)
                  clear c37
                  obtain rfl := Option.some.inj H
                  obtain ⟨Ao38, co38, eo38⟩ := Kd.R_slice HO_6.out
                  subst eo38
                  go_wp2
                  go_ret
                  exact ⟨by first | rfl | (simp [errW_none, errW_some] <;> rfl) | (simp [*, errW_none, errW_some] <;> rfl), by repeat (first | (with_reducible first | exact HB.out | apply below_alloc | apply pw_below_drewN | apply below_drew1) | exact HB.out)⟩
                · rw [if_neg c37] at H
                  have c37b0 : decide (6000 < (x10_2.size : Int)) = false := decide_eq_false c37
                  have c37b1 : decide (6000 < x10_2.size) = false := decide_eq_false (by omega)
                  clear c37
                  replace H := Option.bind_eq_some_iff.mp H
                  obtain ⟨⟨t279, t280, t281⟩, A390, H⟩ := H
                  replace H : (if t256 = true then (if t280 = 0 then ((wageofficeref06_Same.f k2 t279 x11_2).bind fun t284 => (some t284)) else (some false)) else (some false)) = some r := H
                  have A39 := Aside0.mk A390
                  clear A390
                  by_cases c40 : t256 = true
                  · subst c40
                    have H1 : (if t280 = 0 then ((wageofficeref06_Same.f k2 t279 x11_2).bind fun t284 => (some t284)) else (some false)) = some r := by rw [if_pos rfl] at H; exact H
                    clear H
                    have H := H1
                    clear H1
                    by_cases c41 : t280 = 0
                    · rw [if_pos c41] at H
                      have c41b0 : (t280 == 0) = true := beq_iff_eq.mpr c41
                      have c41b1 : (t280 != 0) = false := bne_eq_false_iff_eq.mpr c41
                      clear c41
                      replace H := Option.bind_eq_some_iff.mp H
                      obtain ⟨t284, A420, H⟩ := H
                      replace H : (some t284) = some r := H
                      have A42 := Aside0.mk A420
                      clear A420
                      obtain rfl := Option.some.inj H
                      obtain ⟨Ao43, co43, eo43⟩ := Kd.R_slice HO_6.out
                      subst eo43
                      go_wp2_with (first | ((with_reducible refine gate_callee (f := 11) rfl ?_); refine goesL_ (some 94) rfl rfl Tryd.func11 (by kernel_rfl) rfl #[.string x10_2] rfl (by (try simp only [List.map_toArray, List.map_cons, List.map_nil]); first | done | rfl | (simp only [List.length_drop, List.length_take]; rfl)) ?_; (with_reducible refine (lexer_Lex.calls x10_2 t279 t280 t281 _ ?sideG A39.out).mono ?_); (case sideG => exact HG.out.below (by repeat (first | (with_reducible first | exact HB.out | apply below_alloc | apply pw_below_drewN | apply below_drew1) | exact HB.out))); rintro e w44 ⟨v282, rfl, ho0, hb⟩; refine ⟨_, rfl, ?_⟩; have n0_ := Aside0.mk (Kd.R_elder' (by (with_reducible repeat (first | apply Kd.R_alloc | apply Kd.R_drewN | apply Kd.R_drew)); exact HO_6.out) (Kd.R_base ho0) hb); have n1_ := Aside0.mk (Kd.R_below (by (with_reducible repeat (first | apply Kd.R_alloc | apply Kd.R_drewN | apply Kd.R_drew)); exact HO_9.out) hb); have n2_ := Aside0.mk (Kd.R_elder' (by (with_reducible repeat (first | apply Kd.R_alloc | apply Kd.R_drewN | apply Kd.R_drew)); exact HO_11.out) (Kd.R_base ho0) hb); have n3_ := Aside0.mk (Kd.R_lower (Kd.R_new' (Kd.R_new' ho0 (Kd.R_lt (by (with_reducible repeat (first | apply Kd.R_alloc | apply Kd.R_drewN | apply Kd.R_drew)); exact HO_6.out))) (Kd.R_lt (by (with_reducible repeat (first | apply Kd.R_alloc | apply Kd.R_drewN | apply Kd.R_drew)); exact HO_11.out))) (below_size (by repeat (first | (with_reducible first | exact HB.out | apply below_alloc | apply pw_below_drewN | apply below_drew1) | exact HB.out)))); have n4_ := Aside0.mk (below_step (by repeat (first | (with_reducible first | exact HB.out | apply below_alloc | apply pw_below_drewN | apply below_drew1) | exact HB.out)) hb); clear HO_6; clear HO_9; clear HO_11; clear HB; have HO_6 := n0_; have HO_9 := n1_; have HO_11 := n2_; have HO283 := n3_; have HB := n4_; clear n0_ n1_ n2_ n3_ n4_; (try clear hb); (try clear hb2); (try clear hk); (try clear hi); (try clear ho0); obtain ⟨Ao45, co45, eo45⟩ := Kd.R_slice HO283.out; subst eo45; obtain ⟨Ao46, co46, eo46⟩ := Kd.R_slice HO_11.out; subst eo46) | (go_at_call 13; (with_reducible refine (wageofficeref06_Same.calls k2 _ _ t279 _ _ x11_2 t284 _ ?side1 ?side2 ?side3 ?side4 A42.out).mono ?_); (case side1 => repeat (first | exact (Kd.R_reads' HO283.out).2.2 | (with_reducible refine Kd.C_alloc ?_ _) | (with_reducible refine Kd.C_drewN ?_ _) | (with_reducible refine Kd.C_drew ?_))); (case side2 => exact (Kd.R_reads' HO283.out).2.1); (case side3 => repeat (first | exact (Kd.R_reads' HO_11.out).2.2 | (with_reducible refine Kd.C_alloc ?_ _) | (with_reducible refine Kd.C_drewN ?_ _) | (with_reducible refine Kd.C_drew ?_))); (case side4 => exact (Kd.R_reads' HO_11.out).2.1); rintro e w' ⟨rfl, ⟨nd, rfl⟩⟩))
                      go_ret
                      exact ⟨by first | rfl | (simp [errW_none, errW_some] <;> rfl) | (simp [*, errW_none, errW_some] <;> rfl), by repeat (first | (with_reducible first | exact HB.out | apply below_alloc | apply pw_below_drewN | apply below_drew1) | exact HB.out)⟩
                    · rw [if_neg c41] at H
                      have c41b0 : (t280 == 0) = false := beq_eq_false_iff_ne.mpr c41
                      have c41b1 : (t280 != 0) = true := bne_iff_ne.mpr c41
                      exact absurd ((Option.some.inj H).trans PR.out) (by decide)
                  · replace c40 := Bool.eq_false_iff.mpr c40
                    subst c40
                    have H1 : (some false) = some r := by rw [if_neg (show ¬ (false = true) by decide)] at H; exact H
                    clear H
                    have H := H1
                    clear H1
                    exact absurd ((Option.some.inj H).trans PR.out) (by decide)

/-- THE ONE PURE STATEMENT of wageofficelaw06_LexerGaps: yours. -/
def wageofficelaw06_LexerGaps.Pure : Prop := ∀ (a0 : ByteArray) (l1 : List Int), a0.size ≤ 140737488351232 → l1.length ≤ maxLen → l1.length * 1 ≤ 140737488351232 → (∀ x ∈ l1, (Lit.int .u8 x).wf = true) → ∃ k, wageofficelaw06_LexerGaps.f k a0 l1 = some true
theorem wageofficelaw06_LexerGaps.walk (P : wageofficelaw06_LexerGaps.Pure) (a0 : ByteArray) (a1 : Option Addr) (len1 cap1 : Nat) (z1 : List Int) (w : World) (hG : Glob w) (w0 : a0.size ≤ 140737488351232) (w1 : (a1 = none ∧ len1 = 0 ∧ cap1 = 0 ∧ z1 = []) ∨ ∃ x, a1 = some x ∧ len1 ≤ cap1 ∧ cap1 ≤ maxLen ∧ z1.length = cap1 ∧ (∀ i, i < z1.length → w.cell? (x.add i) = some (.int .u8 (z1.getD i 0))) ∧ ∀ n ∈ z1, (Lit.int .u8 n).wf = true) (y1 : len1 * 1 ≤ 140737488351232) :
    Calls Tryd.prog 6 #[.string a0, .slice a1 len1 cap1] w fun e w' => e = .returned (.bool true) ∧ Below w.heap.size w w' := by
  obtain ⟨l1, rfl, hr1, hm1, hw1, hc1⟩ := ReadsInt.ofRowC w1
  obtain ⟨k, h⟩ := P a0 l1 w0 hm1 y1 hw1
  refine (wageofficelaw06_LexerGaps.calls k a0 _ _ l1 true w (Kd.C_of_reads (d := (0 : Int)) (h1 := fun _ => rfl) hr1) hc1 hG rfl h).mono ?_
  rintro e w' ⟨rfl, hd⟩
  exact ⟨rfl, hd⟩

end Go.Proofs.YticmjkjojhcdpaaDoor.PAll

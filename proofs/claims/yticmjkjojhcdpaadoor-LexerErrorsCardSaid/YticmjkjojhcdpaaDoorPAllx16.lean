-- Printed by a program (the kit's print, with functions given by hand) out of the translation: machine-written for this claim.
import Derived.Test.YticmjkjojhcdpaaDoorPAllx0
import Derived.Test.YticmjkjojhcdpaaDoorLex
import Derived.Test.YticmjkjojhcdpaaDoorPAllx6
namespace Go.Proofs.YticmjkjojhcdpaaDoor.PAll
open Go.RowKit Go.Proofs.YticmjkjojhcdpaaDoorW.PrintWords Go.Proofs.YticmjkjojhcdpaaDoorW.PrintLast Go.Proofs.YticmjkjojhcdpaaDoorW.PrintMore
attribute [local go_sem] max2_int min2_int max_two min_two max_three min_three max_four min_four   -- for this text's walks alone
set_option linter.unusedVariables false
set_option linter.unusedSimpArgs false

/-! ### wageofficelaw06_LexerErrors: function 8 -/
def wageofficelaw06_LexerErrors.j0 : Nat → ByteArray → Bool → Int → Int → Bool → Option (Bool)
  | 0, _, _, _, _, _ => none
  | k + 1, x0, x3, x5, x6, x45 => if x45 = true then (some false) else (if (x0.size : Int) > 6000 then (if x3 = true then (if x5 = 2 then (some (x6 == 0)) else (some false)) else (some false)) else (if 0 ≤ x6 then (if x6 ≤ (x0.size : Int) then ((lexer_Lex.f (x0.extract 0 (x6 : Int).toNat)).bind fun bt326 => (if x3 = true then (if bt326.2.1 = 0 then (if x5 = 61 then (some true) else (if x5 = 2 then (some ((bt326.1.length : Int) == 2000)) else (some false))) else (some false)) else (some false))) else (none)) else (none)))
def wageofficelaw06_LexerErrors.f (k : Nat) (a0 : ByteArray) : Option (Bool) := (wageofficelaw06_head.f k).bind fun t320 => (if (a0.size : Int) > 7000 then (some t320) else ((lexer_Lex.f a0).bind fun bt321 => (if bt321.2.1 = 0 then (if t320 = true then (if bt321.2.2 = 0 then (some (decide ((a0.size : Int) ≤ 6000))) else (some false)) else (some false)) else (if (bt321.1.length : Int) > 0 then (wageofficelaw06_LexerErrors.j0 k a0 t320 bt321.2.1 bt321.2.2 true) else (if bt321.2.2 < 0 then (wageofficelaw06_LexerErrors.j0 k a0 t320 bt321.2.1 bt321.2.2 true) else (wageofficelaw06_LexerErrors.j0 k a0 t320 bt321.2.1 bt321.2.2 (decide (bt321.2.2 ≥ (a0.size : Int)))))))))
theorem wageofficelaw06_LexerErrors.mono_l : ∀ k, (∀ y0 y1 y2 y3 y4, LeO (wageofficelaw06_LexerErrors.j0 k y0 y1 y2 y3 y4) (wageofficelaw06_LexerErrors.j0 (k + 1) y0 y1 y2 y3 y4))
  | 0 => fun _ _ _ _ _ r h => by simp [wageofficelaw06_LexerErrors.j0] at h
  | k + 1 => by
    have ih0 := wageofficelaw06_LexerErrors.mono_l k
    · intro y0 y1 y2 y3 y4
      unfold wageofficelaw06_LexerErrors.j0
      repeat' first
      | (with_reducible exact ih0 _ _ _ _ _)
      | (with_reducible exact wageofficelaw06_head.mono _)
      | (with_reducible exact LeO.refl _)
      | (with_reducible exact LeO.none _)
      | (with_reducible refine LeO.ite ?_ ?_)
      | (with_reducible refine LeO.bind ?_ (fun _ => ?_))
      | exact ih0 _ _ _ _ _
      | exact wageofficelaw06_head.mono _
      | exact LeO.none _
      | refine LeO.ite ?_ ?_
      | refine LeO.bind ?_ (fun _ => ?_)
theorem wageofficelaw06_LexerErrors.mono : ∀ a0 k, LeO (wageofficelaw06_LexerErrors.f k a0) (wageofficelaw06_LexerErrors.f (k + 1) a0) := by
  intro a0 k
  have ih0 := wageofficelaw06_LexerErrors.mono_l k
  unfold wageofficelaw06_LexerErrors.f
  repeat' first
      | (with_reducible exact ih0 _ _ _ _ _)
      | (with_reducible exact wageofficelaw06_head.mono _)
      | (with_reducible exact LeO.refl _)
      | (with_reducible exact LeO.none _)
      | (with_reducible refine LeO.ite ?_ ?_)
      | (with_reducible refine LeO.bind ?_ (fun _ => ?_))
      | exact ih0 _ _ _ _ _
      | exact wageofficelaw06_head.mono _
      | exact LeO.none _
      | refine LeO.ite ?_ ?_
      | refine LeO.bind ?_ (fun _ => ?_)
set_option maxHeartbeats 8000000 in
set_option maxRecDepth 100000 in
theorem wageofficelaw06_LexerErrors.calls (k : Nat) (a0 : ByteArray) (r : Bool) (w : World) (hG : Glob w) (hr : r = true) (h : wageofficelaw06_LexerErrors.f k a0 = some r) :
    Calls Tryd.prog 8 #[.string a0] w fun e w' => e = .returned (.bool r) ∧ Below w.heap.size w w' := by
  have HG := Aside0.mk hG
  clear hG
  have HB := Aside0.mk (Below.refl w.heap.size w)
  have PR := Aside0.mk hr
  clear hr
  have H : ((wageofficelaw06_head.f k).bind fun t320 => (if (a0.size : Int) > 7000 then (some t320) else ((lexer_Lex.f a0).bind fun bt321 => (if bt321.2.1 = 0 then (if t320 = true then (if bt321.2.2 = 0 then (some (decide ((a0.size : Int) ≤ 6000))) else (some false)) else (some false)) else (if (bt321.1.length : Int) > 0 then (wageofficelaw06_LexerErrors.j0 k a0 t320 bt321.2.1 bt321.2.2 true) else (if bt321.2.2 < 0 then (wageofficelaw06_LexerErrors.j0 k a0 t320 bt321.2.1 bt321.2.2 true) else (wageofficelaw06_LexerErrors.j0 k a0 t320 bt321.2.1 bt321.2.2 (decide (bt321.2.2 ≥ (a0.size : Int)))))))))) = some r := h
  clear h
  replace H := Option.bind_eq_some_iff.mp H
  obtain ⟨t320, A20, H⟩ := H
  replace H : (if (a0.size : Int) > 7000 then (some t320) else ((lexer_Lex.f a0).bind fun bt321 => (if bt321.2.1 = 0 then (if t320 = true then (if bt321.2.2 = 0 then (some (decide ((a0.size : Int) ≤ 6000))) else (some false)) else (some false)) else (if (bt321.1.length : Int) > 0 then (wageofficelaw06_LexerErrors.j0 k a0 t320 bt321.2.1 bt321.2.2 true) else (if bt321.2.2 < 0 then (wageofficelaw06_LexerErrors.j0 k a0 t320 bt321.2.1 bt321.2.2 true) else (wageofficelaw06_LexerErrors.j0 k a0 t320 bt321.2.1 bt321.2.2 (decide (bt321.2.2 ≥ (a0.size : Int))))))))) = some r := H
  have A2 := Aside0.mk A20
  clear A20
  by_cases c3 : (a0.size : Int) > 7000
  · rw [if_pos c3] at H
    have c3b0 : decide (7000 < (a0.size : Int)) = true := decide_eq_true c3
    have c3b1 : decide (7000 < a0.size) = true := decide_eq_true (by omega)
    clear c3
    obtain rfl := Option.some.inj H
    go_enter Tryd.func8, Tryd.ntmps8
    go_wp2_with (first | ((with_reducible refine gate_callee (f := 10) rfl ?_); refine goesL_ (some 10) rfl rfl Tryd.func10 (by kernel_rfl) rfl #[] rfl (by (try simp only [List.map_toArray, List.map_cons, List.map_nil]); first | done | rfl | (simp only [List.length_drop, List.length_take]; rfl)) ?_; (with_reducible refine (wageofficelaw06_head.calls k  t320 _ ?sideG A2.out).mono ?_); (case sideG => exact HG.out.below (by repeat (first | (with_reducible first | exact HB.out | apply below_alloc | apply pw_below_drewN | apply below_drew1) | exact HB.out))); rintro e w4 ⟨rfl, hb⟩; refine ⟨_, rfl, ?_⟩; have n0_ := Aside0.mk (below_step (by repeat (first | (with_reducible first | exact HB.out | apply below_alloc | apply pw_below_drewN | apply below_drew1) | exact HB.out)) hb); clear HB; have HB := n0_; clear n0_; (try clear hb); (try clear hb2); (try clear hk); (try clear hi)))
    go_ret
    exact ⟨by first | rfl | (simp [errW_none, errW_some] <;> rfl) | (simp [*, errW_none, errW_some] <;> rfl), by repeat (first | (with_reducible first | exact HB.out | apply below_alloc | apply pw_below_drewN | apply below_drew1) | exact HB.out)⟩
  · rw [if_neg c3] at H
    have c3b0 : decide (7000 < (a0.size : Int)) = false := decide_eq_false c3
    have c3b1 : decide (7000 < a0.size) = false := decide_eq_false (by omega)
    clear c3
    replace H := Option.bind_eq_some_iff.mp H
    obtain ⟨⟨t321, t322, t323⟩, A50, H⟩ := H
    replace H : (if t322 = 0 then (if t320 = true then (if t323 = 0 then (some (decide ((a0.size : Int) ≤ 6000))) else (some false)) else (some false)) else (if (t321.length : Int) > 0 then (wageofficelaw06_LexerErrors.j0 k a0 t320 t322 t323 true) else (if t323 < 0 then (wageofficelaw06_LexerErrors.j0 k a0 t320 t322 t323 true) else (wageofficelaw06_LexerErrors.j0 k a0 t320 t322 t323 (decide (t323 ≥ (a0.size : Int))))))) = some r := H
    have A5 := Aside0.mk A50
    clear A50
    by_cases c6 : t322 = 0
    · rw [if_pos c6] at H
      have c6b0 : (t322 == 0) = true := beq_iff_eq.mpr c6
      have c6b1 : (t322 != 0) = false := bne_eq_false_iff_eq.mpr c6
      clear c6
      by_cases c7 : t320 = true
      · subst c7
        have H1 : (if t323 = 0 then (some (decide ((a0.size : Int) ≤ 6000))) else (some false)) = some r := by rw [if_pos rfl] at H; exact H
        clear H
        have H := H1
        clear H1
        by_cases c8 : t323 = 0
        · rw [if_pos c8] at H
          have c8b0 : (t323 == 0) = true := beq_iff_eq.mpr c8
          have c8b1 : (t323 != 0) = false := bne_eq_false_iff_eq.mpr c8
          clear c8
          obtain rfl := Option.some.inj H
          go_enter Tryd.func8, Tryd.ntmps8
          go_wp2_with (first | ((with_reducible refine gate_callee (f := 10) rfl ?_); refine goesL_ (some 10) rfl rfl Tryd.func10 (by kernel_rfl) rfl #[] rfl (by (try simp only [List.map_toArray, List.map_cons, List.map_nil]); first | done | rfl | (simp only [List.length_drop, List.length_take]; rfl)) ?_; (with_reducible refine (wageofficelaw06_head.calls k  true _ ?sideG A2.out).mono ?_); (case sideG => exact HG.out.below (by repeat (first | (with_reducible first | exact HB.out | apply below_alloc | apply pw_below_drewN | apply below_drew1) | exact HB.out))); rintro e w9 ⟨rfl, hb⟩; refine ⟨_, rfl, ?_⟩; have n0_ := Aside0.mk (below_step (by repeat (first | (with_reducible first | exact HB.out | apply below_alloc | apply pw_below_drewN | apply below_drew1) | exact HB.out)) hb); clear HB; have HB := n0_; clear n0_; (try clear hb); (try clear hb2); (try clear hk); (try clear hi)) | ((with_reducible refine gate_callee (f := 11) rfl ?_); refine goesL_ (some 17) rfl rfl Tryd.func11 (by kernel_rfl) rfl #[.string a0] rfl (by (try simp only [List.map_toArray, List.map_cons, List.map_nil]); first | done | rfl | (simp only [List.length_drop, List.length_take]; rfl)) ?_; (with_reducible refine (lexer_Lex.calls a0 t321 t322 t323 _ ?sideG A5.out).mono ?_); (case sideG => exact HG.out.below (by repeat (first | (with_reducible first | exact HB.out | apply below_alloc | apply pw_below_drewN | apply below_drew1) | exact HB.out))); rintro e w10 ⟨v324, rfl, ho0, hb⟩; refine ⟨_, rfl, ?_⟩; have n0_ := Aside0.mk (Kd.R_lower ho0 (below_size (by repeat (first | (with_reducible first | exact HB.out | apply below_alloc | apply pw_below_drewN | apply below_drew1) | exact HB.out)))); have n1_ := Aside0.mk (below_step (by repeat (first | (with_reducible first | exact HB.out | apply below_alloc | apply pw_below_drewN | apply below_drew1) | exact HB.out)) hb); clear HB; have HO325 := n0_; have HB := n1_; clear n0_ n1_; (try clear hb); (try clear hb2); (try clear hk); (try clear hi); (try clear ho0)))
          go_ret
          exact ⟨by first | rfl | (simp [errW_none, errW_some] <;> rfl) | (simp [*, errW_none, errW_some] <;> rfl), by repeat (first | (with_reducible first | exact HB.out | apply below_alloc | apply pw_below_drewN | apply below_drew1) | exact HB.out)⟩
        · rw [if_neg c8] at H
          have c8b0 : (t323 == 0) = false := beq_eq_false_iff_ne.mpr c8
          have c8b1 : (t323 != 0) = true := bne_iff_ne.mpr c8
          exact absurd ((Option.some.inj H).trans PR.out) (by decide)
      · replace c7 := Bool.eq_false_iff.mpr c7
        subst c7
        have H1 : (some false) = some r := by rw [if_neg (show ¬ (false = true) by decide)] at H; exact H
        clear H
        have H := H1
        clear H1
        exact absurd ((Option.some.inj H).trans PR.out) (by decide)
    · rw [if_neg c6] at H
      have c6b0 : (t322 == 0) = false := beq_eq_false_iff_ne.mpr c6
      have c6b1 : (t322 != 0) = true := bne_iff_ne.mpr c6
      have HC11 := Aside0.mk H
      clear H
      go_enter Tryd.func8, Tryd.ntmps8
      go_upto_region 7 with (first | ((with_reducible refine gate_callee (f := 10) rfl ?_); refine goesL_ (some 10) rfl rfl Tryd.func10 (by kernel_rfl) rfl #[] rfl (by (try simp only [List.map_toArray, List.map_cons, List.map_nil]); first | done | rfl | (simp only [List.length_drop, List.length_take]; rfl)) ?_; (with_reducible refine (wageofficelaw06_head.calls k  t320 _ ?sideG A2.out).mono ?_); (case sideG => exact HG.out.below (by repeat (first | (with_reducible first | exact HB.out | apply below_alloc | apply pw_below_drewN | apply below_drew1) | exact HB.out))); rintro e w12 ⟨rfl, hb⟩; refine ⟨_, rfl, ?_⟩; have n0_ := Aside0.mk (below_step (by repeat (first | (with_reducible first | exact HB.out | apply below_alloc | apply pw_below_drewN | apply below_drew1) | exact HB.out)) hb); clear HB; have HB := n0_; clear n0_; (try clear hb); (try clear hb2); (try clear hk); (try clear hi)) | ((with_reducible refine gate_callee (f := 11) rfl ?_); refine goesL_ (some 17) rfl rfl Tryd.func11 (by kernel_rfl) rfl #[.string a0] rfl (by (try simp only [List.map_toArray, List.map_cons, List.map_nil]); first | done | rfl | (simp only [List.length_drop, List.length_take]; rfl)) ?_; (with_reducible refine (lexer_Lex.calls a0 t321 t322 t323 _ ?sideG A5.out).mono ?_); (case sideG => exact HG.out.below (by repeat (first | (with_reducible first | exact HB.out | apply below_alloc | apply pw_below_drewN | apply below_drew1) | exact HB.out))); rintro e w13 ⟨v324, rfl, ho0, hb⟩; refine ⟨_, rfl, ?_⟩; have n0_ := Aside0.mk (Kd.R_lower ho0 (below_size (by repeat (first | (with_reducible first | exact HB.out | apply below_alloc | apply pw_below_drewN | apply below_drew1) | exact HB.out)))); have n1_ := Aside0.mk (below_step (by repeat (first | (with_reducible first | exact HB.out | apply below_alloc | apply pw_below_drewN | apply below_drew1) | exact HB.out)) hb); clear HB; have HO325 := n0_; have HB := n1_; clear n0_ n1_; (try clear hb); (try clear hb2); (try clear hk); (try clear hi); (try clear ho0)))
      (try simp only [Act.put, List.setIfInBounds_toArray, List.set_cons_zero, List.set_cons_succ])
      go_cut [45] (fun v45 wc => ∃ (kq : Nat) (x45_10 : Bool), v45 = .bool x45_10 ∧ Aside0 (wageofficelaw06_LexerErrors.j0 kq a0 t320 t322 t323 x45_10 = some r) ∧ Aside0 (kq ≤ k) ∧ Aside0 (Below w.heap.size w wc))
      case first =>
        have H := HC11.out
        clear HC11
        by_cases c14 : (t321.length : Int) > 0
        · rw [if_pos c14] at H
          have c14b0 : decide (0 < (t321.length : Int)) = true := decide_eq_true c14
          have c14b1 : decide (0 < t321.length) = true := decide_eq_true (by omega)
          clear c14
          (first | rw [c14b0] | (simp only [i64_w, i32_w]; rw [c14b0]) | skip)
          have H' := Aside0.mk H
          clear H
          obtain ⟨Ao15, co15, eo15⟩ := Kd.R_slice HO325.out
          subst eo15
          go_wp2
          go_meet
          case rel => exact ⟨_, (true), (by first | rfl | (simp; done) | (simp [*]; done)), H', ⟨by first | omega | exact Nat.le_refl _⟩, ⟨by repeat (first | (with_reducible first | exact HB.out | apply below_alloc | apply pw_below_drewN | apply below_drew1) | exact HB.out)⟩⟩
        · rw [if_neg c14] at H
          have c14b0 : decide (0 < (t321.length : Int)) = false := decide_eq_false c14
          have c14b1 : decide (0 < t321.length) = false := decide_eq_false (by omega)
          clear c14
          (first | rw [c14b0] | (simp only [i64_w, i32_w]; rw [c14b0]) | skip)
          by_cases c16 : t323 < 0
          · rw [if_pos c16] at H
            have c16b0 : decide (t323 < 0) = true := decide_eq_true c16
            clear c16
            have H' := Aside0.mk H
            clear H
            obtain ⟨Ao17, co17, eo17⟩ := Kd.R_slice HO325.out
            subst eo17
            go_wp2
            go_meet
            case rel => exact ⟨_, (true), (by first | rfl | (simp; done) | (simp [*]; done)), H', ⟨by first | omega | exact Nat.le_refl _⟩, ⟨by repeat (first | (with_reducible first | exact HB.out | apply below_alloc | apply pw_below_drewN | apply below_drew1) | exact HB.out)⟩⟩
          · rw [if_neg c16] at H
            have c16b0 : decide (t323 < 0) = false := decide_eq_false c16
            clear c16
            have H' := Aside0.mk H
            clear H
            obtain ⟨Ao18, co18, eo18⟩ := Kd.R_slice HO325.out
            subst eo18
            go_wp2
            go_meet
            case rel => exact ⟨_, (decide (t323 ≥ (a0.size : Int))), (by first | rfl | (simp; done) | (simp [*]; done)), H', ⟨by first | omega | exact Nat.le_refl _⟩, ⟨by repeat (first | (with_reducible first | exact HB.out | apply below_alloc | apply pw_below_drewN | apply below_drew1) | exact HB.out)⟩⟩
      case rest =>
        clear HC11
        try clear c1
        try clear p2
        try clear c3
        try clear c3b0
        try clear c3b1
        try clear c6
        try clear c6b0
        try clear c6b1
        try clear c7
        try clear c8
        try clear c8b0
        try clear c8b1
        try clear c10
        try clear c11
        try clear c14
        try clear c14b0
        try clear c14b1
        try clear c16
        try clear c16b0
        obtain ⟨kq, x45_10, rfl, HA, HJ10, HB⟩ := hcut
        cases kq with
        | zero => exact absurd HA.out (by simp [wageofficelaw06_LexerErrors.j0])
        | succ kj10 =>
          have H := HA.out
          clear HA
          simp only [wageofficelaw06_LexerErrors.j0] at H
          by_cases c19 : x45_10 = true
          · subst c19
            have H1 : (some false) = some r := by rw [if_pos rfl] at H; exact H
            clear H
            have H := H1
            clear H1
            exact absurd ((Option.some.inj H).trans PR.out) (by decide)
          · replace c19 := Bool.eq_false_iff.mpr c19
            subst c19
            have H1 : (if (a0.size : Int) > 6000 then (if t320 = true then (if t322 = 2 then (some (t323 == 0)) else (some false)) else (some false)) else (if 0 ≤ t323 then (if t323 ≤ (a0.size : Int) then ((lexer_Lex.f (a0.extract 0 (t323 : Int).toNat)).bind fun bt326 => (if t320 = true then (if bt326.2.1 = 0 then (if t322 = 61 then (some true) else (if t322 = 2 then (some ((bt326.1.length : Int) == 2000)) else (some false))) else (some false)) else (some false))) else (none)) else (none))) = some r := by rw [if_neg (show ¬ (false = true) by decide)] at H; exact H
            clear H
            have H := H1
            clear H1
            by_cases c20 : (a0.size : Int) > 6000
            · rw [if_pos c20] at H
              have c20b0 : decide (6000 < (a0.size : Int)) = true := decide_eq_true c20
              have c20b1 : decide (6000 < a0.size) = true := decide_eq_true (by omega)
              clear c20
              by_cases c21 : t320 = true
              · subst c21
                have H1 : (if t322 = 2 then (some (t323 == 0)) else (some false)) = some r := by rw [if_pos rfl] at H; exact H
                clear H
                have H := H1
                clear H1
                by_cases c22 : t322 = 2
                · rw [if_pos c22] at H
                  have c22b0 : (t322 == 2) = true := beq_iff_eq.mpr c22
                  have c22b1 : (t322 != 2) = false := bne_eq_false_iff_eq.mpr c22
                  clear c22
                  obtain rfl := Option.some.inj H
                  go_wp2
                  go_ret
                  exact ⟨by first | rfl | (simp [errW_none, errW_some] <;> rfl) | (simp [*, errW_none, errW_some] <;> rfl), by repeat (first | (with_reducible first | exact HB.out | apply below_alloc | apply pw_below_drewN | apply below_drew1) | exact HB.out)⟩
                · rw [if_neg c22] at H
                  have c22b0 : (t322 == 2) = false := beq_eq_false_iff_ne.mpr c22
                  have c22b1 : (t322 != 2) = true := bne_iff_ne.mpr c22
                  exact absurd ((Option.some.inj H).trans PR.out) (by decide)
              · replace c21 := Bool.eq_false_iff.mpr c21
                subst c21
                have H1 : (some false) = some r := by rw [if_neg (show ¬ (false = true) by decide)] at H; exact H
                clear H
                have H := H1
                clear H1
                exact absurd ((Option.some.inj H).trans PR.out) (by decide)
            · rw [if_neg c20] at H
              have c20b0 : decide (6000 < (a0.size : Int)) = false := decide_eq_false c20
              have c20b1 : decide (6000 < a0.size) = false := decide_eq_false (by omega)
              clear c20
              by_cases c23 : 0 ≤ t323
              · rw [if_pos c23] at H
                have c23b0 := eq_true c23
                have c23b1 : decide (0 ≤ t323) = true := decide_eq_true c23
                clear c23
                by_cases c24 : t323 ≤ (a0.size : Int)
                · rw [if_pos c24] at H
                  have c24b0 := eq_true c24
                  have c24b1 : decide (t323 ≤ (a0.size : Int)) = true := decide_eq_true c24
                  clear c24
                  replace H := Option.bind_eq_some_iff.mp H
                  obtain ⟨⟨t326, t327, t328⟩, A250, H⟩ := H
                  replace H : (if t320 = true then (if t327 = 0 then (if t322 = 61 then (some true) else (if t322 = 2 then (some ((t326.length : Int) == 2000)) else (some false))) else (some false)) else (some false)) = some r := H
                  have A25 := Aside0.mk A250
                  clear A250
                  by_cases c26 : t320 = true
                  · subst c26
                    have H1 : (if t327 = 0 then (if t322 = 61 then (some true) else (if t322 = 2 then (some ((t326.length : Int) == 2000)) else (some false))) else (some false)) = some r := by rw [if_pos rfl] at H; exact H
                    clear H
                    have H := H1
                    clear H1
                    by_cases c27 : t327 = 0
                    · rw [if_pos c27] at H
                      have c27b0 : (t327 == 0) = true := beq_iff_eq.mpr c27
                      have c27b1 : (t327 != 0) = false := bne_eq_false_iff_eq.mpr c27
                      clear c27
                      by_cases c28 : t322 = 61
                      · rw [if_pos c28] at H
                        have c28b0 : (t322 == 61) = true := beq_iff_eq.mpr c28
                        have c28b1 : (t322 != 61) = false := bne_eq_false_iff_eq.mpr c28
                        clear c28
                        obtain rfl := Option.some.inj H
                        go_wp2_with (first | ((with_reducible refine gate_callee (f := 11) rfl ?_); refine goesL_ (some 62) rfl rfl Tryd.func11 (by kernel_rfl) rfl #[.string (a0.extract 0 (t323 : Int).toNat)] rfl (by (try simp only [List.map_toArray, List.map_cons, List.map_nil]); first | done | rfl | (simp only [List.length_drop, List.length_take]; rfl)) ?_; (with_reducible refine (lexer_Lex.calls (a0.extract 0 (t323 : Int).toNat) t326 t327 t328 _ ?sideG A25.out).mono ?_); (case sideG => exact HG.out.below (by repeat (first | (with_reducible first | exact HB.out | apply below_alloc | apply pw_below_drewN | apply below_drew1) | exact HB.out))); rintro e w29 ⟨v329, rfl, ho0, hb⟩; refine ⟨_, rfl, ?_⟩; have n0_ := Aside0.mk (Kd.R_lower ho0 (below_size (by repeat (first | (with_reducible first | exact HB.out | apply below_alloc | apply pw_below_drewN | apply below_drew1) | exact HB.out)))); have n1_ := Aside0.mk (below_step (by repeat (first | (with_reducible first | exact HB.out | apply below_alloc | apply pw_below_drewN | apply below_drew1) | exact HB.out)) hb); clear HB; have HO330 := n0_; have HB := n1_; clear n0_ n1_; (try clear hb); (try clear hb2); (try clear hk); (try clear hi); (try clear ho0)))
                        go_ret
                        exact ⟨by first | rfl | (simp [errW_none, errW_some] <;> rfl) | (simp [*, errW_none, errW_some] <;> rfl), by repeat (first | (with_reducible first | exact HB.out | apply below_alloc | apply pw_below_drewN | apply below_drew1) | exact HB.out)⟩
                      · rw [if_neg c28] at H
                        have c28b0 : (t322 == 61) = false := beq_eq_false_iff_ne.mpr c28
                        have c28b1 : (t322 != 61) = true := bne_iff_ne.mpr c28
                        by_cases c30 : t322 = 2
                        · rw [if_pos c30] at H
                          have c30b0 : (t322 == 2) = true := beq_iff_eq.mpr c30
                          have c30b1 : (t322 != 2) = false := bne_eq_false_iff_eq.mpr c30
                          clear c30
                          obtain rfl := Option.some.inj H
                          go_wp2_with (first | ((with_reducible refine gate_callee (f := 11) rfl ?_); refine goesL_ (some 62) rfl rfl Tryd.func11 (by kernel_rfl) rfl #[.string (a0.extract 0 (t323 : Int).toNat)] rfl (by (try simp only [List.map_toArray, List.map_cons, List.map_nil]); first | done | rfl | (simp only [List.length_drop, List.length_take]; rfl)) ?_; (with_reducible refine (lexer_Lex.calls (a0.extract 0 (t323 : Int).toNat) t326 t327 t328 _ ?sideG A25.out).mono ?_); (case sideG => exact HG.out.below (by repeat (first | (with_reducible first | exact HB.out | apply below_alloc | apply pw_below_drewN | apply below_drew1) | exact HB.out))); rintro e w31 ⟨v329, rfl, ho0, hb⟩; refine ⟨_, rfl, ?_⟩; have n0_ := Aside0.mk (Kd.R_lower ho0 (below_size (by repeat (first | (with_reducible first | exact HB.out | apply below_alloc | apply pw_below_drewN | apply below_drew1) | exact HB.out)))); have n1_ := Aside0.mk (below_step (by repeat (first | (with_reducible first | exact HB.out | apply below_alloc | apply pw_below_drewN | apply below_drew1) | exact HB.out)) hb); clear HB; have HO330 := n0_; have HB := n1_; clear n0_ n1_; (try clear hb); (try clear hb2); (try clear hk); (try clear hi); (try clear ho0); obtain ⟨Ao32, co32, eo32⟩ := Kd.R_slice HO330.out; subst eo32))
                          go_ret
                          exact ⟨by first | rfl | (simp [errW_none, errW_some] <;> rfl) | (simp [*, errW_none, errW_some] <;> rfl), by repeat (first | (with_reducible first | exact HB.out | apply below_alloc | apply pw_below_drewN | apply below_drew1) | exact HB.out)⟩
                        · rw [if_neg c30] at H
                          have c30b0 : (t322 == 2) = false := beq_eq_false_iff_ne.mpr c30
                          have c30b1 : (t322 != 2) = true := bne_iff_ne.mpr c30
                          exact absurd ((Option.some.inj H).trans PR.out) (by decide)
                    · rw [if_neg c27] at H
                      have c27b0 : (t327 == 0) = false := beq_eq_false_iff_ne.mpr c27
                      have c27b1 : (t327 != 0) = true := bne_iff_ne.mpr c27
                      exact absurd ((Option.some.inj H).trans PR.out) (by decide)
                  · replace c26 := Bool.eq_false_iff.mpr c26
                    subst c26
                    have H1 : (some false) = some r := by rw [if_neg (show ¬ (false = true) by decide)] at H; exact H
                    clear H
                    have H := H1
                    clear H1
                    exact absurd ((Option.some.inj H).trans PR.out) (by decide)
                · rw [if_neg c24] at H
                  exact absurd H (by simp)
              · rw [if_neg c23] at H
                exact absurd H (by simp)

/-- THE ONE PURE STATEMENT of wageofficelaw06_LexerErrors: yours. -/
def wageofficelaw06_LexerErrors.Pure : Prop := ∀ (a0 : ByteArray), a0.size ≤ 140737488351232 → ∃ k, wageofficelaw06_LexerErrors.f k a0 = some true
theorem wageofficelaw06_LexerErrors.walk (P : wageofficelaw06_LexerErrors.Pure) (a0 : ByteArray) (w : World) (hG : Glob w) (w0 : a0.size ≤ 140737488351232) :
    Calls Tryd.prog 8 #[.string a0] w fun e w' => e = .returned (.bool true) ∧ Below w.heap.size w w' := by
  obtain ⟨k, h⟩ := P a0 w0
  refine (wageofficelaw06_LexerErrors.calls k a0 true w hG rfl h).mono ?_
  rintro e w' ⟨rfl, hd⟩
  exact ⟨rfl, hd⟩

-- NOT PRINTED: function 9 (wageofficelaw06_LexerWords)

end Go.Proofs.YticmjkjojhcdpaaDoor.PAll

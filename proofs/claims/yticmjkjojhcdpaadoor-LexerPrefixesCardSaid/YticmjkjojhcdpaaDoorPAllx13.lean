-- Printed by a program (the kit's print, with functions given by hand) out of the translation: machine-written for this claim.
import Derived.Test.YticmjkjojhcdpaaDoorPAllx0
import Derived.Test.YticmjkjojhcdpaaDoorLex
import Derived.Test.YticmjkjojhcdpaaDoorPAllx6
import Derived.Test.YticmjkjojhcdpaaDoorPAllx10
namespace Go.Proofs.YticmjkjojhcdpaaDoor.PAll
open Go.RowKit Go.Proofs.YticmjkjojhcdpaaDoorW.PrintWords Go.Proofs.YticmjkjojhcdpaaDoorW.PrintLast Go.Proofs.YticmjkjojhcdpaaDoorW.PrintMore
attribute [local go_sem] max2_int min2_int max_two min_two max_three min_three max_four min_four   -- for this text's walks alone
set_option linter.unusedVariables false
set_option linter.unusedSimpArgs false

/-! ### wageofficelaw06_LexerPrefixes: function 5 -/
mutual
def wageofficelaw06_LexerPrefixes.j0 : Nat → ByteArray → Int → Bool → List (S30) → Bool → Option (Bool)
  | 0, _, _, _, _, _ => none
  | k + 1, x0, x1, x5, x6, x31 => if x31 = true then (some x5) else (if (x6.length : Int) = 0 then (none) else (if 0 ≤ (Int.tmod (wrap64 (x1)) (x6.length : Int)) then (if (Int.tmod (wrap64 (x1)) (x6.length : Int)) < (x6.length : Int) then (if ((rd_T30 x6 (Int.tmod (wrap64 (x1)) (x6.length : Int))).f2) < 0 then (wageofficelaw06_LexerPrefixes.j1 k x0 x5 x6 (Int.tmod (wrap64 (x1)) (x6.length : Int)) (wrap64 (((rd_T30 x6 (Int.tmod (wrap64 (x1)) (x6.length : Int))).f2) + (((rd_T30 x6 (Int.tmod (wrap64 (x1)) (x6.length : Int))).f1).size : Int))) true) else (wageofficelaw06_LexerPrefixes.j1 k x0 x5 x6 (Int.tmod (wrap64 (x1)) (x6.length : Int)) (wrap64 (((rd_T30 x6 (Int.tmod (wrap64 (x1)) (x6.length : Int))).f2) + (((rd_T30 x6 (Int.tmod (wrap64 (x1)) (x6.length : Int))).f1).size : Int))) (decide ((wrap64 (((rd_T30 x6 (Int.tmod (wrap64 (x1)) (x6.length : Int))).f2) + (((rd_T30 x6 (Int.tmod (wrap64 (x1)) (x6.length : Int))).f1).size : Int))) > (x0.size : Int))))) else (none)) else (none)))
def wageofficelaw06_LexerPrefixes.j1 : Nat → ByteArray → Bool → List (S30) → Int → Int → Bool → Option (Bool)
  | 0, _, _, _, _, _, _ => none
  | k + 1, x0, x5, x6, x9, x10, x61 => if x61 = true then (some false) else (if 0 ≤ x10 then (if x10 ≤ (x0.size : Int) then ((lexer_Lex.f (x0.extract 0 (x10 : Int).toNat)).bind fun bt246 => (if x5 = true then (if bt246.2.1 = 0 then (if 0 ≤ (wrap64 (x9 + 1)) then (if (wrap64 (x9 + 1)) ≤ (x6.length : Int) then ((wageofficeref06_Same.f k bt246.1 (x6.take ((wrap64 (x9 + 1)) : Int).toNat)).bind fun t255 => (some t255)) else (none)) else (none)) else (some false)) else (some false))) else (none)) else (none))
end
def wageofficelaw06_LexerPrefixes.f (k : Nat) (a0 : ByteArray) (a1 : Int) : Option (Bool) := (wageofficelaw06_head.f k).bind fun t237 => (if (a0.size : Int) > 7000 then (some t237) else ((lexer_Lex.f a0).bind fun bt238 => (if bt238.2.1 = 0 then (wageofficelaw06_LexerPrefixes.j0 k a0 a1 t237 bt238.1 ((bt238.1.length : Int) == 0)) else (wageofficelaw06_LexerPrefixes.j0 k a0 a1 t237 bt238.1 true))))
theorem wageofficelaw06_LexerPrefixes.mono_l : ∀ k, (∀ y0 y1 y2 y3 y4, LeO (wageofficelaw06_LexerPrefixes.j0 k y0 y1 y2 y3 y4) (wageofficelaw06_LexerPrefixes.j0 (k + 1) y0 y1 y2 y3 y4)) ∧ (∀ y0 y1 y2 y3 y4 y5, LeO (wageofficelaw06_LexerPrefixes.j1 k y0 y1 y2 y3 y4 y5) (wageofficelaw06_LexerPrefixes.j1 (k + 1) y0 y1 y2 y3 y4 y5))
  | 0 => ⟨fun _ _ _ _ _ r h => by simp [wageofficelaw06_LexerPrefixes.j0] at h, fun _ _ _ _ _ _ r h => by simp [wageofficelaw06_LexerPrefixes.j1] at h⟩
  | k + 1 => by
    obtain ⟨ih0, ih1⟩ := wageofficelaw06_LexerPrefixes.mono_l k
    refine ⟨?_, ?_⟩
    · intro y0 y1 y2 y3 y4
      unfold wageofficelaw06_LexerPrefixes.j0
      repeat' first
      | (with_reducible exact ih0 _ _ _ _ _)
      | (with_reducible exact ih1 _ _ _ _ _ _)
      | (with_reducible exact wageofficelaw06_head.mono _)
      | (with_reducible exact wageofficeref06_Same.mono _ _ _)
      | (with_reducible exact LeO.refl _)
      | (with_reducible exact LeO.none _)
      | (with_reducible refine LeO.ite ?_ ?_)
      | (with_reducible refine LeO.bind ?_ (fun _ => ?_))
      | exact ih0 _ _ _ _ _
      | exact ih1 _ _ _ _ _ _
      | exact wageofficelaw06_head.mono _
      | exact wageofficeref06_Same.mono _ _ _
      | exact LeO.none _
      | refine LeO.ite ?_ ?_
      | refine LeO.bind ?_ (fun _ => ?_)
    · intro y0 y1 y2 y3 y4 y5
      unfold wageofficelaw06_LexerPrefixes.j1
      repeat' first
      | (with_reducible exact ih0 _ _ _ _ _)
      | (with_reducible exact ih1 _ _ _ _ _ _)
      | (with_reducible exact wageofficelaw06_head.mono _)
      | (with_reducible exact wageofficeref06_Same.mono _ _ _)
      | (with_reducible exact LeO.refl _)
      | (with_reducible exact LeO.none _)
      | (with_reducible refine LeO.ite ?_ ?_)
      | (with_reducible refine LeO.bind ?_ (fun _ => ?_))
      | exact ih0 _ _ _ _ _
      | exact ih1 _ _ _ _ _ _
      | exact wageofficelaw06_head.mono _
      | exact wageofficeref06_Same.mono _ _ _
      | exact LeO.none _
      | refine LeO.ite ?_ ?_
      | refine LeO.bind ?_ (fun _ => ?_)
theorem wageofficelaw06_LexerPrefixes.mono : ∀ a0 a1 k, LeO (wageofficelaw06_LexerPrefixes.f k a0 a1) (wageofficelaw06_LexerPrefixes.f (k + 1) a0 a1) := by
  intro a0 a1 k
  obtain ⟨ih0, ih1⟩ := wageofficelaw06_LexerPrefixes.mono_l k
  unfold wageofficelaw06_LexerPrefixes.f
  repeat' first
      | (with_reducible exact ih0 _ _ _ _ _)
      | (with_reducible exact ih1 _ _ _ _ _ _)
      | (with_reducible exact wageofficelaw06_head.mono _)
      | (with_reducible exact wageofficeref06_Same.mono _ _ _)
      | (with_reducible exact LeO.refl _)
      | (with_reducible exact LeO.none _)
      | (with_reducible refine LeO.ite ?_ ?_)
      | (with_reducible refine LeO.bind ?_ (fun _ => ?_))
      | exact ih0 _ _ _ _ _
      | exact ih1 _ _ _ _ _ _
      | exact wageofficelaw06_head.mono _
      | exact wageofficeref06_Same.mono _ _ _
      | exact LeO.none _
      | refine LeO.ite ?_ ?_
      | refine LeO.bind ?_ (fun _ => ?_)
set_option maxHeartbeats 8000000 in
set_option maxRecDepth 100000 in
theorem wageofficelaw06_LexerPrefixes.calls (k : Nat) (a0 : ByteArray) (a1 : Int) (r : Bool) (w : World) (hG : Glob w) (hr : r = true) (h : wageofficelaw06_LexerPrefixes.f k a0 a1 = some r) :
    Calls Tryd.prog 5 #[.string a0, .int .u16 a1] w fun e w' => e = .returned (.bool r) ∧ Below w.heap.size w w' := by
  have HG := Aside0.mk hG
  clear hG
  have HB := Aside0.mk (Below.refl w.heap.size w)
  have PR := Aside0.mk hr
  clear hr
  have H : ((wageofficelaw06_head.f k).bind fun t237 => (if (a0.size : Int) > 7000 then (some t237) else ((lexer_Lex.f a0).bind fun bt238 => (if bt238.2.1 = 0 then (wageofficelaw06_LexerPrefixes.j0 k a0 a1 t237 bt238.1 ((bt238.1.length : Int) == 0)) else (wageofficelaw06_LexerPrefixes.j0 k a0 a1 t237 bt238.1 true))))) = some r := h
  clear h
  replace H := Option.bind_eq_some_iff.mp H
  obtain ⟨t237, A30, H⟩ := H
  replace H : (if (a0.size : Int) > 7000 then (some t237) else ((lexer_Lex.f a0).bind fun bt238 => (if bt238.2.1 = 0 then (wageofficelaw06_LexerPrefixes.j0 k a0 a1 t237 bt238.1 ((bt238.1.length : Int) == 0)) else (wageofficelaw06_LexerPrefixes.j0 k a0 a1 t237 bt238.1 true)))) = some r := H
  have A3 := Aside0.mk A30
  clear A30
  by_cases c4 : (a0.size : Int) > 7000
  · rw [if_pos c4] at H
    have c4b0 : decide (7000 < (a0.size : Int)) = true := decide_eq_true c4
    have c4b1 : decide (7000 < a0.size) = true := decide_eq_true (by omega)
    clear c4
    obtain rfl := Option.some.inj H
    go_enter Tryd.func5, Tryd.ntmps5
    go_wp2_with (first | (go_at_call 10; (with_reducible refine (wageofficelaw06_head.calls k  t237 _ ?sideG A3.out).mono ?_); (case sideG => exact HG.out.below (by repeat (first | (with_reducible first | exact HB.out | apply below_alloc | apply pw_below_drewN | apply below_drew1) | exact HB.out))); rintro e w5 ⟨rfl, hb⟩; have n0_ := Aside0.mk (below_step (by repeat (first | (with_reducible first | exact HB.out | apply below_alloc | apply pw_below_drewN | apply below_drew1) | exact HB.out)) hb); clear HB; have HB := n0_; clear n0_; (try clear hb); (try clear hb2); (try clear hk); (try clear hi)))
    repeat (go_quiet (first | (go_at_call 10; (with_reducible refine (wageofficelaw06_head.calls k  t237 _ ?sideG A3.out).mono ?_); (case sideG => exact HG.out.below (by repeat (first | (with_reducible first | exact HB.out | apply below_alloc | apply pw_below_drewN | apply below_drew1) | exact HB.out))); rintro e w5 ⟨rfl, hb⟩; have n0_ := Aside0.mk (below_step (by repeat (first | (with_reducible first | exact HB.out | apply below_alloc | apply pw_below_drewN | apply below_drew1) | exact HB.out)) hb); clear HB; have HB := n0_; clear n0_; (try clear hb); (try clear hb2); (try clear hk); (try clear hi))); try go_wp2_with (first | (go_at_call 10; (with_reducible refine (wageofficelaw06_head.calls k  t237 _ ?sideG A3.out).mono ?_); (case sideG => exact HG.out.below (by repeat (first | (with_reducible first | exact HB.out | apply below_alloc | apply pw_below_drewN | apply below_drew1) | exact HB.out))); rintro e w5 ⟨rfl, hb⟩; have n0_ := Aside0.mk (below_step (by repeat (first | (with_reducible first | exact HB.out | apply below_alloc | apply pw_below_drewN | apply below_drew1) | exact HB.out)) hb); clear HB; have HB := n0_; clear n0_; (try clear hb); (try clear hb2); (try clear hk); (try clear hi))))
    go_ret
    exact ⟨by first | rfl | (simp [errW_none, errW_some] <;> rfl) | (simp [*, errW_none, errW_some] <;> rfl), by repeat (first | (with_reducible first | exact HB.out | apply below_alloc | apply pw_below_drewN | apply below_drew1) | exact HB.out)⟩
  · rw [if_neg c4] at H
    have c4b0 : decide (7000 < (a0.size : Int)) = false := decide_eq_false c4
    have c4b1 : decide (7000 < a0.size) = false := decide_eq_false (by omega)
    clear c4
    replace H := Option.bind_eq_some_iff.mp H
    obtain ⟨⟨t238, t239, t240⟩, A60, H⟩ := H
    replace H : (if t239 = 0 then (wageofficelaw06_LexerPrefixes.j0 k a0 a1 t237 t238 ((t238.length : Int) == 0)) else (wageofficelaw06_LexerPrefixes.j0 k a0 a1 t237 t238 true)) = some r := H
    have A6 := Aside0.mk A60
    clear A60
    have HC7 := Aside0.mk H
    clear H
    go_enter Tryd.func5, Tryd.ntmps5
    go_upto_region 5 with (first | (go_at_call 10; (with_reducible refine (wageofficelaw06_head.calls k  t237 _ ?sideG A3.out).mono ?_); (case sideG => exact HG.out.below (by repeat (first | (with_reducible first | exact HB.out | apply below_alloc | apply pw_below_drewN | apply below_drew1) | exact HB.out))); rintro e w8 ⟨rfl, hb⟩; have n0_ := Aside0.mk (below_step (by repeat (first | (with_reducible first | exact HB.out | apply below_alloc | apply pw_below_drewN | apply below_drew1) | exact HB.out)) hb); clear HB; have HB := n0_; clear n0_; (try clear hb); (try clear hb2); (try clear hk); (try clear hi)) | (go_at_call 11; (with_reducible refine (lexer_Lex.calls a0 t238 t239 t240 _ ?sideG A6.out).mono ?_); (case sideG => exact HG.out.below (by repeat (first | (with_reducible first | exact HB.out | apply below_alloc | apply pw_below_drewN | apply below_drew1) | exact HB.out))); rintro e w9 ⟨v241, rfl, ho0, hb⟩; have n0_ := Aside0.mk (Kd.R_lower ho0 (below_size (by repeat (first | (with_reducible first | exact HB.out | apply below_alloc | apply pw_below_drewN | apply below_drew1) | exact HB.out)))); have n1_ := Aside0.mk (below_step (by repeat (first | (with_reducible first | exact HB.out | apply below_alloc | apply pw_below_drewN | apply below_drew1) | exact HB.out)) hb); clear HB; have HO242 := n0_; have HB := n1_; clear n0_ n1_; (try clear hb); (try clear hb2); (try clear hk); (try clear hi); (try clear ho0)))
    repeat (go_quiet (first | (go_at_call 10; (with_reducible refine (wageofficelaw06_head.calls k  t237 _ ?sideG A3.out).mono ?_); (case sideG => exact HG.out.below (by repeat (first | (with_reducible first | exact HB.out | apply below_alloc | apply pw_below_drewN | apply below_drew1) | exact HB.out))); rintro e w8 ⟨rfl, hb⟩; have n0_ := Aside0.mk (below_step (by repeat (first | (with_reducible first | exact HB.out | apply below_alloc | apply pw_below_drewN | apply below_drew1) | exact HB.out)) hb); clear HB; have HB := n0_; clear n0_; (try clear hb); (try clear hb2); (try clear hk); (try clear hi)) | (go_at_call 11; (with_reducible refine (lexer_Lex.calls a0 t238 t239 t240 _ ?sideG A6.out).mono ?_); (case sideG => exact HG.out.below (by repeat (first | (with_reducible first | exact HB.out | apply below_alloc | apply pw_below_drewN | apply below_drew1) | exact HB.out))); rintro e w9 ⟨v241, rfl, ho0, hb⟩; have n0_ := Aside0.mk (Kd.R_lower ho0 (below_size (by repeat (first | (with_reducible first | exact HB.out | apply below_alloc | apply pw_below_drewN | apply below_drew1) | exact HB.out)))); have n1_ := Aside0.mk (below_step (by repeat (first | (with_reducible first | exact HB.out | apply below_alloc | apply pw_below_drewN | apply below_drew1) | exact HB.out)) hb); clear HB; have HO242 := n0_; have HB := n1_; clear n0_ n1_; (try clear hb); (try clear hb2); (try clear hk); (try clear hi); (try clear ho0))); go_upto_region 5 with (first | (go_at_call 10; (with_reducible refine (wageofficelaw06_head.calls k  t237 _ ?sideG A3.out).mono ?_); (case sideG => exact HG.out.below (by repeat (first | (with_reducible first | exact HB.out | apply below_alloc | apply pw_below_drewN | apply below_drew1) | exact HB.out))); rintro e w8 ⟨rfl, hb⟩; have n0_ := Aside0.mk (below_step (by repeat (first | (with_reducible first | exact HB.out | apply below_alloc | apply pw_below_drewN | apply below_drew1) | exact HB.out)) hb); clear HB; have HB := n0_; clear n0_; (try clear hb); (try clear hb2); (try clear hk); (try clear hi)) | (go_at_call 11; (with_reducible refine (lexer_Lex.calls a0 t238 t239 t240 _ ?sideG A6.out).mono ?_); (case sideG => exact HG.out.below (by repeat (first | (with_reducible first | exact HB.out | apply below_alloc | apply pw_below_drewN | apply below_drew1) | exact HB.out))); rintro e w9 ⟨v241, rfl, ho0, hb⟩; have n0_ := Aside0.mk (Kd.R_lower ho0 (below_size (by repeat (first | (with_reducible first | exact HB.out | apply below_alloc | apply pw_below_drewN | apply below_drew1) | exact HB.out)))); have n1_ := Aside0.mk (below_step (by repeat (first | (with_reducible first | exact HB.out | apply below_alloc | apply pw_below_drewN | apply below_drew1) | exact HB.out)) hb); clear HB; have HO242 := n0_; have HB := n1_; clear n0_ n1_; (try clear hb); (try clear hb2); (try clear hk); (try clear hi); (try clear ho0))))
    (try simp only [Act.put, List.setIfInBounds_toArray, List.set_cons_zero, List.set_cons_succ])
    go_cut [31] (fun v31 wc => ∃ (kq : Nat) (x31_6 : Bool), v31 = .bool x31_6 ∧ Aside0 (wageofficelaw06_LexerPrefixes.j0 kq a0 a1 t237 t238 x31_6 = some r) ∧ Aside0 (kq ≤ k) ∧ Aside0 (Kd.R k30 30 wc w.heap.size (fun _ => True) v241 t238) ∧ Aside0 (Below w.heap.size w wc))
    case first =>
      have H := HC7.out
      clear HC7
      by_cases c10 : t239 = 0
      · rw [if_pos c10] at H
        have c10b0 : (t239 == 0) = true := beq_iff_eq.mpr c10
        have c10b1 : (t239 != 0) = false := bne_eq_false_iff_eq.mpr c10
        clear c10
        (first | rw [c10b0] | (simp only [i64_w, i32_w]; rw [c10b0]) | skip)
        have H' := Aside0.mk H
        clear H
        obtain ⟨Ao11, co11, eo11⟩ := Kd.R_slice HO242.out
        subst eo11
        go_wp2
        repeat (go_quiet (fail); try go_wp2)
        go_meet
        case rel => exact ⟨_, (((t238.length : Int) == 0)), (by first | rfl | (simp; done) | (simp [*]; done)), H', ⟨by first | omega | exact Nat.le_refl _⟩, ⟨by (with_reducible repeat (first | apply Kd.R_alloc | apply Kd.R_drewN | apply Kd.R_drew)); exact HO242.out⟩, ⟨by repeat (first | (with_reducible first | exact HB.out | apply below_alloc | apply pw_below_drewN | apply below_drew1) | exact HB.out)⟩⟩
      · rw [if_neg c10] at H
        have c10b0 : (t239 == 0) = false := beq_eq_false_iff_ne.mpr c10
        have c10b1 : (t239 != 0) = true := bne_iff_ne.mpr c10
        (first | rw [c10b0] | (simp only [i64_w, i32_w]; rw [c10b0]) | skip)
        have H' := Aside0.mk H
        clear H
        go_wp2
        repeat (go_quiet (fail); try go_wp2)
        go_meet
        case rel => exact ⟨_, (true), (by first | rfl | (simp; done) | (simp [*]; done)), H', ⟨by first | omega | exact Nat.le_refl _⟩, ⟨by (with_reducible repeat (first | apply Kd.R_alloc | apply Kd.R_drewN | apply Kd.R_drew)); exact HO242.out⟩, ⟨by repeat (first | (with_reducible first | exact HB.out | apply below_alloc | apply pw_below_drewN | apply below_drew1) | exact HB.out)⟩⟩
    case rest =>
      clear HC7
      try clear c1
      try clear p2
      try clear c4
      try clear c4b0
      try clear c4b1
      try clear c5
      try clear c10
      try clear c10b0
      try clear c10b1
      obtain ⟨kq, x31_6, rfl, HA, HJ6, HO_6, HB⟩ := hcut
      cases kq with
      | zero => exact absurd HA.out (by simp [wageofficelaw06_LexerPrefixes.j0])
      | succ kj6 =>
        have H := HA.out
        clear HA
        simp only [wageofficelaw06_LexerPrefixes.j0] at H
        by_cases c12 : x31_6 = true
        · subst c12
          have H1 : (some t237) = some r := by rw [if_pos rfl] at H; exact H
          clear H
          have H := H1
          clear H1
          obtain rfl := Option.some.inj H
          go_wp2
          repeat (go_quiet (fail); try go_wp2)
          go_ret
          exact ⟨by first | rfl | (simp [errW_none, errW_some] <;> rfl) | (simp [*, errW_none, errW_some] <;> rfl), by repeat (first | (with_reducible first | exact HB.out | apply below_alloc | apply pw_below_drewN | apply below_drew1) | exact HB.out)⟩
        · replace c12 := Bool.eq_false_iff.mpr c12
          subst c12
          have H1 : (if (t238.length : Int) = 0 then (none) else (if 0 ≤ (Int.tmod (wrap64 (a1)) (t238.length : Int)) then (if (Int.tmod (wrap64 (a1)) (t238.length : Int)) < (t238.length : Int) then (if ((rd_T30 t238 (Int.tmod (wrap64 (a1)) (t238.length : Int))).f2) < 0 then (wageofficelaw06_LexerPrefixes.j1 kj6 a0 t237 t238 (Int.tmod (wrap64 (a1)) (t238.length : Int)) (wrap64 (((rd_T30 t238 (Int.tmod (wrap64 (a1)) (t238.length : Int))).f2) + (((rd_T30 t238 (Int.tmod (wrap64 (a1)) (t238.length : Int))).f1).size : Int))) true) else (wageofficelaw06_LexerPrefixes.j1 kj6 a0 t237 t238 (Int.tmod (wrap64 (a1)) (t238.length : Int)) (wrap64 (((rd_T30 t238 (Int.tmod (wrap64 (a1)) (t238.length : Int))).f2) + (((rd_T30 t238 (Int.tmod (wrap64 (a1)) (t238.length : Int))).f1).size : Int))) (decide ((wrap64 (((rd_T30 t238 (Int.tmod (wrap64 (a1)) (t238.length : Int))).f2) + (((rd_T30 t238 (Int.tmod (wrap64 (a1)) (t238.length : Int))).f1).size : Int))) > (a0.size : Int))))) else (none)) else (none))) = some r := by rw [if_neg (show ¬ (false = true) by decide)] at H; exact H
          clear H
          have H := H1
          clear H1
          by_cases c13 : (t238.length : Int) = 0
          · rw [if_pos c13] at H
            exact absurd H (by simp)
          · rw [if_neg c13] at H
            have c13b0 : ((t238.length : Int) == 0) = false := beq_eq_false_iff_ne.mpr c13
            have c13b1 : ((t238.length : Int) != 0) = true := bne_iff_ne.mpr c13
            have c13b2 : ¬ (t238 = []) := fun h_ => c13 (by rw [h_]; rfl)
            obtain ⟨ji14, hji14⟩ : ∃ j_ : Int, (Int.tmod (wrap64 (a1)) (t238.length : Int)) = j_ := ⟨_, rfl⟩
            replace H : (if 0 ≤ (ji14) then (if (ji14) < (t238.length : Int) then (if ((rd_T30 t238 (ji14)).f2) < 0 then (wageofficelaw06_LexerPrefixes.j1 kj6 a0 t237 t238 ji14 (wrap64 (((rd_T30 t238 (ji14)).f2) + (((rd_T30 t238 (ji14)).f1).size : Int))) true) else (wageofficelaw06_LexerPrefixes.j1 kj6 a0 t237 t238 ji14 (wrap64 (((rd_T30 t238 (ji14)).f2) + (((rd_T30 t238 (ji14)).f1).size : Int))) (decide ((wrap64 (((rd_T30 t238 (ji14)).f2) + (((rd_T30 t238 (ji14)).f1).size : Int))) > (a0.size : Int))))) else (none)) else (none)) = some r := by first | (rw [hji14] at H; exact H) | (simp only [hji14] at H ⊢; exact H)
            by_cases c15 : 0 ≤ (ji14)
            · rw [if_pos c15] at H
              have c15b0 : decide (0 ≤ (ji14)) = true := decide_eq_true c15
              clear c15
              by_cases c16 : (ji14) < (t238.length : Int)
              · rw [if_pos c16] at H
                have c16b0 : decide ((ji14) < (t238.length : Int)) = true := decide_eq_true c16
                clear c16
                have HC17 := Aside0.mk H
                clear H
                obtain ⟨Ao18, co18, eo18⟩ := Kd.R_slice HO_6.out
                subst eo18
                have p243 : 0 ≤ ((ji14) : Int) := of_decide_eq_true (by first | (with_reducible assumption) | assumption)
                have q243 : (ji14) < (t238.length : Int) := of_decide_eq_true (by first | (with_reducible assumption) | assumption)
                obtain ⟨ad243, e243, hx243_0, hx243_1, hx243_2⟩ := at_T30 (Kd.R_reads' HO_6.out).2.2 (ji14) p243 q243
                cases e243
                replace p243 := eq_true p243
                replace q243 := eq_true q243
                have p244 : 0 ≤ ((ji14) : Int) := of_decide_eq_true (by first | (with_reducible assumption) | assumption)
                have q244 : (ji14) < (t238.length : Int) := of_decide_eq_true (by first | (with_reducible assumption) | assumption)
                obtain ⟨ad244, e244, hx244_0, hx244_1, hx244_2⟩ := at_T30 (Kd.R_reads' HO_6.out).2.2 (ji14) p244 q244
                obtain rfl : ad243 = ad244 := (by injection e244)
                replace p244 := eq_true p244
                replace q244 := eq_true q244
                go_upto_region 9 with (fail)
                repeat (go_quiet (fail); go_upto_region 9 with (fail))
                go_cut [61] (fun v61 wc => ∃ (kq : Nat) (x61_16 : Bool), v61 = .bool x61_16 ∧ Aside0 (wageofficelaw06_LexerPrefixes.j1 kq a0 t237 t238 ji14 (wrap64 (((rd_T30 t238 (ji14)).f2) + (((rd_T30 t238 (ji14)).f1).size : Int))) x61_16 = some r) ∧ Aside0 (kq ≤ kj6) ∧ Aside0 (Kd.R k30 30 wc w.heap.size (fun _ => True) (.slice (some ad243) t238.length co18) t238) ∧ Aside0 (Below w.heap.size w wc))
                case first =>
                  have H := HC17.out
                  clear HC17
                  by_cases c19 : ((rd_T30 t238 (ji14)).f2) < 0
                  · rw [if_pos c19] at H
                    have c19b0 : decide (((rd_T30 t238 (ji14)).f2) < 0) = true := decide_eq_true c19
                    clear c19
                    (first | rw [c19b0] | (simp only [i64_w, i32_w]; rw [c19b0]) | skip)
                    have H' := Aside0.mk H
                    clear H
                    have p245 : 0 ≤ ((ji14) : Int) := of_decide_eq_true (by first | (with_reducible assumption) | assumption)
                    have q245 : (ji14) < (t238.length : Int) := of_decide_eq_true (by first | (with_reducible assumption) | assumption)
                    obtain ⟨ad245, e245, hx245_0, hx245_1, hx245_2⟩ := at_T30 (Kd.R_reads' HO_6.out).2.2 (ji14) p245 q245
                    obtain rfl : ad243 = ad245 := (by injection e245)
                    replace p245 := eq_true p245
                    replace q245 := eq_true q245
                    go_wp2
                    repeat (go_quiet (fail); try go_wp2)
                    go_meet
                    case rel => exact ⟨_, (true), (by first | rfl | (simp; done) | (simp [*]; done)), H', ⟨by have := HJ6.out; first | omega | exact Nat.le_refl _⟩, ⟨by (with_reducible repeat (first | apply Kd.R_alloc | apply Kd.R_drewN | apply Kd.R_drew)); exact HO_6.out⟩, ⟨by repeat (first | (with_reducible first | exact HB.out | apply below_alloc | apply pw_below_drewN | apply below_drew1) | exact HB.out)⟩⟩
                  · rw [if_neg c19] at H
                    have c19b0 : decide (((rd_T30 t238 (ji14)).f2) < 0) = false := decide_eq_false c19
                    clear c19
                    (first | rw [c19b0] | (simp only [i64_w, i32_w]; rw [c19b0]) | skip)
                    have H' := Aside0.mk H
                    clear H
                    have p245 : 0 ≤ ((ji14) : Int) := of_decide_eq_true (by first | (with_reducible assumption) | assumption)
                    have q245 : (ji14) < (t238.length : Int) := of_decide_eq_true (by first | (with_reducible assumption) | assumption)
                    obtain ⟨ad245, e245, hx245_0, hx245_1, hx245_2⟩ := at_T30 (Kd.R_reads' HO_6.out).2.2 (ji14) p245 q245
                    obtain rfl : ad243 = ad245 := (by injection e245)
                    replace p245 := eq_true p245
                    replace q245 := eq_true q245
                    go_wp2
                    repeat (go_quiet (fail); try go_wp2)
                    go_meet
                    case rel => exact ⟨_, (decide ((wrap64 (((rd_T30 t238 (ji14)).f2) + (((rd_T30 t238 (ji14)).f1).size : Int))) > (a0.size : Int))), (by first | rfl | (simp; done) | (simp only [← hji14] <;> (first | rfl | simp)) | (simp [*]; done)), H', ⟨by have := HJ6.out; first | omega | exact Nat.le_refl _⟩, ⟨by (with_reducible repeat (first | apply Kd.R_alloc | apply Kd.R_drewN | apply Kd.R_drew)); exact HO_6.out⟩, ⟨by repeat (first | (with_reducible first | exact HB.out | apply below_alloc | apply pw_below_drewN | apply below_drew1) | exact HB.out)⟩⟩
                case rest =>
                  clear HC17
                  try clear c1
                  try clear p2
                  try clear q2
                  try clear hx2
                  try clear c4
                  try clear c4b0
                  try clear c4b1
                  try clear c5
                  try clear p6
                  try clear c10
                  try clear c10b0
                  try clear c10b1
                  try clear c12
                  try clear c13
                  try clear c13b0
                  try clear c13b1
                  try clear c13b2
                  try clear c15
                  try clear c15b0
                  try clear c16
                  try clear c16b0
                  try clear c19
                  try clear c19b0
                  try clear hx243_0
                  try clear hx243_1
                  try clear hx243_2
                  try clear hx244_0
                  try clear hx244_1
                  try clear hx244_2
                  try clear hx245_0
                  try clear hx245_1
                  try clear hx245_2
                  try clear p2
                  try clear p243
                  try clear p244
                  try clear p245
                  try clear q243
                  try clear q244
                  try clear q245
                  obtain ⟨kq, x61_16, rfl, HA, HJ16, HO_6, HB⟩ := hcut
                  cases kq with
                  | zero => exact absurd HA.out (by simp [wageofficelaw06_LexerPrefixes.j1])
                  | succ kj16 =>
                    have H := HA.out
                    clear HA
                    simp only [wageofficelaw06_LexerPrefixes.j1] at H
                    by_cases c20 : x61_16 = true
                    · subst c20
                      have H1 : (some false) = some r := by rw [if_pos rfl] at H; exact H
                      clear H
                      have H := H1
                      clear H1
                      exact absurd ((Option.some.inj H).trans PR.out) (by decide)
                    · replace c20 := Bool.eq_false_iff.mpr c20
                      subst c20
                      have H1 : (if 0 ≤ (wrap64 (((rd_T30 t238 (ji14)).f2) + (((rd_T30 t238 (ji14)).f1).size : Int))) then (if (wrap64 (((rd_T30 t238 (ji14)).f2) + (((rd_T30 t238 (ji14)).f1).size : Int))) ≤ (a0.size : Int) then ((lexer_Lex.f (a0.extract 0 ((wrap64 (((rd_T30 t238 (ji14)).f2) + (((rd_T30 t238 (ji14)).f1).size : Int))) : Int).toNat)).bind fun bt246 => (if t237 = true then (if bt246.2.1 = 0 then (if 0 ≤ (wrap64 (ji14 + 1)) then (if (wrap64 (ji14 + 1)) ≤ (t238.length : Int) then ((wageofficeref06_Same.f kj16 bt246.1 (t238.take ((wrap64 (ji14 + 1)) : Int).toNat)).bind fun t255 => (some t255)) else (none)) else (none)) else (some false)) else (some false))) else (none)) else (none)) = some r := by rw [if_neg (show ¬ (false = true) by decide)] at H; exact H
                      clear H
                      have H := H1
                      clear H1
                      obtain ⟨ji21, hji21⟩ : ∃ j_ : Int, (wrap64 (((rd_T30 t238 (ji14)).f2) + (((rd_T30 t238 (ji14)).f1).size : Int))) = j_ := ⟨_, rfl⟩
                      replace H : (if 0 ≤ (ji21) then (if (ji21) ≤ (a0.size : Int) then ((lexer_Lex.f (a0.extract 0 ((ji21) : Int).toNat)).bind fun bt246 => (if t237 = true then (if bt246.2.1 = 0 then (if 0 ≤ (wrap64 (ji14 + 1)) then (if (wrap64 (ji14 + 1)) ≤ (t238.length : Int) then ((wageofficeref06_Same.f kj16 bt246.1 (t238.take ((wrap64 (ji14 + 1)) : Int).toNat)).bind fun t255 => (some t255)) else (none)) else (none)) else (some false)) else (some false))) else (none)) else (none)) = some r := by first | (rw [hji21] at H; exact H) | (simp only [hji21] at H ⊢; exact H)
                      have hji21w : (IntKind.i64.wrap (((rd_T30 t238 (ji14)).f2) + (((rd_T30 t238 (ji14)).f1).size : Int))) = ji21 := (i64_w _).trans hji21
                      by_cases c22 : 0 ≤ (ji21)
                      · rw [if_pos c22] at H
                        have c22b0 := eq_true c22
                        have c22b1 : decide (0 ≤ (ji21)) = true := decide_eq_true c22
                        clear c22
                        by_cases c23 : (ji21) ≤ (a0.size : Int)
                        · rw [if_pos c23] at H
                          have c23b0 := eq_true c23
                          have c23b1 : decide ((ji21) ≤ (a0.size : Int)) = true := decide_eq_true c23
                          clear c23
                          replace H := Option.bind_eq_some_iff.mp H
                          obtain ⟨⟨t246, t247, t248⟩, A240, H⟩ := H
                          replace H : (if t237 = true then (if t247 = 0 then (if 0 ≤ (wrap64 (ji14 + 1)) then (if (wrap64 (ji14 + 1)) ≤ (t238.length : Int) then ((wageofficeref06_Same.f kj16 t246 (t238.take ((wrap64 (ji14 + 1)) : Int).toNat)).bind fun t255 => (some t255)) else (none)) else (none)) else (some false)) else (some false)) = some r := H
                          have A24 := Aside0.mk A240
                          clear A240
                          by_cases c25 : t237 = true
                          · subst c25
                            have H1 : (if t247 = 0 then (if 0 ≤ (wrap64 (ji14 + 1)) then (if (wrap64 (ji14 + 1)) ≤ (t238.length : Int) then ((wageofficeref06_Same.f kj16 t246 (t238.take ((wrap64 (ji14 + 1)) : Int).toNat)).bind fun t255 => (some t255)) else (none)) else (none)) else (some false)) = some r := by rw [if_pos rfl] at H; exact H
                            clear H
                            have H := H1
                            clear H1
                            by_cases c26 : t247 = 0
                            · rw [if_pos c26] at H
                              have c26b0 : (t247 == 0) = true := beq_iff_eq.mpr c26
                              have c26b1 : (t247 != 0) = false := bne_eq_false_iff_eq.mpr c26
                              clear c26
                              obtain ⟨ji27, hji27⟩ : ∃ j_ : Int, (wrap64 (ji14 + 1)) = j_ := ⟨_, rfl⟩
                              replace H : (if 0 ≤ (ji27) then (if (ji27) ≤ (t238.length : Int) then ((wageofficeref06_Same.f kj16 t246 (t238.take ((ji27) : Int).toNat)).bind fun t255 => (some t255)) else (none)) else (none)) = some r := by first | (rw [hji27] at H; exact H) | (simp only [hji27] at H ⊢; exact H)
                              (try rw [hji27] at A24)
                              have hji27w : (IntKind.i64.wrap (ji14 + 1)) = ji27 := (i64_w _).trans hji27
                              by_cases c28 : 0 ≤ (ji27)
                              · rw [if_pos c28] at H
                                have c28b0 := eq_true c28
                                have c28b1 : decide (0 ≤ (ji27)) = true := decide_eq_true c28
                                clear c28
                                by_cases c29 : (ji27) ≤ (t238.length : Int)
                                · rw [if_pos c29] at H
                                  have c29b0 := eq_true c29
                                  have c29b1 : decide ((ji27) ≤ (t238.length : Int)) = true := decide_eq_true c29
                                  clear c29
                                  obtain ⟨y251, hy251⟩ : ∃ y_ : List (S30), y_ = (t238.take ((ji27) : Int).toNat) := ⟨_, rfl⟩
                                  replace H : ((wageofficeref06_Same.f kj16 t246 y251).bind fun t255 => (some t255)) = some r := by first | (rw [hy251]; with_reducible exact H) | (have H2_ := (Option.bind_some _ _).symm.trans H; rw [hy251]; with_reducible exact H2_) | (have H2_ := (Option.bind_some _ _).symm.trans H; with_reducible exact H2_) | with_reducible exact H | (rw [hy251]; exact H) | exact H
                                  have Ny251 := Aside0.mk hy251
                                  clear hy251
                                  replace H := Option.bind_eq_some_iff.mp H
                                  obtain ⟨t255, A300, H⟩ := H
                                  replace H : (some t255) = some r := H
                                  have A30 := Aside0.mk A300
                                  clear A300
                                  obtain rfl := Option.some.inj H
                                  go_wp2_with (first | (go_at_call 11; (with_reducible refine (lexer_Lex.calls (a0.extract 0 ((ji21) : Int).toNat) t246 t247 t248 _ ?sideG A24.out).mono ?_); (case sideG => exact HG.out.below (by repeat (first | (with_reducible first | exact HB.out | apply below_alloc | apply pw_below_drewN | apply below_drew1) | exact HB.out))); rintro e w31 ⟨v249, rfl, ho0, hb⟩; have n0_ := Aside0.mk (Kd.R_elder' (by (with_reducible repeat (first | apply Kd.R_alloc | apply Kd.R_drewN | apply Kd.R_drew)); exact HO_6.out) (Kd.R_base ho0) hb); have n1_ := Aside0.mk (Kd.R_lower (Kd.R_new' ho0 (Kd.R_lt (by (with_reducible repeat (first | apply Kd.R_alloc | apply Kd.R_drewN | apply Kd.R_drew)); exact HO_6.out))) (below_size (by repeat (first | (with_reducible first | exact HB.out | apply below_alloc | apply pw_below_drewN | apply below_drew1) | exact HB.out)))); have n2_ := Aside0.mk (below_step (by repeat (first | (with_reducible first | exact HB.out | apply below_alloc | apply pw_below_drewN | apply below_drew1) | exact HB.out)) hb); clear HO_6; clear HB; have HO_6 := n0_; have HO250 := n1_; have HB := n2_; clear n0_ n1_ n2_; (try clear hb); (try clear hb2); (try clear hk); (try clear hi); (try clear ho0); have q32 : ((ji27) : Int) ≤ ((t238.length : Int) : Int) := of_decide_eq_true (by first | (with_reducible assumption) | assumption); obtain ⟨i032, hi032, _, hsz32, _⟩ := info_parts info30; have hroom32 : t238.length ≤ co18 := (Kd.R_reads' HO_6.out).2.1; have hC32 : Kd.C k30 _ (some ad243) t238.length t238 := (Kd.R_reads' HO_6.out).2.2; have hcut32 := cut_to (P := Tryd.prog) 23 30 .i64 Tryd.underlying23 hi032 (some ad243) t238.length co18 (ji27) (of_decide_eq_true (by first | (with_reducible assumption) | assumption)) q32 hroom32; have hr32 := Kd.C_take (m := ((ji27) : Int).toNat) hC32 (by omega); have hy32 : y251.length = ((ji27) : Int).toNat := (by rw [Ny251.out, List.length_take]; omega); rw [← Ny251.out] at hr32; rw [← hy32] at hcut32; have HR254 := Aside0.mk hr32; have HC254 := Aside0.mk (show y251.length ≤ co18 from by omega); clear hr32 hC32 hroom32 hi032 hsz32; have KY32 := Aside0.mk hy32; clear hy32; have KL32 := Aside0.mk (show ((ji27) : Int).toNat ≤ t238.length from by omega); replace q32 := eq_true q32; obtain ⟨Ao33, co33, eo33⟩ := Kd.R_slice HO250.out; subst eo33) | (go_at_call 13; (with_reducible refine (wageofficeref06_Same.calls kj16 _ _ t246 _ _ y251 t255 _ ?side1 ?side2 ?side3 ?side4 A30.out).mono ?_); (case side1 => repeat (first | exact (Kd.R_reads' HO250.out).2.2 | (with_reducible refine Kd.C_alloc ?_ _) | (with_reducible refine Kd.C_drewN ?_ _) | (with_reducible refine Kd.C_drew ?_))); (case side2 => exact (Kd.R_reads' HO250.out).2.1); (case side3 => repeat (first | exact (by repeat (first | (with_reducible exact HR254.out) | (with_reducible refine Kd.C_alloc ?_ _) | (with_reducible refine Kd.C_drewN ?_ _) | (with_reducible refine Kd.C_drew ?_) | exact HR254.out)) | (with_reducible refine Kd.C_alloc ?_ _) | (with_reducible refine Kd.C_drewN ?_ _) | (with_reducible refine Kd.C_drew ?_))); (case side4 => exact HC254.out); rintro e w' ⟨rfl, ⟨nd, rfl⟩⟩; (try first | exact ⟨rfl, _, World.drewN_drewN _ _ _⟩ | exact ⟨rfl, _, Eq.trans (World.drewN_drewN _ _ _) (congrArg (World.drewN _) (Nat.add_assoc _ _ _))⟩)))
                                  repeat (go_quiet (first | (go_at_call 11; (with_reducible refine (lexer_Lex.calls (a0.extract 0 ((ji21) : Int).toNat) t246 t247 t248 _ ?sideG A24.out).mono ?_); (case sideG => exact HG.out.below (by repeat (first | (with_reducible first | exact HB.out | apply below_alloc | apply pw_below_drewN | apply below_drew1) | exact HB.out))); rintro e w31 ⟨v249, rfl, ho0, hb⟩; have n0_ := Aside0.mk (Kd.R_elder' (by (with_reducible repeat (first | apply Kd.R_alloc | apply Kd.R_drewN | apply Kd.R_drew)); exact HO_6.out) (Kd.R_base ho0) hb); have n1_ := Aside0.mk (Kd.R_lower (Kd.R_new' ho0 (Kd.R_lt (by (with_reducible repeat (first | apply Kd.R_alloc | apply Kd.R_drewN | apply Kd.R_drew)); exact HO_6.out))) (below_size (by repeat (first | (with_reducible first | exact HB.out | apply below_alloc | apply pw_below_drewN | apply below_drew1) | exact HB.out)))); have n2_ := Aside0.mk (below_step (by repeat (first | (with_reducible first | exact HB.out | apply below_alloc | apply pw_below_drewN | apply below_drew1) | exact HB.out)) hb); clear HO_6; clear HB; have HO_6 := n0_; have HO250 := n1_; have HB := n2_; clear n0_ n1_ n2_; (try clear hb); (try clear hb2); (try clear hk); (try clear hi); (try clear ho0); have q32 : ((ji27) : Int) ≤ ((t238.length : Int) : Int) := of_decide_eq_true (by first | (with_reducible assumption) | assumption); obtain ⟨i032, hi032, _, hsz32, _⟩ := info_parts info30; have hroom32 : t238.length ≤ co18 := (Kd.R_reads' HO_6.out).2.1; have hC32 : Kd.C k30 _ (some ad243) t238.length t238 := (Kd.R_reads' HO_6.out).2.2; have hcut32 := cut_to (P := Tryd.prog) 23 30 .i64 Tryd.underlying23 hi032 (some ad243) t238.length co18 (ji27) (of_decide_eq_true (by first | (with_reducible assumption) | assumption)) q32 hroom32; have hr32 := Kd.C_take (m := ((ji27) : Int).toNat) hC32 (by omega); have hy32 : y251.length = ((ji27) : Int).toNat := (by rw [Ny251.out, List.length_take]; omega); rw [← Ny251.out] at hr32; rw [← hy32] at hcut32; have HR254 := Aside0.mk hr32; have HC254 := Aside0.mk (show y251.length ≤ co18 from by omega); clear hr32 hC32 hroom32 hi032 hsz32; have KY32 := Aside0.mk hy32; clear hy32; have KL32 := Aside0.mk (show ((ji27) : Int).toNat ≤ t238.length from by omega); replace q32 := eq_true q32; obtain ⟨Ao33, co33, eo33⟩ := Kd.R_slice HO250.out; subst eo33) | (go_at_call 13; (with_reducible refine (wageofficeref06_Same.calls kj16 _ _ t246 _ _ y251 t255 _ ?side1 ?side2 ?side3 ?side4 A30.out).mono ?_); (case side1 => repeat (first | exact (Kd.R_reads' HO250.out).2.2 | (with_reducible refine Kd.C_alloc ?_ _) | (with_reducible refine Kd.C_drewN ?_ _) | (with_reducible refine Kd.C_drew ?_))); (case side2 => exact (Kd.R_reads' HO250.out).2.1); (case side3 => repeat (first | exact (by repeat (first | (with_reducible exact HR254.out) | (with_reducible refine Kd.C_alloc ?_ _) | (with_reducible refine Kd.C_drewN ?_ _) | (with_reducible refine Kd.C_drew ?_) | exact HR254.out)) | (with_reducible refine Kd.C_alloc ?_ _) | (with_reducible refine Kd.C_drewN ?_ _) | (with_reducible refine Kd.C_drew ?_))); (case side4 => exact HC254.out); rintro e w' ⟨rfl, ⟨nd, rfl⟩⟩; (try first | exact ⟨rfl, _, World.drewN_drewN _ _ _⟩ | exact ⟨rfl, _, Eq.trans (World.drewN_drewN _ _ _) (congrArg (World.drewN _) (Nat.add_assoc _ _ _))⟩))); try go_wp2_with (first | (go_at_call 11; (with_reducible refine (lexer_Lex.calls (a0.extract 0 ((ji21) : Int).toNat) t246 t247 t248 _ ?sideG A24.out).mono ?_); (case sideG => exact HG.out.below (by repeat (first | (with_reducible first | exact HB.out | apply below_alloc | apply pw_below_drewN | apply below_drew1) | exact HB.out))); rintro e w31 ⟨v249, rfl, ho0, hb⟩; have n0_ := Aside0.mk (Kd.R_elder' (by (with_reducible repeat (first | apply Kd.R_alloc | apply Kd.R_drewN | apply Kd.R_drew)); exact HO_6.out) (Kd.R_base ho0) hb); have n1_ := Aside0.mk (Kd.R_lower (Kd.R_new' ho0 (Kd.R_lt (by (with_reducible repeat (first | apply Kd.R_alloc | apply Kd.R_drewN | apply Kd.R_drew)); exact HO_6.out))) (below_size (by repeat (first | (with_reducible first | exact HB.out | apply below_alloc | apply pw_below_drewN | apply below_drew1) | exact HB.out)))); have n2_ := Aside0.mk (below_step (by repeat (first | (with_reducible first | exact HB.out | apply below_alloc | apply pw_below_drewN | apply below_drew1) | exact HB.out)) hb); clear HO_6; clear HB; have HO_6 := n0_; have HO250 := n1_; have HB := n2_; clear n0_ n1_ n2_; (try clear hb); (try clear hb2); (try clear hk); (try clear hi); (try clear ho0); have q32 : ((ji27) : Int) ≤ ((t238.length : Int) : Int) := of_decide_eq_true (by first | (with_reducible assumption) | assumption); obtain ⟨i032, hi032, _, hsz32, _⟩ := info_parts info30; have hroom32 : t238.length ≤ co18 := (Kd.R_reads' HO_6.out).2.1; have hC32 : Kd.C k30 _ (some ad243) t238.length t238 := (Kd.R_reads' HO_6.out).2.2; have hcut32 := cut_to (P := Tryd.prog) 23 30 .i64 Tryd.underlying23 hi032 (some ad243) t238.length co18 (ji27) (of_decide_eq_true (by first | (with_reducible assumption) | assumption)) q32 hroom32; have hr32 := Kd.C_take (m := ((ji27) : Int).toNat) hC32 (by omega); have hy32 : y251.length = ((ji27) : Int).toNat := (by rw [Ny251.out, List.length_take]; omega); rw [← Ny251.out] at hr32; rw [← hy32] at hcut32; have HR254 := Aside0.mk hr32; have HC254 := Aside0.mk (show y251.length ≤ co18 from by omega); clear hr32 hC32 hroom32 hi032 hsz32; have KY32 := Aside0.mk hy32; clear hy32; have KL32 := Aside0.mk (show ((ji27) : Int).toNat ≤ t238.length from by omega); replace q32 := eq_true q32; obtain ⟨Ao33, co33, eo33⟩ := Kd.R_slice HO250.out; subst eo33) | (go_at_call 13; (with_reducible refine (wageofficeref06_Same.calls kj16 _ _ t246 _ _ y251 t255 _ ?side1 ?side2 ?side3 ?side4 A30.out).mono ?_); (case side1 => repeat (first | exact (Kd.R_reads' HO250.out).2.2 | (with_reducible refine Kd.C_alloc ?_ _) | (with_reducible refine Kd.C_drewN ?_ _) | (with_reducible refine Kd.C_drew ?_))); (case side2 => exact (Kd.R_reads' HO250.out).2.1); (case side3 => repeat (first | exact (by repeat (first | (with_reducible exact HR254.out) | (with_reducible refine Kd.C_alloc ?_ _) | (with_reducible refine Kd.C_drewN ?_ _) | (with_reducible refine Kd.C_drew ?_) | exact HR254.out)) | (with_reducible refine Kd.C_alloc ?_ _) | (with_reducible refine Kd.C_drewN ?_ _) | (with_reducible refine Kd.C_drew ?_))); (case side4 => exact HC254.out); rintro e w' ⟨rfl, ⟨nd, rfl⟩⟩; (try first | exact ⟨rfl, _, World.drewN_drewN _ _ _⟩ | exact ⟨rfl, _, Eq.trans (World.drewN_drewN _ _ _) (congrArg (World.drewN _) (Nat.add_assoc _ _ _))⟩))))
                                  go_ret
                                  exact ⟨by first | rfl | (simp [errW_none, errW_some] <;> rfl) | (simp only [← hji14, ← hji21, ← hji27]; first | rfl | (simp [errW_none, errW_some] <;> rfl)) | (simp [*, errW_none, errW_some] <;> rfl), by repeat (first | (with_reducible first | exact HB.out | apply below_alloc | apply pw_below_drewN | apply below_drew1) | exact HB.out)⟩
                                · rw [if_neg c29] at H
                                  exact absurd H (by simp)
                              · rw [if_neg c28] at H
                                exact absurd H (by simp)
                            · rw [if_neg c26] at H
                              have c26b0 : (t247 == 0) = false := beq_eq_false_iff_ne.mpr c26
                              have c26b1 : (t247 != 0) = true := bne_iff_ne.mpr c26
                              exact absurd ((Option.some.inj H).trans PR.out) (by decide)
                          · replace c25 := Bool.eq_false_iff.mpr c25
                            subst c25
                            have H1 : (some false) = some r := by rw [if_neg (show ¬ (false = true) by decide)] at H; exact H
                            clear H
                            have H := H1
                            clear H1
                            exact absurd ((Option.some.inj H).trans PR.out) (by decide)
                        · rw [if_neg c23] at H
                          exact absurd H (by simp)
                      · rw [if_neg c22] at H
                        exact absurd H (by simp)
              · rw [if_neg c16] at H
                exact absurd H (by simp)
            · rw [if_neg c15] at H
              exact absurd H (by simp)

/-- THE ONE PURE STATEMENT of wageofficelaw06_LexerPrefixes: yours. -/
def wageofficelaw06_LexerPrefixes.Pure : Prop := ∀ (a0 : ByteArray) (a1 : Int), a0.size ≤ 140737488351232 → (Lit.int .u16 a1).wf = true → ∃ k, wageofficelaw06_LexerPrefixes.f k a0 a1 = some true
theorem wageofficelaw06_LexerPrefixes.walk (P : wageofficelaw06_LexerPrefixes.Pure) (a0 : ByteArray) (a1 : Int) (w : World) (hG : Glob w) (w0 : a0.size ≤ 140737488351232) (w1 : (Lit.int .u16 a1).wf = true) :
    Calls Tryd.prog 5 #[.string a0, .int .u16 a1] w fun e w' => e = .returned (.bool true) ∧ Below w.heap.size w w' := by
  obtain ⟨k, h⟩ := P a0 a1 w0 w1
  refine (wageofficelaw06_LexerPrefixes.calls k a0 a1 true w hG rfl h).mono ?_
  rintro e w' ⟨rfl, hd⟩
  exact ⟨rfl, hd⟩

end Go.Proofs.YticmjkjojhcdpaaDoor.PAll

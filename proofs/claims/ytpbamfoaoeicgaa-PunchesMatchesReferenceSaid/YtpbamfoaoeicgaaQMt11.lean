-- Printed by a program (the kit's print, with functions given by hand) out of the translation: machine-written for this claim.
import Derived.Test.YtpbamfoaoeicgaaQPAllx0
import Derived.Test.YtpbamfoaoeicgaaQPAllx3
import Derived.Test.YtpbamfoaoeicgaaQPAllx4
import Derived.Test.YtpbamfoaoeicgaaQPAllx5
import Derived.Test.YtpbamfoaoeicgaaQPAllx8
import Derived.Test.YtpbamfoaoeicgaaQPAllx7
import Derived.Test.YtpbamfoaoeicgaaQMt9
import Derived.Test.YtpbamfoaoeicgaaQMt10
import Derived.Test.YtpbamfoaoeicgaaQMt11a
import Derived.Test.YtpbamfoaoeicgaaQWkM
namespace Go.Proofs.Ytpbamfoaoeicgaa.PAll
open Go.RowKit Go.Proofs.YtpbamfoaoeicgaaW.PrintWords Go.Proofs.YtpbamfoaoeicgaaW.PrintLast Go.Proofs.YtpbamfoaoeicgaaW.PrintMore
attribute [local go_sem] max2_int min2_int max_two min_two max_three min_three max_four min_four   -- for this text's walks alone
set_option linter.unusedVariables false
set_option linter.unusedSimpArgs false

set_option maxHeartbeats 8000000 in
set_option maxRecDepth 100000 in
theorem wageofficeref22_Worked.calls (k : Nat) (A0 : Option Addr) (c0 : Nat) (l0 : List (S48)) (A1 : Option Addr) (c1 : Nat) (l1 : List (S45)) (A2 : Option Addr) (c2 : Nat) (l2 : List (S57)) (r1 : List Int) (r2 : Int) (w : World) (hr0 : Kd.C k48 w A0 l0.length l0) (hc0 : l0.length ≤ c0) (hr1 : Kd.C k45 w A1 l1.length l1) (hc1 : l1.length ≤ c1) (hr2 : Kd.C k57 w A2 l2.length l2) (hc2 : l2.length ≤ c2) (h : wageofficeref22_Worked.f k l0 l1 l2 = some (r1, r2)) :
  Calls Try.prog 16 #[.slice A0 l0.length c0, .slice A1 l1.length c1, .slice A2 l2.length c2] w fun e w' => ∃ v0_ : Value, e = .returned (.tuple #[v0_, .int .i64 r2]) ∧ Kd.R (Kd.int .i64) 3 w' w.heap.size (fun _ => True) v0_ r1 ∧ Below w.heap.size w w' := by
 have HR0 := Aside0.mk hr0
 have HC0 := Aside0.mk hc0
 clear hr0 hc0
 have HR1 := Aside0.mk hr1
 have HC1 := Aside0.mk hc1
 clear hr1 hc1
 have HR2 := Aside0.mk hr2
 have HC2 := Aside0.mk hc2
 clear hr2 hc2
 have HB := Aside0.mk (Below.refl w.heap.size w)
 have H : ((wageofficeref22_Usable.f k l0 l1).bind fun t216 => (if t216 = 0 then ((rAl.f k l0 l1 l2).bind fun bt217 => (if bt217.2 = true then (wageofficeref22_Worked.l0 k l0 l1 l2 ([] : List Int) 0) else (some (([] : List Int), 1)))) else (some (([] : List Int), t216)))) = some (r1, r2) := h
 clear h
 replace H := Option.bind_eq_some_iff.mp H
 obtain ⟨t216, A40, H⟩ := H
 replace H : (if t216 = 0 then ((rAl.f k l0 l1 l2).bind fun bt217 => (if bt217.2 = true then (wageofficeref22_Worked.l0 k l0 l1 l2 ([] : List Int) 0) else (some (([] : List Int), 1)))) else (some (([] : List Int), t216))) = some (r1, r2) := H
 have A4 := Aside0.mk A40
 clear A40
 by_cases c5 : t216 = 0
 ·rw [if_pos c5] at H
  have c5b0 : (t216 == 0) = true := beq_iff_eq.mpr c5
  have c5b1 : (t216 != 0) = false := bne_eq_false_iff_eq.mpr c5
  clear c5
  replace H := Option.bind_eq_some_iff.mp H
  obtain ⟨⟨t217, t218⟩, A60, H⟩ := H
  replace H : (if t218 = true then (wageofficeref22_Worked.l0 k l0 l1 l2 ([] : List Int) 0) else (some (([] : List Int), 1))) = some (r1, r2) := H
  have A6 := Aside0.mk A60
  clear A60
  by_cases c7 : t218 = true
  ·subst c7
   have H1 : (wageofficeref22_Worked.l0 k l0 l1 l2 ([] : List Int) 0) = some (r1, r2) := by rw [if_pos rfl] at H; exact H
   clear H
   have H := H1
   clear H1
   have H' := Aside0.mk H
   clear H
   go_enter Try.func16, Try.ntmps16
   go_wp2_with (first | ((with_reducible refine gate_callee (f := 29) rfl ?_); refine goesL_ (some 20) rfl rfl Try.func29 (by kernel_rfl) rfl #[.slice A0 l0.length c0, .slice A1 l1.length c1] rfl (by (try simp only [List.map_toArray, List.map_cons, List.map_nil]); first | done | rfl | (simp only [List.length_drop, List.length_take]; rfl)) ?_; (with_reducible refine (wageofficeref22_Usable.calls k _ _ l0 _ _ l1 t216 _ ?side1 ?side2 ?side3 ?side4 A4.out).mono ?_); (case side1 => repeat (first | exact HR0.out | (with_reducible refine Kd.C_alloc ?_ _) | (with_reducible refine Kd.C_drewN ?_ _) | (with_reducible refine Kd.C_drew ?_))); (case side2 => exact HC0.out); (case side3 => repeat (first | exact HR1.out | (with_reducible refine Kd.C_alloc ?_ _) | (with_reducible refine Kd.C_drewN ?_ _) | (with_reducible refine Kd.C_drew ?_))); (case side4 => exact HC1.out); rintro e w8 ⟨rfl, hb⟩; refine ⟨_, rfl, ?_⟩; have n0_ := Aside0.mk (below_step (by repeat (first | (with_reducible first | exact HB.out | apply below_alloc | apply pw_below_drewN | apply below_drew1) | exact HB.out)) hb); clear HB; have HB := n0_; clear n0_; (try clear hb); (try clear hb2); (try clear hk); (try clear hi)) | ((with_reducible refine gate_callee (f := 20) rfl ?_); refine goesL_ (some 28) rfl rfl Try.func20 (by kernel_rfl) rfl #[.slice A0 l0.length c0, .slice A1 l1.length c1, .slice A2 l2.length c2] rfl (by (try simp only [List.map_toArray, List.map_cons, List.map_nil]); first | done | rfl | (simp only [List.length_drop, List.length_take]; rfl)) ?_; (with_reducible refine (rAl.calls k _ _ l0 _ _ l1 _ _ l2 t217 true _ ?side1 ?side2 ?side3 ?side4 ?side5 ?side6 A6.out).mono ?_); (case side1 => repeat (first | exact (Kd.C_below HR0.out HB.out) | (with_reducible refine Kd.C_alloc ?_ _) | (with_reducible refine Kd.C_drewN ?_ _) | (with_reducible refine Kd.C_drew ?_))); (case side2 => exact HC0.out); (case side3 => repeat (first | exact (Kd.C_below HR1.out HB.out) | (with_reducible refine Kd.C_alloc ?_ _) | (with_reducible refine Kd.C_drewN ?_ _) | (with_reducible refine Kd.C_drew ?_))); (case side4 => exact HC1.out); (case side5 => repeat (first | exact (Kd.C_below HR2.out HB.out) | (with_reducible refine Kd.C_alloc ?_ _) | (with_reducible refine Kd.C_drewN ?_ _) | (with_reducible refine Kd.C_drew ?_))); (case side6 => exact HC2.out); rintro e w9 ⟨rfl, hb⟩; refine ⟨_, rfl, ?_⟩; have n0_ := Aside0.mk (below_step (by repeat (first | (with_reducible first | exact HB.out | apply below_alloc | apply pw_below_drewN | apply below_drew1) | exact HB.out)) hb); clear HB; have HB := n0_; clear n0_; (try clear hb); (try clear hb2); (try clear hk); (try clear hi)))
   go_loopg [11, 12] k (fun kq v11 v12 w' => ∃ (x11_1 : List Int) (x12_1 : Int), v12 = .int .i64 x12_1 ∧ Aside0 (wageofficeref22_Worked.l0 kq l0 l1 l2 x11_1 x12_1 = some (r1, r2)) ∧ Aside0 (kq ≤ k) ∧ Aside0 (Kd.R (Kd.int .i64) 3 w' w.heap.size (fun _ => True) v11 x11_1) ∧ Aside0 (Below w.heap.size w w'))
   case atStart => exact ⟨(([] : List Int)), (0), (by first | rfl | (simp; done) | (simp [*]; done)), H', ⟨Nat.le_refl _⟩, ⟨by first | exact Kd.R_nil _ _ _ _ _ | exact Kd.N_nil _ _ _ _ _ | exact Kd.V_nil _ _ _ _ _ | exact Kd.Q_nil _ _ _ _ _ | exact Kd.S_nil _ _ _ _ _⟩, ⟨by repeat (first | (with_reducible first | exact HB.out | apply below_alloc | apply pw_below_drewN | apply below_drew1) | exact HB.out)⟩⟩
   case round =>
    clear H'
    try clear c1
    try clear c2
    try clear p2
    try clear c5
    try clear c5b0
    try clear c5b1
    try clear c7
    obtain ⟨x11_1, x12_1, rfl, HA, HK1, HO_11, HB⟩ := hrel
    cases gk with
    | zero => exact absurd HA.out (by simp [wageofficeref22_Worked.l0])
    | succ k1 =>
     have H := HA.out
     clear HA
     simp only [wageofficeref22_Worked.l0] at H
     by_cases c10 : x12_1 < (l0.length : Int)
     ·rw [if_pos c10] at H
      have c10b0 : decide (x12_1 < (l0.length : Int)) = true := decide_eq_true c10
      clear c10
      by_cases c11 : 0 ≤ x12_1
      ·rw [if_pos c11] at H
       have c11b0 : decide (0 ≤ x12_1) = true := decide_eq_true c11
       clear c11
       have H' := Aside0.mk H
       clear H
       have p219 : 0 ≤ (x12_1 : Int) := of_decide_eq_true (by first | (with_reducible assumption) | assumption)
       have q219 : x12_1 < (l0.length : Int) := of_decide_eq_true (by first | (with_reducible assumption) | assumption)
       obtain ⟨ad219, e219, hx219_0, hx219_1, hx219_2⟩ := at_T48 HR0.out x12_1 p219 q219
       cases e219
       replace hx219_0 := (HB.out.cell (World.block_lt_of_cell? w _ hx219_0)).trans hx219_0
       replace hx219_1 := (HB.out.cell (World.block_lt_of_cell? w _ hx219_1)).trans hx219_1
       replace hx219_2 := (HB.out.cell (World.block_lt_of_cell? w _ hx219_2)).trans hx219_2
       replace p219 := eq_true p219
       replace q219 := eq_true q219
       have p220 : 0 ≤ (x12_1 : Int) := of_decide_eq_true (by first | (with_reducible assumption) | assumption)
       have q220 : x12_1 < (l0.length : Int) := of_decide_eq_true (by first | (with_reducible assumption) | assumption)
       obtain ⟨ad220, e220, hx220_0, hx220_1, hx220_2⟩ := at_T48 HR0.out x12_1 p220 q220
       obtain rfl : ad219 = ad220 := (by injection e220)
       replace hx220_0 := (HB.out.cell (World.block_lt_of_cell? w _ hx220_0)).trans hx220_0
       replace hx220_1 := (HB.out.cell (World.block_lt_of_cell? w _ hx220_1)).trans hx220_1
       replace hx220_2 := (HB.out.cell (World.block_lt_of_cell? w _ hx220_2)).trans hx220_2
       replace p220 := eq_true p220
       replace q220 := eq_true q220
       go_wp2
       go_loopg [13, 14, 15, 16] k1 (fun kq v13 v14 v15 v16 w' => ∃ (x13_2 : Int) (x14_2 : Int) (x15_2 : Bool) (x16_2 : Int), v13 = .int .i64 x13_2 ∧ v14 = .int .i64 x14_2 ∧ v15 = .bool x15_2 ∧ v16 = .int .i64 x16_2 ∧ Aside0 (wageofficeref22_Worked.l1 kq l0 l1 l2 x11_1 x12_1 x13_2 x14_2 x15_2 x16_2 = some (r1, r2)) ∧ Aside0 (kq ≤ k1) ∧ Aside0 (Kd.R (Kd.int .i64) 3 w' w.heap.size (fun _ => True) u11 x11_1) ∧ Aside0 (Below w.heap.size w w'))
       case atStart => exact ⟨((rd_T48 l0 x12_1).f0), ((rd_T48 l0 x12_1).f1), (false), (0), (by first | rfl | (simp; done) | (simp [*]; done)), (by first | rfl | (simp; done) | (simp [*]; done)), (by first | rfl | (simp; done) | (simp [*]; done)), (by first | rfl | (simp; done) | (simp [*]; done)), H', ⟨Nat.le_refl _⟩, ⟨by (with_reducible repeat (first | apply Kd.R_alloc | apply Kd.R_drewN | apply Kd.R_drew)); exact HO_11.out⟩, ⟨by repeat (first | (with_reducible first | exact HB.out | apply below_alloc | apply pw_below_drewN | apply below_drew1) | exact HB.out)⟩⟩
       case round =>
        clear H'
        try clear c1
        try clear c2
        try clear p2
        try clear q2
        try clear hx2
        try clear c5
        try clear c5b0
        try clear c5b1
        try clear c7
        try clear c10
        try clear c10b0
        try clear c11
        try clear c11b0
        try clear hx219_0
        try clear hx219_1
        try clear hx219_2
        try clear hx220_0
        try clear hx220_1
        try clear hx220_2
        try clear p2
        try clear p219
        try clear p220
        try clear q219
        try clear q220
        obtain ⟨x13_2, x14_2, x15_2, x16_2, rfl, rfl, rfl, rfl, HA, HK2, HO_11, HB⟩ := hrel
        cases gk with
        | zero => exact absurd HA.out (by simp [wageofficeref22_Worked.l1])
        | succ k2 =>
         have H := HA.out
         clear HA
         simp only [wageofficeref22_Worked.l1] at H
         by_cases c12 : x16_2 < (l2.length : Int)
         ·rw [if_pos c12] at H
          have c12b0 : decide (x16_2 < (l2.length : Int)) = true := decide_eq_true c12
          clear c12
          have HC13 := Aside0.mk H
          clear H
          go_upto_region 17 with (fail)
          go_cut [69] (fun v69 wc => ∃ (kq : Nat) (x69_12 : Bool), v69 = .bool x69_12 ∧ Aside0 (wageofficeref22_Worked.j2 kq l0 l1 l2 x11_1 x12_1 x13_2 x14_2 x15_2 x16_2 x69_12 = some (r1, r2)) ∧ Aside0 (kq ≤ k2) ∧ Aside0 (Kd.R (Kd.int .i64) 3 wc w.heap.size (fun _ => True) u11 x11_1) ∧ Aside0 (Below w.heap.size w wc))
          case first =>
           have H := HC13.out
           clear HC13
           by_cases c14 : 0 ≤ x16_2
           ·rw [if_pos c14] at H
            have c14b0 : decide (0 ≤ x16_2) = true := decide_eq_true c14
            clear c14
            (first | rw [c14b0] | (simp only [i64_w, i32_w]; rw [c14b0]) | skip)
            by_cases c15 : ((rd_T57 l2 x16_2).f0) = x12_1
            ·rw [if_pos c15] at H
             have c15b0 : (((rd_T57 l2 x16_2).f0) == x12_1) = true := beq_iff_eq.mpr c15
             have c15b1 : (((rd_T57 l2 x16_2).f0) != x12_1) = false := bne_eq_false_iff_eq.mpr c15
             clear c15
             have H' := Aside0.mk H
             clear H
             have p227 : 0 ≤ (x16_2 : Int) := of_decide_eq_true (by first | (with_reducible assumption) | assumption)
             have q227 : x16_2 < (l2.length : Int) := of_decide_eq_true (by first | (with_reducible assumption) | assumption)
             obtain ⟨ad227, e227, hx227_0, hx227_1, hx227_2⟩ := at_T57 HR2.out x16_2 p227 q227
             cases e227
             replace hx227_0 := (HB.out.cell (World.block_lt_of_cell? w _ hx227_0)).trans hx227_0
             replace hx227_1 := (HB.out.cell (World.block_lt_of_cell? w _ hx227_1)).trans hx227_1
             replace hx227_2 := (HB.out.cell (World.block_lt_of_cell? w _ hx227_2)).trans hx227_2
             replace p227 := eq_true p227
             replace q227 := eq_true q227
             have p228 : 0 ≤ (x16_2 : Int) := of_decide_eq_true (by first | (with_reducible assumption) | assumption)
             have q228 : x16_2 < (l2.length : Int) := of_decide_eq_true (by first | (with_reducible assumption) | assumption)
             obtain ⟨ad228, e228, hx228_0, hx228_1, hx228_2⟩ := at_T57 HR2.out x16_2 p228 q228
             obtain rfl : ad227 = ad228 := (by injection e228)
             replace hx228_0 := (HB.out.cell (World.block_lt_of_cell? w _ hx228_0)).trans hx228_0
             replace hx228_1 := (HB.out.cell (World.block_lt_of_cell? w _ hx228_1)).trans hx228_1
             replace hx228_2 := (HB.out.cell (World.block_lt_of_cell? w _ hx228_2)).trans hx228_2
             replace p228 := eq_true p228
             replace q228 := eq_true q228
             go_wp2
             go_meet
             case rel => exact ⟨_, (decide (((rd_T57 l2 x16_2).f2) < 0)), (by first | rfl | (simp; done) | (simp [*]; done)), H', ⟨by have := HK1.out; have := HK2.out; first | omega | exact Nat.le_refl _⟩, ⟨by (with_reducible repeat (first | apply Kd.R_alloc | apply Kd.R_drewN | apply Kd.R_drew)); exact HO_11.out⟩, ⟨by repeat (first | (with_reducible first | exact HB.out | apply below_alloc | apply pw_below_drewN | apply below_drew1) | exact HB.out)⟩⟩
            ·rw [if_neg c15] at H
             have c15b0 : (((rd_T57 l2 x16_2).f0) == x12_1) = false := beq_eq_false_iff_ne.mpr c15
             have c15b1 : (((rd_T57 l2 x16_2).f0) != x12_1) = true := bne_iff_ne.mpr c15
             have H' := Aside0.mk H
             clear H
             have p227 : 0 ≤ (x16_2 : Int) := of_decide_eq_true (by first | (with_reducible assumption) | assumption)
             have q227 : x16_2 < (l2.length : Int) := of_decide_eq_true (by first | (with_reducible assumption) | assumption)
             obtain ⟨ad227, e227, hx227_0, hx227_1, hx227_2⟩ := at_T57 HR2.out x16_2 p227 q227
             cases e227
             replace hx227_0 := (HB.out.cell (World.block_lt_of_cell? w _ hx227_0)).trans hx227_0
             replace hx227_1 := (HB.out.cell (World.block_lt_of_cell? w _ hx227_1)).trans hx227_1
             replace hx227_2 := (HB.out.cell (World.block_lt_of_cell? w _ hx227_2)).trans hx227_2
             replace p227 := eq_true p227
             replace q227 := eq_true q227
             go_wp2
             go_meet
             case rel => exact ⟨_, (true), (by first | rfl | (simp; done) | (simp [*]; done)), H', ⟨by have := HK1.out; have := HK2.out; first | omega | exact Nat.le_refl _⟩, ⟨by (with_reducible repeat (first | apply Kd.R_alloc | apply Kd.R_drewN | apply Kd.R_drew)); exact HO_11.out⟩, ⟨by repeat (first | (with_reducible first | exact HB.out | apply below_alloc | apply pw_below_drewN | apply below_drew1) | exact HB.out)⟩⟩
           ·rw [if_neg c14] at H
            exact absurd H (by simp)
          case rest =>
           clear HC13
           try clear c1
           try clear c2
           try clear p2
           try clear q2
           try clear hx2
           try clear c5
           try clear c5b0
           try clear c5b1
           try clear c7
           try clear c10
           try clear c10b0
           try clear c11
           try clear c11b0
           try clear c12
           try clear c12b0
           try clear c14
           try clear c14b0
           try clear c15
           try clear c15b0
           try clear c15b1
           try clear hx219_0
           try clear hx219_1
           try clear hx219_2
           try clear hx220_0
           try clear hx220_1
           try clear hx220_2
           try clear hx227_0
           try clear hx227_1
           try clear hx227_2
           try clear hx228_0
           try clear hx228_1
           try clear hx228_2
           try clear p2
           try clear p219
           try clear p220
           try clear p227
           try clear p228
           try clear q2
           try clear q219
           try clear q220
           try clear q227
           try clear q228
           obtain ⟨kq, x69_12, rfl, HA, HJ12, HO_11, HB⟩ := hcut
           cases kq with
           | zero => exact absurd HA.out (by simp [wageofficeref22_Worked.j2])
           | succ kj12 =>
            have H := HA.out
            clear HA
            simp only [wageofficeref22_Worked.j2] at H
            by_cases c16 : x69_12 = true
            ·subst c16
             have H1 : (wageofficeref22_Worked.l1 kj12 l0 l1 l2 x11_1 x12_1 x13_2 x14_2 x15_2 (wrap64 (x16_2 + 1))) = some (r1, r2) := by rw [if_pos rfl] at H; exact H
             clear H
             have H := H1
             clear H1
             have H' := Aside0.mk H
             clear H
             go_wp2
             go_roundg kj12
             case measure => have := HK1.out; have := HK2.out; have := HJ12.out; omega
             case rel => exact ⟨(x13_2), (x14_2), (x15_2), (wrap64 (x16_2 + 1)), (by first | rfl | (simp; done) | (simp [*]; done)), (by first | rfl | (simp; done) | (simp [*]; done)), (by first | rfl | (simp; done) | (simp [*]; done)), (by first | rfl | (simp; done) | (simp [*]; done)), H', ⟨by have := HK1.out; have := HK2.out; have := HJ12.out; omega⟩, ⟨by (with_reducible repeat (first | apply Kd.R_alloc | apply Kd.R_drewN | apply Kd.R_drew)); exact HO_11.out⟩, ⟨by repeat (first | (with_reducible first | exact HB.out | apply below_alloc | apply pw_below_drewN | apply below_drew1) | exact HB.out)⟩⟩
            ·replace c16 := Bool.eq_false_iff.mpr c16
             subst c16
             have H1 : (if 0 ≤ x16_2 then (if x16_2 < (l2.length : Int) then (if (rd_T57 l2 x16_2).f1 = true then (if 0 ≤ ((rd_T57 l2 x16_2).f2) then (if ((rd_T57 l2 x16_2).f2) < (l1.length : Int) then (wageofficeref22_Worked.l1 kj12 l0 l1 l2 x11_1 x12_1 ((rd_T45 l1 ((rd_T57 l2 x16_2).f2)).f0) x14_2 true (wrap64 (x16_2 + 1))) else (none)) else (none)) else (if 0 ≤ ((rd_T57 l2 x16_2).f2) then (if ((rd_T57 l2 x16_2).f2) < (l1.length : Int) then (wageofficeref22_Worked.l1 kj12 l0 l1 l2 x11_1 x12_1 x13_2 ((rd_T45 l1 ((rd_T57 l2 x16_2).f2)).f0) true (wrap64 (x16_2 + 1))) else (none)) else (none))) else (none)) else (none)) = some (r1, r2) := by rw [if_neg (show ¬ (false = true) by decide)] at H; exact H
             clear H
             have H := H1
             clear H1
             by_cases c17 : 0 ≤ x16_2
             ·rw [if_pos c17] at H
              have c17b0 : decide (0 ≤ x16_2) = true := decide_eq_true c17
              clear c17
              by_cases c18 : x16_2 < (l2.length : Int)
              ·rw [if_pos c18] at H
               have c18b0 : decide (x16_2 < (l2.length : Int)) = true := decide_eq_true c18
               clear c18
               obtain ⟨bq19, hbq19⟩ : ∃ b_ : Bool, b_ = ((rd_T57 l2 x16_2).f1) := ⟨_, rfl⟩
               replace H : (if bq19 = true then (if 0 ≤ ((rd_T57 l2 x16_2).f2) then (if ((rd_T57 l2 x16_2).f2) < (l1.length : Int) then (wageofficeref22_Worked.l1 kj12 l0 l1 l2 x11_1 x12_1 ((rd_T45 l1 ((rd_T57 l2 x16_2).f2)).f0) x14_2 true (wrap64 (x16_2 + 1))) else (none)) else (none)) else (if 0 ≤ ((rd_T57 l2 x16_2).f2) then (if ((rd_T57 l2 x16_2).f2) < (l1.length : Int) then (wageofficeref22_Worked.l1 kj12 l0 l1 l2 x11_1 x12_1 x13_2 ((rd_T45 l1 ((rd_T57 l2 x16_2).f2)).f0) true (wrap64 (x16_2 + 1))) else (none)) else (none))) = some (r1, r2) := by rw [← hbq19] at H; exact H
               have Nbq19 := Aside0.mk hbq19
               clear hbq19
               by_cases c20 : bq19 = true
               ·subst c20
                have H1 : (if 0 ≤ ((rd_T57 l2 x16_2).f2) then (if ((rd_T57 l2 x16_2).f2) < (l1.length : Int) then (wageofficeref22_Worked.l1 kj12 l0 l1 l2 x11_1 x12_1 ((rd_T45 l1 ((rd_T57 l2 x16_2).f2)).f0) x14_2 true (wrap64 (x16_2 + 1))) else (none)) else (none)) = some (r1, r2) := by rw [if_pos rfl] at H; exact H
                clear H
                have H := H1
                clear H1
                by_cases c21 : 0 ≤ ((rd_T57 l2 x16_2).f2)
                ·rw [if_pos c21] at H
                 have c21b0 : decide (0 ≤ ((rd_T57 l2 x16_2).f2)) = true := decide_eq_true c21
                 clear c21
                 by_cases c22 : ((rd_T57 l2 x16_2).f2) < (l1.length : Int)
                 ·rw [if_pos c22] at H
                  have c22b0 : decide (((rd_T57 l2 x16_2).f2) < (l1.length : Int)) = true := decide_eq_true c22
                  clear c22
                  have H' := Aside0.mk H
                  clear H
                  have p229 : 0 ≤ (x16_2 : Int) := of_decide_eq_true (by first | (with_reducible assumption) | assumption)
                  have q229 : x16_2 < (l2.length : Int) := of_decide_eq_true (by first | (with_reducible assumption) | assumption)
                  obtain ⟨ad229, e229, hx229_0, hx229_1, hx229_2⟩ := at_T57 HR2.out x16_2 p229 q229
                  (try rw [← Nbq19.out] at hx229_1)
                  cases e229
                  replace hx229_0 := (HB.out.cell (World.block_lt_of_cell? w _ hx229_0)).trans hx229_0
                  replace hx229_1 := (HB.out.cell (World.block_lt_of_cell? w _ hx229_1)).trans hx229_1
                  replace hx229_2 := (HB.out.cell (World.block_lt_of_cell? w _ hx229_2)).trans hx229_2
                  replace p229 := eq_true p229
                  replace q229 := eq_true q229
                  have p230 : 0 ≤ (x16_2 : Int) := of_decide_eq_true (by first | (with_reducible assumption) | assumption)
                  have q230 : x16_2 < (l2.length : Int) := of_decide_eq_true (by first | (with_reducible assumption) | assumption)
                  obtain ⟨ad230, e230, hx230_0, hx230_1, hx230_2⟩ := at_T57 HR2.out x16_2 p230 q230
                  (try rw [← Nbq19.out] at hx230_1)
                  obtain rfl : ad229 = ad230 := (by injection e230)
                  replace hx230_0 := (HB.out.cell (World.block_lt_of_cell? w _ hx230_0)).trans hx230_0
                  replace hx230_1 := (HB.out.cell (World.block_lt_of_cell? w _ hx230_1)).trans hx230_1
                  replace hx230_2 := (HB.out.cell (World.block_lt_of_cell? w _ hx230_2)).trans hx230_2
                  replace p230 := eq_true p230
                  replace q230 := eq_true q230
                  have p231 : 0 ≤ (((rd_T57 l2 x16_2).f2) : Int) := of_decide_eq_true (by first | (with_reducible assumption) | assumption)
                  have q231 : ((rd_T57 l2 x16_2).f2) < (l1.length : Int) := of_decide_eq_true (by first | (with_reducible assumption) | assumption)
                  obtain ⟨ad231, e231, hx231_0, hx231_1⟩ := at_T45 HR1.out ((rd_T57 l2 x16_2).f2) p231 q231
                  (try rw [← Nbq19.out] at hx231_1)
                  cases e231
                  replace hx231_0 := (HB.out.cell (World.block_lt_of_cell? w _ hx231_0)).trans hx231_0
                  replace hx231_1 := (HB.out.cell (World.block_lt_of_cell? w _ hx231_1)).trans hx231_1
                  replace p231 := eq_true p231
                  replace q231 := eq_true q231
                  go_wp2
                  go_roundg kj12
                  case measure => have := HK1.out; have := HK2.out; have := HJ12.out; omega
                  case rel => exact ⟨((rd_T45 l1 ((rd_T57 l2 x16_2).f2)).f0), (x14_2), (true), (wrap64 (x16_2 + 1)), (by first | rfl | (simp; done) | (simp [*]; done)), (by first | rfl | (simp; done) | (simp [*]; done)), (by first | rfl | (simp; done) | (simp [*]; done)), (by first | rfl | (simp; done) | (simp [*]; done)), H', ⟨by have := HK1.out; have := HK2.out; have := HJ12.out; omega⟩, ⟨by (with_reducible repeat (first | apply Kd.R_alloc | apply Kd.R_drewN | apply Kd.R_drew)); exact HO_11.out⟩, ⟨by repeat (first | (with_reducible first | exact HB.out | apply below_alloc | apply pw_below_drewN | apply below_drew1) | exact HB.out)⟩⟩
                 ·rw [if_neg c22] at H
                  exact absurd H (by simp)
                ·rw [if_neg c21] at H
                 exact absurd H (by simp)
               ·replace c20 := Bool.eq_false_iff.mpr c20
                subst c20
                have H1 : (if 0 ≤ ((rd_T57 l2 x16_2).f2) then (if ((rd_T57 l2 x16_2).f2) < (l1.length : Int) then (wageofficeref22_Worked.l1 kj12 l0 l1 l2 x11_1 x12_1 x13_2 ((rd_T45 l1 ((rd_T57 l2 x16_2).f2)).f0) true (wrap64 (x16_2 + 1))) else (none)) else (none)) = some (r1, r2) := by rw [if_neg (show ¬ (false = true) by decide)] at H; exact H
                clear H
                have H := H1
                clear H1
                by_cases c23 : 0 ≤ ((rd_T57 l2 x16_2).f2)
                ·rw [if_pos c23] at H
                 have c23b0 : decide (0 ≤ ((rd_T57 l2 x16_2).f2)) = true := decide_eq_true c23
                 clear c23
                 by_cases c24 : ((rd_T57 l2 x16_2).f2) < (l1.length : Int)
                 ·rw [if_pos c24] at H
                  have c24b0 : decide (((rd_T57 l2 x16_2).f2) < (l1.length : Int)) = true := decide_eq_true c24
                  clear c24
                  have H' := Aside0.mk H
                  clear H
                  have p229 : 0 ≤ (x16_2 : Int) := of_decide_eq_true (by first | (with_reducible assumption) | assumption)
                  have q229 : x16_2 < (l2.length : Int) := of_decide_eq_true (by first | (with_reducible assumption) | assumption)
                  obtain ⟨ad229, e229, hx229_0, hx229_1, hx229_2⟩ := at_T57 HR2.out x16_2 p229 q229
                  (try rw [← Nbq19.out] at hx229_1)
                  cases e229
                  replace hx229_0 := (HB.out.cell (World.block_lt_of_cell? w _ hx229_0)).trans hx229_0
                  replace hx229_1 := (HB.out.cell (World.block_lt_of_cell? w _ hx229_1)).trans hx229_1
                  replace hx229_2 := (HB.out.cell (World.block_lt_of_cell? w _ hx229_2)).trans hx229_2
                  replace p229 := eq_true p229
                  replace q229 := eq_true q229
                  have p232 : 0 ≤ (x16_2 : Int) := of_decide_eq_true (by first | (with_reducible assumption) | assumption)
                  have q232 : x16_2 < (l2.length : Int) := of_decide_eq_true (by first | (with_reducible assumption) | assumption)
                  obtain ⟨ad232, e232, hx232_0, hx232_1, hx232_2⟩ := at_T57 HR2.out x16_2 p232 q232
                  (try rw [← Nbq19.out] at hx232_1)
                  obtain rfl : ad229 = ad232 := (by injection e232)
                  replace hx232_0 := (HB.out.cell (World.block_lt_of_cell? w _ hx232_0)).trans hx232_0
                  replace hx232_1 := (HB.out.cell (World.block_lt_of_cell? w _ hx232_1)).trans hx232_1
                  replace hx232_2 := (HB.out.cell (World.block_lt_of_cell? w _ hx232_2)).trans hx232_2
                  replace p232 := eq_true p232
                  replace q232 := eq_true q232
                  have p233 : 0 ≤ (((rd_T57 l2 x16_2).f2) : Int) := of_decide_eq_true (by first | (with_reducible assumption) | assumption)
                  have q233 : ((rd_T57 l2 x16_2).f2) < (l1.length : Int) := of_decide_eq_true (by first | (with_reducible assumption) | assumption)
                  obtain ⟨ad233, e233, hx233_0, hx233_1⟩ := at_T45 HR1.out ((rd_T57 l2 x16_2).f2) p233 q233
                  (try rw [← Nbq19.out] at hx233_1)
                  cases e233
                  replace hx233_0 := (HB.out.cell (World.block_lt_of_cell? w _ hx233_0)).trans hx233_0
                  replace hx233_1 := (HB.out.cell (World.block_lt_of_cell? w _ hx233_1)).trans hx233_1
                  replace p233 := eq_true p233
                  replace q233 := eq_true q233
                  go_wp2
                  go_roundg kj12
                  case measure => have := HK1.out; have := HK2.out; have := HJ12.out; omega
                  case rel => exact ⟨(x13_2), ((rd_T45 l1 ((rd_T57 l2 x16_2).f2)).f0), (true), (wrap64 (x16_2 + 1)), (by first | rfl | (simp; done) | (simp [*]; done)), (by first | rfl | (simp; done) | (simp [*]; done)), (by first | rfl | (simp; done) | (simp [*]; done)), (by first | rfl | (simp; done) | (simp [*]; done)), H', ⟨by have := HK1.out; have := HK2.out; have := HJ12.out; omega⟩, ⟨by (with_reducible repeat (first | apply Kd.R_alloc | apply Kd.R_drewN | apply Kd.R_drew)); exact HO_11.out⟩, ⟨by repeat (first | (with_reducible first | exact HB.out | apply below_alloc | apply pw_below_drewN | apply below_drew1) | exact HB.out)⟩⟩
                 ·rw [if_neg c24] at H
                  exact absurd H (by simp)
                ·rw [if_neg c23] at H
                 exact absurd H (by simp)
              ·rw [if_neg c18] at H
               exact absurd H (by simp)
             ·rw [if_neg c17] at H
              exact absurd H (by simp)
         ·rw [if_neg c12] at H
          have c12b0 : decide (x16_2 < (l2.length : Int)) = false := decide_eq_false c12
          clear c12
          obtain ⟨ji25, hji25⟩ : ∃ j_ : Int, (mx 0 (wrap64 (x14_2 - x13_2))) = j_ := ⟨_, rfl⟩
          replace H : (if x15_2 = true then (if x11_1.length < 17592186044416 then (wageofficeref22_Worked.l0 k2 l0 l1 l2 (x11_1 ++ [ji25]) (wrap64 (x12_1 + 1))) else (none)) else (if x11_1.length < 17592186044416 then (wageofficeref22_Worked.l0 k2 l0 l1 l2 (x11_1 ++ [0]) (wrap64 (x12_1 + 1))) else (none))) = some (r1, r2) := by first | (rw [hji25] at H; exact H) | (simp only [hji25] at H ⊢; exact H)
          have hji25_ : (if 0 < (wrap64 (x14_2 - x13_2)) then (wrap64 (x14_2 - x13_2)) else 0) = ji25 := hji25
          by_cases c26 : x15_2 = true
          ·subst c26
           have H1 : (if x11_1.length < 17592186044416 then (wageofficeref22_Worked.l0 k2 l0 l1 l2 (x11_1 ++ [ji25]) (wrap64 (x12_1 + 1))) else (none)) = some (r1, r2) := by rw [if_pos rfl] at H; exact H
           clear H
           have H := H1
           clear H1
           by_cases c27 : x11_1.length < 17592186044416
           ·rw [if_pos c27] at H
            have LMc27 := Aside0.mk c27
            clear c27
            obtain ⟨y221, hy221⟩ : ∃ y_ : List Int, y_ = (x11_1 ++ [ji25]) := ⟨_, rfl⟩
            replace H : (wageofficeref22_Worked.l0 k2 l0 l1 l2 y221 (wrap64 (x12_1 + 1))) = some (r1, r2) := by first | (rw [hy221]; with_reducible exact H) | (have H2_ := (Option.bind_some _ _).symm.trans H; rw [hy221]; with_reducible exact H2_) | (have H2_ := (Option.bind_some _ _).symm.trans H; with_reducible exact H2_) | with_reducible exact H | (rw [hy221]; exact H) | exact H
            have Ny221 := Aside0.mk hy221
            clear hy221
            have H' := Aside0.mk H
            clear H
            go_wp2_with (first | ((with_reducible refine gate_builtin (b := .append) (xs := #[.tmp 99, .tmp 101]) rfl ?_); at_builtin; refine Kd.R_append (Kd.int .i64) (w0 := w) w.heap.size rfl (.tmp 99) (.tmp 101) 30 3 (.int .i64 0) 8 rfl Try.underlying30 info3 rfl (by decide) (by omega) u11 x11_1 ji25 [.int .i64 ji25] (fun _ => True) (fun _ => False) rfl rfl ?aP (fun _ hk => hk.elim) ?aF ?aO ?aB ?aS ?aL ?_; (case aP => exact rfl); (case aB => exact (by repeat (first | (with_reducible first | exact HB.out | apply below_alloc | apply pw_below_drewN | apply below_drew1) | exact HB.out))); (case aF => exact (fun _ _ => trivial)); (case aO => exact (by (with_reducible repeat (first | apply Kd.R_alloc | apply Kd.R_drewN | apply Kd.R_drew)); exact HO_11.out)); (case aS => exact (below_size (by repeat (first | (with_reducible first | exact HB.out | apply below_alloc | apply pw_below_drewN | apply below_drew1) | exact HB.out)))); (case aL => have := LMc27.out; omega); intro v222 w28 ho hb hg hat; rw [← Ny221.out] at ho; have n0_ := Aside0.mk (hb); have n1_ := Aside0.mk (ho); clear HB; clear HO_11; have HB := n0_; have HO223 := n1_; clear n0_ n1_; clear ho hb hg hat))
            go_roundg k2
            case measure => have := HK1.out; have := HK2.out; omega
            case rel => exact ⟨(y221), (wrap64 (x12_1 + 1)), (by first | rfl | (simp; done) | (simp [*]; done)), H', ⟨by have := HK1.out; have := HK2.out; omega⟩, ⟨by (with_reducible repeat (first | apply Kd.R_alloc | apply Kd.R_drewN | apply Kd.R_drew)); exact HO223.out⟩, ⟨by repeat (first | (with_reducible first | exact HB.out | apply below_alloc | apply pw_below_drewN | apply below_drew1) | exact HB.out)⟩⟩
           ·rw [if_neg c27] at H
            exact absurd H (by simp)
          ·replace c26 := Bool.eq_false_iff.mpr c26
           subst c26
           have H1 : (if x11_1.length < 17592186044416 then (wageofficeref22_Worked.l0 k2 l0 l1 l2 (x11_1 ++ [0]) (wrap64 (x12_1 + 1))) else (none)) = some (r1, r2) := by rw [if_neg (show ¬ (false = true) by decide)] at H; exact H
           clear H
           have H := H1
           clear H1
           by_cases c29 : x11_1.length < 17592186044416
           ·rw [if_pos c29] at H
            have LMc29 := Aside0.mk c29
            clear c29
            obtain ⟨y224, hy224⟩ : ∃ y_ : List Int, y_ = (x11_1 ++ [0]) := ⟨_, rfl⟩
            replace H : (wageofficeref22_Worked.l0 k2 l0 l1 l2 y224 (wrap64 (x12_1 + 1))) = some (r1, r2) := by first | (rw [hy224]; with_reducible exact H) | (have H2_ := (Option.bind_some _ _).symm.trans H; rw [hy224]; with_reducible exact H2_) | (have H2_ := (Option.bind_some _ _).symm.trans H; with_reducible exact H2_) | with_reducible exact H | (rw [hy224]; exact H) | exact H
            have Ny224 := Aside0.mk hy224
            clear hy224
            have H' := Aside0.mk H
            clear H
            go_wp2_with (first | ((with_reducible refine gate_builtin (b := .append) (xs := #[.tmp 99, .tmp 101]) rfl ?_); at_builtin; refine Kd.R_append (Kd.int .i64) (w0 := w) w.heap.size rfl (.tmp 99) (.tmp 101) 30 3 (.int .i64 0) 8 rfl Try.underlying30 info3 rfl (by decide) (by omega) u11 x11_1 0 [.int .i64 0] (fun _ => True) (fun _ => False) rfl rfl ?aP (fun _ hk => hk.elim) ?aF ?aO ?aB ?aS ?aL ?_; (case aP => exact rfl); (case aB => exact (by repeat (first | (with_reducible first | exact HB.out | apply below_alloc | apply pw_below_drewN | apply below_drew1) | exact HB.out))); (case aF => exact (fun _ _ => trivial)); (case aO => exact (by (with_reducible repeat (first | apply Kd.R_alloc | apply Kd.R_drewN | apply Kd.R_drew)); exact HO_11.out)); (case aS => exact (below_size (by repeat (first | (with_reducible first | exact HB.out | apply below_alloc | apply pw_below_drewN | apply below_drew1) | exact HB.out)))); (case aL => have := LMc29.out; omega); intro v225 w30 ho hb hg hat; rw [← Ny224.out] at ho; have n0_ := Aside0.mk (hb); have n1_ := Aside0.mk (ho); clear HB; clear HO_11; have HB := n0_; have HO226 := n1_; clear n0_ n1_; clear ho hb hg hat))
            go_roundg k2
            case measure => have := HK1.out; have := HK2.out; omega
            case rel => exact ⟨(y224), (wrap64 (x12_1 + 1)), (by first | rfl | (simp; done) | (simp [*]; done)), H', ⟨by have := HK1.out; have := HK2.out; omega⟩, ⟨by (with_reducible repeat (first | apply Kd.R_alloc | apply Kd.R_drewN | apply Kd.R_drew)); exact HO226.out⟩, ⟨by repeat (first | (with_reducible first | exact HB.out | apply below_alloc | apply pw_below_drewN | apply below_drew1) | exact HB.out)⟩⟩
           ·rw [if_neg c29] at H
            exact absurd H (by simp)
      ·rw [if_neg c11] at H
       exact absurd H (by simp)
     ·rw [if_neg c10] at H
      have c10b0 : decide (x12_1 < (l0.length : Int)) = false := decide_eq_false c10
      clear c10
      simp only [Option.some.injEq, Prod.mk.injEq] at H
      obtain ⟨rfl, rfl⟩ := H
      go_wp2
      go_ret2
      exact ⟨_, by first | rfl | (simp [errW_none, errW_some] <;> rfl) | (simp [*, errW_none, errW_some] <;> rfl), by (with_reducible repeat (first | apply Kd.R_alloc | apply Kd.R_drewN | apply Kd.R_drew)); exact HO_11.out, by repeat (first | (with_reducible first | exact HB.out | apply below_alloc | apply pw_below_drewN | apply below_drew1) | exact HB.out)⟩
  ·replace c7 := Bool.eq_false_iff.mpr c7
   subst c7
   have H1 : (some (([] : List Int), 1)) = some (r1, r2) := by rw [if_neg (show ¬ (false = true) by decide)] at H; exact H
   clear H
   have H := H1
   clear H1
   simp only [Option.some.injEq, Prod.mk.injEq] at H
   obtain ⟨rfl, rfl⟩ := H
   go_enter Try.func16, Try.ntmps16
   go_wp2_with (first | ((with_reducible refine gate_callee (f := 29) rfl ?_); refine goesL_ (some 20) rfl rfl Try.func29 (by kernel_rfl) rfl #[.slice A0 l0.length c0, .slice A1 l1.length c1] rfl (by (try simp only [List.map_toArray, List.map_cons, List.map_nil]); first | done | rfl | (simp only [List.length_drop, List.length_take]; rfl)) ?_; (with_reducible refine (wageofficeref22_Usable.calls k _ _ l0 _ _ l1 t216 _ ?side1 ?side2 ?side3 ?side4 A4.out).mono ?_); (case side1 => repeat (first | exact HR0.out | (with_reducible refine Kd.C_alloc ?_ _) | (with_reducible refine Kd.C_drewN ?_ _) | (with_reducible refine Kd.C_drew ?_))); (case side2 => exact HC0.out); (case side3 => repeat (first | exact HR1.out | (with_reducible refine Kd.C_alloc ?_ _) | (with_reducible refine Kd.C_drewN ?_ _) | (with_reducible refine Kd.C_drew ?_))); (case side4 => exact HC1.out); rintro e w31 ⟨rfl, hb⟩; refine ⟨_, rfl, ?_⟩; have n0_ := Aside0.mk (below_step (by repeat (first | (with_reducible first | exact HB.out | apply below_alloc | apply pw_below_drewN | apply below_drew1) | exact HB.out)) hb); clear HB; have HB := n0_; clear n0_; (try clear hb); (try clear hb2); (try clear hk); (try clear hi)) | ((with_reducible refine gate_callee (f := 20) rfl ?_); refine goesL_ (some 28) rfl rfl Try.func20 (by kernel_rfl) rfl #[.slice A0 l0.length c0, .slice A1 l1.length c1, .slice A2 l2.length c2] rfl (by (try simp only [List.map_toArray, List.map_cons, List.map_nil]); first | done | rfl | (simp only [List.length_drop, List.length_take]; rfl)) ?_; (with_reducible refine (rAl.calls k _ _ l0 _ _ l1 _ _ l2 t217 false _ ?side1 ?side2 ?side3 ?side4 ?side5 ?side6 A6.out).mono ?_); (case side1 => repeat (first | exact (Kd.C_below HR0.out HB.out) | (with_reducible refine Kd.C_alloc ?_ _) | (with_reducible refine Kd.C_drewN ?_ _) | (with_reducible refine Kd.C_drew ?_))); (case side2 => exact HC0.out); (case side3 => repeat (first | exact (Kd.C_below HR1.out HB.out) | (with_reducible refine Kd.C_alloc ?_ _) | (with_reducible refine Kd.C_drewN ?_ _) | (with_reducible refine Kd.C_drew ?_))); (case side4 => exact HC1.out); (case side5 => repeat (first | exact (Kd.C_below HR2.out HB.out) | (with_reducible refine Kd.C_alloc ?_ _) | (with_reducible refine Kd.C_drewN ?_ _) | (with_reducible refine Kd.C_drew ?_))); (case side6 => exact HC2.out); rintro e w32 ⟨rfl, hb⟩; refine ⟨_, rfl, ?_⟩; have n0_ := Aside0.mk (below_step (by repeat (first | (with_reducible first | exact HB.out | apply below_alloc | apply pw_below_drewN | apply below_drew1) | exact HB.out)) hb); clear HB; have HB := n0_; clear n0_; (try clear hb); (try clear hb2); (try clear hk); (try clear hi)))
   go_ret2
   exact ⟨_, by first | rfl | (simp [errW_none, errW_some] <;> rfl) | (simp [*, errW_none, errW_some] <;> rfl), by first | exact Kd.R_nil _ _ _ _ _ | exact Kd.N_nil _ _ _ _ _ | exact Kd.V_nil _ _ _ _ _ | exact Kd.Q_nil _ _ _ _ _ | exact Kd.S_nil _ _ _ _ _, by repeat (first | (with_reducible first | exact HB.out | apply below_alloc | apply pw_below_drewN | apply below_drew1) | exact HB.out)⟩
 ·rw [if_neg c5] at H
  have c5b0 : (t216 == 0) = false := beq_eq_false_iff_ne.mpr c5
  have c5b1 : (t216 != 0) = true := bne_iff_ne.mpr c5
  simp only [Option.some.injEq, Prod.mk.injEq] at H
  obtain ⟨rfl, rfl⟩ := H
  go_enter Try.func16, Try.ntmps16
  go_wp2_with (first | ((with_reducible refine gate_callee (f := 29) rfl ?_); refine goesL_ (some 20) rfl rfl Try.func29 (by kernel_rfl) rfl #[.slice A0 l0.length c0, .slice A1 l1.length c1] rfl (by (try simp only [List.map_toArray, List.map_cons, List.map_nil]); first | done | rfl | (simp only [List.length_drop, List.length_take]; rfl)) ?_; (with_reducible refine (wageofficeref22_Usable.calls k _ _ l0 _ _ l1 t216 _ ?side1 ?side2 ?side3 ?side4 A4.out).mono ?_); (case side1 => repeat (first | exact HR0.out | (with_reducible refine Kd.C_alloc ?_ _) | (with_reducible refine Kd.C_drewN ?_ _) | (with_reducible refine Kd.C_drew ?_))); (case side2 => exact HC0.out); (case side3 => repeat (first | exact HR1.out | (with_reducible refine Kd.C_alloc ?_ _) | (with_reducible refine Kd.C_drewN ?_ _) | (with_reducible refine Kd.C_drew ?_))); (case side4 => exact HC1.out); rintro e w33 ⟨rfl, hb⟩; refine ⟨_, rfl, ?_⟩; have n0_ := Aside0.mk (below_step (by repeat (first | (with_reducible first | exact HB.out | apply below_alloc | apply pw_below_drewN | apply below_drew1) | exact HB.out)) hb); clear HB; have HB := n0_; clear n0_; (try clear hb); (try clear hb2); (try clear hk); (try clear hi)))
  go_ret2
  exact ⟨_, by first | rfl | (simp [errW_none, errW_some] <;> rfl) | (simp [*, errW_none, errW_some] <;> rfl), by first | exact Kd.R_nil _ _ _ _ _ | exact Kd.N_nil _ _ _ _ _ | exact Kd.V_nil _ _ _ _ _ | exact Kd.Q_nil _ _ _ _ _ | exact Kd.S_nil _ _ _ _ _, by repeat (first | (with_reducible first | exact HB.out | apply below_alloc | apply pw_below_drewN | apply below_drew1) | exact HB.out)⟩
set_option maxHeartbeats 8000000 in
set_option maxRecDepth 100000 in
theorem wageofficelaw22_PunchesMatchesReference.calls (k : Nat) (A0 : Option Addr) (c0 : Nat) (l0 : List (S48)) (A1 : Option Addr) (c1 : Nat) (l1 : List (S45)) (A2 : Option Addr) (c2 : Nat) (l2 : List (S57)) (r : Bool) (w : World) (hr0 : Kd.C k48 w A0 l0.length l0) (hc0 : l0.length ≤ c0) (hr1 : Kd.C k45 w A1 l1.length l1) (hc1 : l1.length ≤ c1) (hr2 : Kd.C k57 w A2 l2.length l2) (hc2 : l2.length ≤ c2) (hr : r = true) (h : wageofficelaw22_PunchesMatchesReference.f k l0 l1 l2 = some r) :
  Calls Try.prog 3 #[.slice A0 l0.length c0, .slice A1 l1.length c1, .slice A2 l2.length c2] w fun e w' => e = .returned (.bool r) ∧ Below w.heap.size w w' := by
 have HR0 := Aside0.mk hr0
 have HC0 := Aside0.mk hc0
 clear hr0 hc0
 have HR1 := Aside0.mk hr1
 have HC1 := Aside0.mk hc1
 clear hr1 hc1
 have HR2 := Aside0.mk hr2
 have HC2 := Aside0.mk hc2
 clear hr2 hc2
 have HB := Aside0.mk (Below.refl w.heap.size w)
 have PR := Aside0.mk hr
 clear hr
 have H : ((wageofficelaw22_head.f).bind fun t234 => ((wageofficelaw22_short.f l0 l1).bind fun t235 => (if t235 = true then (wageofficelaw22_PunchesMatchesReference.j0 k l0 l1 l2 t234 (decide ((l2.length : Int) > 200))) else (wageofficelaw22_PunchesMatchesReference.j0 k l0 l1 l2 t234 true)))) = some r := h
 clear h
 replace H := Option.bind_eq_some_iff.mp H
 obtain ⟨t234, A40, H⟩ := H
 replace H : ((wageofficelaw22_short.f l0 l1).bind fun t235 => (if t235 = true then (wageofficelaw22_PunchesMatchesReference.j0 k l0 l1 l2 t234 (decide ((l2.length : Int) > 200))) else (wageofficelaw22_PunchesMatchesReference.j0 k l0 l1 l2 t234 true))) = some r := H
 have A4 := Aside0.mk A40
 clear A40
 have HC5 := Aside0.mk H
 clear H
 go_enter Try.func3, Try.ntmps3
 go_upto_region 2 with (first | ((with_reducible refine gate_callee (f := 11) rfl ?_); refine goesL_ (some 22) rfl rfl Try.func11 (by kernel_rfl) rfl #[] rfl (by (try simp only [List.map_toArray, List.map_cons, List.map_nil]); first | done | rfl | (simp only [List.length_drop, List.length_take]; rfl)) ?_; (with_reducible refine (wageofficelaw22_head.calls  t234 _ A4.out).mono ?_); rintro e w6 ⟨rfl, hb⟩; refine ⟨_, rfl, ?_⟩; have n0_ := Aside0.mk (below_step (by repeat (first | (with_reducible first | exact HB.out | apply below_alloc | apply pw_below_drewN | apply below_drew1) | exact HB.out)) hb); clear HB; have HB := n0_; clear n0_; (try clear hb); (try clear hb2); (try clear hk); (try clear hi)))
 (try simp only [Act.put, List.setIfInBounds_toArray, List.set_cons_zero, List.set_cons_succ])
 go_cut [31] (fun v31 wc => ∃ (kq : Nat) (x31_4 : Bool), v31 = .bool x31_4 ∧ Aside0 (wageofficelaw22_PunchesMatchesReference.j0 kq l0 l1 l2 t234 x31_4 = some r) ∧ Aside0 (kq ≤ k) ∧ Aside0 (Below w.heap.size w wc))
 case first =>
  have H := HC5.out
  clear HC5
  replace H := Option.bind_eq_some_iff.mp H
  obtain ⟨t235, A70, H⟩ := H
  replace H : (if t235 = true then (wageofficelaw22_PunchesMatchesReference.j0 k l0 l1 l2 t234 (decide ((l2.length : Int) > 200))) else (wageofficelaw22_PunchesMatchesReference.j0 k l0 l1 l2 t234 true)) = some r := H
  have A7 := Aside0.mk A70
  clear A70
  by_cases c8 : t235 = true
  ·subst c8
   have H1 : (wageofficelaw22_PunchesMatchesReference.j0 k l0 l1 l2 t234 (decide ((l2.length : Int) > 200))) = some r := by rw [if_pos rfl] at H; exact H
   clear H
   have H := H1
   clear H1
   have H' := Aside0.mk H
   clear H
   go_wp2_with (first | ((with_reducible refine gate_callee (f := 12) rfl ?_); refine goesL_ (some 25) rfl rfl Try.func12 (by kernel_rfl) rfl #[.slice A0 l0.length c0, .slice A1 l1.length c1] rfl (by (try simp only [List.map_toArray, List.map_cons, List.map_nil]); first | done | rfl | (simp only [List.length_drop, List.length_take]; rfl)) ?_; (with_reducible refine (wageofficelaw22_short.calls _ _ l0 _ _ l1 true _ ?side1 ?side2 ?side3 ?side4 A7.out).mono ?_); (case side1 => repeat (first | exact (Kd.C_below HR0.out HB.out) | (with_reducible refine Kd.C_alloc ?_ _) | (with_reducible refine Kd.C_drewN ?_ _) | (with_reducible refine Kd.C_drew ?_))); (case side2 => exact HC0.out); (case side3 => repeat (first | exact (Kd.C_below HR1.out HB.out) | (with_reducible refine Kd.C_alloc ?_ _) | (with_reducible refine Kd.C_drewN ?_ _) | (with_reducible refine Kd.C_drew ?_))); (case side4 => exact HC1.out); rintro e w' ⟨rfl, ⟨nd, rfl⟩⟩; refine ⟨_, rfl, ?_⟩))
   go_meet
   case rel => exact ⟨_, (decide ((l2.length : Int) > 200)), (by first | rfl | (simp; done) | (simp [*]; done)), H', ⟨by first | omega | exact Nat.le_refl _⟩, ⟨by repeat (first | (with_reducible first | exact HB.out | apply below_alloc | apply pw_below_drewN | apply below_drew1) | exact HB.out)⟩⟩
  ·replace c8 := Bool.eq_false_iff.mpr c8
   subst c8
   have H1 : (wageofficelaw22_PunchesMatchesReference.j0 k l0 l1 l2 t234 true) = some r := by rw [if_neg (show ¬ (false = true) by decide)] at H; exact H
   clear H
   have H := H1
   clear H1
   have H' := Aside0.mk H
   clear H
   go_wp2_with (first | ((with_reducible refine gate_callee (f := 12) rfl ?_); refine goesL_ (some 25) rfl rfl Try.func12 (by kernel_rfl) rfl #[.slice A0 l0.length c0, .slice A1 l1.length c1] rfl (by (try simp only [List.map_toArray, List.map_cons, List.map_nil]); first | done | rfl | (simp only [List.length_drop, List.length_take]; rfl)) ?_; (with_reducible refine (wageofficelaw22_short.calls _ _ l0 _ _ l1 false _ ?side1 ?side2 ?side3 ?side4 A7.out).mono ?_); (case side1 => repeat (first | exact (Kd.C_below HR0.out HB.out) | (with_reducible refine Kd.C_alloc ?_ _) | (with_reducible refine Kd.C_drewN ?_ _) | (with_reducible refine Kd.C_drew ?_))); (case side2 => exact HC0.out); (case side3 => repeat (first | exact (Kd.C_below HR1.out HB.out) | (with_reducible refine Kd.C_alloc ?_ _) | (with_reducible refine Kd.C_drewN ?_ _) | (with_reducible refine Kd.C_drew ?_))); (case side4 => exact HC1.out); rintro e w' ⟨rfl, ⟨nd, rfl⟩⟩; refine ⟨_, rfl, ?_⟩))
   go_meet
   case rel => exact ⟨_, (true), (by first | rfl | (simp; done) | (simp [*]; done)), H', ⟨by first | omega | exact Nat.le_refl _⟩, ⟨by repeat (first | (with_reducible first | exact HB.out | apply below_alloc | apply pw_below_drewN | apply below_drew1) | exact HB.out)⟩⟩
 case rest =>
  clear HC5
  try clear c1
  try clear c2
  try clear p2
  try clear c3
  try clear c8
  obtain ⟨kq, x31_4, rfl, HA, HJ4, HB⟩ := hcut
  cases kq with
  | zero => exact absurd HA.out (by simp [wageofficelaw22_PunchesMatchesReference.j0])
  | succ kj4 =>
   have H := HA.out
   clear HA
   simp only [wageofficelaw22_PunchesMatchesReference.j0] at H
   by_cases c9 : x31_4 = true
   ·subst c9
    have H1 : (some t234) = some r := by rw [if_pos rfl] at H; exact H
    clear H
    have H := H1
    clear H1
    obtain rfl := Option.some.inj H
    go_wp2
    go_ret
    exact ⟨by first | rfl | (simp [errW_none, errW_some] <;> rfl) | (simp [*, errW_none, errW_some] <;> rfl), by repeat (first | (with_reducible first | exact HB.out | apply below_alloc | apply pw_below_drewN | apply below_drew1) | exact HB.out)⟩
   ·replace c9 := Bool.eq_false_iff.mpr c9
    subst c9
    have H1 : ((punches_Pair.f l0 l1).bind fun bt236 => ((wageofficeref22_Pair.f kj4 l0 l1).bind fun bt241 => ((punches_WorkedM.f l0 l1 l2).bind fun bt246 => ((wageofficeref22_Worked.f kj4 l0 l1 l2).bind fun bt250 => ((punches_WorkedM.f l0 l1 bt241.1).bind fun bt254 => ((wageofficeref22_Worked.f kj4 l0 l1 bt241.1).bind fun bt258 => (if t234 = true then (if bt236.2.1 = bt241.2.1 then (if bt236.2.2 = bt241.2.2 then ((wageofficeref22_Same.f kj4 bt236.1 bt241.1).bind fun t262 => (if t262 = true then (if bt246.2 = bt250.2 then ((wageofficeref22_SameInts.f kj4 bt246.1 bt250.1).bind fun t263 => (if t263 = true then (if bt254.2 = bt258.2 then ((wageofficeref22_SameInts.f kj4 bt254.1 bt258.1).bind fun t264 => (some t264)) else (some false)) else (some false))) else (some false)) else (some false))) else (some false)) else (some false)) else (some false)))))))) = some r := by rw [if_neg (show ¬ (false = true) by decide)] at H; exact H
    clear H
    have H := H1
    clear H1
    replace H := Option.bind_eq_some_iff.mp H
    obtain ⟨⟨t236, t237, t238⟩, A100, H⟩ := H
    replace H : ((wageofficeref22_Pair.f kj4 l0 l1).bind fun bt241 => ((punches_WorkedM.f l0 l1 l2).bind fun bt246 => ((wageofficeref22_Worked.f kj4 l0 l1 l2).bind fun bt250 => ((punches_WorkedM.f l0 l1 bt241.1).bind fun bt254 => ((wageofficeref22_Worked.f kj4 l0 l1 bt241.1).bind fun bt258 => (if t234 = true then (if t237 = bt241.2.1 then (if t238 = bt241.2.2 then ((wageofficeref22_Same.f kj4 t236 bt241.1).bind fun t262 => (if t262 = true then (if bt246.2 = bt250.2 then ((wageofficeref22_SameInts.f kj4 bt246.1 bt250.1).bind fun t263 => (if t263 = true then (if bt254.2 = bt258.2 then ((wageofficeref22_SameInts.f kj4 bt254.1 bt258.1).bind fun t264 => (some t264)) else (some false)) else (some false))) else (some false)) else (some false))) else (some false)) else (some false)) else (some false))))))) = some r := H
    have A10 := Aside0.mk A100
    clear A100
    replace H := Option.bind_eq_some_iff.mp H
    obtain ⟨⟨t241, t242, t243⟩, A110, H⟩ := H
    replace H : ((punches_WorkedM.f l0 l1 l2).bind fun bt246 => ((wageofficeref22_Worked.f kj4 l0 l1 l2).bind fun bt250 => ((punches_WorkedM.f l0 l1 t241).bind fun bt254 => ((wageofficeref22_Worked.f kj4 l0 l1 t241).bind fun bt258 => (if t234 = true then (if t237 = t242 then (if t238 = t243 then ((wageofficeref22_Same.f kj4 t236 t241).bind fun t262 => (if t262 = true then (if bt246.2 = bt250.2 then ((wageofficeref22_SameInts.f kj4 bt246.1 bt250.1).bind fun t263 => (if t263 = true then (if bt254.2 = bt258.2 then ((wageofficeref22_SameInts.f kj4 bt254.1 bt258.1).bind fun t264 => (some t264)) else (some false)) else (some false))) else (some false)) else (some false))) else (some false)) else (some false)) else (some false)))))) = some r := H
    have A11 := Aside0.mk A110
    clear A110
    replace H := Option.bind_eq_some_iff.mp H
    obtain ⟨⟨t246, t247⟩, A120, H⟩ := H
    replace H : ((wageofficeref22_Worked.f kj4 l0 l1 l2).bind fun bt250 => ((punches_WorkedM.f l0 l1 t241).bind fun bt254 => ((wageofficeref22_Worked.f kj4 l0 l1 t241).bind fun bt258 => (if t234 = true then (if t237 = t242 then (if t238 = t243 then ((wageofficeref22_Same.f kj4 t236 t241).bind fun t262 => (if t262 = true then (if t247 = bt250.2 then ((wageofficeref22_SameInts.f kj4 t246 bt250.1).bind fun t263 => (if t263 = true then (if bt254.2 = bt258.2 then ((wageofficeref22_SameInts.f kj4 bt254.1 bt258.1).bind fun t264 => (some t264)) else (some false)) else (some false))) else (some false)) else (some false))) else (some false)) else (some false)) else (some false))))) = some r := H
    have A12 := Aside0.mk A120
    clear A120
    replace H := Option.bind_eq_some_iff.mp H
    obtain ⟨⟨t250, t251⟩, A130, H⟩ := H
    replace H : ((punches_WorkedM.f l0 l1 t241).bind fun bt254 => ((wageofficeref22_Worked.f kj4 l0 l1 t241).bind fun bt258 => (if t234 = true then (if t237 = t242 then (if t238 = t243 then ((wageofficeref22_Same.f kj4 t236 t241).bind fun t262 => (if t262 = true then (if t247 = t251 then ((wageofficeref22_SameInts.f kj4 t246 t250).bind fun t263 => (if t263 = true then (if bt254.2 = bt258.2 then ((wageofficeref22_SameInts.f kj4 bt254.1 bt258.1).bind fun t264 => (some t264)) else (some false)) else (some false))) else (some false)) else (some false))) else (some false)) else (some false)) else (some false)))) = some r := H
    have A13 := Aside0.mk A130
    clear A130
    replace H := Option.bind_eq_some_iff.mp H
    obtain ⟨⟨t254, t255⟩, A140, H⟩ := H
    replace H : ((wageofficeref22_Worked.f kj4 l0 l1 t241).bind fun bt258 => (if t234 = true then (if t237 = t242 then (if t238 = t243 then ((wageofficeref22_Same.f kj4 t236 t241).bind fun t262 => (if t262 = true then (if t247 = t251 then ((wageofficeref22_SameInts.f kj4 t246 t250).bind fun t263 => (if t263 = true then (if t255 = bt258.2 then ((wageofficeref22_SameInts.f kj4 t254 bt258.1).bind fun t264 => (some t264)) else (some false)) else (some false))) else (some false)) else (some false))) else (some false)) else (some false)) else (some false))) = some r := H
    have A14 := Aside0.mk A140
    clear A140
    replace H := Option.bind_eq_some_iff.mp H
    obtain ⟨⟨t258, t259⟩, A150, H⟩ := H
    replace H : (if t234 = true then (if t237 = t242 then (if t238 = t243 then ((wageofficeref22_Same.f kj4 t236 t241).bind fun t262 => (if t262 = true then (if t247 = t251 then ((wageofficeref22_SameInts.f kj4 t246 t250).bind fun t263 => (if t263 = true then (if t255 = t259 then ((wageofficeref22_SameInts.f kj4 t254 t258).bind fun t264 => (some t264)) else (some false)) else (some false))) else (some false)) else (some false))) else (some false)) else (some false)) else (some false)) = some r := H
    have A15 := Aside0.mk A150
    clear A150
    by_cases c16 : t234 = true
    ·subst c16
     have H1 : (if t237 = t242 then (if t238 = t243 then ((wageofficeref22_Same.f kj4 t236 t241).bind fun t262 => (if t262 = true then (if t247 = t251 then ((wageofficeref22_SameInts.f kj4 t246 t250).bind fun t263 => (if t263 = true then (if t255 = t259 then ((wageofficeref22_SameInts.f kj4 t254 t258).bind fun t264 => (some t264)) else (some false)) else (some false))) else (some false)) else (some false))) else (some false)) else (some false)) = some r := by rw [if_pos rfl] at H; exact H
     clear H
     have H := H1
     clear H1
     by_cases c17 : t237 = t242
     ·rw [if_pos c17] at H
      have c17b0 : (t237 == t242) = true := beq_iff_eq.mpr c17
      have c17b1 : (t237 != t242) = false := bne_eq_false_iff_eq.mpr c17
      clear c17
      by_cases c18 : t238 = t243
      ·rw [if_pos c18] at H
       have c18b0 : (t238 == t243) = true := beq_iff_eq.mpr c18
       have c18b1 : (t238 != t243) = false := bne_eq_false_iff_eq.mpr c18
       clear c18
       replace H := Option.bind_eq_some_iff.mp H
       obtain ⟨t262, A190, H⟩ := H
       replace H : (if t262 = true then (if t247 = t251 then ((wageofficeref22_SameInts.f kj4 t246 t250).bind fun t263 => (if t263 = true then (if t255 = t259 then ((wageofficeref22_SameInts.f kj4 t254 t258).bind fun t264 => (some t264)) else (some false)) else (some false))) else (some false)) else (some false)) = some r := H
       have A19 := Aside0.mk A190
       clear A190
       by_cases c20 : t262 = true
       ·subst c20
        have H1 : (if t247 = t251 then ((wageofficeref22_SameInts.f kj4 t246 t250).bind fun t263 => (if t263 = true then (if t255 = t259 then ((wageofficeref22_SameInts.f kj4 t254 t258).bind fun t264 => (some t264)) else (some false)) else (some false))) else (some false)) = some r := by rw [if_pos rfl] at H; exact H
        clear H
        have H := H1
        clear H1
        by_cases c21 : t247 = t251
        ·rw [if_pos c21] at H
         have c21b0 : (t247 == t251) = true := beq_iff_eq.mpr c21
         have c21b1 : (t247 != t251) = false := bne_eq_false_iff_eq.mpr c21
         clear c21
         replace H := Option.bind_eq_some_iff.mp H
         obtain ⟨t263, A220, H⟩ := H
         replace H : (if t263 = true then (if t255 = t259 then ((wageofficeref22_SameInts.f kj4 t254 t258).bind fun t264 => (some t264)) else (some false)) else (some false)) = some r := H
         have A22 := Aside0.mk A220
         clear A220
         by_cases c23 : t263 = true
         ·subst c23
          have H1 : (if t255 = t259 then ((wageofficeref22_SameInts.f kj4 t254 t258).bind fun t264 => (some t264)) else (some false)) = some r := by rw [if_pos rfl] at H; exact H
          clear H
          have H := H1
          clear H1
          by_cases c24 : t255 = t259
          ·rw [if_pos c24] at H
           have c24b0 : (t255 == t259) = true := beq_iff_eq.mpr c24
           have c24b1 : (t255 != t259) = false := bne_eq_false_iff_eq.mpr c24
           clear c24
           replace H := Option.bind_eq_some_iff.mp H
           obtain ⟨t264, A250, H⟩ := H
           replace H : (some t264) = some r := H
           have A25 := Aside0.mk A250
           clear A250
           obtain rfl := Option.some.inj H
           go_wp2_with (first | ((with_reducible refine gate_callee (f := 13) rfl ?_); refine goesL_ (some 36) rfl rfl Try.func13 (by kernel_rfl) rfl #[.slice A0 l0.length c0, .slice A1 l1.length c1] rfl (by (try simp only [List.map_toArray, List.map_cons, List.map_nil]); first | done | rfl | (simp only [List.length_drop, List.length_take]; rfl)) ?_; (with_reducible refine (punches_Pair.calls _ _ l0 _ _ l1 t236 t237 t238 _ ?side1 ?side2 ?side3 ?side4 A10.out).mono ?_); (case side1 => repeat (first | exact (Kd.C_below HR0.out HB.out) | (with_reducible refine Kd.C_alloc ?_ _) | (with_reducible refine Kd.C_drewN ?_ _) | (with_reducible refine Kd.C_drew ?_))); (case side2 => exact HC0.out); (case side3 => repeat (first | exact (Kd.C_below HR1.out HB.out) | (with_reducible refine Kd.C_alloc ?_ _) | (with_reducible refine Kd.C_drewN ?_ _) | (with_reducible refine Kd.C_drew ?_))); (case side4 => exact HC1.out); rintro e w26 ⟨v239, rfl, ho0, hb⟩; refine ⟨_, rfl, ?_⟩; have n0_ := Aside0.mk (Kd.R_lower ho0 (below_size (by repeat (first | (with_reducible first | exact HB.out | apply below_alloc | apply pw_below_drewN | apply below_drew1) | exact HB.out)))); have n1_ := Aside0.mk (below_step (by repeat (first | (with_reducible first | exact HB.out | apply below_alloc | apply pw_below_drewN | apply below_drew1) | exact HB.out)) hb); clear HB; have HO240 := n0_; have HB := n1_; clear n0_ n1_; (try clear hb); (try clear hb2); (try clear hk); (try clear hi); (try clear ho0)) | ((with_reducible refine gate_callee (f := 14) rfl ?_); refine goesL_ (some 43) rfl rfl Try.func14 (by kernel_rfl) rfl #[.slice A0 l0.length c0, .slice A1 l1.length c1] rfl (by (try simp only [List.map_toArray, List.map_cons, List.map_nil]); first | done | rfl | (simp only [List.length_drop, List.length_take]; rfl)) ?_; (with_reducible refine (wageofficeref22_Pair.calls kj4 _ _ l0 _ _ l1 t241 t242 t243 _ ?side1 ?side2 ?side3 ?side4 A11.out).mono ?_); (case side1 => repeat (first | exact (Kd.C_below HR0.out HB.out) | (with_reducible refine Kd.C_alloc ?_ _) | (with_reducible refine Kd.C_drewN ?_ _) | (with_reducible refine Kd.C_drew ?_))); (case side2 => exact HC0.out); (case side3 => repeat (first | exact (Kd.C_below HR1.out HB.out) | (with_reducible refine Kd.C_alloc ?_ _) | (with_reducible refine Kd.C_drewN ?_ _) | (with_reducible refine Kd.C_drew ?_))); (case side4 => exact HC1.out); rintro e w27 ⟨v244, rfl, ho0, hb⟩; refine ⟨_, rfl, ?_⟩; have n0_ := Aside0.mk (Kd.R_elder' (by (with_reducible repeat (first | apply Kd.R_alloc | apply Kd.R_drewN | apply Kd.R_drew)); exact HO240.out) (Kd.R_base ho0) hb); have n1_ := Aside0.mk (Kd.R_lower (Kd.R_new' ho0 (Kd.R_lt (by (with_reducible repeat (first | apply Kd.R_alloc | apply Kd.R_drewN | apply Kd.R_drew)); exact HO240.out))) (below_size (by repeat (first | (with_reducible first | exact HB.out | apply below_alloc | apply pw_below_drewN | apply below_drew1) | exact HB.out)))); have n2_ := Aside0.mk (below_step (by repeat (first | (with_reducible first | exact HB.out | apply below_alloc | apply pw_below_drewN | apply below_drew1) | exact HB.out)) hb); clear HO240; clear HB; have HO240 := n0_; have HO245 := n1_; have HB := n2_; clear n0_ n1_ n2_; (try clear hb); (try clear hb2); (try clear hk); (try clear hi); (try clear ho0)) | ((with_reducible refine gate_callee (f := 15) rfl ?_); refine goesL_ (some 51) rfl rfl Try.func15 (by kernel_rfl) rfl #[.slice A0 l0.length c0, .slice A1 l1.length c1, .slice A2 l2.length c2] rfl (by (try simp only [List.map_toArray, List.map_cons, List.map_nil]); first | done | rfl | (simp only [List.length_drop, List.length_take]; rfl)) ?_; (with_reducible refine (punches_WorkedM.calls _ _ l0 _ _ l1 _ _ l2 t246 t247 _ ?side1 ?side2 ?side3 ?side4 ?side5 ?side6 A12.out).mono ?_); (case side1 => repeat (first | exact (Kd.C_below HR0.out HB.out) | (with_reducible refine Kd.C_alloc ?_ _) | (with_reducible refine Kd.C_drewN ?_ _) | (with_reducible refine Kd.C_drew ?_))); (case side2 => exact HC0.out); (case side3 => repeat (first | exact (Kd.C_below HR1.out HB.out) | (with_reducible refine Kd.C_alloc ?_ _) | (with_reducible refine Kd.C_drewN ?_ _) | (with_reducible refine Kd.C_drew ?_))); (case side4 => exact HC1.out); (case side5 => repeat (first | exact (Kd.C_below HR2.out HB.out) | (with_reducible refine Kd.C_alloc ?_ _) | (with_reducible refine Kd.C_drewN ?_ _) | (with_reducible refine Kd.C_drew ?_))); (case side6 => exact HC2.out); rintro e w28 ⟨v248, rfl, ho0, hb⟩; refine ⟨_, rfl, ?_⟩; have n0_ := Aside0.mk (Kd.R_below (by (with_reducible repeat (first | apply Kd.R_alloc | apply Kd.R_drewN | apply Kd.R_drew)); exact HO240.out) hb); have n1_ := Aside0.mk (Kd.R_below (by (with_reducible repeat (first | apply Kd.R_alloc | apply Kd.R_drewN | apply Kd.R_drew)); exact HO245.out) hb); have n2_ := Aside0.mk (Kd.R_lower ho0 (below_size (by repeat (first | (with_reducible first | exact HB.out | apply below_alloc | apply pw_below_drewN | apply below_drew1) | exact HB.out)))); have n3_ := Aside0.mk (below_step (by repeat (first | (with_reducible first | exact HB.out | apply below_alloc | apply pw_below_drewN | apply below_drew1) | exact HB.out)) hb); clear HO240; clear HO245; clear HB; have HO240 := n0_; have HO245 := n1_; have HO249 := n2_; have HB := n3_; clear n0_ n1_ n2_ n3_; (try clear hb); (try clear hb2); (try clear hk); (try clear hi); (try clear ho0)) | ((with_reducible refine gate_callee (f := 16) rfl ?_); refine goesL_ (some 58) rfl rfl Try.func16 (by kernel_rfl) rfl #[.slice A0 l0.length c0, .slice A1 l1.length c1, .slice A2 l2.length c2] rfl (by (try simp only [List.map_toArray, List.map_cons, List.map_nil]); first | done | rfl | (simp only [List.length_drop, List.length_take]; rfl)) ?_; (with_reducible refine (wageofficeref22_Worked.calls kj4 _ _ l0 _ _ l1 _ _ l2 t250 t251 _ ?side1 ?side2 ?side3 ?side4 ?side5 ?side6 A13.out).mono ?_); (case side1 => repeat (first | exact (Kd.C_below HR0.out HB.out) | (with_reducible refine Kd.C_alloc ?_ _) | (with_reducible refine Kd.C_drewN ?_ _) | (with_reducible refine Kd.C_drew ?_))); (case side2 => exact HC0.out); (case side3 => repeat (first | exact (Kd.C_below HR1.out HB.out) | (with_reducible refine Kd.C_alloc ?_ _) | (with_reducible refine Kd.C_drewN ?_ _) | (with_reducible refine Kd.C_drew ?_))); (case side4 => exact HC1.out); (case side5 => repeat (first | exact (Kd.C_below HR2.out HB.out) | (with_reducible refine Kd.C_alloc ?_ _) | (with_reducible refine Kd.C_drewN ?_ _) | (with_reducible refine Kd.C_drew ?_))); (case side6 => exact HC2.out); rintro e w29 ⟨v252, rfl, ho0, hb⟩; refine ⟨_, rfl, ?_⟩; have n0_ := Aside0.mk (Kd.R_below (by (with_reducible repeat (first | apply Kd.R_alloc | apply Kd.R_drewN | apply Kd.R_drew)); exact HO240.out) hb); have n1_ := Aside0.mk (Kd.R_below (by (with_reducible repeat (first | apply Kd.R_alloc | apply Kd.R_drewN | apply Kd.R_drew)); exact HO245.out) hb); have n2_ := Aside0.mk (Kd.R_elder' (by (with_reducible repeat (first | apply Kd.R_alloc | apply Kd.R_drewN | apply Kd.R_drew)); exact HO249.out) (Kd.R_base ho0) hb); have n3_ := Aside0.mk (Kd.R_lower (Kd.R_new' ho0 (Kd.R_lt (by (with_reducible repeat (first | apply Kd.R_alloc | apply Kd.R_drewN | apply Kd.R_drew)); exact HO249.out))) (below_size (by repeat (first | (with_reducible first | exact HB.out | apply below_alloc | apply pw_below_drewN | apply below_drew1) | exact HB.out)))); have n4_ := Aside0.mk (below_step (by repeat (first | (with_reducible first | exact HB.out | apply below_alloc | apply pw_below_drewN | apply below_drew1) | exact HB.out)) hb); clear HO240; clear HO245; clear HO249; clear HB; have HO240 := n0_; have HO245 := n1_; have HO249 := n2_; have HO253 := n3_; have HB := n4_; clear n0_ n1_ n2_ n3_ n4_; (try clear hb); (try clear hb2); (try clear hk); (try clear hi); (try clear ho0); obtain ⟨Ao30, co30, eo30⟩ := Kd.R_slice HO245.out; subst eo30) | ((with_reducible refine gate_callee (f := 15) rfl ?_); refine goesL_ (some 65) rfl rfl Try.func15 (by kernel_rfl) rfl #[.slice A0 l0.length c0, .slice A1 l1.length c1, .slice Ao30 t241.length co30] rfl (by (try simp only [List.map_toArray, List.map_cons, List.map_nil]); first | done | rfl | (simp only [List.length_drop, List.length_take]; rfl)) ?_; (with_reducible refine (punches_WorkedM.calls _ _ l0 _ _ l1 _ _ t241 t254 t255 _ ?side1 ?side2 ?side3 ?side4 ?side5 ?side6 A14.out).mono ?_); (case side1 => repeat (first | exact (Kd.C_below HR0.out HB.out) | (with_reducible refine Kd.C_alloc ?_ _) | (with_reducible refine Kd.C_drewN ?_ _) | (with_reducible refine Kd.C_drew ?_))); (case side2 => exact HC0.out); (case side3 => repeat (first | exact (Kd.C_below HR1.out HB.out) | (with_reducible refine Kd.C_alloc ?_ _) | (with_reducible refine Kd.C_drewN ?_ _) | (with_reducible refine Kd.C_drew ?_))); (case side4 => exact HC1.out); (case side5 => repeat (first | exact (Kd.R_reads' HO245.out).2.2 | (with_reducible refine Kd.C_alloc ?_ _) | (with_reducible refine Kd.C_drewN ?_ _) | (with_reducible refine Kd.C_drew ?_))); (case side6 => exact (Kd.R_reads' HO245.out).2.1); rintro e w31 ⟨v256, rfl, ho0, hb⟩; refine ⟨_, rfl, ?_⟩; have n0_ := Aside0.mk (Kd.R_below (by (with_reducible repeat (first | apply Kd.R_alloc | apply Kd.R_drewN | apply Kd.R_drew)); exact HO240.out) hb); have n1_ := Aside0.mk (Kd.R_below (by (with_reducible repeat (first | apply Kd.R_alloc | apply Kd.R_drewN | apply Kd.R_drew)); exact HO245.out) hb); have n2_ := Aside0.mk (Kd.R_elder' (by (with_reducible repeat (first | apply Kd.R_alloc | apply Kd.R_drewN | apply Kd.R_drew)); exact HO249.out) (Kd.R_base ho0) hb); have n3_ := Aside0.mk (Kd.R_elder' (by (with_reducible repeat (first | apply Kd.R_alloc | apply Kd.R_drewN | apply Kd.R_drew)); exact HO253.out) (Kd.R_base ho0) hb); have n4_ := Aside0.mk (Kd.R_lower (Kd.R_new' (Kd.R_new' ho0 (Kd.R_lt (by (with_reducible repeat (first | apply Kd.R_alloc | apply Kd.R_drewN | apply Kd.R_drew)); exact HO249.out))) (Kd.R_lt (by (with_reducible repeat (first | apply Kd.R_alloc | apply Kd.R_drewN | apply Kd.R_drew)); exact HO253.out))) (below_size (by repeat (first | (with_reducible first | exact HB.out | apply below_alloc | apply pw_below_drewN | apply below_drew1) | exact HB.out)))); have n5_ := Aside0.mk (below_step (by repeat (first | (with_reducible first | exact HB.out | apply below_alloc | apply pw_below_drewN | apply below_drew1) | exact HB.out)) hb); clear HO240; clear HO245; clear HO249; clear HO253; clear HB; have HO240 := n0_; have HO245 := n1_; have HO249 := n2_; have HO253 := n3_; have HO257 := n4_; have HB := n5_; clear n0_ n1_ n2_ n3_ n4_ n5_; (try clear hb); (try clear hb2); (try clear hk); (try clear hi); (try clear ho0)) | ((with_reducible refine gate_callee (f := 16) rfl ?_); refine goesL_ (some 72) rfl rfl Try.func16 (by kernel_rfl) rfl #[.slice A0 l0.length c0, .slice A1 l1.length c1, .slice Ao30 t241.length co30] rfl (by (try simp only [List.map_toArray, List.map_cons, List.map_nil]); first | done | rfl | (simp only [List.length_drop, List.length_take]; rfl)) ?_; (with_reducible refine (wageofficeref22_Worked.calls kj4 _ _ l0 _ _ l1 _ _ t241 t258 t259 _ ?side1 ?side2 ?side3 ?side4 ?side5 ?side6 A15.out).mono ?_); (case side1 => repeat (first | exact (Kd.C_below HR0.out HB.out) | (with_reducible refine Kd.C_alloc ?_ _) | (with_reducible refine Kd.C_drewN ?_ _) | (with_reducible refine Kd.C_drew ?_))); (case side2 => exact HC0.out); (case side3 => repeat (first | exact (Kd.C_below HR1.out HB.out) | (with_reducible refine Kd.C_alloc ?_ _) | (with_reducible refine Kd.C_drewN ?_ _) | (with_reducible refine Kd.C_drew ?_))); (case side4 => exact HC1.out); (case side5 => repeat (first | exact (Kd.R_reads' HO245.out).2.2 | (with_reducible refine Kd.C_alloc ?_ _) | (with_reducible refine Kd.C_drewN ?_ _) | (with_reducible refine Kd.C_drew ?_))); (case side6 => exact (Kd.R_reads' HO245.out).2.1); rintro e w32 ⟨v260, rfl, ho0, hb⟩; refine ⟨_, rfl, ?_⟩; have n0_ := Aside0.mk (Kd.R_below (by (with_reducible repeat (first | apply Kd.R_alloc | apply Kd.R_drewN | apply Kd.R_drew)); exact HO240.out) hb); have n1_ := Aside0.mk (Kd.R_below (by (with_reducible repeat (first | apply Kd.R_alloc | apply Kd.R_drewN | apply Kd.R_drew)); exact HO245.out) hb); have n2_ := Aside0.mk (Kd.R_elder' (by (with_reducible repeat (first | apply Kd.R_alloc | apply Kd.R_drewN | apply Kd.R_drew)); exact HO249.out) (Kd.R_base ho0) hb); have n3_ := Aside0.mk (Kd.R_elder' (by (with_reducible repeat (first | apply Kd.R_alloc | apply Kd.R_drewN | apply Kd.R_drew)); exact HO253.out) (Kd.R_base ho0) hb); have n4_ := Aside0.mk (Kd.R_elder' (by (with_reducible repeat (first | apply Kd.R_alloc | apply Kd.R_drewN | apply Kd.R_drew)); exact HO257.out) (Kd.R_base ho0) hb); have n5_ := Aside0.mk (Kd.R_lower (Kd.R_new' (Kd.R_new' (Kd.R_new' ho0 (Kd.R_lt (by (with_reducible repeat (first | apply Kd.R_alloc | apply Kd.R_drewN | apply Kd.R_drew)); exact HO249.out))) (Kd.R_lt (by (with_reducible repeat (first | apply Kd.R_alloc | apply Kd.R_drewN | apply Kd.R_drew)); exact HO253.out))) (Kd.R_lt (by (with_reducible repeat (first | apply Kd.R_alloc | apply Kd.R_drewN | apply Kd.R_drew)); exact HO257.out))) (below_size (by repeat (first | (with_reducible first | exact HB.out | apply below_alloc | apply pw_below_drewN | apply below_drew1) | exact HB.out)))); have n6_ := Aside0.mk (below_step (by repeat (first | (with_reducible first | exact HB.out | apply below_alloc | apply pw_below_drewN | apply below_drew1) | exact HB.out)) hb); clear HO240; clear HO245; clear HO249; clear HO253; clear HO257; clear HB; have HO240 := n0_; have HO245 := n1_; have HO249 := n2_; have HO253 := n3_; have HO257 := n4_; have HO261 := n5_; have HB := n6_; clear n0_ n1_ n2_ n3_ n4_ n5_ n6_; (try clear hb); (try clear hb2); (try clear hk); (try clear hi); (try clear ho0); obtain ⟨Ao33, co33, eo33⟩ := Kd.R_slice HO240.out; subst eo33) | (go_at_call 17; (with_reducible refine (wageofficeref22_Same.calls kj4 _ _ t236 _ _ t241 true _ ?side1 ?side2 ?side3 ?side4 A19.out).mono ?_); (case side1 => repeat (first | exact (Kd.R_reads' HO240.out).2.2 | (with_reducible refine Kd.C_alloc ?_ _) | (with_reducible refine Kd.C_drewN ?_ _) | (with_reducible refine Kd.C_drew ?_))); (case side2 => exact (Kd.R_reads' HO240.out).2.1); (case side3 => repeat (first | exact (Kd.R_reads' HO245.out).2.2 | (with_reducible refine Kd.C_alloc ?_ _) | (with_reducible refine Kd.C_drewN ?_ _) | (with_reducible refine Kd.C_drew ?_))); (case side4 => exact (Kd.R_reads' HO245.out).2.1); rintro e w' ⟨rfl, ⟨nd, rfl⟩⟩; obtain ⟨Ao34, co34, eo34⟩ := Kd.R_slice HO249.out; subst eo34; obtain ⟨Ao35, co35, eo35⟩ := Kd.R_slice HO253.out; subst eo35) | (go_at_call 18; (with_reducible refine (wageofficeref22_SameInts.calls kj4 _ _ t246 _ _ t250 true _ ?side1 ?side2 ?side3 ?side4 A22.out).mono ?_); (case side1 => repeat (first | exact (Kd.R_reads' HO249.out).2.2 | (with_reducible refine Kd.C_alloc ?_ _) | (with_reducible refine Kd.C_drewN ?_ _) | (with_reducible refine Kd.C_drew ?_))); (case side2 => exact (Kd.R_reads' HO249.out).2.1); (case side3 => repeat (first | exact (Kd.R_reads' HO253.out).2.2 | (with_reducible refine Kd.C_alloc ?_ _) | (with_reducible refine Kd.C_drewN ?_ _) | (with_reducible refine Kd.C_drew ?_))); (case side4 => exact (Kd.R_reads' HO253.out).2.1); rintro e w' ⟨rfl, ⟨nd, rfl⟩⟩; obtain ⟨Ao36, co36, eo36⟩ := Kd.R_slice HO257.out; subst eo36; obtain ⟨Ao37, co37, eo37⟩ := Kd.R_slice HO261.out; subst eo37) | (go_at_call 18; (with_reducible refine (wageofficeref22_SameInts.calls kj4 _ _ t254 _ _ t258 t264 _ ?side1 ?side2 ?side3 ?side4 A25.out).mono ?_); (case side1 => repeat (first | exact (Kd.R_reads' HO257.out).2.2 | (with_reducible refine Kd.C_alloc ?_ _) | (with_reducible refine Kd.C_drewN ?_ _) | (with_reducible refine Kd.C_drew ?_))); (case side2 => exact (Kd.R_reads' HO257.out).2.1); (case side3 => repeat (first | exact (Kd.R_reads' HO261.out).2.2 | (with_reducible refine Kd.C_alloc ?_ _) | (with_reducible refine Kd.C_drewN ?_ _) | (with_reducible refine Kd.C_drew ?_))); (case side4 => exact (Kd.R_reads' HO261.out).2.1); rintro e w' ⟨rfl, ⟨nd, rfl⟩⟩))
           go_ret
           exact ⟨by first | rfl | (simp [errW_none, errW_some] <;> rfl) | (simp [*, errW_none, errW_some] <;> rfl), by repeat (first | (with_reducible first | exact HB.out | apply below_alloc | apply pw_below_drewN | apply below_drew1) | exact HB.out)⟩
          ·rw [if_neg c24] at H
           have c24b0 : (t255 == t259) = false := beq_eq_false_iff_ne.mpr c24
           have c24b1 : (t255 != t259) = true := bne_iff_ne.mpr c24
           exact absurd ((Option.some.inj H).trans PR.out) (by decide)
         ·replace c23 := Bool.eq_false_iff.mpr c23
          subst c23
          have H1 : (some false) = some r := by rw [if_neg (show ¬ (false = true) by decide)] at H; exact H
          clear H
          have H := H1
          clear H1
          exact absurd ((Option.some.inj H).trans PR.out) (by decide)
        ·rw [if_neg c21] at H
         have c21b0 : (t247 == t251) = false := beq_eq_false_iff_ne.mpr c21
         have c21b1 : (t247 != t251) = true := bne_iff_ne.mpr c21
         exact absurd ((Option.some.inj H).trans PR.out) (by decide)
       ·replace c20 := Bool.eq_false_iff.mpr c20
        subst c20
        have H1 : (some false) = some r := by rw [if_neg (show ¬ (false = true) by decide)] at H; exact H
        clear H
        have H := H1
        clear H1
        exact absurd ((Option.some.inj H).trans PR.out) (by decide)
      ·rw [if_neg c18] at H
       have c18b0 : (t238 == t243) = false := beq_eq_false_iff_ne.mpr c18
       have c18b1 : (t238 != t243) = true := bne_iff_ne.mpr c18
       exact absurd ((Option.some.inj H).trans PR.out) (by decide)
     ·rw [if_neg c17] at H
      have c17b0 : (t237 == t242) = false := beq_eq_false_iff_ne.mpr c17
      have c17b1 : (t237 != t242) = true := bne_iff_ne.mpr c17
      exact absurd ((Option.some.inj H).trans PR.out) (by decide)
    ·replace c16 := Bool.eq_false_iff.mpr c16
     subst c16
     have H1 : (some false) = some r := by rw [if_neg (show ¬ (false = true) by decide)] at H; exact H
     clear H
     have H := H1
     clear H1
     exact absurd ((Option.some.inj H).trans PR.out) (by decide)
end Go.Proofs.Ytpbamfoaoeicgaa.PAll

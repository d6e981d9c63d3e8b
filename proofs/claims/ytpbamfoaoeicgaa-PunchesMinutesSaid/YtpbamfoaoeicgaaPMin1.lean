-- Printed by a program (the kit's print, with functions given by hand) out of the translation: machine-written for this claim.
import Derived.Test.YtpbamfoaoeicgaaPAllx0
import Derived.Test.YtpbamfoaoeicgaaPAllx3
import Derived.Test.YtpbamfoaoeicgaaPAllx5
import Derived.Test.YtpbamfoaoeicgaaPAllx8
import Derived.Test.YtpbamfoaoeicgaaPMin0
namespace Go.Proofs.Ytpbamfoaoeicgaa.PAll
open Go.RowKit Go.Proofs.YtpbamfoaoeicgaaW.PrintWords Go.Proofs.YtpbamfoaoeicgaaW.PrintLast Go.Proofs.YtpbamfoaoeicgaaW.PrintMore
attribute [local go_sem] max2_int min2_int max_two min_two max_three min_three max_four min_four   -- for this text's walks alone
set_option linter.unusedVariables false
set_option linter.unusedSimpArgs false

set_option maxHeartbeats 8000000 in
set_option maxRecDepth 100000 in
theorem pMin.calls (k : Nat) (A0 : Option Addr) (c0 : Nat) (l0 : List (S48)) (A1 : Option Addr) (c1 : Nat) (l1 : List (S45)) (a2 : Int) (a3 : Int) (r : Bool) (w : World) (hr0 : Kd.C k48 w A0 l0.length l0) (hc0 : l0.length ≤ c0) (hr1 : Kd.C k45 w A1 l1.length l1) (hc1 : l1.length ≤ c1) (hr : r = true) (h : pMin.f k l0 l1 a2 a3 = some r) :
  Calls Try.prog 10 #[.slice A0 l0.length c0, .slice A1 l1.length c1, .int .u8 a2, .int .u8 a3] w fun e w' => e = .returned (.bool r) ∧ Below w.heap.size w w' := by
 have hu57 := Try.underlying57
 have HR0 := Aside0.mk hr0
 have HC0 := Aside0.mk hc0
 clear hr0 hc0
 have HR1 := Aside0.mk hr1
 have HC1 := Aside0.mk hc1
 clear hr1 hc1
 have HB := Aside0.mk (Below.refl w.heap.size w)
 have PR := Aside0.mk hr
 clear hr
 have H : ((wageofficelaw22_head.f).bind fun t350 => ((wageofficelaw22_usable.f k l0 l1).bind fun t351 => (if t351 = true then ((punches_Pair.f l0 l1).bind fun bt352 => ((punches_Worked.f l0 l1 bt352.1).bind fun bt357 => (if bt352.2.2 = 0 then (if bt357.2 = 0 then (pMin.j0 k l0 l1 a2 a3 t350 bt352.1 bt357.1 ((bt357.1.length : Int) != (l0.length : Int))) else (pMin.j0 k l0 l1 a2 a3 t350 bt352.1 bt357.1 true)) else (pMin.j0 k l0 l1 a2 a3 t350 bt352.1 bt357.1 true)))) else (some t350)))) = some r := h
 clear h
 replace H := Option.bind_eq_some_iff.mp H
 obtain ⟨t350, A50, H⟩ := H
 replace H : ((wageofficelaw22_usable.f k l0 l1).bind fun t351 => (if t351 = true then ((punches_Pair.f l0 l1).bind fun bt352 => ((punches_Worked.f l0 l1 bt352.1).bind fun bt357 => (if bt352.2.2 = 0 then (if bt357.2 = 0 then (pMin.j0 k l0 l1 a2 a3 t350 bt352.1 bt357.1 ((bt357.1.length : Int) != (l0.length : Int))) else (pMin.j0 k l0 l1 a2 a3 t350 bt352.1 bt357.1 true)) else (pMin.j0 k l0 l1 a2 a3 t350 bt352.1 bt357.1 true)))) else (some t350))) = some r := H
 have A5 := Aside0.mk A50
 clear A50
 replace H := Option.bind_eq_some_iff.mp H
 obtain ⟨t351, A60, H⟩ := H
 replace H : (if t351 = true then ((punches_Pair.f l0 l1).bind fun bt352 => ((punches_Worked.f l0 l1 bt352.1).bind fun bt357 => (if bt352.2.2 = 0 then (if bt357.2 = 0 then (pMin.j0 k l0 l1 a2 a3 t350 bt352.1 bt357.1 ((bt357.1.length : Int) != (l0.length : Int))) else (pMin.j0 k l0 l1 a2 a3 t350 bt352.1 bt357.1 true)) else (pMin.j0 k l0 l1 a2 a3 t350 bt352.1 bt357.1 true)))) else (some t350)) = some r := H
 have A6 := Aside0.mk A60
 clear A60
 by_cases c7 : t351 = true
 ·subst c7
  have H1 : ((punches_Pair.f l0 l1).bind fun bt352 => ((punches_Worked.f l0 l1 bt352.1).bind fun bt357 => (if bt352.2.2 = 0 then (if bt357.2 = 0 then (pMin.j0 k l0 l1 a2 a3 t350 bt352.1 bt357.1 ((bt357.1.length : Int) != (l0.length : Int))) else (pMin.j0 k l0 l1 a2 a3 t350 bt352.1 bt357.1 true)) else (pMin.j0 k l0 l1 a2 a3 t350 bt352.1 bt357.1 true)))) = some r := by rw [if_pos rfl] at H; exact H
  clear H
  have H := H1
  clear H1
  replace H := Option.bind_eq_some_iff.mp H
  obtain ⟨⟨t352, t353, t354⟩, A80, H⟩ := H
  replace H : ((punches_Worked.f l0 l1 t352).bind fun bt357 => (if t354 = 0 then (if bt357.2 = 0 then (pMin.j0 k l0 l1 a2 a3 t350 t352 bt357.1 ((bt357.1.length : Int) != (l0.length : Int))) else (pMin.j0 k l0 l1 a2 a3 t350 t352 bt357.1 true)) else (pMin.j0 k l0 l1 a2 a3 t350 t352 bt357.1 true))) = some r := H
  have A8 := Aside0.mk A80
  clear A80
  replace H := Option.bind_eq_some_iff.mp H
  obtain ⟨⟨t357, t358⟩, A90, H⟩ := H
  replace H : (if t354 = 0 then (if t358 = 0 then (pMin.j0 k l0 l1 a2 a3 t350 t352 t357 ((t357.length : Int) != (l0.length : Int))) else (pMin.j0 k l0 l1 a2 a3 t350 t352 t357 true)) else (pMin.j0 k l0 l1 a2 a3 t350 t352 t357 true)) = some r := H
  have A9 := Aside0.mk A90
  clear A90
  have HC10 := Aside0.mk H
  clear H
  go_enter Try.func10, Try.ntmps10
  go_upto_region 6 with (first | (go_at_call 11; (with_reducible refine (wageofficelaw22_head.calls  t350 _ A5.out).mono ?_); rintro e w11 ⟨rfl, hb⟩; have n0_ := Aside0.mk (below_step (by repeat (first | (with_reducible first | exact HB.out | apply below_alloc | apply pw_below_drewN | apply below_drew1) | exact HB.out)) hb); clear HB; have HB := n0_; clear n0_; (try clear hb); (try clear hb2); (try clear hk); (try clear hi)) | (go_at_call 19; (with_reducible refine (wageofficelaw22_usable.calls k _ _ l0 _ _ l1 true _ ?side1 ?side2 ?side3 ?side4 A6.out).mono ?_); (case side1 => repeat (first | exact (Kd.C_below HR0.out HB.out) | (with_reducible refine Kd.C_alloc ?_ _) | (with_reducible refine Kd.C_drewN ?_ _) | (with_reducible refine Kd.C_drew ?_))); (case side2 => exact HC0.out); (case side3 => repeat (first | exact (Kd.C_below HR1.out HB.out) | (with_reducible refine Kd.C_alloc ?_ _) | (with_reducible refine Kd.C_drewN ?_ _) | (with_reducible refine Kd.C_drew ?_))); (case side4 => exact HC1.out); rintro e w12 ⟨rfl, hb⟩; have n0_ := Aside0.mk (below_step (by repeat (first | (with_reducible first | exact HB.out | apply below_alloc | apply pw_below_drewN | apply below_drew1) | exact HB.out)) hb); clear HB; have HB := n0_; clear n0_; (try clear hb); (try clear hb2); (try clear hk); (try clear hi)) | (go_at_call 13; (with_reducible refine (punches_Pair.calls _ _ l0 _ _ l1 t352 t353 t354 _ ?side1 ?side2 ?side3 ?side4 A8.out).mono ?_); (case side1 => repeat (first | exact (Kd.C_below HR0.out HB.out) | (with_reducible refine Kd.C_alloc ?_ _) | (with_reducible refine Kd.C_drewN ?_ _) | (with_reducible refine Kd.C_drew ?_))); (case side2 => exact HC0.out); (case side3 => repeat (first | exact (Kd.C_below HR1.out HB.out) | (with_reducible refine Kd.C_alloc ?_ _) | (with_reducible refine Kd.C_drewN ?_ _) | (with_reducible refine Kd.C_drew ?_))); (case side4 => exact HC1.out); rintro e w13 ⟨v355, rfl, ho0, hb⟩; have n0_ := Aside0.mk (Kd.R_lower ho0 (below_size (by repeat (first | (with_reducible first | exact HB.out | apply below_alloc | apply pw_below_drewN | apply below_drew1) | exact HB.out)))); have n1_ := Aside0.mk (below_step (by repeat (first | (with_reducible first | exact HB.out | apply below_alloc | apply pw_below_drewN | apply below_drew1) | exact HB.out)) hb); clear HB; have HO356 := n0_; have HB := n1_; clear n0_ n1_; (try clear hb); (try clear hb2); (try clear hk); (try clear hi); (try clear ho0); obtain ⟨Ao14, co14, eo14⟩ := Kd.R_slice HO356.out; subst eo14) | (go_at_call 15; (with_reducible refine (punches_Worked.calls _ _ l0 _ _ l1 _ _ t352 t357 t358 _ ?side1 ?side2 ?side3 ?side4 ?side5 ?side6 A9.out).mono ?_); (case side1 => repeat (first | exact (Kd.C_below HR0.out HB.out) | (with_reducible refine Kd.C_alloc ?_ _) | (with_reducible refine Kd.C_drewN ?_ _) | (with_reducible refine Kd.C_drew ?_))); (case side2 => exact HC0.out); (case side3 => repeat (first | exact (Kd.C_below HR1.out HB.out) | (with_reducible refine Kd.C_alloc ?_ _) | (with_reducible refine Kd.C_drewN ?_ _) | (with_reducible refine Kd.C_drew ?_))); (case side4 => exact HC1.out); (case side5 => repeat (first | exact (Kd.R_reads' HO356.out).2.2 | (with_reducible refine Kd.C_alloc ?_ _) | (with_reducible refine Kd.C_drewN ?_ _) | (with_reducible refine Kd.C_drew ?_))); (case side6 => exact (Kd.R_reads' HO356.out).2.1); rintro e w15 ⟨v359, rfl, ho0, hb⟩; have n0_ := Aside0.mk (Kd.R_below (by (with_reducible repeat (first | apply Kd.R_alloc | apply Kd.R_drewN | apply Kd.R_drew)); exact HO356.out) hb); have n1_ := Aside0.mk (Kd.R_lower ho0 (below_size (by repeat (first | (with_reducible first | exact HB.out | apply below_alloc | apply pw_below_drewN | apply below_drew1) | exact HB.out)))); have n2_ := Aside0.mk (below_step (by repeat (first | (with_reducible first | exact HB.out | apply below_alloc | apply pw_below_drewN | apply below_drew1) | exact HB.out)) hb); clear HO356; clear HB; have HO356 := n0_; have HO360 := n1_; have HB := n2_; clear n0_ n1_ n2_; (try clear hb); (try clear hb2); (try clear hk); (try clear hi); (try clear ho0)))
  repeat (go_quiet (first | (go_at_call 11; (with_reducible refine (wageofficelaw22_head.calls  t350 _ A5.out).mono ?_); rintro e w11 ⟨rfl, hb⟩; have n0_ := Aside0.mk (below_step (by repeat (first | (with_reducible first | exact HB.out | apply below_alloc | apply pw_below_drewN | apply below_drew1) | exact HB.out)) hb); clear HB; have HB := n0_; clear n0_; (try clear hb); (try clear hb2); (try clear hk); (try clear hi)) | (go_at_call 19; (with_reducible refine (wageofficelaw22_usable.calls k _ _ l0 _ _ l1 true _ ?side1 ?side2 ?side3 ?side4 A6.out).mono ?_); (case side1 => repeat (first | exact (Kd.C_below HR0.out HB.out) | (with_reducible refine Kd.C_alloc ?_ _) | (with_reducible refine Kd.C_drewN ?_ _) | (with_reducible refine Kd.C_drew ?_))); (case side2 => exact HC0.out); (case side3 => repeat (first | exact (Kd.C_below HR1.out HB.out) | (with_reducible refine Kd.C_alloc ?_ _) | (with_reducible refine Kd.C_drewN ?_ _) | (with_reducible refine Kd.C_drew ?_))); (case side4 => exact HC1.out); rintro e w12 ⟨rfl, hb⟩; have n0_ := Aside0.mk (below_step (by repeat (first | (with_reducible first | exact HB.out | apply below_alloc | apply pw_below_drewN | apply below_drew1) | exact HB.out)) hb); clear HB; have HB := n0_; clear n0_; (try clear hb); (try clear hb2); (try clear hk); (try clear hi)) | (go_at_call 13; (with_reducible refine (punches_Pair.calls _ _ l0 _ _ l1 t352 t353 t354 _ ?side1 ?side2 ?side3 ?side4 A8.out).mono ?_); (case side1 => repeat (first | exact (Kd.C_below HR0.out HB.out) | (with_reducible refine Kd.C_alloc ?_ _) | (with_reducible refine Kd.C_drewN ?_ _) | (with_reducible refine Kd.C_drew ?_))); (case side2 => exact HC0.out); (case side3 => repeat (first | exact (Kd.C_below HR1.out HB.out) | (with_reducible refine Kd.C_alloc ?_ _) | (with_reducible refine Kd.C_drewN ?_ _) | (with_reducible refine Kd.C_drew ?_))); (case side4 => exact HC1.out); rintro e w13 ⟨v355, rfl, ho0, hb⟩; have n0_ := Aside0.mk (Kd.R_lower ho0 (below_size (by repeat (first | (with_reducible first | exact HB.out | apply below_alloc | apply pw_below_drewN | apply below_drew1) | exact HB.out)))); have n1_ := Aside0.mk (below_step (by repeat (first | (with_reducible first | exact HB.out | apply below_alloc | apply pw_below_drewN | apply below_drew1) | exact HB.out)) hb); clear HB; have HO356 := n0_; have HB := n1_; clear n0_ n1_; (try clear hb); (try clear hb2); (try clear hk); (try clear hi); (try clear ho0); obtain ⟨Ao14, co14, eo14⟩ := Kd.R_slice HO356.out; subst eo14) | (go_at_call 15; (with_reducible refine (punches_Worked.calls _ _ l0 _ _ l1 _ _ t352 t357 t358 _ ?side1 ?side2 ?side3 ?side4 ?side5 ?side6 A9.out).mono ?_); (case side1 => repeat (first | exact (Kd.C_below HR0.out HB.out) | (with_reducible refine Kd.C_alloc ?_ _) | (with_reducible refine Kd.C_drewN ?_ _) | (with_reducible refine Kd.C_drew ?_))); (case side2 => exact HC0.out); (case side3 => repeat (first | exact (Kd.C_below HR1.out HB.out) | (with_reducible refine Kd.C_alloc ?_ _) | (with_reducible refine Kd.C_drewN ?_ _) | (with_reducible refine Kd.C_drew ?_))); (case side4 => exact HC1.out); (case side5 => repeat (first | exact (Kd.R_reads' HO356.out).2.2 | (with_reducible refine Kd.C_alloc ?_ _) | (with_reducible refine Kd.C_drewN ?_ _) | (with_reducible refine Kd.C_drew ?_))); (case side6 => exact (Kd.R_reads' HO356.out).2.1); rintro e w15 ⟨v359, rfl, ho0, hb⟩; have n0_ := Aside0.mk (Kd.R_below (by (with_reducible repeat (first | apply Kd.R_alloc | apply Kd.R_drewN | apply Kd.R_drew)); exact HO356.out) hb); have n1_ := Aside0.mk (Kd.R_lower ho0 (below_size (by repeat (first | (with_reducible first | exact HB.out | apply below_alloc | apply pw_below_drewN | apply below_drew1) | exact HB.out)))); have n2_ := Aside0.mk (below_step (by repeat (first | (with_reducible first | exact HB.out | apply below_alloc | apply pw_below_drewN | apply below_drew1) | exact HB.out)) hb); clear HO356; clear HB; have HO356 := n0_; have HO360 := n1_; have HB := n2_; clear n0_ n1_ n2_; (try clear hb); (try clear hb2); (try clear hk); (try clear hi); (try clear ho0))); go_upto_region 6 with (first | (go_at_call 11; (with_reducible refine (wageofficelaw22_head.calls  t350 _ A5.out).mono ?_); rintro e w11 ⟨rfl, hb⟩; have n0_ := Aside0.mk (below_step (by repeat (first | (with_reducible first | exact HB.out | apply below_alloc | apply pw_below_drewN | apply below_drew1) | exact HB.out)) hb); clear HB; have HB := n0_; clear n0_; (try clear hb); (try clear hb2); (try clear hk); (try clear hi)) | (go_at_call 19; (with_reducible refine (wageofficelaw22_usable.calls k _ _ l0 _ _ l1 true _ ?side1 ?side2 ?side3 ?side4 A6.out).mono ?_); (case side1 => repeat (first | exact (Kd.C_below HR0.out HB.out) | (with_reducible refine Kd.C_alloc ?_ _) | (with_reducible refine Kd.C_drewN ?_ _) | (with_reducible refine Kd.C_drew ?_))); (case side2 => exact HC0.out); (case side3 => repeat (first | exact (Kd.C_below HR1.out HB.out) | (with_reducible refine Kd.C_alloc ?_ _) | (with_reducible refine Kd.C_drewN ?_ _) | (with_reducible refine Kd.C_drew ?_))); (case side4 => exact HC1.out); rintro e w12 ⟨rfl, hb⟩; have n0_ := Aside0.mk (below_step (by repeat (first | (with_reducible first | exact HB.out | apply below_alloc | apply pw_below_drewN | apply below_drew1) | exact HB.out)) hb); clear HB; have HB := n0_; clear n0_; (try clear hb); (try clear hb2); (try clear hk); (try clear hi)) | (go_at_call 13; (with_reducible refine (punches_Pair.calls _ _ l0 _ _ l1 t352 t353 t354 _ ?side1 ?side2 ?side3 ?side4 A8.out).mono ?_); (case side1 => repeat (first | exact (Kd.C_below HR0.out HB.out) | (with_reducible refine Kd.C_alloc ?_ _) | (with_reducible refine Kd.C_drewN ?_ _) | (with_reducible refine Kd.C_drew ?_))); (case side2 => exact HC0.out); (case side3 => repeat (first | exact (Kd.C_below HR1.out HB.out) | (with_reducible refine Kd.C_alloc ?_ _) | (with_reducible refine Kd.C_drewN ?_ _) | (with_reducible refine Kd.C_drew ?_))); (case side4 => exact HC1.out); rintro e w13 ⟨v355, rfl, ho0, hb⟩; have n0_ := Aside0.mk (Kd.R_lower ho0 (below_size (by repeat (first | (with_reducible first | exact HB.out | apply below_alloc | apply pw_below_drewN | apply below_drew1) | exact HB.out)))); have n1_ := Aside0.mk (below_step (by repeat (first | (with_reducible first | exact HB.out | apply below_alloc | apply pw_below_drewN | apply below_drew1) | exact HB.out)) hb); clear HB; have HO356 := n0_; have HB := n1_; clear n0_ n1_; (try clear hb); (try clear hb2); (try clear hk); (try clear hi); (try clear ho0); obtain ⟨Ao14, co14, eo14⟩ := Kd.R_slice HO356.out; subst eo14) | (go_at_call 15; (with_reducible refine (punches_Worked.calls _ _ l0 _ _ l1 _ _ t352 t357 t358 _ ?side1 ?side2 ?side3 ?side4 ?side5 ?side6 A9.out).mono ?_); (case side1 => repeat (first | exact (Kd.C_below HR0.out HB.out) | (with_reducible refine Kd.C_alloc ?_ _) | (with_reducible refine Kd.C_drewN ?_ _) | (with_reducible refine Kd.C_drew ?_))); (case side2 => exact HC0.out); (case side3 => repeat (first | exact (Kd.C_below HR1.out HB.out) | (with_reducible refine Kd.C_alloc ?_ _) | (with_reducible refine Kd.C_drewN ?_ _) | (with_reducible refine Kd.C_drew ?_))); (case side4 => exact HC1.out); (case side5 => repeat (first | exact (Kd.R_reads' HO356.out).2.2 | (with_reducible refine Kd.C_alloc ?_ _) | (with_reducible refine Kd.C_drewN ?_ _) | (with_reducible refine Kd.C_drew ?_))); (case side6 => exact (Kd.R_reads' HO356.out).2.1); rintro e w15 ⟨v359, rfl, ho0, hb⟩; have n0_ := Aside0.mk (Kd.R_below (by (with_reducible repeat (first | apply Kd.R_alloc | apply Kd.R_drewN | apply Kd.R_drew)); exact HO356.out) hb); have n1_ := Aside0.mk (Kd.R_lower ho0 (below_size (by repeat (first | (with_reducible first | exact HB.out | apply below_alloc | apply pw_below_drewN | apply below_drew1) | exact HB.out)))); have n2_ := Aside0.mk (below_step (by repeat (first | (with_reducible first | exact HB.out | apply below_alloc | apply pw_below_drewN | apply below_drew1) | exact HB.out)) hb); clear HO356; clear HB; have HO356 := n0_; have HO360 := n1_; have HB := n2_; clear n0_ n1_ n2_; (try clear hb); (try clear hb2); (try clear hk); (try clear hi); (try clear ho0))))
  (try simp only [Act.put, List.setIfInBounds_toArray, List.set_cons_zero, List.set_cons_succ])
  go_cut [58] (fun v58 wc => ∃ (kq : Nat) (x58_9 : Bool), v58 = .bool x58_9 ∧ Aside0 (pMin.j0 kq l0 l1 a2 a3 t350 t352 t357 x58_9 = some r) ∧ Aside0 (kq ≤ k) ∧ Aside0 (Kd.R k57 57 wc w.heap.size (fun _ => True) (.slice Ao14 t352.length co14) t352) ∧ Aside0 (Kd.R (Kd.int .i64) 3 wc w.heap.size (fun _ => True) v359 t357) ∧ Aside0 (Below w.heap.size w wc))
  case first =>
   have H := HC10.out
   clear HC10
   by_cases c16 : t354 = 0
   ·rw [if_pos c16] at H
    have c16b0 : (t354 == 0) = true := beq_iff_eq.mpr c16
    have c16b1 : (t354 != 0) = false := bne_eq_false_iff_eq.mpr c16
    clear c16
    (first | rw [c16b0] | (simp only [i64_w, i32_w]; rw [c16b0]) | skip)
    by_cases c17 : t358 = 0
    ·rw [if_pos c17] at H
     have c17b0 : (t358 == 0) = true := beq_iff_eq.mpr c17
     have c17b1 : (t358 != 0) = false := bne_eq_false_iff_eq.mpr c17
     clear c17
     have H' := Aside0.mk H
     clear H
     obtain ⟨Ao18, co18, eo18⟩ := Kd.R_slice HO360.out
     subst eo18
     go_wp2
     repeat (go_quiet (fail); try go_wp2)
     go_meet
     case rel => exact ⟨_, (((t357.length : Int) != (l0.length : Int))), (by first | rfl | (simp; done) | (simp [*]; done)), H', ⟨by first | omega | exact Nat.le_refl _⟩, ⟨by (with_reducible repeat (first | apply Kd.R_alloc | apply Kd.R_drewN | apply Kd.R_drew)); exact HO356.out⟩, ⟨by (with_reducible repeat (first | apply Kd.R_alloc | apply Kd.R_drewN | apply Kd.R_drew)); exact HO360.out⟩, ⟨by repeat (first | (with_reducible first | exact HB.out | apply below_alloc | apply pw_below_drewN | apply below_drew1) | exact HB.out)⟩⟩
    ·rw [if_neg c17] at H
     have c17b0 : (t358 == 0) = false := beq_eq_false_iff_ne.mpr c17
     have c17b1 : (t358 != 0) = true := bne_iff_ne.mpr c17
     have H' := Aside0.mk H
     clear H
     go_wp2
     repeat (go_quiet (fail); try go_wp2)
     go_meet
     case rel => exact ⟨_, (true), (by first | rfl | (simp; done) | (simp [*]; done)), H', ⟨by first | omega | exact Nat.le_refl _⟩, ⟨by (with_reducible repeat (first | apply Kd.R_alloc | apply Kd.R_drewN | apply Kd.R_drew)); exact HO356.out⟩, ⟨by (with_reducible repeat (first | apply Kd.R_alloc | apply Kd.R_drewN | apply Kd.R_drew)); exact HO360.out⟩, ⟨by repeat (first | (with_reducible first | exact HB.out | apply below_alloc | apply pw_below_drewN | apply below_drew1) | exact HB.out)⟩⟩
   ·rw [if_neg c16] at H
    have c16b0 : (t354 == 0) = false := beq_eq_false_iff_ne.mpr c16
    have c16b1 : (t354 != 0) = true := bne_iff_ne.mpr c16
    (first | rw [c16b0] | (simp only [i64_w, i32_w]; rw [c16b0]) | skip)
    have H' := Aside0.mk H
    clear H
    go_wp2
    repeat (go_quiet (fail); try go_wp2)
    go_meet
    case rel => exact ⟨_, (true), (by first | rfl | (simp; done) | (simp [*]; done)), H', ⟨by first | omega | exact Nat.le_refl _⟩, ⟨by (with_reducible repeat (first | apply Kd.R_alloc | apply Kd.R_drewN | apply Kd.R_drew)); exact HO356.out⟩, ⟨by (with_reducible repeat (first | apply Kd.R_alloc | apply Kd.R_drewN | apply Kd.R_drew)); exact HO360.out⟩, ⟨by repeat (first | (with_reducible first | exact HB.out | apply below_alloc | apply pw_below_drewN | apply below_drew1) | exact HB.out)⟩⟩
  case rest =>
   clear HC10
   try clear c1
   try clear p2
   try clear c7
   try clear c10
   try clear c16
   try clear c16b0
   try clear c16b1
   try clear c17
   try clear c17b0
   try clear c17b1
   obtain ⟨kq, x58_9, rfl, HA, HJ9, HO_10, HO_13, HB⟩ := hcut
   cases kq with
   | zero => exact absurd HA.out (by simp [pMin.j0])
   | succ kj9 =>
    have H := HA.out
    clear HA
    simp only [pMin.j0] at H
    by_cases c19 : x58_9 = true
    ·subst c19
     have H1 : (some false) = some r := by rw [if_pos rfl] at H; exact H
     clear H
     have H := H1
     clear H1
     exact absurd ((Option.some.inj H).trans PR.out) (by decide)
    ·replace c19 := Bool.eq_false_iff.mpr c19
     subst c19
     have H1 : (if 0 ≤ (l0.length : Int) then (if ((l0.length : Int) : Int).toNat ≤ 281474976710656 then (pMin.l0 kj9 l0 l1 a2 a3 t350 t352 t357 (List.replicate ((l0.length : Int) : Int).toNat false) ([] : List (S57)) t352 (t352.length : Int) 0) else (none)) else (none)) = some r := by rw [if_neg (show ¬ (false = true) by decide)] at H; exact H
     clear H
     have H := H1
     clear H1
     by_cases c20 : 0 ≤ (l0.length : Int)
     ·rw [if_pos c20] at H
      have c20b0 := eq_true c20
      have c20b1 : decide (0 ≤ (l0.length : Int)) = true := decide_eq_true c20
      clear c20
      by_cases c21 : ((l0.length : Int) : Int).toNat ≤ 281474976710656
      ·rw [if_pos c21] at H
       have c21b0 := eq_true c21
       have c21b1 : decide (((l0.length : Int) : Int).toNat ≤ 281474976710656) = true := decide_eq_true c21
       clear c21
       obtain ⟨y361, hy361⟩ : ∃ y_ : List Bool, y_ = (List.replicate ((l0.length : Int) : Int).toNat false) := ⟨_, rfl⟩
       replace H : (pMin.l0 kj9 l0 l1 a2 a3 t350 t352 t357 y361 ([] : List (S57)) t352 (t352.length : Int) 0) = some r := by first | (rw [hy361]; with_reducible exact H) | (have H2_ := (Option.bind_some _ _).symm.trans H; rw [hy361]; with_reducible exact H2_) | (have H2_ := (Option.bind_some _ _).symm.trans H; with_reducible exact H2_) | with_reducible exact H | (rw [hy361]; exact H) | exact H
       have Ny361 := Aside0.mk hy361
       clear hy361
       have H' := Aside0.mk H
       clear H
       go_wp2_with (first | ((with_reducible refine gate_dst (N := 61) rfl ?_); (try (refine gate_guard (by rfl) ?_; dsimp only)); refine Kd.R_make Kd.bool _ 4 rfl (N := 61) rfl 55 _ _ rfl (l0.length : Int) rfl rfl Try.underlying55 (.bool false) 1 info4 rfl (by decide) (by omega) false (ok := fun _ => True) (okp := fun _ => True) rfl (fun _ hk => hk) trivial (of_decide_eq_true (by first | (with_reducible assumption) | assumption)) (Nat.le_trans (Nat.mul_le_mul_right _ (of_decide_eq_true (by first | (with_reducible assumption) | assumption) : (l0.length : Int).toNat ≤ 281474976710656)) (by omega)) (Below.refl _ _) (Nat.le_refl _) ?_; intro v362 w22 ho23 hb hg_ hnew_; clear hg_ hnew_; (first | rw [← Ny361.out] at ho23 | (simp only [Int.reduceToNat] at ho23; rw [← Ny361.out] at ho23)); have n0_ := Aside0.mk (Kd.R_below (by (with_reducible repeat (first | apply Kd.R_alloc | apply Kd.R_drewN | apply Kd.R_drew)); exact HO_10.out) hb); have n1_ := Aside0.mk (Kd.R_below (by (with_reducible repeat (first | apply Kd.R_alloc | apply Kd.R_drewN | apply Kd.R_drew)); exact HO_13.out) hb); have n2_ := Aside0.mk (Kd.R_lower ho23 (below_size (by repeat (first | (with_reducible first | exact HB.out | apply below_alloc | apply pw_below_drewN | apply below_drew1) | exact HB.out)))); have n3_ := Aside0.mk (below_step (by repeat (first | (with_reducible first | exact HB.out | apply below_alloc | apply pw_below_drewN | apply below_drew1) | exact HB.out)) hb); clear HO_10; clear HO_13; clear HB; have HO_10 := n0_; have HO_13 := n1_; have HO363 := n2_; have HB := n3_; clear n0_ n1_ n2_ n3_; clear hb ho23))
       repeat (go_quiet (fail); try go_wp2_with (first | ((with_reducible refine gate_dst (N := 61) rfl ?_); (try (refine gate_guard (by rfl) ?_; dsimp only)); refine Kd.R_make Kd.bool _ 4 rfl (N := 61) rfl 55 _ _ rfl (l0.length : Int) rfl rfl Try.underlying55 (.bool false) 1 info4 rfl (by decide) (by omega) false (ok := fun _ => True) (okp := fun _ => True) rfl (fun _ hk => hk) trivial (of_decide_eq_true (by first | (with_reducible assumption) | assumption)) (Nat.le_trans (Nat.mul_le_mul_right _ (of_decide_eq_true (by first | (with_reducible assumption) | assumption) : (l0.length : Int).toNat ≤ 281474976710656)) (by omega)) (Below.refl _ _) (Nat.le_refl _) ?_; intro v362 w22 ho23 hb hg_ hnew_; clear hg_ hnew_; (first | rw [← Ny361.out] at ho23 | (simp only [Int.reduceToNat] at ho23; rw [← Ny361.out] at ho23)); have n0_ := Aside0.mk (Kd.R_below (by (with_reducible repeat (first | apply Kd.R_alloc | apply Kd.R_drewN | apply Kd.R_drew)); exact HO_10.out) hb); have n1_ := Aside0.mk (Kd.R_below (by (with_reducible repeat (first | apply Kd.R_alloc | apply Kd.R_drewN | apply Kd.R_drew)); exact HO_13.out) hb); have n2_ := Aside0.mk (Kd.R_lower ho23 (below_size (by repeat (first | (with_reducible first | exact HB.out | apply below_alloc | apply pw_below_drewN | apply below_drew1) | exact HB.out)))); have n3_ := Aside0.mk (below_step (by repeat (first | (with_reducible first | exact HB.out | apply below_alloc | apply pw_below_drewN | apply below_drew1) | exact HB.out)) hb); clear HO_10; clear HO_13; clear HB; have HO_10 := n0_; have HO_13 := n1_; have HO363 := n2_; have HB := n3_; clear n0_ n1_ n2_ n3_; clear hb ho23)))
       go_loopg [16, 64] kj9 (fun kq v16 v64 w' => ∃ (x15_2 : List Bool) (x16_2 : List (S57)) (x64_2 : Int), v64 = .int .i64 x64_2 ∧ Aside0 (pMin.l0 kq l0 l1 a2 a3 t350 t352 t357 x15_2 x16_2 t352 (t352.length : Int) x64_2 = some r) ∧ Aside0 (kq ≤ kj9) ∧ Aside0 (Kd.R k57 57 w' w.heap.size (fun k_ => some k_ ≠ (v16 : Value).ownBlock) (.slice Ao14 t352.length co14) t352) ∧ Aside0 (Kd.R (Kd.int .i64) 3 w' w.heap.size (fun _ => True) v359 t357) ∧ Aside0 (Kd.R Kd.bool 4 w' w.heap.size (fun _ => True) v362 x15_2) ∧ Aside0 (Kd.R k57 57 w' w.heap.size (fun k_ => some k_ ≠ ((.slice Ao14 t352.length co14) : Value).ownBlock ∧ some k_ ≠ ((.slice Ao14 t352.length co14) : Value).ownBlock) v16 x16_2) ∧ Aside0 (Kd.R k57 57 w' w.heap.size (fun k_ => some k_ ≠ (v16 : Value).ownBlock) (.slice Ao14 t352.length co14) t352) ∧ Aside0 (Below w.heap.size w w'))
       case atStart => exact ⟨(y361), (([] : List (S57))), (0), (by first | rfl | (simp; done) | (simp [*]; done)), H', ⟨Nat.le_refl _⟩, ⟨by (with_reducible repeat (first | apply Kd.R_alloc | apply Kd.R_drewN | apply Kd.R_drew)); exact Kd.R_mono HO_10.out (fun _ hk => (by simp [Value.ownBlock]))⟩, ⟨by (with_reducible repeat (first | apply Kd.R_alloc | apply Kd.R_drewN | apply Kd.R_drew)); exact HO_13.out⟩, ⟨by (with_reducible repeat (first | apply Kd.R_alloc | apply Kd.R_drewN | apply Kd.R_drew)); exact HO363.out⟩, ⟨by first | exact Kd.R_nil _ _ _ _ _ | exact Kd.N_nil _ _ _ _ _ | exact Kd.V_nil _ _ _ _ _ | exact Kd.Q_nil _ _ _ _ _ | exact Kd.S_nil _ _ _ _ _⟩, ⟨by (with_reducible repeat (first | apply Kd.R_alloc | apply Kd.R_drewN | apply Kd.R_drew)); exact Kd.R_mono HO_10.out (fun _ hk => (by simp [Value.ownBlock]))⟩, ⟨by repeat (first | (with_reducible first | exact HB.out | apply below_alloc | apply pw_below_drewN | apply below_drew1) | exact HB.out)⟩⟩
       case round =>
        clear H'
        try clear c1
        try clear c2
        try clear p2
        try clear c7
        try clear c10
        try clear c16
        try clear c16b0
        try clear c16b1
        try clear c17
        try clear c17b0
        try clear c17b1
        try clear c19
        try clear c20
        try clear c20b0
        try clear c20b1
        try clear c21
        try clear c21b0
        try clear c21b1
        try clear p2
        obtain ⟨x15_2, x16_2, x64_2, rfl, HA, HK2, HO_10, HO_13, HO_15, HO_16, HO_62, HB⟩ := hrel
        cases gk with
        | zero => exact absurd HA.out (by simp [pMin.l0])
        | succ k2 =>
         have H := HA.out
         clear HA
         simp only [pMin.l0] at H
         by_cases c24 : x64_2 < (t352.length : Int)
         ·as_aux_lemma =>
          rw [if_pos c24] at H
          have c24b0 : decide (x64_2 < (t352.length : Int)) = true := decide_eq_true c24
          clear c24
          by_cases c25 : 0 ≤ x64_2
          ·rw [if_pos c25] at H
           have c25b0 : decide (0 ≤ x64_2) = true := decide_eq_true c25
           clear c25
           by_cases c26 : x64_2 < (t352.length : Int)
           ·rw [if_pos c26] at H
            have c26b0 : decide (x64_2 < (t352.length : Int)) = true := decide_eq_true c26
            clear c26
            have HC27 := Aside0.mk H
            clear H
            have p364 : 0 ≤ (x64_2 : Int) := of_decide_eq_true (by first | (with_reducible assumption) | assumption)
            have q364 : x64_2 < (t352.length : Int) := of_decide_eq_true (by first | (with_reducible assumption) | assumption)
            obtain ⟨ad364, e364, hx364_0, hx364_1, hx364_2⟩ := at_T57 (Kd.R_reads' HO_62.out).2.2 x64_2 p364 q364
            cases e364
            replace p364 := eq_true p364
            replace q364 := eq_true q364
            go_upto_region 13 with (first | ((with_reducible refine gate_dst (N := 18) rfl ?_); (try (refine gate_guard (by rfl) ?_; dsimp only)); refine box_event ?hg (N := 18) ?hd (cs := #[.int .i64 0, .bool false, .int .i64 0]) (t := 57) ?hr ?_; (case hd => rfl); (case hg => rfl); (case hr => first | (go_simp; done) | (go_simp; rfl)); intro gb365 hg w28 hbox hb; have n0_ := Aside0.mk (Kd.R_below (Kd.R_elderB (by (with_reducible repeat (first | apply Kd.R_alloc | apply Kd.R_drewN | apply Kd.R_drew)); exact HO_10.out) gb365 (Nat.le_of_eq hg.symm)) hb); have n1_ := Aside0.mk (Kd.R_below (by (with_reducible repeat (first | apply Kd.R_alloc | apply Kd.R_drewN | apply Kd.R_drew)); exact HO_13.out) hb); have n2_ := Aside0.mk (Kd.R_below (by (with_reducible repeat (first | apply Kd.R_alloc | apply Kd.R_drewN | apply Kd.R_drew)); exact HO_15.out) hb); have n3_ := Aside0.mk (Kd.R_below (Kd.R_elderB (by (with_reducible repeat (first | apply Kd.R_alloc | apply Kd.R_drewN | apply Kd.R_drew)); exact HO_16.out) gb365 (Nat.le_of_eq hg.symm)) hb); have n4_ := Aside0.mk (Kd.R_below (Kd.R_elderB (by (with_reducible repeat (first | apply Kd.R_alloc | apply Kd.R_drewN | apply Kd.R_drew)); exact HO_62.out) gb365 (Nat.le_of_eq hg.symm)) hb); have n5_ := Aside0.mk (below_step (by repeat (first | (with_reducible first | exact HB.out | apply below_alloc | apply pw_below_drewN | apply below_drew1) | exact HB.out)) hb); have n6_ := Aside0.mk (hbox); have n7_ := Aside0.mk ((by rw [hg]; exact (below_size (by repeat (first | (with_reducible first | exact HB.out | apply below_alloc | apply pw_below_drewN | apply below_drew1) | exact HB.out))) : w.heap.size ≤ gb365)); have n8_ := Aside0.mk ((by rw [hg]; exact (below_size (by repeat (first | (with_reducible first | exact HB.out | apply below_alloc | apply pw_below_drewN | apply below_drew1) | exact HB.out))) : w.heap.size ≤ gb365)); clear HO_10; clear HO_13; clear HO_15; clear HO_16; clear HO_62; clear HB; have HO_10 := n0_; have HO_13 := n1_; have HO_15 := n2_; have HO_16 := n3_; have HO_62 := n4_; have HB := n5_; have BK365 := n6_; have GW365 := n7_; have GE365 := n8_; clear n0_ n1_ n2_ n3_ n4_ n5_ n6_ n7_ n8_; clear hb hbox hg; have hcz29_0 : w28.cell? ⟨gb365, 0, none⟩ = some (.int .i64 0) := (blk_cell BK365.out 0).trans rfl; have hcz29_1 : w28.cell? ⟨gb365, 1, none⟩ = some (.bool false) := (blk_cell BK365.out 1).trans rfl; have hcz29_2 : w28.cell? ⟨gb365, 2, none⟩ = some (.int .i64 0) := (blk_cell BK365.out 2).trans rfl; have hfz29_0 := blk_frozen BK365.out 0; have hfz29_1 := blk_frozen BK365.out 1; have hfz29_2 := blk_frozen BK365.out 2))
            repeat (go_quiet (first | ((with_reducible refine gate_dst (N := 18) rfl ?_); (try (refine gate_guard (by rfl) ?_; dsimp only)); refine box_event ?hg (N := 18) ?hd (cs := #[.int .i64 0, .bool false, .int .i64 0]) (t := 57) ?hr ?_; (case hd => rfl); (case hg => rfl); (case hr => first | (go_simp; done) | (go_simp; rfl)); intro gb365 hg w28 hbox hb; have n0_ := Aside0.mk (Kd.R_below (Kd.R_elderB (by (with_reducible repeat (first | apply Kd.R_alloc | apply Kd.R_drewN | apply Kd.R_drew)); exact HO_10.out) gb365 (Nat.le_of_eq hg.symm)) hb); have n1_ := Aside0.mk (Kd.R_below (by (with_reducible repeat (first | apply Kd.R_alloc | apply Kd.R_drewN | apply Kd.R_drew)); exact HO_13.out) hb); have n2_ := Aside0.mk (Kd.R_below (by (with_reducible repeat (first | apply Kd.R_alloc | apply Kd.R_drewN | apply Kd.R_drew)); exact HO_15.out) hb); have n3_ := Aside0.mk (Kd.R_below (Kd.R_elderB (by (with_reducible repeat (first | apply Kd.R_alloc | apply Kd.R_drewN | apply Kd.R_drew)); exact HO_16.out) gb365 (Nat.le_of_eq hg.symm)) hb); have n4_ := Aside0.mk (Kd.R_below (Kd.R_elderB (by (with_reducible repeat (first | apply Kd.R_alloc | apply Kd.R_drewN | apply Kd.R_drew)); exact HO_62.out) gb365 (Nat.le_of_eq hg.symm)) hb); have n5_ := Aside0.mk (below_step (by repeat (first | (with_reducible first | exact HB.out | apply below_alloc | apply pw_below_drewN | apply below_drew1) | exact HB.out)) hb); have n6_ := Aside0.mk (hbox); have n7_ := Aside0.mk ((by rw [hg]; exact (below_size (by repeat (first | (with_reducible first | exact HB.out | apply below_alloc | apply pw_below_drewN | apply below_drew1) | exact HB.out))) : w.heap.size ≤ gb365)); have n8_ := Aside0.mk ((by rw [hg]; exact (below_size (by repeat (first | (with_reducible first | exact HB.out | apply below_alloc | apply pw_below_drewN | apply below_drew1) | exact HB.out))) : w.heap.size ≤ gb365)); clear HO_10; clear HO_13; clear HO_15; clear HO_16; clear HO_62; clear HB; have HO_10 := n0_; have HO_13 := n1_; have HO_15 := n2_; have HO_16 := n3_; have HO_62 := n4_; have HB := n5_; have BK365 := n6_; have GW365 := n7_; have GE365 := n8_; clear n0_ n1_ n2_ n3_ n4_ n5_ n6_ n7_ n8_; clear hb hbox hg; have hcz29_0 : w28.cell? ⟨gb365, 0, none⟩ = some (.int .i64 0) := (blk_cell BK365.out 0).trans rfl; have hcz29_1 : w28.cell? ⟨gb365, 1, none⟩ = some (.bool false) := (blk_cell BK365.out 1).trans rfl; have hcz29_2 : w28.cell? ⟨gb365, 2, none⟩ = some (.int .i64 0) := (blk_cell BK365.out 2).trans rfl; have hfz29_0 := blk_frozen BK365.out 0; have hfz29_1 := blk_frozen BK365.out 1; have hfz29_2 := blk_frozen BK365.out 2)); go_upto_region 13 with (first | ((with_reducible refine gate_dst (N := 18) rfl ?_); (try (refine gate_guard (by rfl) ?_; dsimp only)); refine box_event ?hg (N := 18) ?hd (cs := #[.int .i64 0, .bool false, .int .i64 0]) (t := 57) ?hr ?_; (case hd => rfl); (case hg => rfl); (case hr => first | (go_simp; done) | (go_simp; rfl)); intro gb365 hg w28 hbox hb; have n0_ := Aside0.mk (Kd.R_below (Kd.R_elderB (by (with_reducible repeat (first | apply Kd.R_alloc | apply Kd.R_drewN | apply Kd.R_drew)); exact HO_10.out) gb365 (Nat.le_of_eq hg.symm)) hb); have n1_ := Aside0.mk (Kd.R_below (by (with_reducible repeat (first | apply Kd.R_alloc | apply Kd.R_drewN | apply Kd.R_drew)); exact HO_13.out) hb); have n2_ := Aside0.mk (Kd.R_below (by (with_reducible repeat (first | apply Kd.R_alloc | apply Kd.R_drewN | apply Kd.R_drew)); exact HO_15.out) hb); have n3_ := Aside0.mk (Kd.R_below (Kd.R_elderB (by (with_reducible repeat (first | apply Kd.R_alloc | apply Kd.R_drewN | apply Kd.R_drew)); exact HO_16.out) gb365 (Nat.le_of_eq hg.symm)) hb); have n4_ := Aside0.mk (Kd.R_below (Kd.R_elderB (by (with_reducible repeat (first | apply Kd.R_alloc | apply Kd.R_drewN | apply Kd.R_drew)); exact HO_62.out) gb365 (Nat.le_of_eq hg.symm)) hb); have n5_ := Aside0.mk (below_step (by repeat (first | (with_reducible first | exact HB.out | apply below_alloc | apply pw_below_drewN | apply below_drew1) | exact HB.out)) hb); have n6_ := Aside0.mk (hbox); have n7_ := Aside0.mk ((by rw [hg]; exact (below_size (by repeat (first | (with_reducible first | exact HB.out | apply below_alloc | apply pw_below_drewN | apply below_drew1) | exact HB.out))) : w.heap.size ≤ gb365)); have n8_ := Aside0.mk ((by rw [hg]; exact (below_size (by repeat (first | (with_reducible first | exact HB.out | apply below_alloc | apply pw_below_drewN | apply below_drew1) | exact HB.out))) : w.heap.size ≤ gb365)); clear HO_10; clear HO_13; clear HO_15; clear HO_16; clear HO_62; clear HB; have HO_10 := n0_; have HO_13 := n1_; have HO_15 := n2_; have HO_16 := n3_; have HO_62 := n4_; have HB := n5_; have BK365 := n6_; have GW365 := n7_; have GE365 := n8_; clear n0_ n1_ n2_ n3_ n4_ n5_ n6_ n7_ n8_; clear hb hbox hg; have hcz29_0 : w28.cell? ⟨gb365, 0, none⟩ = some (.int .i64 0) := (blk_cell BK365.out 0).trans rfl; have hcz29_1 : w28.cell? ⟨gb365, 1, none⟩ = some (.bool false) := (blk_cell BK365.out 1).trans rfl; have hcz29_2 : w28.cell? ⟨gb365, 2, none⟩ = some (.int .i64 0) := (blk_cell BK365.out 2).trans rfl; have hfz29_0 := blk_frozen BK365.out 0; have hfz29_1 := blk_frozen BK365.out 1; have hfz29_2 := blk_frozen BK365.out 2)))
            (try simp only [Act.put, List.setIfInBounds_toArray, List.set_cons_zero, List.set_cons_succ])
            go_cut [89] (fun v89 wc => ∃ (kq : Nat) (x89_26 : Bool), v89 = .bool x89_26 ∧ Aside0 (pMin.j2 kq l0 l1 a2 a3 t350 t352 t357 x15_2 x16_2 t352 (t352.length : Int) x64_2 x89_26 ((rd_T57 t352 x64_2).f0) ((rd_T57 t352 x64_2).f1) ((rd_T57 t352 x64_2).f2) = some r) ∧ Aside0 (kq ≤ k2) ∧ Aside0 (Kd.R k57 57 wc w.heap.size (fun k_ => some k_ ≠ (u16 : Value).ownBlock ∧ k_ ≠ gb365) (.slice (some ad364) t352.length co14) t352) ∧ Aside0 (Kd.R (Kd.int .i64) 3 wc w.heap.size (fun _ => True) v359 t357) ∧ Aside0 (Kd.R Kd.bool 4 wc w.heap.size (fun _ => True) v362 x15_2) ∧ Aside0 (Kd.R k57 57 wc w.heap.size (fun k_ => some k_ ≠ ((.slice (some ad364) t352.length co14) : Value).ownBlock ∧ some k_ ≠ ((.slice (some ad364) t352.length co14) : Value).ownBlock ∧ k_ ≠ gb365) u16 x16_2) ∧ Aside0 (Kd.R k57 57 wc w.heap.size (fun k_ => some k_ ≠ (u16 : Value).ownBlock ∧ k_ ≠ gb365) (.slice (some ad364) t352.length co14) t352) ∧ Aside0 (wc.heap[gb365]? = some (.cells #[.int .i64 ((rd_T57 t352 x64_2).f0), .bool ((rd_T57 t352 x64_2).f1), .int .i64 ((rd_T57 t352 x64_2).f2)] 57 (0, 0))) ∧ Aside0 (Below w.heap.size w wc))
            case first =>
             have H := HC27.out
             clear HC27
             by_cases c30 : ((rd_T57 t352 x64_2).f0) < 0
             ·rw [if_pos c30] at H
              have c30b0 : decide (((rd_T57 t352 x64_2).f0) < 0) = true := decide_eq_true c30
              clear c30
              (first | rw [c30b0] | (simp only [i64_w, i32_w]; rw [c30b0]) | skip)
              have H' := Aside0.mk H
              clear H
              have hcz31_0 : w28.cell? ⟨gb365, 0, none⟩ = some (.int .i64 0) := (blk_cell BK365.out 0).trans rfl
              have hcz31_1 : w28.cell? ⟨gb365, 1, none⟩ = some (.bool false) := (blk_cell BK365.out 1).trans rfl
              have hcz31_2 : w28.cell? ⟨gb365, 2, none⟩ = some (.int .i64 0) := (blk_cell BK365.out 2).trans rfl
              have hfz31_0 := blk_frozen BK365.out 0
              have hfz31_1 := blk_frozen BK365.out 1
              have hfz31_2 := blk_frozen BK365.out 2
              go_wp2
              repeat (go_quiet (fail); try go_wp2)
              go_meet
              case rel => exact ⟨_, (true), (by first | rfl | (simp; done) | (simp [*]; done)), H', ⟨by have := HJ9.out; have := HK2.out; first | omega | exact Nat.le_refl _⟩, ⟨by (with_reducible repeat (first | apply Kd.R_alloc | apply Kd.R_drewN | apply Kd.R_drew)); exact Kd.R_mono (Kd.R_far (p := ⟨gb365, 2, none⟩) (Kd.R_far (p := ⟨gb365, 1, none⟩) (Kd.R_far (p := ⟨gb365, 0, none⟩) (Kd.R_mono HO_10.out (fun k_ hk => (⟨hk, hk.2⟩ : _ ∧ k_ ≠ gb365))) (fun _ hk => hk.2) (.int .i64 ((rd_T57 t352 x64_2).f0))) (fun _ hk => hk.2) (.bool ((rd_T57 t352 x64_2).f1))) (fun _ hk => hk.2) (.int .i64 ((rd_T57 t352 x64_2).f2))) (fun _ hk => ⟨hk.1.1, hk.1.2⟩)⟩, ⟨by (with_reducible repeat (first | apply Kd.R_alloc | apply Kd.R_drewN | apply Kd.R_drew)); exact Kd.R_mono (Kd.R_far (p := ⟨gb365, 2, none⟩) (Kd.R_far (p := ⟨gb365, 1, none⟩) (Kd.R_far (p := ⟨gb365, 0, none⟩) (Kd.R_types HO_13.out BK365.out (by decide)) (fun _ hk => hk.2) (.int .i64 ((rd_T57 t352 x64_2).f0))) (fun _ hk => hk.2) (.bool ((rd_T57 t352 x64_2).f1))) (fun _ hk => hk.2) (.int .i64 ((rd_T57 t352 x64_2).f2))) (fun _ hk => trivial)⟩, ⟨by (with_reducible repeat (first | apply Kd.R_alloc | apply Kd.R_drewN | apply Kd.R_drew)); exact Kd.R_mono (Kd.R_far (p := ⟨gb365, 2, none⟩) (Kd.R_far (p := ⟨gb365, 1, none⟩) (Kd.R_far (p := ⟨gb365, 0, none⟩) (Kd.R_types HO_15.out BK365.out (by decide)) (fun _ hk => hk.2) (.int .i64 ((rd_T57 t352 x64_2).f0))) (fun _ hk => hk.2) (.bool ((rd_T57 t352 x64_2).f1))) (fun _ hk => hk.2) (.int .i64 ((rd_T57 t352 x64_2).f2))) (fun _ hk => trivial)⟩, ⟨by (with_reducible repeat (first | apply Kd.R_alloc | apply Kd.R_drewN | apply Kd.R_drew)); exact Kd.R_mono (Kd.R_far (p := ⟨gb365, 2, none⟩) (Kd.R_far (p := ⟨gb365, 1, none⟩) (Kd.R_far (p := ⟨gb365, 0, none⟩) (Kd.R_mono HO_16.out (fun k_ hk => (⟨hk, hk.2⟩ : _ ∧ k_ ≠ gb365))) (fun _ hk => hk.2) (.int .i64 ((rd_T57 t352 x64_2).f0))) (fun _ hk => hk.2) (.bool ((rd_T57 t352 x64_2).f1))) (fun _ hk => hk.2) (.int .i64 ((rd_T57 t352 x64_2).f2))) (fun _ hk => ⟨hk.1.1.1, ⟨hk.1.1.2, hk.1.2⟩⟩)⟩, ⟨by (with_reducible repeat (first | apply Kd.R_alloc | apply Kd.R_drewN | apply Kd.R_drew)); exact Kd.R_mono (Kd.R_far (p := ⟨gb365, 2, none⟩) (Kd.R_far (p := ⟨gb365, 1, none⟩) (Kd.R_far (p := ⟨gb365, 0, none⟩) (Kd.R_mono HO_62.out (fun k_ hk => (⟨hk, hk.2⟩ : _ ∧ k_ ≠ gb365))) (fun _ hk => hk.2) (.int .i64 ((rd_T57 t352 x64_2).f0))) (fun _ hk => hk.2) (.bool ((rd_T57 t352 x64_2).f1))) (fun _ hk => hk.2) (.int .i64 ((rd_T57 t352 x64_2).f2))) (fun _ hk => ⟨hk.1.1, hk.1.2⟩)⟩, ⟨by (with_reducible repeat (first | refine blk_drewN ?_ _ | refine blk_drew ?_ | refine blk_alloc ?_ _)); refine blk_put (cs := #[.int .i64 ((rd_T57 t352 x64_2).f0), .bool ((rd_T57 t352 x64_2).f1), .int .i64 0]) ?_ 2 _ rfl; (with_reducible repeat (first | refine blk_drewN ?_ _ | refine blk_drew ?_ | refine blk_alloc ?_ _)); refine blk_put (cs := #[.int .i64 ((rd_T57 t352 x64_2).f0), .bool false, .int .i64 0]) ?_ 1 _ rfl; (with_reducible repeat (first | refine blk_drewN ?_ _ | refine blk_drew ?_ | refine blk_alloc ?_ _)); refine blk_put (cs := #[.int .i64 0, .bool false, .int .i64 0]) ?_ 0 _ rfl; (with_reducible repeat (first | refine blk_drewN ?_ _ | refine blk_drew ?_ | refine blk_alloc ?_ _)); exact BK365.out⟩, ⟨by repeat (first | (with_reducible first | exact HB.out | apply below_alloc | apply pw_below_drewN | apply below_drew1 | refine below_set ?_ GE365.out) | exact HB.out)⟩⟩
             ·rw [if_neg c30] at H
              have c30b0 : decide (((rd_T57 t352 x64_2).f0) < 0) = false := decide_eq_false c30
              clear c30
              (first | rw [c30b0] | (simp only [i64_w, i32_w]; rw [c30b0]) | skip)
              by_cases c32 : ((rd_T57 t352 x64_2).f0) ≥ (l0.length : Int)
              ·rw [if_pos c32] at H
               have c32b0 : decide ((l0.length : Int) ≤ ((rd_T57 t352 x64_2).f0)) = true := decide_eq_true c32
               clear c32
               have H' := Aside0.mk H
               clear H
               have hcz33_0 : w28.cell? ⟨gb365, 0, none⟩ = some (.int .i64 0) := (blk_cell BK365.out 0).trans rfl
               have hcz33_1 : w28.cell? ⟨gb365, 1, none⟩ = some (.bool false) := (blk_cell BK365.out 1).trans rfl
               have hcz33_2 : w28.cell? ⟨gb365, 2, none⟩ = some (.int .i64 0) := (blk_cell BK365.out 2).trans rfl
               have hfz33_0 := blk_frozen BK365.out 0
               have hfz33_1 := blk_frozen BK365.out 1
               have hfz33_2 := blk_frozen BK365.out 2
               go_wp2
               repeat (go_quiet (fail); try go_wp2)
               go_meet
               case rel => exact ⟨_, (true), (by first | rfl | (simp; done) | (simp [*]; done)), H', ⟨by have := HJ9.out; have := HK2.out; first | omega | exact Nat.le_refl _⟩, ⟨by (with_reducible repeat (first | apply Kd.R_alloc | apply Kd.R_drewN | apply Kd.R_drew)); exact Kd.R_mono (Kd.R_far (p := ⟨gb365, 2, none⟩) (Kd.R_far (p := ⟨gb365, 1, none⟩) (Kd.R_far (p := ⟨gb365, 0, none⟩) (Kd.R_mono HO_10.out (fun k_ hk => (⟨hk, hk.2⟩ : _ ∧ k_ ≠ gb365))) (fun _ hk => hk.2) (.int .i64 ((rd_T57 t352 x64_2).f0))) (fun _ hk => hk.2) (.bool ((rd_T57 t352 x64_2).f1))) (fun _ hk => hk.2) (.int .i64 ((rd_T57 t352 x64_2).f2))) (fun _ hk => ⟨hk.1.1, hk.1.2⟩)⟩, ⟨by (with_reducible repeat (first | apply Kd.R_alloc | apply Kd.R_drewN | apply Kd.R_drew)); exact Kd.R_mono (Kd.R_far (p := ⟨gb365, 2, none⟩) (Kd.R_far (p := ⟨gb365, 1, none⟩) (Kd.R_far (p := ⟨gb365, 0, none⟩) (Kd.R_types HO_13.out BK365.out (by decide)) (fun _ hk => hk.2) (.int .i64 ((rd_T57 t352 x64_2).f0))) (fun _ hk => hk.2) (.bool ((rd_T57 t352 x64_2).f1))) (fun _ hk => hk.2) (.int .i64 ((rd_T57 t352 x64_2).f2))) (fun _ hk => trivial)⟩, ⟨by (with_reducible repeat (first | apply Kd.R_alloc | apply Kd.R_drewN | apply Kd.R_drew)); exact Kd.R_mono (Kd.R_far (p := ⟨gb365, 2, none⟩) (Kd.R_far (p := ⟨gb365, 1, none⟩) (Kd.R_far (p := ⟨gb365, 0, none⟩) (Kd.R_types HO_15.out BK365.out (by decide)) (fun _ hk => hk.2) (.int .i64 ((rd_T57 t352 x64_2).f0))) (fun _ hk => hk.2) (.bool ((rd_T57 t352 x64_2).f1))) (fun _ hk => hk.2) (.int .i64 ((rd_T57 t352 x64_2).f2))) (fun _ hk => trivial)⟩, ⟨by (with_reducible repeat (first | apply Kd.R_alloc | apply Kd.R_drewN | apply Kd.R_drew)); exact Kd.R_mono (Kd.R_far (p := ⟨gb365, 2, none⟩) (Kd.R_far (p := ⟨gb365, 1, none⟩) (Kd.R_far (p := ⟨gb365, 0, none⟩) (Kd.R_mono HO_16.out (fun k_ hk => (⟨hk, hk.2⟩ : _ ∧ k_ ≠ gb365))) (fun _ hk => hk.2) (.int .i64 ((rd_T57 t352 x64_2).f0))) (fun _ hk => hk.2) (.bool ((rd_T57 t352 x64_2).f1))) (fun _ hk => hk.2) (.int .i64 ((rd_T57 t352 x64_2).f2))) (fun _ hk => ⟨hk.1.1.1, ⟨hk.1.1.2, hk.1.2⟩⟩)⟩, ⟨by (with_reducible repeat (first | apply Kd.R_alloc | apply Kd.R_drewN | apply Kd.R_drew)); exact Kd.R_mono (Kd.R_far (p := ⟨gb365, 2, none⟩) (Kd.R_far (p := ⟨gb365, 1, none⟩) (Kd.R_far (p := ⟨gb365, 0, none⟩) (Kd.R_mono HO_62.out (fun k_ hk => (⟨hk, hk.2⟩ : _ ∧ k_ ≠ gb365))) (fun _ hk => hk.2) (.int .i64 ((rd_T57 t352 x64_2).f0))) (fun _ hk => hk.2) (.bool ((rd_T57 t352 x64_2).f1))) (fun _ hk => hk.2) (.int .i64 ((rd_T57 t352 x64_2).f2))) (fun _ hk => ⟨hk.1.1, hk.1.2⟩)⟩, ⟨by (with_reducible repeat (first | refine blk_drewN ?_ _ | refine blk_drew ?_ | refine blk_alloc ?_ _)); refine blk_put (cs := #[.int .i64 ((rd_T57 t352 x64_2).f0), .bool ((rd_T57 t352 x64_2).f1), .int .i64 0]) ?_ 2 _ rfl; (with_reducible repeat (first | refine blk_drewN ?_ _ | refine blk_drew ?_ | refine blk_alloc ?_ _)); refine blk_put (cs := #[.int .i64 ((rd_T57 t352 x64_2).f0), .bool false, .int .i64 0]) ?_ 1 _ rfl; (with_reducible repeat (first | refine blk_drewN ?_ _ | refine blk_drew ?_ | refine blk_alloc ?_ _)); refine blk_put (cs := #[.int .i64 0, .bool false, .int .i64 0]) ?_ 0 _ rfl; (with_reducible repeat (first | refine blk_drewN ?_ _ | refine blk_drew ?_ | refine blk_alloc ?_ _)); exact BK365.out⟩, ⟨by repeat (first | (with_reducible first | exact HB.out | apply below_alloc | apply pw_below_drewN | apply below_drew1 | refine below_set ?_ GE365.out) | exact HB.out)⟩⟩
              ·rw [if_neg c32] at H
               have c32b0 : decide ((l0.length : Int) ≤ ((rd_T57 t352 x64_2).f0)) = false := decide_eq_false c32
               clear c32
               by_cases c34 : ((rd_T57 t352 x64_2).f2) < 0
               ·rw [if_pos c34] at H
                have c34b0 : decide (((rd_T57 t352 x64_2).f2) < 0) = true := decide_eq_true c34
                clear c34
                have H' := Aside0.mk H
                clear H
                have hcz35_0 : w28.cell? ⟨gb365, 0, none⟩ = some (.int .i64 0) := (blk_cell BK365.out 0).trans rfl
                have hcz35_1 : w28.cell? ⟨gb365, 1, none⟩ = some (.bool false) := (blk_cell BK365.out 1).trans rfl
                have hcz35_2 : w28.cell? ⟨gb365, 2, none⟩ = some (.int .i64 0) := (blk_cell BK365.out 2).trans rfl
                have hfz35_0 := blk_frozen BK365.out 0
                have hfz35_1 := blk_frozen BK365.out 1
                have hfz35_2 := blk_frozen BK365.out 2
                go_wp2
                repeat (go_quiet (fail); try go_wp2)
                go_meet
                case rel => exact ⟨_, (true), (by first | rfl | (simp; done) | (simp [*]; done)), H', ⟨by have := HJ9.out; have := HK2.out; first | omega | exact Nat.le_refl _⟩, ⟨by (with_reducible repeat (first | apply Kd.R_alloc | apply Kd.R_drewN | apply Kd.R_drew)); exact Kd.R_mono (Kd.R_far (p := ⟨gb365, 2, none⟩) (Kd.R_far (p := ⟨gb365, 1, none⟩) (Kd.R_far (p := ⟨gb365, 0, none⟩) (Kd.R_mono HO_10.out (fun k_ hk => (⟨hk, hk.2⟩ : _ ∧ k_ ≠ gb365))) (fun _ hk => hk.2) (.int .i64 ((rd_T57 t352 x64_2).f0))) (fun _ hk => hk.2) (.bool ((rd_T57 t352 x64_2).f1))) (fun _ hk => hk.2) (.int .i64 ((rd_T57 t352 x64_2).f2))) (fun _ hk => ⟨hk.1.1, hk.1.2⟩)⟩, ⟨by (with_reducible repeat (first | apply Kd.R_alloc | apply Kd.R_drewN | apply Kd.R_drew)); exact Kd.R_mono (Kd.R_far (p := ⟨gb365, 2, none⟩) (Kd.R_far (p := ⟨gb365, 1, none⟩) (Kd.R_far (p := ⟨gb365, 0, none⟩) (Kd.R_types HO_13.out BK365.out (by decide)) (fun _ hk => hk.2) (.int .i64 ((rd_T57 t352 x64_2).f0))) (fun _ hk => hk.2) (.bool ((rd_T57 t352 x64_2).f1))) (fun _ hk => hk.2) (.int .i64 ((rd_T57 t352 x64_2).f2))) (fun _ hk => trivial)⟩, ⟨by (with_reducible repeat (first | apply Kd.R_alloc | apply Kd.R_drewN | apply Kd.R_drew)); exact Kd.R_mono (Kd.R_far (p := ⟨gb365, 2, none⟩) (Kd.R_far (p := ⟨gb365, 1, none⟩) (Kd.R_far (p := ⟨gb365, 0, none⟩) (Kd.R_types HO_15.out BK365.out (by decide)) (fun _ hk => hk.2) (.int .i64 ((rd_T57 t352 x64_2).f0))) (fun _ hk => hk.2) (.bool ((rd_T57 t352 x64_2).f1))) (fun _ hk => hk.2) (.int .i64 ((rd_T57 t352 x64_2).f2))) (fun _ hk => trivial)⟩, ⟨by (with_reducible repeat (first | apply Kd.R_alloc | apply Kd.R_drewN | apply Kd.R_drew)); exact Kd.R_mono (Kd.R_far (p := ⟨gb365, 2, none⟩) (Kd.R_far (p := ⟨gb365, 1, none⟩) (Kd.R_far (p := ⟨gb365, 0, none⟩) (Kd.R_mono HO_16.out (fun k_ hk => (⟨hk, hk.2⟩ : _ ∧ k_ ≠ gb365))) (fun _ hk => hk.2) (.int .i64 ((rd_T57 t352 x64_2).f0))) (fun _ hk => hk.2) (.bool ((rd_T57 t352 x64_2).f1))) (fun _ hk => hk.2) (.int .i64 ((rd_T57 t352 x64_2).f2))) (fun _ hk => ⟨hk.1.1.1, ⟨hk.1.1.2, hk.1.2⟩⟩)⟩, ⟨by (with_reducible repeat (first | apply Kd.R_alloc | apply Kd.R_drewN | apply Kd.R_drew)); exact Kd.R_mono (Kd.R_far (p := ⟨gb365, 2, none⟩) (Kd.R_far (p := ⟨gb365, 1, none⟩) (Kd.R_far (p := ⟨gb365, 0, none⟩) (Kd.R_mono HO_62.out (fun k_ hk => (⟨hk, hk.2⟩ : _ ∧ k_ ≠ gb365))) (fun _ hk => hk.2) (.int .i64 ((rd_T57 t352 x64_2).f0))) (fun _ hk => hk.2) (.bool ((rd_T57 t352 x64_2).f1))) (fun _ hk => hk.2) (.int .i64 ((rd_T57 t352 x64_2).f2))) (fun _ hk => ⟨hk.1.1, hk.1.2⟩)⟩, ⟨by (with_reducible repeat (first | refine blk_drewN ?_ _ | refine blk_drew ?_ | refine blk_alloc ?_ _)); refine blk_put (cs := #[.int .i64 ((rd_T57 t352 x64_2).f0), .bool ((rd_T57 t352 x64_2).f1), .int .i64 0]) ?_ 2 _ rfl; (with_reducible repeat (first | refine blk_drewN ?_ _ | refine blk_drew ?_ | refine blk_alloc ?_ _)); refine blk_put (cs := #[.int .i64 ((rd_T57 t352 x64_2).f0), .bool false, .int .i64 0]) ?_ 1 _ rfl; (with_reducible repeat (first | refine blk_drewN ?_ _ | refine blk_drew ?_ | refine blk_alloc ?_ _)); refine blk_put (cs := #[.int .i64 0, .bool false, .int .i64 0]) ?_ 0 _ rfl; (with_reducible repeat (first | refine blk_drewN ?_ _ | refine blk_drew ?_ | refine blk_alloc ?_ _)); exact BK365.out⟩, ⟨by repeat (first | (with_reducible first | exact HB.out | apply below_alloc | apply pw_below_drewN | apply below_drew1 | refine below_set ?_ GE365.out) | exact HB.out)⟩⟩
               ·rw [if_neg c34] at H
                have c34b0 : decide (((rd_T57 t352 x64_2).f2) < 0) = false := decide_eq_false c34
                clear c34
                have H' := Aside0.mk H
                clear H
                have hcz36_0 : w28.cell? ⟨gb365, 0, none⟩ = some (.int .i64 0) := (blk_cell BK365.out 0).trans rfl
                have hcz36_1 : w28.cell? ⟨gb365, 1, none⟩ = some (.bool false) := (blk_cell BK365.out 1).trans rfl
                have hcz36_2 : w28.cell? ⟨gb365, 2, none⟩ = some (.int .i64 0) := (blk_cell BK365.out 2).trans rfl
                have hfz36_0 := blk_frozen BK365.out 0
                have hfz36_1 := blk_frozen BK365.out 1
                have hfz36_2 := blk_frozen BK365.out 2
                go_wp2
                repeat (go_quiet (fail); try go_wp2)
                go_meet
                case rel => exact ⟨_, (decide (((rd_T57 t352 x64_2).f2) ≥ (l1.length : Int))), (by first | rfl | (simp; done) | (simp [*]; done)), H', ⟨by have := HJ9.out; have := HK2.out; first | omega | exact Nat.le_refl _⟩, ⟨by (with_reducible repeat (first | apply Kd.R_alloc | apply Kd.R_drewN | apply Kd.R_drew)); exact Kd.R_mono (Kd.R_far (p := ⟨gb365, 2, none⟩) (Kd.R_far (p := ⟨gb365, 1, none⟩) (Kd.R_far (p := ⟨gb365, 0, none⟩) (Kd.R_mono HO_10.out (fun k_ hk => (⟨hk, hk.2⟩ : _ ∧ k_ ≠ gb365))) (fun _ hk => hk.2) (.int .i64 ((rd_T57 t352 x64_2).f0))) (fun _ hk => hk.2) (.bool ((rd_T57 t352 x64_2).f1))) (fun _ hk => hk.2) (.int .i64 ((rd_T57 t352 x64_2).f2))) (fun _ hk => ⟨hk.1.1, hk.1.2⟩)⟩, ⟨by (with_reducible repeat (first | apply Kd.R_alloc | apply Kd.R_drewN | apply Kd.R_drew)); exact Kd.R_mono (Kd.R_far (p := ⟨gb365, 2, none⟩) (Kd.R_far (p := ⟨gb365, 1, none⟩) (Kd.R_far (p := ⟨gb365, 0, none⟩) (Kd.R_types HO_13.out BK365.out (by decide)) (fun _ hk => hk.2) (.int .i64 ((rd_T57 t352 x64_2).f0))) (fun _ hk => hk.2) (.bool ((rd_T57 t352 x64_2).f1))) (fun _ hk => hk.2) (.int .i64 ((rd_T57 t352 x64_2).f2))) (fun _ hk => trivial)⟩, ⟨by (with_reducible repeat (first | apply Kd.R_alloc | apply Kd.R_drewN | apply Kd.R_drew)); exact Kd.R_mono (Kd.R_far (p := ⟨gb365, 2, none⟩) (Kd.R_far (p := ⟨gb365, 1, none⟩) (Kd.R_far (p := ⟨gb365, 0, none⟩) (Kd.R_types HO_15.out BK365.out (by decide)) (fun _ hk => hk.2) (.int .i64 ((rd_T57 t352 x64_2).f0))) (fun _ hk => hk.2) (.bool ((rd_T57 t352 x64_2).f1))) (fun _ hk => hk.2) (.int .i64 ((rd_T57 t352 x64_2).f2))) (fun _ hk => trivial)⟩, ⟨by (with_reducible repeat (first | apply Kd.R_alloc | apply Kd.R_drewN | apply Kd.R_drew)); exact Kd.R_mono (Kd.R_far (p := ⟨gb365, 2, none⟩) (Kd.R_far (p := ⟨gb365, 1, none⟩) (Kd.R_far (p := ⟨gb365, 0, none⟩) (Kd.R_mono HO_16.out (fun k_ hk => (⟨hk, hk.2⟩ : _ ∧ k_ ≠ gb365))) (fun _ hk => hk.2) (.int .i64 ((rd_T57 t352 x64_2).f0))) (fun _ hk => hk.2) (.bool ((rd_T57 t352 x64_2).f1))) (fun _ hk => hk.2) (.int .i64 ((rd_T57 t352 x64_2).f2))) (fun _ hk => ⟨hk.1.1.1, ⟨hk.1.1.2, hk.1.2⟩⟩)⟩, ⟨by (with_reducible repeat (first | apply Kd.R_alloc | apply Kd.R_drewN | apply Kd.R_drew)); exact Kd.R_mono (Kd.R_far (p := ⟨gb365, 2, none⟩) (Kd.R_far (p := ⟨gb365, 1, none⟩) (Kd.R_far (p := ⟨gb365, 0, none⟩) (Kd.R_mono HO_62.out (fun k_ hk => (⟨hk, hk.2⟩ : _ ∧ k_ ≠ gb365))) (fun _ hk => hk.2) (.int .i64 ((rd_T57 t352 x64_2).f0))) (fun _ hk => hk.2) (.bool ((rd_T57 t352 x64_2).f1))) (fun _ hk => hk.2) (.int .i64 ((rd_T57 t352 x64_2).f2))) (fun _ hk => ⟨hk.1.1, hk.1.2⟩)⟩, ⟨by (with_reducible repeat (first | refine blk_drewN ?_ _ | refine blk_drew ?_ | refine blk_alloc ?_ _)); refine blk_put (cs := #[.int .i64 ((rd_T57 t352 x64_2).f0), .bool ((rd_T57 t352 x64_2).f1), .int .i64 0]) ?_ 2 _ rfl; (with_reducible repeat (first | refine blk_drewN ?_ _ | refine blk_drew ?_ | refine blk_alloc ?_ _)); refine blk_put (cs := #[.int .i64 ((rd_T57 t352 x64_2).f0), .bool false, .int .i64 0]) ?_ 1 _ rfl; (with_reducible repeat (first | refine blk_drewN ?_ _ | refine blk_drew ?_ | refine blk_alloc ?_ _)); refine blk_put (cs := #[.int .i64 0, .bool false, .int .i64 0]) ?_ 0 _ rfl; (with_reducible repeat (first | refine blk_drewN ?_ _ | refine blk_drew ?_ | refine blk_alloc ?_ _)); exact BK365.out⟩, ⟨by repeat (first | (with_reducible first | exact HB.out | apply below_alloc | apply pw_below_drewN | apply below_drew1 | refine below_set ?_ GE365.out) | exact HB.out)⟩⟩
            case rest =>
             clear HC27
             try clear c1
             try clear c2
             try clear p2
             try clear c3
             try clear p3
             try clear q3
             try clear hx3
             try clear c7
             try clear c10
             try clear c16
             try clear c16b0
             try clear c16b1
             try clear c17
             try clear c17b0
             try clear c17b1
             try clear c19
             try clear c20
             try clear c20b0
             try clear c20b1
             try clear c21
             try clear c21b0
             try clear c21b1
             try clear c24
             try clear c24b0
             try clear c25
             try clear c25b0
             try clear c26
             try clear c26b0
             try clear c30
             try clear c30b0
             try clear c32
             try clear c32b0
             try clear c34
             try clear c34b0
             try clear p36
             try clear q36
             try clear hx36
             try clear hcz29_0
             try clear hcz29_1
             try clear hcz29_2
             try clear hcz31_0
             try clear hcz31_1
             try clear hcz31_2
             try clear hcz33_0
             try clear hcz33_1
             try clear hcz33_2
             try clear hcz35_0
             try clear hcz35_1
             try clear hcz35_2
             try clear hcz36_0
             try clear hcz36_1
             try clear hcz36_2
             try clear hfz29_0
             try clear hfz29_1
             try clear hfz29_2
             try clear hfz31_0
             try clear hfz31_1
             try clear hfz31_2
             try clear hfz33_0
             try clear hfz33_1
             try clear hfz33_2
             try clear hfz35_0
             try clear hfz35_1
             try clear hfz35_2
             try clear hfz36_0
             try clear hfz36_1
             try clear hfz36_2
             try clear hx364_0
             try clear hx364_1
             try clear hx364_2
             try clear p2
             try clear p364
             try clear q364
             obtain ⟨kq, x89_26, rfl, HA, HJ26, HO_10, HO_13, HO_15, HO_16, HO_62, BK365, HB⟩ := hcut
             cases kq with
             | zero => exact absurd HA.out (by simp [pMin.j2])
             | succ kj26 =>
              have H := HA.out
              clear HA
              simp only [pMin.j2] at H
              by_cases c37 : x89_26 = true
              ·subst c37
               have H1 : (pMin.l0 kj26 l0 l1 a2 a3 t350 t352 t357 x15_2 x16_2 t352 (t352.length : Int) (wrap64 (x64_2 + 1))) = some r := by rw [if_pos rfl] at H; exact H
               clear H
               have H := H1
               clear H1
               have H' := Aside0.mk H
               clear H
               go_wp2
               repeat (go_quiet (fail); try go_wp2)
               go_roundg kj26
               case measure => have := HJ9.out; have := HK2.out; have := HJ26.out; omega
               case rel => exact ⟨(x15_2), (x16_2), (wrap64 (x64_2 + 1)), (by first | rfl | (simp; done) | (simp [*]; done)), H', ⟨by have := HJ9.out; have := HK2.out; have := HJ26.out; omega⟩, ⟨by (with_reducible repeat (first | apply Kd.R_alloc | apply Kd.R_drewN | apply Kd.R_drew)); exact Kd.R_mono HO_10.out (fun _ hk => hk.1)⟩, ⟨by (with_reducible repeat (first | apply Kd.R_alloc | apply Kd.R_drewN | apply Kd.R_drew)); exact HO_13.out⟩, ⟨by (with_reducible repeat (first | apply Kd.R_alloc | apply Kd.R_drewN | apply Kd.R_drew)); exact HO_15.out⟩, ⟨by (with_reducible repeat (first | apply Kd.R_alloc | apply Kd.R_drewN | apply Kd.R_drew)); exact Kd.R_mono HO_16.out (fun _ hk => ⟨hk.1, hk.2.1⟩)⟩, ⟨by (with_reducible repeat (first | apply Kd.R_alloc | apply Kd.R_drewN | apply Kd.R_drew)); exact Kd.R_mono HO_62.out (fun _ hk => hk.1)⟩, ⟨by repeat (first | (with_reducible first | exact HB.out | apply below_alloc | apply pw_below_drewN | apply below_drew1 | refine below_set ?_ GE365.out) | exact HB.out)⟩⟩
              ·replace c37 := Bool.eq_false_iff.mpr c37
               subst c37
               have H1 : (if 0 ≤ ((rd_T57 t352 x64_2).f0) then (if ((rd_T57 t352 x64_2).f0) < (x15_2.length : Int) then ((some (x15_2.set (((rd_T57 t352 x64_2).f0) : Int).toNat true : List Bool)).bind fun y366 => (if ((rd_T57 t352 x64_2).f1) = true then (if x16_2.length < 5864062014805 then (pMin.l0 kj26 l0 l1 a2 a3 t350 t352 t357 y366 (x16_2 ++ [(⟨((rd_T57 t352 x64_2).f0), ((rd_T57 t352 x64_2).f1), ((rd_T57 t352 x64_2).f2)⟩ : S57)]) t352 (t352.length : Int) (wrap64 (x64_2 + 1))) else (none)) else (pMin.l0 kj26 l0 l1 a2 a3 t350 t352 t357 y366 x16_2 t352 (t352.length : Int) (wrap64 (x64_2 + 1))))) else (none)) else (none)) = some r := by rw [if_neg (show ¬ (false = true) by decide)] at H; exact H
               clear H
               have H := H1
               clear H1
               by_cases c38 : 0 ≤ ((rd_T57 t352 x64_2).f0)
               ·rw [if_pos c38] at H
                have c38b0 : decide (0 ≤ ((rd_T57 t352 x64_2).f0)) = true := decide_eq_true c38
                clear c38
                by_cases c39 : ((rd_T57 t352 x64_2).f0) < (x15_2.length : Int)
                ·rw [if_pos c39] at H
                 have c39b0 : decide (((rd_T57 t352 x64_2).f0) < (x15_2.length : Int)) = true := decide_eq_true c39
                 clear c39
                 obtain ⟨y366, hy366⟩ : ∃ y_ : List Bool, y_ = (x15_2.set (((rd_T57 t352 x64_2).f0) : Int).toNat true) := ⟨_, rfl⟩
                 replace H : (if ((rd_T57 t352 x64_2).f1) = true then (if x16_2.length < 5864062014805 then (pMin.l0 kj26 l0 l1 a2 a3 t350 t352 t357 y366 (x16_2 ++ [(⟨((rd_T57 t352 x64_2).f0), ((rd_T57 t352 x64_2).f1), ((rd_T57 t352 x64_2).f2)⟩ : S57)]) t352 (t352.length : Int) (wrap64 (x64_2 + 1))) else (none)) else (pMin.l0 kj26 l0 l1 a2 a3 t350 t352 t357 y366 x16_2 t352 (t352.length : Int) (wrap64 (x64_2 + 1)))) = some r := by first | (rw [hy366]; with_reducible exact H) | (have H2_ := (Option.bind_some _ _).symm.trans H; rw [hy366]; with_reducible exact H2_) | (have H2_ := (Option.bind_some _ _).symm.trans H; with_reducible exact H2_) | with_reducible exact H | (rw [hy366]; exact H) | exact H
                 have Ny366 := Aside0.mk hy366
                 clear hy366
                 by_cases c41 : ((rd_T57 t352 x64_2).f1) = true
                 ·rw [if_pos c41] at H
                  have c41b0 : ((rd_T57 t352 x64_2).f1) = true := c41
                  clear c41
                  by_cases c42 : x16_2.length < 5864062014805
                  ·rw [if_pos c42] at H
                   have LMc42 := Aside0.mk c42
                   clear c42
                   obtain ⟨y367, hy367⟩ : ∃ y_ : List (S57), y_ = (x16_2 ++ [(⟨((rd_T57 t352 x64_2).f0), ((rd_T57 t352 x64_2).f1), ((rd_T57 t352 x64_2).f2)⟩ : S57)]) := ⟨_, rfl⟩
                   replace H : (pMin.l0 kj26 l0 l1 a2 a3 t350 t352 t357 y366 y367 t352 (t352.length : Int) (wrap64 (x64_2 + 1))) = some r := by first | (rw [hy367]; with_reducible exact H) | (have H2_ := (Option.bind_some _ _).symm.trans H; rw [hy367]; with_reducible exact H2_) | (have H2_ := (Option.bind_some _ _).symm.trans H; with_reducible exact H2_) | with_reducible exact H | (rw [hy367]; exact H) | exact H
                   have Ny367 := Aside0.mk hy367
                   clear hy367
                   have H' := Aside0.mk H
                   clear H
                   have hcz43_0 : wc.cell? ⟨gb365, 0, none⟩ = some (.int .i64 ((rd_T57 t352 x64_2).f0)) := (blk_cell BK365.out 0).trans rfl
                   have hcz43_1 : wc.cell? ⟨gb365, 1, none⟩ = some (.bool ((rd_T57 t352 x64_2).f1)) := (blk_cell BK365.out 1).trans rfl
                   have hcz43_2 : wc.cell? ⟨gb365, 2, none⟩ = some (.int .i64 ((rd_T57 t352 x64_2).f2)) := (blk_cell BK365.out 2).trans rfl
                   have hfz43_0 := blk_frozen BK365.out 0
                   have hfz43_1 := blk_frozen BK365.out 1
                   have hfz43_2 := blk_frozen BK365.out 2
                   have p40 : 0 ≤ (((rd_T57 t352 x64_2).f0) : Int) := of_decide_eq_true (by first | (with_reducible assumption) | assumption)
                   have q40 : (((rd_T57 t352 x64_2).f0) : Int) < ((x15_2.length : Int) : Int) := of_decide_eq_true (by first | (with_reducible assumption) | assumption)
                   obtain ⟨go40, co40, eo40, gb40, gl40, cl40, HG40⟩ := Kd.R_form HO_15.out (by omega)
                   (first | cases eo40 | (injection eo40 with ea_ en_ ec_; (first | subst ea_ | (injection ea_ with ea_; subst ea_)); subst ec_; clear en_))
                   have GB40 := Aside0.mk gb40
                   have GG40 := Aside0.mk HG40
                   clear gb40 gl40 HG40
                   obtain ⟨hx40_0, hf40_0⟩ := Kd.R_celln false HO_15.out (((rd_T57 t352 x64_2).f0) : Int) p40 q40
                   replace p40 := eq_true p40
                   replace q40 := eq_true q40
                   have HP44 := Kd.R_putg HO_15.out (((rd_T57 t352 x64_2).f0) : Int) true
                   go_wp2_with (first | ((with_reducible refine gate_store (t := 4) (p := 93) rfl ?_); (try (rw [drewN_self wc]; generalize hq_ : World.drewN wc _ = wc; have n0_ := Aside0.mk (Kd.R_at hq_ HO_10.out); have n1_ := Aside0.mk (Kd.R_at hq_ HO_13.out); have n2_ := Aside0.mk (Kd.R_at hq_ HO_15.out); have n3_ := Aside0.mk (Kd.R_at hq_ HO_16.out); have n4_ := Aside0.mk (Kd.R_at hq_ HO_62.out); have n5_ := Aside0.mk (blk_at hq_ BK365.out); have n6_ := Aside0.mk (below_at hq_ HB.out); clear hq_ HO_10 HO_13 HO_15 HO_16 HO_62 BK365 HB; have HO_10 := n0_; have HO_13 := n1_; have HO_15 := n2_; have HO_16 := n3_; have HO_62 := n4_; have BK365 := n5_; have HB := n6_; clear n0_ n1_ n2_ n3_ n4_ n5_ n6_; (try (have HP44 := Kd.R_putg HO_15.out (((rd_T57 t352 x64_2).f0) : Int) true)))); refine store_event (t := 4) (p := 93) (v := ?vo_w45) (w1 := (wc.setCell ⟨go40, (((rd_T57 t352 x64_2).f0) : Int).toNat, none⟩ (.bool true))) ?hg ?ho ?hn ?hr ?_; (case ho => rfl); (case hg => rfl); (case hn => rfl); (case hr => first | (go_simp; done) | (go_simp; rfl)); intro w45 hw; have hg : wc.grownBy w45 (some go40) := (by rw [hw]; exact HP44.2); have hp_ : Kd.R Kd.bool 4 w45 w.heap.size (fun _ => True) (.slice (some ⟨go40, 0, none⟩) x15_2.length co40) y366 := (by rw [hw, Ny366.out]; exact HP44.1); clear HP44; have n0_ := Aside0.mk (Kd.R_over' (v := (.slice (some ⟨go40, 0, none⟩) x15_2.length co40)) (by (with_reducible repeat (first | apply Kd.R_alloc | apply Kd.R_drewN | apply Kd.R_drew)); exact HO_10.out) (Kd.R_typed HO_15.out) (by decide) hg); have n1_ := Aside0.mk (Kd.R_over' (v := (.slice (some ⟨go40, 0, none⟩) x15_2.length co40)) (by (with_reducible repeat (first | apply Kd.R_alloc | apply Kd.R_drewN | apply Kd.R_drew)); exact HO_13.out) (Kd.R_typed HO_15.out) (by decide) hg); have n2_ := Aside0.mk (hp_); have n3_ := Aside0.mk (Kd.R_over' (v := (.slice (some ⟨go40, 0, none⟩) x15_2.length co40)) (by (with_reducible repeat (first | apply Kd.R_alloc | apply Kd.R_drewN | apply Kd.R_drew)); exact HO_16.out) (Kd.R_typed HO_15.out) (by decide) hg); have n4_ := Aside0.mk (Kd.R_over' (v := (.slice (some ⟨go40, 0, none⟩) x15_2.length co40)) (by (with_reducible repeat (first | apply Kd.R_alloc | apply Kd.R_drewN | apply Kd.R_drew)); exact HO_62.out) (Kd.R_typed HO_15.out) (by decide) hg); have n5_ := Aside0.mk (blk_grown (g := gb365) (o := .cells #[.int .i64 ((rd_T57 t352 x64_2).f0), .bool ((rd_T57 t352 x64_2).f1), .int .i64 ((rd_T57 t352 x64_2).f2)] 57 (0, 0)) (by (with_reducible repeat (first | refine blk_drewN ?_ _ | refine blk_drew ?_ | refine blk_alloc ?_ _)); exact BK365.out) hg (Kd.R_ne HO_15.out BK365.out (by decide))); have n6_ := Aside0.mk ((by rw [hw]; exact below_set (HB.out) GB40.out : Below w.heap.size w w45)); clear HO_10; clear HO_13; clear HO_15; clear HO_16; clear HO_62; clear BK365; clear HB; have HO_10 := n0_; have HO_13 := n1_; have HO_15 := n2_; have HO_16 := n3_; have HO_62 := n4_; have BK365 := n5_; have HB := n6_; clear n0_ n1_ n2_ n3_ n4_ n5_ n6_; clear hg hw hp_; have hcz46_0 : w45.cell? ⟨gb365, 0, none⟩ = some (.int .i64 ((rd_T57 t352 x64_2).f0)) := (blk_cell BK365.out 0).trans rfl; have hcz46_1 : w45.cell? ⟨gb365, 1, none⟩ = some (.bool ((rd_T57 t352 x64_2).f1)) := (blk_cell BK365.out 1).trans rfl; have hcz46_2 : w45.cell? ⟨gb365, 2, none⟩ = some (.int .i64 ((rd_T57 t352 x64_2).f2)) := (blk_cell BK365.out 2).trans rfl; have hfz46_0 := blk_frozen BK365.out 0; have hfz46_1 := blk_frozen BK365.out 1; have hfz46_2 := blk_frozen BK365.out 2) | ((with_reducible refine gate_builtin (b := .append) (xs := #[.tmp 96, .tmp 98]) rfl ?_); (try (refine gate_guard (by rfl) ?_; dsimp only)); at_builtin; refine Kd.R_append k57 (w0 := w) w.heap.size rfl (.tmp 96) (.tmp 98) 24 57 (.agg #[(.int .i64 0), (.bool false), (.int .i64 0)]) 24 rfl Try.underlying24 info57 rfl (by decide) (by omega) u16 x16_2 (⟨((rd_T57 t352 x64_2).f0), ((rd_T57 t352 x64_2).f1), ((rd_T57 t352 x64_2).f2)⟩ : S57) [.int .i64 ((rd_T57 t352 x64_2).f0), .bool true, .int .i64 ((rd_T57 t352 x64_2).f2)] (fun k_ => some k_ ≠ (.slice (some ad364) t352.length co14 : Value).ownBlock ∧ some k_ ≠ (.slice (some ad364) t352.length co14 : Value).ownBlock ∧ k_ ≠ gb365) (fun _ => False) rfl rfl ?aP (fun _ hk => hk.elim) ?aF ?aO ?aB ?aS ?aL ?_; (case aP => have e_ : (Value.bool ((rd_T57 t352 x64_2).f1)) = .bool true := (by rw [c41b0]); rw [← e_]; exact k57_mkM _ _ _ (⟨((rd_T57 t352 x64_2).f0), ((rd_T57 t352 x64_2).f1), ((rd_T57 t352 x64_2).f2)⟩ : S57)); (case aB => exact (by repeat (first | (with_reducible first | exact HB.out | apply below_alloc | apply pw_below_drewN | apply below_drew1 | refine below_set ?_ GE365.out) | exact HB.out))); (case aF => exact (fun k_ hk => ⟨Kd.fresh' (Kd.R_lt (by (with_reducible repeat (first | apply Kd.R_alloc | apply Kd.R_drewN | apply Kd.R_drew)); exact HO_10.out)) k_ hk, Kd.fresh' (Kd.R_lt (by (with_reducible repeat (first | apply Kd.R_alloc | apply Kd.R_drewN | apply Kd.R_drew)); exact HO_62.out)) k_ hk, Kd.freshB (g := gb365) (o := .cells #[.int .i64 ((rd_T57 t352 x64_2).f0), .bool ((rd_T57 t352 x64_2).f1), .int .i64 ((rd_T57 t352 x64_2).f2)] 57 (0, 0)) (by (with_reducible repeat (first | refine blk_drewN ?_ _ | refine blk_drew ?_ | refine blk_alloc ?_ _)); exact BK365.out) k_ hk⟩)); (case aO => exact (by (with_reducible repeat (first | apply Kd.R_alloc | apply Kd.R_drewN | apply Kd.R_drew)); exact HO_16.out)); (case aS => exact (below_size (by repeat (first | (with_reducible first | exact HB.out | apply below_alloc | apply pw_below_drewN | apply below_drew1 | refine below_set ?_ GE365.out) | exact HB.out)))); (case aL => have := LMc42.out; omega); intro v368 w47 ho hb hg hat; rw [← Ny367.out] at ho; have n0_ := Aside0.mk (Kd.R_after (ok := (fun k_ => k_ ≠ gb365)) (by (with_reducible repeat (first | apply Kd.R_alloc | apply Kd.R_drewN | apply Kd.R_drew)); exact Kd.R_mono HO_10.out (fun _ hk => ⟨hk.2, hk.1⟩)) hg hat); have n1_ := Aside0.mk (Kd.R_over' (by (with_reducible repeat (first | apply Kd.R_alloc | apply Kd.R_drewN | apply Kd.R_drew)); exact HO_13.out) (Kd.R_typed (by (with_reducible repeat (first | apply Kd.R_alloc | apply Kd.R_drewN | apply Kd.R_drew)); exact HO_16.out)) (by decide) hg); have n2_ := Aside0.mk (Kd.R_over' (by (with_reducible repeat (first | apply Kd.R_alloc | apply Kd.R_drewN | apply Kd.R_drew)); exact HO_15.out) (Kd.R_typed (by (with_reducible repeat (first | apply Kd.R_alloc | apply Kd.R_drewN | apply Kd.R_drew)); exact HO_16.out)) (by decide) hg); have n3_ := Aside0.mk (Kd.R_after (ok := (fun k_ => k_ ≠ gb365)) (by (with_reducible repeat (first | apply Kd.R_alloc | apply Kd.R_drewN | apply Kd.R_drew)); exact Kd.R_mono HO_62.out (fun _ hk => ⟨hk.2, hk.1⟩)) hg hat); have n4_ := Aside0.mk (blk_grown (g := gb365) (o := .cells #[.int .i64 ((rd_T57 t352 x64_2).f0), .bool ((rd_T57 t352 x64_2).f1), .int .i64 ((rd_T57 t352 x64_2).f2)] 57 (0, 0)) (by (with_reducible repeat (first | refine blk_drewN ?_ _ | refine blk_drew ?_ | refine blk_alloc ?_ _)); exact BK365.out) hg (Kd.R_away HO_16.out (fun _ hk => hk.2.2))); have n5_ := Aside0.mk (hb); have n6_ := Aside0.mk (ho); clear HO_10; clear HO_13; clear HO_15; clear HO_62; clear BK365; clear HB; clear HO_16; have HO_10 := n0_; have HO_13 := n1_; have HO_15 := n2_; have HO_62 := n3_; have BK365 := n4_; have HB := n5_; have HO369 := n6_; clear n0_ n1_ n2_ n3_ n4_ n5_ n6_; clear ho hb hg hat))
                   repeat (go_quiet (fail); try go_wp2_with (first | ((with_reducible refine gate_store (t := 4) (p := 93) rfl ?_); (try (rw [drewN_self wc]; generalize hq_ : World.drewN wc _ = wc; have n0_ := Aside0.mk (Kd.R_at hq_ HO_10.out); have n1_ := Aside0.mk (Kd.R_at hq_ HO_13.out); have n2_ := Aside0.mk (Kd.R_at hq_ HO_15.out); have n3_ := Aside0.mk (Kd.R_at hq_ HO_16.out); have n4_ := Aside0.mk (Kd.R_at hq_ HO_62.out); have n5_ := Aside0.mk (blk_at hq_ BK365.out); have n6_ := Aside0.mk (below_at hq_ HB.out); clear hq_ HO_10 HO_13 HO_15 HO_16 HO_62 BK365 HB; have HO_10 := n0_; have HO_13 := n1_; have HO_15 := n2_; have HO_16 := n3_; have HO_62 := n4_; have BK365 := n5_; have HB := n6_; clear n0_ n1_ n2_ n3_ n4_ n5_ n6_; (try (have HP44 := Kd.R_putg HO_15.out (((rd_T57 t352 x64_2).f0) : Int) true)))); refine store_event (t := 4) (p := 93) (v := ?vo_w45) (w1 := (wc.setCell ⟨go40, (((rd_T57 t352 x64_2).f0) : Int).toNat, none⟩ (.bool true))) ?hg ?ho ?hn ?hr ?_; (case ho => rfl); (case hg => rfl); (case hn => rfl); (case hr => first | (go_simp; done) | (go_simp; rfl)); intro w45 hw; have hg : wc.grownBy w45 (some go40) := (by rw [hw]; exact HP44.2); have hp_ : Kd.R Kd.bool 4 w45 w.heap.size (fun _ => True) (.slice (some ⟨go40, 0, none⟩) x15_2.length co40) y366 := (by rw [hw, Ny366.out]; exact HP44.1); clear HP44; have n0_ := Aside0.mk (Kd.R_over' (v := (.slice (some ⟨go40, 0, none⟩) x15_2.length co40)) (by (with_reducible repeat (first | apply Kd.R_alloc | apply Kd.R_drewN | apply Kd.R_drew)); exact HO_10.out) (Kd.R_typed HO_15.out) (by decide) hg); have n1_ := Aside0.mk (Kd.R_over' (v := (.slice (some ⟨go40, 0, none⟩) x15_2.length co40)) (by (with_reducible repeat (first | apply Kd.R_alloc | apply Kd.R_drewN | apply Kd.R_drew)); exact HO_13.out) (Kd.R_typed HO_15.out) (by decide) hg); have n2_ := Aside0.mk (hp_); have n3_ := Aside0.mk (Kd.R_over' (v := (.slice (some ⟨go40, 0, none⟩) x15_2.length co40)) (by (with_reducible repeat (first | apply Kd.R_alloc | apply Kd.R_drewN | apply Kd.R_drew)); exact HO_16.out) (Kd.R_typed HO_15.out) (by decide) hg); have n4_ := Aside0.mk (Kd.R_over' (v := (.slice (some ⟨go40, 0, none⟩) x15_2.length co40)) (by (with_reducible repeat (first | apply Kd.R_alloc | apply Kd.R_drewN | apply Kd.R_drew)); exact HO_62.out) (Kd.R_typed HO_15.out) (by decide) hg); have n5_ := Aside0.mk (blk_grown (g := gb365) (o := .cells #[.int .i64 ((rd_T57 t352 x64_2).f0), .bool ((rd_T57 t352 x64_2).f1), .int .i64 ((rd_T57 t352 x64_2).f2)] 57 (0, 0)) (by (with_reducible repeat (first | refine blk_drewN ?_ _ | refine blk_drew ?_ | refine blk_alloc ?_ _)); exact BK365.out) hg (Kd.R_ne HO_15.out BK365.out (by decide))); have n6_ := Aside0.mk ((by rw [hw]; exact below_set (HB.out) GB40.out : Below w.heap.size w w45)); clear HO_10; clear HO_13; clear HO_15; clear HO_16; clear HO_62; clear BK365; clear HB; have HO_10 := n0_; have HO_13 := n1_; have HO_15 := n2_; have HO_16 := n3_; have HO_62 := n4_; have BK365 := n5_; have HB := n6_; clear n0_ n1_ n2_ n3_ n4_ n5_ n6_; clear hg hw hp_; have hcz46_0 : w45.cell? ⟨gb365, 0, none⟩ = some (.int .i64 ((rd_T57 t352 x64_2).f0)) := (blk_cell BK365.out 0).trans rfl; have hcz46_1 : w45.cell? ⟨gb365, 1, none⟩ = some (.bool ((rd_T57 t352 x64_2).f1)) := (blk_cell BK365.out 1).trans rfl; have hcz46_2 : w45.cell? ⟨gb365, 2, none⟩ = some (.int .i64 ((rd_T57 t352 x64_2).f2)) := (blk_cell BK365.out 2).trans rfl; have hfz46_0 := blk_frozen BK365.out 0; have hfz46_1 := blk_frozen BK365.out 1; have hfz46_2 := blk_frozen BK365.out 2) | ((with_reducible refine gate_builtin (b := .append) (xs := #[.tmp 96, .tmp 98]) rfl ?_); (try (refine gate_guard (by rfl) ?_; dsimp only)); at_builtin; refine Kd.R_append k57 (w0 := w) w.heap.size rfl (.tmp 96) (.tmp 98) 24 57 (.agg #[(.int .i64 0), (.bool false), (.int .i64 0)]) 24 rfl Try.underlying24 info57 rfl (by decide) (by omega) u16 x16_2 (⟨((rd_T57 t352 x64_2).f0), ((rd_T57 t352 x64_2).f1), ((rd_T57 t352 x64_2).f2)⟩ : S57) [.int .i64 ((rd_T57 t352 x64_2).f0), .bool true, .int .i64 ((rd_T57 t352 x64_2).f2)] (fun k_ => some k_ ≠ (.slice (some ad364) t352.length co14 : Value).ownBlock ∧ some k_ ≠ (.slice (some ad364) t352.length co14 : Value).ownBlock ∧ k_ ≠ gb365) (fun _ => False) rfl rfl ?aP (fun _ hk => hk.elim) ?aF ?aO ?aB ?aS ?aL ?_; (case aP => have e_ : (Value.bool ((rd_T57 t352 x64_2).f1)) = .bool true := (by rw [c41b0]); rw [← e_]; exact k57_mkM _ _ _ (⟨((rd_T57 t352 x64_2).f0), ((rd_T57 t352 x64_2).f1), ((rd_T57 t352 x64_2).f2)⟩ : S57)); (case aB => exact (by repeat (first | (with_reducible first | exact HB.out | apply below_alloc | apply pw_below_drewN | apply below_drew1 | refine below_set ?_ GE365.out) | exact HB.out))); (case aF => exact (fun k_ hk => ⟨Kd.fresh' (Kd.R_lt (by (with_reducible repeat (first | apply Kd.R_alloc | apply Kd.R_drewN | apply Kd.R_drew)); exact HO_10.out)) k_ hk, Kd.fresh' (Kd.R_lt (by (with_reducible repeat (first | apply Kd.R_alloc | apply Kd.R_drewN | apply Kd.R_drew)); exact HO_62.out)) k_ hk, Kd.freshB (g := gb365) (o := .cells #[.int .i64 ((rd_T57 t352 x64_2).f0), .bool ((rd_T57 t352 x64_2).f1), .int .i64 ((rd_T57 t352 x64_2).f2)] 57 (0, 0)) (by (with_reducible repeat (first | refine blk_drewN ?_ _ | refine blk_drew ?_ | refine blk_alloc ?_ _)); exact BK365.out) k_ hk⟩)); (case aO => exact (by (with_reducible repeat (first | apply Kd.R_alloc | apply Kd.R_drewN | apply Kd.R_drew)); exact HO_16.out)); (case aS => exact (below_size (by repeat (first | (with_reducible first | exact HB.out | apply below_alloc | apply pw_below_drewN | apply below_drew1 | refine below_set ?_ GE365.out) | exact HB.out)))); (case aL => have := LMc42.out; omega); intro v368 w47 ho hb hg hat; rw [← Ny367.out] at ho; have n0_ := Aside0.mk (Kd.R_after (ok := (fun k_ => k_ ≠ gb365)) (by (with_reducible repeat (first | apply Kd.R_alloc | apply Kd.R_drewN | apply Kd.R_drew)); exact Kd.R_mono HO_10.out (fun _ hk => ⟨hk.2, hk.1⟩)) hg hat); have n1_ := Aside0.mk (Kd.R_over' (by (with_reducible repeat (first | apply Kd.R_alloc | apply Kd.R_drewN | apply Kd.R_drew)); exact HO_13.out) (Kd.R_typed (by (with_reducible repeat (first | apply Kd.R_alloc | apply Kd.R_drewN | apply Kd.R_drew)); exact HO_16.out)) (by decide) hg); have n2_ := Aside0.mk (Kd.R_over' (by (with_reducible repeat (first | apply Kd.R_alloc | apply Kd.R_drewN | apply Kd.R_drew)); exact HO_15.out) (Kd.R_typed (by (with_reducible repeat (first | apply Kd.R_alloc | apply Kd.R_drewN | apply Kd.R_drew)); exact HO_16.out)) (by decide) hg); have n3_ := Aside0.mk (Kd.R_after (ok := (fun k_ => k_ ≠ gb365)) (by (with_reducible repeat (first | apply Kd.R_alloc | apply Kd.R_drewN | apply Kd.R_drew)); exact Kd.R_mono HO_62.out (fun _ hk => ⟨hk.2, hk.1⟩)) hg hat); have n4_ := Aside0.mk (blk_grown (g := gb365) (o := .cells #[.int .i64 ((rd_T57 t352 x64_2).f0), .bool ((rd_T57 t352 x64_2).f1), .int .i64 ((rd_T57 t352 x64_2).f2)] 57 (0, 0)) (by (with_reducible repeat (first | refine blk_drewN ?_ _ | refine blk_drew ?_ | refine blk_alloc ?_ _)); exact BK365.out) hg (Kd.R_away HO_16.out (fun _ hk => hk.2.2))); have n5_ := Aside0.mk (hb); have n6_ := Aside0.mk (ho); clear HO_10; clear HO_13; clear HO_15; clear HO_62; clear BK365; clear HB; clear HO_16; have HO_10 := n0_; have HO_13 := n1_; have HO_15 := n2_; have HO_62 := n3_; have BK365 := n4_; have HB := n5_; have HO369 := n6_; clear n0_ n1_ n2_ n3_ n4_ n5_ n6_; clear ho hb hg hat)))
                   go_roundg kj26
                   case measure => have := HJ9.out; have := HK2.out; have := HJ26.out; omega
                   case rel => exact ⟨(y366), (y367), (wrap64 (x64_2 + 1)), (by first | rfl | (simp; done) | (simp [*]; done)), H', ⟨by have := HJ9.out; have := HK2.out; have := HJ26.out; omega⟩, ⟨by (with_reducible repeat (first | apply Kd.R_alloc | apply Kd.R_drewN | apply Kd.R_drew)); exact Kd.R_mono HO_10.out (fun _ hk => hk.2)⟩, ⟨by (with_reducible repeat (first | apply Kd.R_alloc | apply Kd.R_drewN | apply Kd.R_drew)); exact HO_13.out⟩, ⟨by (with_reducible repeat (first | apply Kd.R_alloc | apply Kd.R_drewN | apply Kd.R_drew)); exact HO_15.out⟩, ⟨by (with_reducible repeat (first | apply Kd.R_alloc | apply Kd.R_drewN | apply Kd.R_drew)); exact Kd.R_mono HO369.out (fun _ hk => ⟨hk.1, hk.2.1⟩)⟩, ⟨by (with_reducible repeat (first | apply Kd.R_alloc | apply Kd.R_drewN | apply Kd.R_drew)); exact Kd.R_mono HO_62.out (fun _ hk => hk.2)⟩, ⟨by repeat (first | (with_reducible first | exact HB.out | apply below_alloc | apply pw_below_drewN | apply below_drew1 | refine below_set ?_ GE365.out) | exact HB.out)⟩⟩
                  ·rw [if_neg c42] at H
                   exact absurd H (by simp)
                 ·rw [if_neg c41] at H
                  have c41b0 : ((rd_T57 t352 x64_2).f1) = false := by simpa using c41
                  clear c41
                  have H' := Aside0.mk H
                  clear H
                  have hcz48_0 : wc.cell? ⟨gb365, 0, none⟩ = some (.int .i64 ((rd_T57 t352 x64_2).f0)) := (blk_cell BK365.out 0).trans rfl
                  have hcz48_1 : wc.cell? ⟨gb365, 1, none⟩ = some (.bool ((rd_T57 t352 x64_2).f1)) := (blk_cell BK365.out 1).trans rfl
                  have hcz48_2 : wc.cell? ⟨gb365, 2, none⟩ = some (.int .i64 ((rd_T57 t352 x64_2).f2)) := (blk_cell BK365.out 2).trans rfl
                  have hfz48_0 := blk_frozen BK365.out 0
                  have hfz48_1 := blk_frozen BK365.out 1
                  have hfz48_2 := blk_frozen BK365.out 2
                  have p40 : 0 ≤ (((rd_T57 t352 x64_2).f0) : Int) := of_decide_eq_true (by first | (with_reducible assumption) | assumption)
                  have q40 : (((rd_T57 t352 x64_2).f0) : Int) < ((x15_2.length : Int) : Int) := of_decide_eq_true (by first | (with_reducible assumption) | assumption)
                  obtain ⟨go40, co40, eo40, gb40, gl40, cl40, HG40⟩ := Kd.R_form HO_15.out (by omega)
                  (first | cases eo40 | (injection eo40 with ea_ en_ ec_; (first | subst ea_ | (injection ea_ with ea_; subst ea_)); subst ec_; clear en_))
                  have GB40 := Aside0.mk gb40
                  have GG40 := Aside0.mk HG40
                  clear gb40 gl40 HG40
                  obtain ⟨hx40_0, hf40_0⟩ := Kd.R_celln false HO_15.out (((rd_T57 t352 x64_2).f0) : Int) p40 q40
                  replace p40 := eq_true p40
                  replace q40 := eq_true q40
                  have HP49 := Kd.R_putg HO_15.out (((rd_T57 t352 x64_2).f0) : Int) true
                  go_wp2_with (first | ((with_reducible refine gate_store (t := 4) (p := 93) rfl ?_); (try (rw [drewN_self wc]; generalize hq_ : World.drewN wc _ = wc; have n0_ := Aside0.mk (Kd.R_at hq_ HO_10.out); have n1_ := Aside0.mk (Kd.R_at hq_ HO_13.out); have n2_ := Aside0.mk (Kd.R_at hq_ HO_15.out); have n3_ := Aside0.mk (Kd.R_at hq_ HO_16.out); have n4_ := Aside0.mk (Kd.R_at hq_ HO_62.out); have n5_ := Aside0.mk (blk_at hq_ BK365.out); have n6_ := Aside0.mk (below_at hq_ HB.out); clear hq_ HO_10 HO_13 HO_15 HO_16 HO_62 BK365 HB; have HO_10 := n0_; have HO_13 := n1_; have HO_15 := n2_; have HO_16 := n3_; have HO_62 := n4_; have BK365 := n5_; have HB := n6_; clear n0_ n1_ n2_ n3_ n4_ n5_ n6_; (try (have HP49 := Kd.R_putg HO_15.out (((rd_T57 t352 x64_2).f0) : Int) true)))); refine store_event (t := 4) (p := 93) (v := ?vo_w50) (w1 := (wc.setCell ⟨go40, (((rd_T57 t352 x64_2).f0) : Int).toNat, none⟩ (.bool true))) ?hg ?ho ?hn ?hr ?_; (case ho => rfl); (case hg => rfl); (case hn => rfl); (case hr => first | (go_simp; done) | (go_simp; rfl)); intro w50 hw; have hg : wc.grownBy w50 (some go40) := (by rw [hw]; exact HP49.2); have hp_ : Kd.R Kd.bool 4 w50 w.heap.size (fun _ => True) (.slice (some ⟨go40, 0, none⟩) x15_2.length co40) y366 := (by rw [hw, Ny366.out]; exact HP49.1); clear HP49; have n0_ := Aside0.mk (Kd.R_over' (v := (.slice (some ⟨go40, 0, none⟩) x15_2.length co40)) (by (with_reducible repeat (first | apply Kd.R_alloc | apply Kd.R_drewN | apply Kd.R_drew)); exact HO_10.out) (Kd.R_typed HO_15.out) (by decide) hg); have n1_ := Aside0.mk (Kd.R_over' (v := (.slice (some ⟨go40, 0, none⟩) x15_2.length co40)) (by (with_reducible repeat (first | apply Kd.R_alloc | apply Kd.R_drewN | apply Kd.R_drew)); exact HO_13.out) (Kd.R_typed HO_15.out) (by decide) hg); have n2_ := Aside0.mk (hp_); have n3_ := Aside0.mk (Kd.R_over' (v := (.slice (some ⟨go40, 0, none⟩) x15_2.length co40)) (by (with_reducible repeat (first | apply Kd.R_alloc | apply Kd.R_drewN | apply Kd.R_drew)); exact HO_16.out) (Kd.R_typed HO_15.out) (by decide) hg); have n4_ := Aside0.mk (Kd.R_over' (v := (.slice (some ⟨go40, 0, none⟩) x15_2.length co40)) (by (with_reducible repeat (first | apply Kd.R_alloc | apply Kd.R_drewN | apply Kd.R_drew)); exact HO_62.out) (Kd.R_typed HO_15.out) (by decide) hg); have n5_ := Aside0.mk (blk_grown (g := gb365) (o := .cells #[.int .i64 ((rd_T57 t352 x64_2).f0), .bool ((rd_T57 t352 x64_2).f1), .int .i64 ((rd_T57 t352 x64_2).f2)] 57 (0, 0)) (by (with_reducible repeat (first | refine blk_drewN ?_ _ | refine blk_drew ?_ | refine blk_alloc ?_ _)); exact BK365.out) hg (Kd.R_ne HO_15.out BK365.out (by decide))); have n6_ := Aside0.mk ((by rw [hw]; exact below_set (HB.out) GB40.out : Below w.heap.size w w50)); clear HO_10; clear HO_13; clear HO_15; clear HO_16; clear HO_62; clear BK365; clear HB; have HO_10 := n0_; have HO_13 := n1_; have HO_15 := n2_; have HO_16 := n3_; have HO_62 := n4_; have BK365 := n5_; have HB := n6_; clear n0_ n1_ n2_ n3_ n4_ n5_ n6_; clear hg hw hp_; have hcz51_0 : w50.cell? ⟨gb365, 0, none⟩ = some (.int .i64 ((rd_T57 t352 x64_2).f0)) := (blk_cell BK365.out 0).trans rfl; have hcz51_1 : w50.cell? ⟨gb365, 1, none⟩ = some (.bool ((rd_T57 t352 x64_2).f1)) := (blk_cell BK365.out 1).trans rfl; have hcz51_2 : w50.cell? ⟨gb365, 2, none⟩ = some (.int .i64 ((rd_T57 t352 x64_2).f2)) := (blk_cell BK365.out 2).trans rfl; have hfz51_0 := blk_frozen BK365.out 0; have hfz51_1 := blk_frozen BK365.out 1; have hfz51_2 := blk_frozen BK365.out 2))
                  repeat (go_quiet (fail); try go_wp2_with (first | ((with_reducible refine gate_store (t := 4) (p := 93) rfl ?_); (try (rw [drewN_self wc]; generalize hq_ : World.drewN wc _ = wc; have n0_ := Aside0.mk (Kd.R_at hq_ HO_10.out); have n1_ := Aside0.mk (Kd.R_at hq_ HO_13.out); have n2_ := Aside0.mk (Kd.R_at hq_ HO_15.out); have n3_ := Aside0.mk (Kd.R_at hq_ HO_16.out); have n4_ := Aside0.mk (Kd.R_at hq_ HO_62.out); have n5_ := Aside0.mk (blk_at hq_ BK365.out); have n6_ := Aside0.mk (below_at hq_ HB.out); clear hq_ HO_10 HO_13 HO_15 HO_16 HO_62 BK365 HB; have HO_10 := n0_; have HO_13 := n1_; have HO_15 := n2_; have HO_16 := n3_; have HO_62 := n4_; have BK365 := n5_; have HB := n6_; clear n0_ n1_ n2_ n3_ n4_ n5_ n6_; (try (have HP49 := Kd.R_putg HO_15.out (((rd_T57 t352 x64_2).f0) : Int) true)))); refine store_event (t := 4) (p := 93) (v := ?vo_w50) (w1 := (wc.setCell ⟨go40, (((rd_T57 t352 x64_2).f0) : Int).toNat, none⟩ (.bool true))) ?hg ?ho ?hn ?hr ?_; (case ho => rfl); (case hg => rfl); (case hn => rfl); (case hr => first | (go_simp; done) | (go_simp; rfl)); intro w50 hw; have hg : wc.grownBy w50 (some go40) := (by rw [hw]; exact HP49.2); have hp_ : Kd.R Kd.bool 4 w50 w.heap.size (fun _ => True) (.slice (some ⟨go40, 0, none⟩) x15_2.length co40) y366 := (by rw [hw, Ny366.out]; exact HP49.1); clear HP49; have n0_ := Aside0.mk (Kd.R_over' (v := (.slice (some ⟨go40, 0, none⟩) x15_2.length co40)) (by (with_reducible repeat (first | apply Kd.R_alloc | apply Kd.R_drewN | apply Kd.R_drew)); exact HO_10.out) (Kd.R_typed HO_15.out) (by decide) hg); have n1_ := Aside0.mk (Kd.R_over' (v := (.slice (some ⟨go40, 0, none⟩) x15_2.length co40)) (by (with_reducible repeat (first | apply Kd.R_alloc | apply Kd.R_drewN | apply Kd.R_drew)); exact HO_13.out) (Kd.R_typed HO_15.out) (by decide) hg); have n2_ := Aside0.mk (hp_); have n3_ := Aside0.mk (Kd.R_over' (v := (.slice (some ⟨go40, 0, none⟩) x15_2.length co40)) (by (with_reducible repeat (first | apply Kd.R_alloc | apply Kd.R_drewN | apply Kd.R_drew)); exact HO_16.out) (Kd.R_typed HO_15.out) (by decide) hg); have n4_ := Aside0.mk (Kd.R_over' (v := (.slice (some ⟨go40, 0, none⟩) x15_2.length co40)) (by (with_reducible repeat (first | apply Kd.R_alloc | apply Kd.R_drewN | apply Kd.R_drew)); exact HO_62.out) (Kd.R_typed HO_15.out) (by decide) hg); have n5_ := Aside0.mk (blk_grown (g := gb365) (o := .cells #[.int .i64 ((rd_T57 t352 x64_2).f0), .bool ((rd_T57 t352 x64_2).f1), .int .i64 ((rd_T57 t352 x64_2).f2)] 57 (0, 0)) (by (with_reducible repeat (first | refine blk_drewN ?_ _ | refine blk_drew ?_ | refine blk_alloc ?_ _)); exact BK365.out) hg (Kd.R_ne HO_15.out BK365.out (by decide))); have n6_ := Aside0.mk ((by rw [hw]; exact below_set (HB.out) GB40.out : Below w.heap.size w w50)); clear HO_10; clear HO_13; clear HO_15; clear HO_16; clear HO_62; clear BK365; clear HB; have HO_10 := n0_; have HO_13 := n1_; have HO_15 := n2_; have HO_16 := n3_; have HO_62 := n4_; have BK365 := n5_; have HB := n6_; clear n0_ n1_ n2_ n3_ n4_ n5_ n6_; clear hg hw hp_; have hcz51_0 : w50.cell? ⟨gb365, 0, none⟩ = some (.int .i64 ((rd_T57 t352 x64_2).f0)) := (blk_cell BK365.out 0).trans rfl; have hcz51_1 : w50.cell? ⟨gb365, 1, none⟩ = some (.bool ((rd_T57 t352 x64_2).f1)) := (blk_cell BK365.out 1).trans rfl; have hcz51_2 : w50.cell? ⟨gb365, 2, none⟩ = some (.int .i64 ((rd_T57 t352 x64_2).f2)) := (blk_cell BK365.out 2).trans rfl; have hfz51_0 := blk_frozen BK365.out 0; have hfz51_1 := blk_frozen BK365.out 1; have hfz51_2 := blk_frozen BK365.out 2)))
                  go_roundg kj26
                  case measure => have := HJ9.out; have := HK2.out; have := HJ26.out; omega
                  case rel => exact ⟨(y366), (x16_2), (wrap64 (x64_2 + 1)), (by first | rfl | (simp; done) | (simp [*]; done)), H', ⟨by have := HJ9.out; have := HK2.out; have := HJ26.out; omega⟩, ⟨by (with_reducible repeat (first | apply Kd.R_alloc | apply Kd.R_drewN | apply Kd.R_drew)); exact Kd.R_mono HO_10.out (fun _ hk => hk.1)⟩, ⟨by (with_reducible repeat (first | apply Kd.R_alloc | apply Kd.R_drewN | apply Kd.R_drew)); exact HO_13.out⟩, ⟨by (with_reducible repeat (first | apply Kd.R_alloc | apply Kd.R_drewN | apply Kd.R_drew)); exact HO_15.out⟩, ⟨by (with_reducible repeat (first | apply Kd.R_alloc | apply Kd.R_drewN | apply Kd.R_drew)); exact Kd.R_mono HO_16.out (fun _ hk => ⟨hk.1, hk.2.1⟩)⟩, ⟨by (with_reducible repeat (first | apply Kd.R_alloc | apply Kd.R_drewN | apply Kd.R_drew)); exact Kd.R_mono HO_62.out (fun _ hk => hk.1)⟩, ⟨by repeat (first | (with_reducible first | exact HB.out | apply below_alloc | apply pw_below_drewN | apply below_drew1 | refine below_set ?_ GE365.out) | exact HB.out)⟩⟩
                ·rw [if_neg c39] at H
                 exact absurd H (by simp)
               ·rw [if_neg c38] at H
                exact absurd H (by simp)
           ·rw [if_neg c26] at H
            exact absurd H (by simp)
          ·rw [if_neg c25] at H
           exact absurd H (by simp)
         ·as_aux_lemma =>
          rw [if_neg c24] at H
          have c24b0 : decide (x64_2 < (t352.length : Int)) = false := decide_eq_false c24
          clear c24
          have H' := Aside0.mk H
          clear H
          obtain ⟨Ao52, co52, eo52⟩ := Kd.R_slice HO_13.out
          subst eo52
          go_wp2
          repeat (go_quiet (fail); try go_wp2)
          go_loopg [103] k2 (fun kq v103 w' => ∃ (x103_3 : Int), v103 = .int .i64 x103_3 ∧ Aside0 (pMin.l1 kq l0 l1 a2 a3 t350 t352 t357 x15_2 x16_2 t357 (t357.length : Int) x103_3 = some r) ∧ Aside0 (kq ≤ k2) ∧ Aside0 (Kd.R k57 57 w' w.heap.size (fun k_ => some k_ ≠ (u16 : Value).ownBlock) (.slice Ao14 t352.length co14) t352) ∧ Aside0 (Kd.R (Kd.int .i64) 3 w' w.heap.size (fun _ => True) (.slice Ao52 t357.length co52) t357) ∧ Aside0 (Kd.R Kd.bool 4 w' w.heap.size (fun _ => True) v362 x15_2) ∧ Aside0 (Kd.R k57 57 w' w.heap.size (fun k_ => some k_ ≠ ((.slice Ao14 t352.length co14) : Value).ownBlock) u16 x16_2) ∧ Aside0 (Kd.R (Kd.int .i64) 3 w' w.heap.size (fun _ => True) (.slice Ao52 t357.length co52) t357) ∧ Aside0 (Below w.heap.size w w'))
          case atStart => exact ⟨(0), (by first | rfl | (simp; done) | (simp [*]; done)), H', ⟨Nat.le_refl _⟩, ⟨by (with_reducible repeat (first | apply Kd.R_alloc | apply Kd.R_drewN | apply Kd.R_drew)); exact HO_10.out⟩, ⟨by (with_reducible repeat (first | apply Kd.R_alloc | apply Kd.R_drewN | apply Kd.R_drew)); exact HO_13.out⟩, ⟨by (with_reducible repeat (first | apply Kd.R_alloc | apply Kd.R_drewN | apply Kd.R_drew)); exact HO_15.out⟩, ⟨by (with_reducible repeat (first | apply Kd.R_alloc | apply Kd.R_drewN | apply Kd.R_drew)); exact Kd.R_mono HO_16.out (fun _ hk => hk.1)⟩, ⟨by (with_reducible repeat (first | apply Kd.R_alloc | apply Kd.R_drewN | apply Kd.R_drew)); exact HO_13.out⟩, ⟨by repeat (first | (with_reducible first | exact HB.out | apply below_alloc | apply pw_below_drewN | apply below_drew1) | exact HB.out)⟩⟩
          case round =>
           clear H'
           try clear c1
           try clear c2
           try clear p2
           try clear c3
           try clear p3
           try clear q3
           try clear hx3
           try clear c4
           try clear p4
           try clear q4
           try clear hx4
           try clear hf4
           try clear p6
           try clear c7
           try clear c10
           try clear c16
           try clear c16b0
           try clear c16b1
           try clear c17
           try clear c17b0
           try clear c17b1
           try clear c19
           try clear c20
           try clear c20b0
           try clear c20b1
           try clear c21
           try clear c21b0
           try clear c21b1
           try clear c24
           try clear c24b0
           try clear c25
           try clear c25b0
           try clear c26
           try clear c26b0
           try clear c30
           try clear c30b0
           try clear c32
           try clear c32b0
           try clear c34
           try clear c34b0
           try clear p36
           try clear q36
           try clear hx36
           try clear c37
           try clear c38
           try clear c38b0
           try clear c39
           try clear c39b0
           try clear p40
           try clear q40
           try clear hx40
           try clear hf40
           try clear c41
           try clear c41b0
           try clear c42
           try clear hcz29_0
           try clear hcz29_1
           try clear hcz29_2
           try clear hcz31_0
           try clear hcz31_1
           try clear hcz31_2
           try clear hcz33_0
           try clear hcz33_1
           try clear hcz33_2
           try clear hcz35_0
           try clear hcz35_1
           try clear hcz35_2
           try clear hcz36_0
           try clear hcz36_1
           try clear hcz36_2
           try clear hcz43_0
           try clear hcz43_1
           try clear hcz43_2
           try clear hcz46_0
           try clear hcz46_1
           try clear hcz46_2
           try clear hcz48_0
           try clear hcz48_1
           try clear hcz48_2
           try clear hcz51_0
           try clear hcz51_1
           try clear hcz51_2
           try clear hfz29_0
           try clear hfz29_1
           try clear hfz29_2
           try clear hfz31_0
           try clear hfz31_1
           try clear hfz31_2
           try clear hfz33_0
           try clear hfz33_1
           try clear hfz33_2
           try clear hfz35_0
           try clear hfz35_1
           try clear hfz35_2
           try clear hfz36_0
           try clear hfz36_1
           try clear hfz36_2
           try clear hfz43_0
           try clear hfz43_1
           try clear hfz43_2
           try clear hfz46_0
           try clear hfz46_1
           try clear hfz46_2
           try clear hfz48_0
           try clear hfz48_1
           try clear hfz48_2
           try clear hfz51_0
           try clear hfz51_1
           try clear hfz51_2
           try clear hx364_0
           try clear hx364_1
           try clear hx364_2
           try clear hx40_0
           try clear p2
           try clear p3
           try clear p36
           try clear p364
           try clear p40
           try clear q3
           try clear q36
           try clear q364
           try clear q40
           obtain ⟨x103_3, rfl, HA, HK3, HO_10, HO_13, HO_15, HO_16, HO_101, HB⟩ := hrel
           cases gk with
           | zero => exact absurd HA.out (by simp [pMin.l1])
           | succ k3 =>
            have H := HA.out
            clear HA
            simp only [pMin.l1] at H
            by_cases c53 : x103_3 < (t357.length : Int)
            ·as_aux_lemma =>
             rw [if_pos c53] at H
             have c53b0 : decide (x103_3 < (t357.length : Int)) = true := decide_eq_true c53
             clear c53
             by_cases c54 : 0 ≤ x103_3
             ·rw [if_pos c54] at H
              have c54b0 : decide (0 ≤ x103_3) = true := decide_eq_true c54
              clear c54
              by_cases c55 : x103_3 < (t357.length : Int)
              ·rw [if_pos c55] at H
               have c55b0 : decide (x103_3 < (t357.length : Int)) = true := decide_eq_true c55
               clear c55
               by_cases c56 : (rd t357 x103_3) < 0
               ·rw [if_pos c56] at H
                have c56b0 : decide ((rd t357 x103_3) < 0) = true := decide_eq_true c56
                clear c56
                exact absurd ((Option.some.inj H).trans PR.out) (by decide)
               ·rw [if_neg c56] at H
                have c56b0 : decide ((rd t357 x103_3) < 0) = false := decide_eq_false c56
                clear c56
                by_cases c57 : x103_3 < (x15_2.length : Int)
                ·rw [if_pos c57] at H
                 have c57b0 : decide (x103_3 < (x15_2.length : Int)) = true := decide_eq_true c57
                 clear c57
                 obtain ⟨bq58, hbq58⟩ : ∃ b_ : Bool, b_ = (rdOf false x15_2 x103_3) := ⟨_, rfl⟩
                 replace H : (if bq58 = true then (pMin.l1 k3 l0 l1 a2 a3 t350 t352 t357 x15_2 x16_2 t357 (t357.length : Int) (wrap64 (x103_3 + 1))) else (if (rd t357 x103_3) = 0 then (pMin.l1 k3 l0 l1 a2 a3 t350 t352 t357 x15_2 x16_2 t357 (t357.length : Int) (wrap64 (x103_3 + 1))) else (some false))) = some r := by rw [← hbq58] at H; exact H
                 have Nbq58 := Aside0.mk hbq58
                 clear hbq58
                 by_cases c59 : bq58 = true
                 ·subst c59
                  have H1 : (pMin.l1 k3 l0 l1 a2 a3 t350 t352 t357 x15_2 x16_2 t357 (t357.length : Int) (wrap64 (x103_3 + 1))) = some r := by rw [if_pos rfl] at H; exact H
                  clear H
                  have H := H1
                  clear H1
                  have H' := Aside0.mk H
                  clear H
                  have p370 : 0 ≤ (x103_3 : Int) := of_decide_eq_true (by first | (with_reducible assumption) | assumption)
                  have q370 : x103_3 < (t357.length : Int) := of_decide_eq_true (by first | (with_reducible assumption) | assumption)
                  obtain ⟨ad370, e370, hx370_0⟩ := Kd.at_int (Kd.R_reads' HO_101.out).2.2 x103_3 p370 q370
                  cases e370
                  replace p370 := eq_true p370
                  replace q370 := eq_true q370
                  obtain ⟨Ao60, co60, eo60⟩ := Kd.R_slice HO_15.out
                  subst eo60
                  have p371 : 0 ≤ (x103_3 : Int) := of_decide_eq_true (by first | (with_reducible assumption) | assumption)
                  have q371 : x103_3 < (x15_2.length : Int) := of_decide_eq_true (by first | (with_reducible assumption) | assumption)
                  obtain ⟨ad371, e371, hx371_0⟩ := Kd.at_bool (Kd.R_reads' HO_15.out).2.2 x103_3 p371 q371
                  (try rw [← Nbq58.out] at hx371_0)
                  cases e371
                  replace p371 := eq_true p371
                  replace q371 := eq_true q371
                  go_wp2
                  repeat (go_quiet (fail); try go_wp2)
                  go_roundg k3
                  case measure => have := HJ9.out; have := HK2.out; have := HK3.out; omega
                  case rel => exact ⟨(wrap64 (x103_3 + 1)), (by first | rfl | (simp; done) | (simp [*]; done)), H', ⟨by have := HJ9.out; have := HK2.out; have := HK3.out; omega⟩, ⟨by (with_reducible repeat (first | apply Kd.R_alloc | apply Kd.R_drewN | apply Kd.R_drew)); exact HO_10.out⟩, ⟨by (with_reducible repeat (first | apply Kd.R_alloc | apply Kd.R_drewN | apply Kd.R_drew)); exact HO_13.out⟩, ⟨by (with_reducible repeat (first | apply Kd.R_alloc | apply Kd.R_drewN | apply Kd.R_drew)); exact HO_15.out⟩, ⟨by (with_reducible repeat (first | apply Kd.R_alloc | apply Kd.R_drewN | apply Kd.R_drew)); exact HO_16.out⟩, ⟨by (with_reducible repeat (first | apply Kd.R_alloc | apply Kd.R_drewN | apply Kd.R_drew)); exact HO_101.out⟩, ⟨by repeat (first | (with_reducible first | exact HB.out | apply below_alloc | apply pw_below_drewN | apply below_drew1) | exact HB.out)⟩⟩
                 ·replace c59 := Bool.eq_false_iff.mpr c59
                  subst c59
                  have H1 : (if (rd t357 x103_3) = 0 then (pMin.l1 k3 l0 l1 a2 a3 t350 t352 t357 x15_2 x16_2 t357 (t357.length : Int) (wrap64 (x103_3 + 1))) else (some false)) = some r := by rw [if_neg (show ¬ (false = true) by decide)] at H; exact H
                  clear H
                  have H := H1
                  clear H1
                  by_cases c61 : (rd t357 x103_3) = 0
                  ·rw [if_pos c61] at H
                   have c61b0 : ((rd t357 x103_3) == 0) = true := beq_iff_eq.mpr c61
                   have c61b1 : ((rd t357 x103_3) != 0) = false := bne_eq_false_iff_eq.mpr c61
                   clear c61
                   have H' := Aside0.mk H
                   clear H
                   have p370 : 0 ≤ (x103_3 : Int) := of_decide_eq_true (by first | (with_reducible assumption) | assumption)
                   have q370 : x103_3 < (t357.length : Int) := of_decide_eq_true (by first | (with_reducible assumption) | assumption)
                   obtain ⟨ad370, e370, hx370_0⟩ := Kd.at_int (Kd.R_reads' HO_101.out).2.2 x103_3 p370 q370
                   cases e370
                   replace p370 := eq_true p370
                   replace q370 := eq_true q370
                   obtain ⟨Ao62, co62, eo62⟩ := Kd.R_slice HO_15.out
                   subst eo62
                   have p371 : 0 ≤ (x103_3 : Int) := of_decide_eq_true (by first | (with_reducible assumption) | assumption)
                   have q371 : x103_3 < (x15_2.length : Int) := of_decide_eq_true (by first | (with_reducible assumption) | assumption)
                   obtain ⟨ad371, e371, hx371_0⟩ := Kd.at_bool (Kd.R_reads' HO_15.out).2.2 x103_3 p371 q371
                   (try rw [← Nbq58.out] at hx371_0)
                   cases e371
                   replace p371 := eq_true p371
                   replace q371 := eq_true q371
                   go_wp2
                   repeat (go_quiet (fail); try go_wp2)
                   go_roundg k3
                   case measure => have := HJ9.out; have := HK2.out; have := HK3.out; omega
                   case rel => exact ⟨(wrap64 (x103_3 + 1)), (by first | rfl | (simp; done) | (simp [*]; done)), H', ⟨by have := HJ9.out; have := HK2.out; have := HK3.out; omega⟩, ⟨by (with_reducible repeat (first | apply Kd.R_alloc | apply Kd.R_drewN | apply Kd.R_drew)); exact HO_10.out⟩, ⟨by (with_reducible repeat (first | apply Kd.R_alloc | apply Kd.R_drewN | apply Kd.R_drew)); exact HO_13.out⟩, ⟨by (with_reducible repeat (first | apply Kd.R_alloc | apply Kd.R_drewN | apply Kd.R_drew)); exact HO_15.out⟩, ⟨by (with_reducible repeat (first | apply Kd.R_alloc | apply Kd.R_drewN | apply Kd.R_drew)); exact HO_16.out⟩, ⟨by (with_reducible repeat (first | apply Kd.R_alloc | apply Kd.R_drewN | apply Kd.R_drew)); exact HO_101.out⟩, ⟨by repeat (first | (with_reducible first | exact HB.out | apply below_alloc | apply pw_below_drewN | apply below_drew1) | exact HB.out)⟩⟩
                  ·rw [if_neg c61] at H
                   have c61b0 : ((rd t357 x103_3) == 0) = false := beq_eq_false_iff_ne.mpr c61
                   have c61b1 : ((rd t357 x103_3) != 0) = true := bne_iff_ne.mpr c61
                   exact absurd ((Option.some.inj H).trans PR.out) (by decide)
                ·rw [if_neg c57] at H
                 exact absurd H (by simp)
              ·rw [if_neg c55] at H
               exact absurd H (by simp)
             ·rw [if_neg c54] at H
              exact absurd H (by simp)
            ·as_aux_lemma =>
             rw [if_neg c53] at H
             have c53b0 : decide (x103_3 < (t357.length : Int)) = false := decide_eq_false c53
             clear c53
             by_cases c63 : (x16_2.length : Int) = 0
             ·rw [if_pos c63] at H
              have c63b0 : ((x16_2.length : Int) == 0) = true := beq_iff_eq.mpr c63
              have c63b1 : ((x16_2.length : Int) != 0) = false := bne_eq_false_iff_eq.mpr c63
              clear c63
              obtain rfl := Option.some.inj H
              obtain ⟨Ao64, co64, eo64⟩ := Kd.R_slice HO_16.out
              subst eo64
              go_wp2
              repeat (go_quiet (fail); try go_wp2)
              go_ret
              exact ⟨by first | rfl | (simp [errW_none, errW_some] <;> rfl) | (simp [*, errW_none, errW_some] <;> rfl), by repeat (first | (with_reducible first | exact HB.out | apply below_alloc | apply pw_below_drewN | apply below_drew1) | exact HB.out)⟩
             ·rw [if_neg c63] at H
              have c63b0 : ((x16_2.length : Int) == 0) = false := beq_eq_false_iff_ne.mpr c63
              have c63b1 : ((x16_2.length : Int) != 0) = true := bne_iff_ne.mpr c63
              have c63b2 : ¬ (x16_2 = []) := fun h_ => c63 (by rw [h_]; rfl)
              obtain ⟨ji65, hji65⟩ : ∃ j_ : Int, (Int.tmod (wrap64 (a2)) (x16_2.length : Int)) = j_ := ⟨_, rfl⟩
              replace H : (if 0 ≤ (ji65) then (if (ji65) < (x16_2.length : Int) then ((some (([] : List (S45)) : List (S45))).bind fun y374 => (if y374.length + l1.length < 8796093022208 then ((some (y374 ++ l1 : List (S45))).bind fun y377 => (if 0 ≤ ((rd_T57 x16_2 (ji65)).f2) then (if ((rd_T57 x16_2 (ji65)).f2) < (y377.length : Int) then ((some (y377.set (((rd_T57 x16_2 (ji65)).f2) : Int).toNat (⟨wrap64 (((rd_T45 y377 ((rd_T57 x16_2 (ji65)).f2)).f0) - (wrap64 (a3))), (rd_T45 y377 ((rd_T57 x16_2 (ji65)).f2)).f1⟩ : S45) : List (S45))).bind fun y381 => ((wageofficelaw22_usable.f k3 l0 y381).bind fun t382 => (if t382 = true then ((punches_Worked.f l0 y381 t352).bind fun bt383 => (if bt383.2 = 0 then (pMin.j4 k3 a3 t350 t357 bt383.1 ((bt383.1.length : Int) != (t357.length : Int)) ((rd_T57 x16_2 (ji65)).f0) ((rd_T57 x16_2 (ji65)).f1) ((rd_T57 x16_2 (ji65)).f2)) else (pMin.j4 k3 a3 t350 t357 bt383.1 true ((rd_T57 x16_2 (ji65)).f0) ((rd_T57 x16_2 (ji65)).f1) ((rd_T57 x16_2 (ji65)).f2)))) else (some t350)))) else (none)) else (none))) else (none))) else (none)) else (none)) = some r := by first | (rw [hji65] at H; exact H) | (simp only [hji65] at H ⊢; exact H)
              by_cases c66 : 0 ≤ (ji65)
              ·rw [if_pos c66] at H
               have c66b0 : decide (0 ≤ (ji65)) = true := decide_eq_true c66
               clear c66
               by_cases c67 : (ji65) < (x16_2.length : Int)
               ·rw [if_pos c67] at H
                have c67b0 : decide ((ji65) < (x16_2.length : Int)) = true := decide_eq_true c67
                clear c67
                obtain ⟨y374, hy374⟩ : ∃ y_ : List (S45), y_ = (([] : List (S45))) := ⟨_, rfl⟩
                replace H : (if y374.length + l1.length < 8796093022208 then ((some (y374 ++ l1 : List (S45))).bind fun y377 => (if 0 ≤ ((rd_T57 x16_2 (ji65)).f2) then (if ((rd_T57 x16_2 (ji65)).f2) < (y377.length : Int) then ((some (y377.set (((rd_T57 x16_2 (ji65)).f2) : Int).toNat (⟨wrap64 (((rd_T45 y377 ((rd_T57 x16_2 (ji65)).f2)).f0) - (wrap64 (a3))), (rd_T45 y377 ((rd_T57 x16_2 (ji65)).f2)).f1⟩ : S45) : List (S45))).bind fun y381 => ((wageofficelaw22_usable.f k3 l0 y381).bind fun t382 => (if t382 = true then ((punches_Worked.f l0 y381 t352).bind fun bt383 => (if bt383.2 = 0 then (pMin.j4 k3 a3 t350 t357 bt383.1 ((bt383.1.length : Int) != (t357.length : Int)) ((rd_T57 x16_2 (ji65)).f0) ((rd_T57 x16_2 (ji65)).f1) ((rd_T57 x16_2 (ji65)).f2)) else (pMin.j4 k3 a3 t350 t357 bt383.1 true ((rd_T57 x16_2 (ji65)).f0) ((rd_T57 x16_2 (ji65)).f1) ((rd_T57 x16_2 (ji65)).f2)))) else (some t350)))) else (none)) else (none))) else (none)) = some r := by first | (rw [hy374]; with_reducible exact H) | (have H2_ := (Option.bind_some _ _).symm.trans H; rw [hy374]; with_reducible exact H2_) | (have H2_ := (Option.bind_some _ _).symm.trans H; with_reducible exact H2_) | with_reducible exact H | (rw [hy374]; exact H) | exact H
                have Ny374 := Aside0.mk hy374
                clear hy374
                by_cases c68 : y374.length + l1.length < 8796093022208
                ·rw [if_pos c68] at H
                 have LMc68 := Aside0.mk c68
                 clear c68
                 obtain ⟨y377, hy377⟩ : ∃ y_ : List (S45), y_ = (y374 ++ l1) := ⟨_, rfl⟩
                 replace H : (if 0 ≤ ((rd_T57 x16_2 (ji65)).f2) then (if ((rd_T57 x16_2 (ji65)).f2) < (y377.length : Int) then ((some (y377.set (((rd_T57 x16_2 (ji65)).f2) : Int).toNat (⟨wrap64 (((rd_T45 y377 ((rd_T57 x16_2 (ji65)).f2)).f0) - (wrap64 (a3))), (rd_T45 y377 ((rd_T57 x16_2 (ji65)).f2)).f1⟩ : S45) : List (S45))).bind fun y381 => ((wageofficelaw22_usable.f k3 l0 y381).bind fun t382 => (if t382 = true then ((punches_Worked.f l0 y381 t352).bind fun bt383 => (if bt383.2 = 0 then (pMin.j4 k3 a3 t350 t357 bt383.1 ((bt383.1.length : Int) != (t357.length : Int)) ((rd_T57 x16_2 (ji65)).f0) ((rd_T57 x16_2 (ji65)).f1) ((rd_T57 x16_2 (ji65)).f2)) else (pMin.j4 k3 a3 t350 t357 bt383.1 true ((rd_T57 x16_2 (ji65)).f0) ((rd_T57 x16_2 (ji65)).f1) ((rd_T57 x16_2 (ji65)).f2)))) else (some t350)))) else (none)) else (none)) = some r := by first | (rw [hy377]; with_reducible exact H) | (have H2_ := (Option.bind_some _ _).symm.trans H; rw [hy377]; with_reducible exact H2_) | (have H2_ := (Option.bind_some _ _).symm.trans H; with_reducible exact H2_) | with_reducible exact H | (rw [hy377]; exact H) | exact H
                 have Ny377 := Aside0.mk hy377
                 clear hy377
                 by_cases c69 : 0 ≤ ((rd_T57 x16_2 (ji65)).f2)
                 ·rw [if_pos c69] at H
                  have c69b0 : decide (0 ≤ ((rd_T57 x16_2 (ji65)).f2)) = true := decide_eq_true c69
                  clear c69
                  by_cases c70 : ((rd_T57 x16_2 (ji65)).f2) < (y377.length : Int)
                  ·rw [if_pos c70] at H
                   have c70b0 : decide (((rd_T57 x16_2 (ji65)).f2) < (y377.length : Int)) = true := decide_eq_true c70
                   clear c70
                   obtain ⟨y381, hy381⟩ : ∃ y_ : List (S45), y_ = (y377.set (((rd_T57 x16_2 (ji65)).f2) : Int).toNat (⟨wrap64 (((rd_T45 y377 ((rd_T57 x16_2 (ji65)).f2)).f0) - (wrap64 (a3))), (rd_T45 y377 ((rd_T57 x16_2 (ji65)).f2)).f1⟩ : S45)) := ⟨_, rfl⟩
                   replace H : ((wageofficelaw22_usable.f k3 l0 y381).bind fun t382 => (if t382 = true then ((punches_Worked.f l0 y381 t352).bind fun bt383 => (if bt383.2 = 0 then (pMin.j4 k3 a3 t350 t357 bt383.1 ((bt383.1.length : Int) != (t357.length : Int)) ((rd_T57 x16_2 (ji65)).f0) ((rd_T57 x16_2 (ji65)).f1) ((rd_T57 x16_2 (ji65)).f2)) else (pMin.j4 k3 a3 t350 t357 bt383.1 true ((rd_T57 x16_2 (ji65)).f0) ((rd_T57 x16_2 (ji65)).f1) ((rd_T57 x16_2 (ji65)).f2)))) else (some t350))) = some r := by first | (rw [hy381]; with_reducible exact H) | (have H2_ := (Option.bind_some _ _).symm.trans H; rw [hy381]; with_reducible exact H2_) | (have H2_ := (Option.bind_some _ _).symm.trans H; with_reducible exact H2_) | with_reducible exact H | (rw [hy381]; exact H) | exact H
                   have Ny381 := Aside0.mk hy381
                   clear hy381
                   replace H := Option.bind_eq_some_iff.mp H
                   obtain ⟨t382, A720, H⟩ := H
                   replace H : (if t382 = true then ((punches_Worked.f l0 y381 t352).bind fun bt383 => (if bt383.2 = 0 then (pMin.j4 k3 a3 t350 t357 bt383.1 ((bt383.1.length : Int) != (t357.length : Int)) ((rd_T57 x16_2 (ji65)).f0) ((rd_T57 x16_2 (ji65)).f1) ((rd_T57 x16_2 (ji65)).f2)) else (pMin.j4 k3 a3 t350 t357 bt383.1 true ((rd_T57 x16_2 (ji65)).f0) ((rd_T57 x16_2 (ji65)).f1) ((rd_T57 x16_2 (ji65)).f2)))) else (some t350)) = some r := H
                   have A72 := Aside0.mk A720
                   clear A720
                   by_cases c73 : t382 = true
                   ·as_aux_lemma =>
                    subst c73
                    have H1 : ((punches_Worked.f l0 y381 t352).bind fun bt383 => (if bt383.2 = 0 then (pMin.j4 k3 a3 t350 t357 bt383.1 ((bt383.1.length : Int) != (t357.length : Int)) ((rd_T57 x16_2 (ji65)).f0) ((rd_T57 x16_2 (ji65)).f1) ((rd_T57 x16_2 (ji65)).f2)) else (pMin.j4 k3 a3 t350 t357 bt383.1 true ((rd_T57 x16_2 (ji65)).f0) ((rd_T57 x16_2 (ji65)).f1) ((rd_T57 x16_2 (ji65)).f2)))) = some r := by rw [if_pos rfl] at H; exact H
                    clear H
                    have H := H1
                    clear H1
                    replace H := Option.bind_eq_some_iff.mp H
                    obtain ⟨⟨t383, t384⟩, A740, H⟩ := H
                    replace H : (if t384 = 0 then (pMin.j4 k3 a3 t350 t357 t383 ((t383.length : Int) != (t357.length : Int)) ((rd_T57 x16_2 (ji65)).f0) ((rd_T57 x16_2 (ji65)).f1) ((rd_T57 x16_2 (ji65)).f2)) else (pMin.j4 k3 a3 t350 t357 t383 true ((rd_T57 x16_2 (ji65)).f0) ((rd_T57 x16_2 (ji65)).f1) ((rd_T57 x16_2 (ji65)).f2))) = some r := H
                    have A74 := Aside0.mk A740
                    clear A740
                    have HC75 := Aside0.mk H
                    clear H
                    obtain ⟨Ao76, co76, eo76⟩ := Kd.R_slice HO_16.out
                    subst eo76
                    have p372 : 0 ≤ ((ji65) : Int) := of_decide_eq_true (by first | (with_reducible assumption) | assumption)
                    have q372 : (ji65) < (x16_2.length : Int) := of_decide_eq_true (by first | (with_reducible assumption) | assumption)
                    obtain ⟨ad372, e372, hx372_0, hx372_1, hx372_2⟩ := at_T57 (Kd.R_reads' HO_16.out).2.2 (ji65) p372 q372
                    cases e372
                    replace p372 := eq_true p372
                    replace q372 := eq_true q372
                    go_upto_region 32 with (first | ((with_reducible refine gate_dst (N := 21) rfl ?_); (try (refine gate_guard (by rfl) ?_; dsimp only)); refine box_event ?hg (N := 21) ?hd (cs := #[.int .i64 0, .bool false, .int .i64 0]) (t := 57) ?hr ?_; (case hd => rfl); (case hg => rfl); (case hr => first | (go_simp; done) | (go_simp; rfl)); intro gb373 hg w77 hbox hb; have n0_ := Aside0.mk (Kd.R_below (Kd.R_elderB (by (with_reducible repeat (first | apply Kd.R_alloc | apply Kd.R_drewN | apply Kd.R_drew)); exact HO_10.out) gb373 (Nat.le_of_eq hg.symm)) hb); have n1_ := Aside0.mk (Kd.R_below (by (with_reducible repeat (first | apply Kd.R_alloc | apply Kd.R_drewN | apply Kd.R_drew)); exact HO_13.out) hb); have n2_ := Aside0.mk (Kd.R_below (by (with_reducible repeat (first | apply Kd.R_alloc | apply Kd.R_drewN | apply Kd.R_drew)); exact HO_15.out) hb); have n3_ := Aside0.mk (Kd.R_below (Kd.R_elderB (by (with_reducible repeat (first | apply Kd.R_alloc | apply Kd.R_drewN | apply Kd.R_drew)); exact HO_16.out) gb373 (Nat.le_of_eq hg.symm)) hb); have n4_ := Aside0.mk (Kd.R_below (by (with_reducible repeat (first | apply Kd.R_alloc | apply Kd.R_drewN | apply Kd.R_drew)); exact HO_101.out) hb); have n5_ := Aside0.mk (below_step (by repeat (first | (with_reducible first | exact HB.out | apply below_alloc | apply pw_below_drewN | apply below_drew1) | exact HB.out)) hb); have n6_ := Aside0.mk (hbox); have n7_ := Aside0.mk ((by rw [hg]; exact (below_size (by repeat (first | (with_reducible first | exact HB.out | apply below_alloc | apply pw_below_drewN | apply below_drew1) | exact HB.out))) : w.heap.size ≤ gb373)); have n8_ := Aside0.mk ((by rw [hg]; exact (below_size (by repeat (first | (with_reducible first | exact HB.out | apply below_alloc | apply pw_below_drewN | apply below_drew1) | exact HB.out))) : w.heap.size ≤ gb373)); clear HO_10; clear HO_13; clear HO_15; clear HO_16; clear HO_101; clear HB; have HO_10 := n0_; have HO_13 := n1_; have HO_15 := n2_; have HO_16 := n3_; have HO_101 := n4_; have HB := n5_; have BK373 := n6_; have GW373 := n7_; have GE373 := n8_; clear n0_ n1_ n2_ n3_ n4_ n5_ n6_ n7_ n8_; clear hb hbox hg; have hcz78_0 : w77.cell? ⟨gb373, 0, none⟩ = some (.int .i64 0) := (blk_cell BK373.out 0).trans rfl; have hcz78_1 : w77.cell? ⟨gb373, 1, none⟩ = some (.bool false) := (blk_cell BK373.out 1).trans rfl; have hcz78_2 : w77.cell? ⟨gb373, 2, none⟩ = some (.int .i64 0) := (blk_cell BK373.out 2).trans rfl; have hfz78_0 := blk_frozen BK373.out 0; have hfz78_1 := blk_frozen BK373.out 1; have hfz78_2 := blk_frozen BK373.out 2) | ((with_reducible refine gate_dst (N := 134) rfl ?_); (try (refine gate_guard (by rfl) ?_; dsimp only)); refine Kd.R_lit k45 _ 45 ?hg (N := 134) ?hd (xs := ([] : List (S45))) (inner := []) (ok := fun _ => True) (okp := fun _ => True) ?hr ?hp (fun _ hk => hk) trivial (Below.refl _ _) (Nat.le_refl _) (by simp) ?_; (case hd => rfl); (case hg => rfl); (case hr => first | (go_simp; done) | (go_simp; rfl)); (case hp => exact (Reps.none _ _)); intro v375 w79 ho80 hb hg_ hnew_; clear hg_ hnew_; (first | rw [← Ny374.out] at ho80 | (simp only [Int.reduceToNat] at ho80; rw [← Ny374.out] at ho80)); have n0_ := Aside0.mk (Kd.R_below (by (with_reducible repeat (first | apply Kd.R_alloc | apply Kd.R_drewN | apply Kd.R_drew)); exact (Kd.R_mono (Kd.R_far (p := ⟨gb373, 2, none⟩) (Kd.R_far (p := ⟨gb373, 1, none⟩) (Kd.R_far (p := ⟨gb373, 0, none⟩) (Kd.R_mono HO_10.out (fun k_ hk => (⟨hk, hk.2⟩ : _ ∧ k_ ≠ gb373))) (fun _ hk => hk.2) (.int .i64 ((rd_T57 x16_2 (ji65)).f0))) (fun _ hk => hk.2) (.bool ((rd_T57 x16_2 (ji65)).f1))) (fun _ hk => hk.2) (.int .i64 ((rd_T57 x16_2 (ji65)).f2))) (fun _ h_ => h_.1))) hb); have n1_ := Aside0.mk (Kd.R_below (by (with_reducible repeat (first | apply Kd.R_alloc | apply Kd.R_drewN | apply Kd.R_drew)); exact (Kd.R_mono (Kd.R_far (p := ⟨gb373, 2, none⟩) (Kd.R_far (p := ⟨gb373, 1, none⟩) (Kd.R_far (p := ⟨gb373, 0, none⟩) (Kd.R_types HO_13.out BK373.out (by decide)) (fun _ hk => hk.2) (.int .i64 ((rd_T57 x16_2 (ji65)).f0))) (fun _ hk => hk.2) (.bool ((rd_T57 x16_2 (ji65)).f1))) (fun _ hk => hk.2) (.int .i64 ((rd_T57 x16_2 (ji65)).f2))) (fun _ h_ => h_.1))) hb); have n2_ := Aside0.mk (Kd.R_below (by (with_reducible repeat (first | apply Kd.R_alloc | apply Kd.R_drewN | apply Kd.R_drew)); exact (Kd.R_mono (Kd.R_far (p := ⟨gb373, 2, none⟩) (Kd.R_far (p := ⟨gb373, 1, none⟩) (Kd.R_far (p := ⟨gb373, 0, none⟩) (Kd.R_types HO_15.out BK373.out (by decide)) (fun _ hk => hk.2) (.int .i64 ((rd_T57 x16_2 (ji65)).f0))) (fun _ hk => hk.2) (.bool ((rd_T57 x16_2 (ji65)).f1))) (fun _ hk => hk.2) (.int .i64 ((rd_T57 x16_2 (ji65)).f2))) (fun _ h_ => h_.1))) hb); have n3_ := Aside0.mk (Kd.R_below (by (with_reducible repeat (first | apply Kd.R_alloc | apply Kd.R_drewN | apply Kd.R_drew)); exact (Kd.R_mono (Kd.R_far (p := ⟨gb373, 2, none⟩) (Kd.R_far (p := ⟨gb373, 1, none⟩) (Kd.R_far (p := ⟨gb373, 0, none⟩) (Kd.R_mono HO_16.out (fun k_ hk => (⟨hk, hk.2⟩ : _ ∧ k_ ≠ gb373))) (fun _ hk => hk.2) (.int .i64 ((rd_T57 x16_2 (ji65)).f0))) (fun _ hk => hk.2) (.bool ((rd_T57 x16_2 (ji65)).f1))) (fun _ hk => hk.2) (.int .i64 ((rd_T57 x16_2 (ji65)).f2))) (fun _ h_ => h_.1))) hb); have n4_ := Aside0.mk (Kd.R_below (by (with_reducible repeat (first | apply Kd.R_alloc | apply Kd.R_drewN | apply Kd.R_drew)); exact (Kd.R_mono (Kd.R_far (p := ⟨gb373, 2, none⟩) (Kd.R_far (p := ⟨gb373, 1, none⟩) (Kd.R_far (p := ⟨gb373, 0, none⟩) (Kd.R_types HO_101.out BK373.out (by decide)) (fun _ hk => hk.2) (.int .i64 ((rd_T57 x16_2 (ji65)).f0))) (fun _ hk => hk.2) (.bool ((rd_T57 x16_2 (ji65)).f1))) (fun _ hk => hk.2) (.int .i64 ((rd_T57 x16_2 (ji65)).f2))) (fun _ h_ => h_.1))) hb); have n5_ := Aside0.mk (Kd.R_lower ho80 (below_size (by repeat (first | (with_reducible first | exact HB.out | apply below_alloc | apply pw_below_drewN | apply below_drew1 | refine below_set ?_ GE373.out) | exact HB.out)))); have n6_ := Aside0.mk (blk_below (g := gb373) (o := .cells #[.int .i64 ((rd_T57 x16_2 (ji65)).f0), .bool ((rd_T57 x16_2 (ji65)).f1), .int .i64 ((rd_T57 x16_2 (ji65)).f2)] 57 (0, 0)) (by (with_reducible repeat (first | refine blk_drewN ?_ _ | refine blk_drew ?_ | refine blk_alloc ?_ _)); refine blk_put (cs := #[.int .i64 ((rd_T57 x16_2 (ji65)).f0), .bool ((rd_T57 x16_2 (ji65)).f1), .int .i64 0]) ?_ 2 _ rfl; (with_reducible repeat (first | refine blk_drewN ?_ _ | refine blk_drew ?_ | refine blk_alloc ?_ _)); refine blk_put (cs := #[.int .i64 ((rd_T57 x16_2 (ji65)).f0), .bool false, .int .i64 0]) ?_ 1 _ rfl; (with_reducible repeat (first | refine blk_drewN ?_ _ | refine blk_drew ?_ | refine blk_alloc ?_ _)); refine blk_put (cs := #[.int .i64 0, .bool false, .int .i64 0]) ?_ 0 _ rfl; (with_reducible repeat (first | refine blk_drewN ?_ _ | refine blk_drew ?_ | refine blk_alloc ?_ _)); exact BK373.out) hb); have n7_ := Aside0.mk (below_step (by repeat (first | (with_reducible first | exact HB.out | apply below_alloc | apply pw_below_drewN | apply below_drew1 | refine below_set ?_ GE373.out) | exact HB.out)) hb); clear HO_10; clear HO_13; clear HO_15; clear HO_16; clear HO_101; clear BK373; clear HB; have HO_10 := n0_; have HO_13 := n1_; have HO_15 := n2_; have HO_16 := n3_; have HO_101 := n4_; have HO376 := n5_; have BK373 := n6_; have HB := n7_; clear n0_ n1_ n2_ n3_ n4_ n5_ n6_ n7_; clear hb ho80) | ((with_reducible refine gate_builtin (b := .append) (xs := #[.tmp 134, .tmp 135]) rfl ?_); (try (refine gate_guard (by rfl) ?_; dsimp only)); at_builtin; refine Kd.R_append_rows k45 (w0 := w) w.heap.size rfl (.tmp 134) (.tmp 135) 23 45 (.agg #[(.int .i64 0), (.bool false)]) 16 rfl Try.underlying23 info45 rfl (by decide) (by omega) v375 y374 l1 _ _ _ (fun _ => True) (fun _ => False) rfl rfl ?aO ?aR (fun _ _ h => h) (fun _ h => h.elim) ?aF ?aB ?aS ?aL ?_; (case aR => repeat (first | exact (Kd.C_below HR1.out HB.out) | (with_reducible refine Kd.C_alloc ?_ _) | (with_reducible refine Kd.C_drewN ?_ _) | (with_reducible refine Kd.C_drew ?_))); (case aB => exact (by repeat (first | (with_reducible first | exact HB.out | apply below_alloc | apply pw_below_drewN | apply below_drew1 | refine below_set ?_ GE373.out) | exact HB.out))); (case aF => exact (fun _ _ => trivial)); (case aO => exact (by (with_reducible repeat (first | apply Kd.R_alloc | apply Kd.R_drewN | apply Kd.R_drew)); exact HO376.out)); (case aS => exact (below_size (by repeat (first | (with_reducible first | exact HB.out | apply below_alloc | apply pw_below_drewN | apply below_drew1 | refine below_set ?_ GE373.out) | exact HB.out)))); (case aL => have := LMc68.out; omega); intro v378 w81 ho hb hg hat; rw [← Ny377.out] at ho; have n0_ := Aside0.mk (Kd.R_over' (by (with_reducible repeat (first | apply Kd.R_alloc | apply Kd.R_drewN | apply Kd.R_drew)); exact HO_10.out) (Kd.R_typed (by (with_reducible repeat (first | apply Kd.R_alloc | apply Kd.R_drewN | apply Kd.R_drew)); exact HO376.out)) (by decide) hg); have n1_ := Aside0.mk (Kd.R_over' (by (with_reducible repeat (first | apply Kd.R_alloc | apply Kd.R_drewN | apply Kd.R_drew)); exact HO_13.out) (Kd.R_typed (by (with_reducible repeat (first | apply Kd.R_alloc | apply Kd.R_drewN | apply Kd.R_drew)); exact HO376.out)) (by decide) hg); have n2_ := Aside0.mk (Kd.R_over' (by (with_reducible repeat (first | apply Kd.R_alloc | apply Kd.R_drewN | apply Kd.R_drew)); exact HO_15.out) (Kd.R_typed (by (with_reducible repeat (first | apply Kd.R_alloc | apply Kd.R_drewN | apply Kd.R_drew)); exact HO376.out)) (by decide) hg); have n3_ := Aside0.mk (Kd.R_over' (by (with_reducible repeat (first | apply Kd.R_alloc | apply Kd.R_drewN | apply Kd.R_drew)); exact HO_16.out) (Kd.R_typed (by (with_reducible repeat (first | apply Kd.R_alloc | apply Kd.R_drewN | apply Kd.R_drew)); exact HO376.out)) (by decide) hg); have n4_ := Aside0.mk (Kd.R_over' (by (with_reducible repeat (first | apply Kd.R_alloc | apply Kd.R_drewN | apply Kd.R_drew)); exact HO_101.out) (Kd.R_typed (by (with_reducible repeat (first | apply Kd.R_alloc | apply Kd.R_drewN | apply Kd.R_drew)); exact HO376.out)) (by decide) hg); have n5_ := Aside0.mk (blk_grown (g := gb373) (o := .cells #[.int .i64 ((rd_T57 x16_2 (ji65)).f0), .bool ((rd_T57 x16_2 (ji65)).f1), .int .i64 ((rd_T57 x16_2 (ji65)).f2)] 57 (0, 0)) (by (with_reducible repeat (first | refine blk_drewN ?_ _ | refine blk_drew ?_ | refine blk_alloc ?_ _)); exact BK373.out) hg (Kd.R_ne HO376.out BK373.out (by decide))); have n6_ := Aside0.mk (hb); have n7_ := Aside0.mk (ho); clear HO_10; clear HO_13; clear HO_15; clear HO_16; clear HO_101; clear BK373; clear HB; clear HO376; have HO_10 := n0_; have HO_13 := n1_; have HO_15 := n2_; have HO_16 := n3_; have HO_101 := n4_; have BK373 := n5_; have HB := n6_; have HO379 := n7_; clear n0_ n1_ n2_ n3_ n4_ n5_ n6_ n7_; clear ho hb hg hat; have hcz82_0 : w81.cell? ⟨gb373, 0, none⟩ = some (.int .i64 ((rd_T57 x16_2 (ji65)).f0)) := (blk_cell BK373.out 0).trans rfl; have hcz82_1 : w81.cell? ⟨gb373, 1, none⟩ = some (.bool ((rd_T57 x16_2 (ji65)).f1)) := (blk_cell BK373.out 1).trans rfl; have hcz82_2 : w81.cell? ⟨gb373, 2, none⟩ = some (.int .i64 ((rd_T57 x16_2 (ji65)).f2)) := (blk_cell BK373.out 2).trans rfl; have hfz82_0 := blk_frozen BK373.out 0; have hfz82_1 := blk_frozen BK373.out 1; have hfz82_2 := blk_frozen BK373.out 2; obtain ⟨Ao83, co83, eo83⟩ := Kd.R_slice HO379.out; subst eo83; have p380 : 0 ≤ (((rd_T57 x16_2 (ji65)).f2) : Int) := of_decide_eq_true (by first | (with_reducible assumption) | assumption); have q380 : ((rd_T57 x16_2 (ji65)).f2) < (y377.length : Int) := of_decide_eq_true (by first | (with_reducible assumption) | assumption); obtain ⟨ad380, e380, hx380_0, hx380_1⟩ := at_T45 (Kd.R_reads' HO379.out).2.2 ((rd_T57 x16_2 (ji65)).f2) p380 q380; cases e380; replace p380 := eq_true p380; replace q380 := eq_true q380; have p71 : 0 ≤ (((rd_T57 x16_2 (ji65)).f2) : Int) := of_decide_eq_true (by first | (with_reducible assumption) | assumption); have q71 : (((rd_T57 x16_2 (ji65)).f2) : Int) < ((y377.length : Int) : Int) := of_decide_eq_true (by first | (with_reducible assumption) | assumption); obtain ⟨go71, co71, eo71, gb71, gl71, cl71, HG71⟩ := Kd.R_form HO379.out (by omega); (first | cases eo71 | (injection eo71 with ea_ en_ ec_; (first | subst ea_ | (injection ea_ with ea_; subst ea_)); subst ec_; clear en_)); have GB71 := Aside0.mk gb71; have GG71 := Aside0.mk HG71; clear gb71 gl71 HG71; (first | simp only [add_plain] at hx380_0 | skip); (first | simp only [add_plain] at hx380_1 | skip); obtain ⟨ce71, hcl71, hM71, hcc71, hfr71⟩ := Kd.R_elem HO379.out z45 (((rd_T57 x16_2 (ji65)).f2) : Int) p71 q71; obtain rfl := k45_openM hM71; have hx71_0 : w81.cell? ⟨go71, (((rd_T57 x16_2 (ji65)).f2) : Int).toNat * 2, none⟩ = some (.int .i64 ((rd_T45 y377 ((rd_T57 x16_2 (ji65)).f2)).f0)) := hcc71 0 _ rfl; have hx71_1 : w81.cell? ⟨go71, (((rd_T57 x16_2 (ji65)).f2) : Int).toNat * 2 + 1, none⟩ = some (.bool ((rd_T45 y377 ((rd_T57 x16_2 (ji65)).f2)).f1)) := hcc71 1 _ rfl; have hf71_0 : w81.frozen? ⟨go71, (((rd_T57 x16_2 (ji65)).f2) : Int).toNat * 2, none⟩ = false := hfr71 0; have hf71_1 : w81.frozen? ⟨go71, (((rd_T57 x16_2 (ji65)).f2) : Int).toNat * 2 + 1, none⟩ = false := hfr71 1; clear hcl71 hcc71 hfr71 hM71; replace p71 := eq_true p71; replace q71 := eq_true q71; have HX84 := Aside0.mk (show Kd.R k45 45 w81 w.heap.size (fun _ => True) (.slice (some ⟨go71, 0, none⟩) y377.length co83) y377 from (by (with_reducible repeat (first | apply Kd.R_alloc | apply Kd.R_drewN | apply Kd.R_drew)); exact HO379.out)); obtain ⟨ce84, hcl84, hM84, hcc84, hfr84⟩ := Kd.R_elem HX84.out z45 (((rd_T57 x16_2 (ji65)).f2) : Int) (of_decide_eq_true (by first | (with_reducible assumption) | assumption)) (by have h_ : (((rd_T57 x16_2 (ji65)).f2) : Int) < ((y377.length : Int) : Int) := of_decide_eq_true (by first | (with_reducible assumption) | assumption); first | exact h_ | (have e_ := (Kd.R_reads' HO379.out).1; omega) | simpa using h_); obtain rfl := k45_openM hM84; have HP84 := Kd.R_seg HX84.out (((rd_T57 x16_2 (ji65)).f2) : Int) (of_decide_eq_true (by first | (with_reducible assumption) | assumption)) (by have h_ : (((rd_T57 x16_2 (ji65)).f2) : Int) < ((y377.length : Int) : Int) := of_decide_eq_true (by first | (with_reducible assumption) | assumption); first | exact h_ | (have e_ := (Kd.R_reads' HO379.out).1; omega) | simpa using h_) (seg := [.int .i64 (wrap64 (((rd_T45 y377 ((rd_T57 x16_2 (ji65)).f2)).f0) - (wrap64 (a3))))]) (j := 0) hcl84 hcc84 (show 1 ≤ 2 from by decide) (x' := (⟨wrap64 (((rd_T45 y377 ((rd_T57 x16_2 (ji65)).f2)).f0) - (wrap64 (a3))), (rd_T45 y377 ((rd_T57 x16_2 (ji65)).f2)).f1⟩ : S45)) (k45_mkM _ _ _ (⟨wrap64 (((rd_T45 y377 ((rd_T57 x16_2 (ji65)).f2)).f0) - (wrap64 (a3))), (rd_T45 y377 ((rd_T57 x16_2 (ji65)).f2)).f1⟩ : S45) ) (fun _ hk => hk); have hx84_0 := hcc84 0 _ rfl; (try simp only [show (k45).sz = 2 from rfl, Nat.mul_one, Nat.add_zero] at hx84_0); have hf84_0 := hfr84 0; (try simp only [show (k45).sz = 2 from rfl, Nat.mul_one, Nat.add_zero] at hf84_0); clear hcl84 hcc84 hfr84 hM84) | ((with_reducible refine gate_store (t := 3) (p := 147) rfl ?_); (try (rw [drewN_self w81]; generalize hq_ : World.drewN w81 _ = w81; have n0_ := Aside0.mk (Kd.R_at hq_ HO_10.out); have n1_ := Aside0.mk (Kd.R_at hq_ HO_13.out); have n2_ := Aside0.mk (Kd.R_at hq_ HO_15.out); have n3_ := Aside0.mk (Kd.R_at hq_ HO_16.out); have n4_ := Aside0.mk (Kd.R_at hq_ HO_101.out); have n5_ := Aside0.mk (Kd.R_at hq_ HO379.out); have n6_ := Aside0.mk (blk_at hq_ BK373.out); have n7_ := Aside0.mk (below_at hq_ HB.out); clear hq_ HO_10 HO_13 HO_15 HO_16 HO_101 HO379 BK373 HB; have HO_10 := n0_; have HO_13 := n1_; have HO_15 := n2_; have HO_16 := n3_; have HO_101 := n4_; have HO379 := n5_; have BK373 := n6_; have HB := n7_; clear n0_ n1_ n2_ n3_ n4_ n5_ n6_ n7_; (try (have HX84 := Aside0.mk (show Kd.R k45 45 w81 w.heap.size (fun _ => True) (.slice (some ⟨go71, 0, none⟩) y377.length co83) y377 from (by (with_reducible repeat (first | apply Kd.R_alloc | apply Kd.R_drewN | apply Kd.R_drew)); exact HO379.out)))); (try (obtain ⟨ce84, hcl84, hM84, hcc84, hfr84⟩ := Kd.R_elem HX84.out z45 (((rd_T57 x16_2 (ji65)).f2) : Int) (of_decide_eq_true (by first | (with_reducible assumption) | assumption)) (by have h_ : (((rd_T57 x16_2 (ji65)).f2) : Int) < ((y377.length : Int) : Int) := of_decide_eq_true (by first | (with_reducible assumption) | assumption); first | exact h_ | (have e_ := (Kd.R_reads' HO379.out).1; omega) | simpa using h_))); (try (obtain rfl := k45_openM hM84)); (try (have HP84 := Kd.R_seg HX84.out (((rd_T57 x16_2 (ji65)).f2) : Int) (of_decide_eq_true (by first | (with_reducible assumption) | assumption)) (by have h_ : (((rd_T57 x16_2 (ji65)).f2) : Int) < ((y377.length : Int) : Int) := of_decide_eq_true (by first | (with_reducible assumption) | assumption); first | exact h_ | (have e_ := (Kd.R_reads' HO379.out).1; omega) | simpa using h_) (seg := [.int .i64 (wrap64 (((rd_T45 y377 ((rd_T57 x16_2 (ji65)).f2)).f0) - (wrap64 (a3))))]) (j := 0) hcl84 hcc84 (show 1 ≤ 2 from by decide) (x' := (⟨wrap64 (((rd_T45 y377 ((rd_T57 x16_2 (ji65)).f2)).f0) - (wrap64 (a3))), (rd_T45 y377 ((rd_T57 x16_2 (ji65)).f2)).f1⟩ : S45)) (k45_mkM _ _ _ (⟨wrap64 (((rd_T45 y377 ((rd_T57 x16_2 (ji65)).f2)).f0) - (wrap64 (a3))), (rd_T45 y377 ((rd_T57 x16_2 (ji65)).f2)).f1⟩ : S45) ) (fun _ hk => hk))); (try (have hx84_0 := hcc84 0 _ rfl)); (try (try simp only [show (k45).sz = 2 from rfl, Nat.mul_one, Nat.add_zero] at hx84_0)); (try (have hf84_0 := hfr84 0)); (try (try simp only [show (k45).sz = 2 from rfl, Nat.mul_one, Nat.add_zero] at hf84_0)); (try (clear hcl84 hcc84 hfr84 hM84)))); refine store_event (t := 3) (p := 147) (v := ?vo_w85) (w1 := (w81.setCell ⟨go71, (((rd_T57 x16_2 (ji65)).f2) : Int).toNat * 2, none⟩ (.int .i64 (wrap64 (((rd_T45 y377 ((rd_T57 x16_2 (ji65)).f2)).f0) - (wrap64 (a3))))))) ?hg ?ho ?hn ?hr ?_; (case ho => rfl); (case hg => rfl); (case hn => rfl); (case hr => first | (go_simp; done) | (go_simp; rfl)); intro w85 hw; have hg : w81.grownBy w85 (some go71) := (by rw [hw]; exact HP84.2); have hp_ : Kd.R k45 45 w85 w.heap.size (fun _ => True) (.slice (some ⟨go71, 0, none⟩) y377.length co83) y381 := (by rw [hw, Ny381.out]; exact HP84.1); clear HP84; have n0_ := Aside0.mk (Kd.R_over' (v := (.slice (some ⟨go71, 0, none⟩) y377.length co83)) (by (with_reducible repeat (first | apply Kd.R_alloc | apply Kd.R_drewN | apply Kd.R_drew)); exact HO_10.out) (Kd.R_typed HO379.out) (by decide) hg); have n1_ := Aside0.mk (Kd.R_over' (v := (.slice (some ⟨go71, 0, none⟩) y377.length co83)) (by (with_reducible repeat (first | apply Kd.R_alloc | apply Kd.R_drewN | apply Kd.R_drew)); exact HO_13.out) (Kd.R_typed HO379.out) (by decide) hg); have n2_ := Aside0.mk (Kd.R_over' (v := (.slice (some ⟨go71, 0, none⟩) y377.length co83)) (by (with_reducible repeat (first | apply Kd.R_alloc | apply Kd.R_drewN | apply Kd.R_drew)); exact HO_15.out) (Kd.R_typed HO379.out) (by decide) hg); have n3_ := Aside0.mk (Kd.R_over' (v := (.slice (some ⟨go71, 0, none⟩) y377.length co83)) (by (with_reducible repeat (first | apply Kd.R_alloc | apply Kd.R_drewN | apply Kd.R_drew)); exact HO_16.out) (Kd.R_typed HO379.out) (by decide) hg); have n4_ := Aside0.mk (Kd.R_over' (v := (.slice (some ⟨go71, 0, none⟩) y377.length co83)) (by (with_reducible repeat (first | apply Kd.R_alloc | apply Kd.R_drewN | apply Kd.R_drew)); exact HO_101.out) (Kd.R_typed HO379.out) (by decide) hg); have n5_ := Aside0.mk (blk_grown (g := gb373) (o := .cells #[.int .i64 ((rd_T57 x16_2 (ji65)).f0), .bool ((rd_T57 x16_2 (ji65)).f1), .int .i64 ((rd_T57 x16_2 (ji65)).f2)] 57 (0, 0)) (by (with_reducible repeat (first | refine blk_drewN ?_ _ | refine blk_drew ?_ | refine blk_alloc ?_ _)); exact BK373.out) hg (Kd.R_ne HO379.out BK373.out (by decide))); have n6_ := Aside0.mk (hp_); have n7_ := Aside0.mk ((by rw [hw]; exact below_set (HB.out) GB71.out : Below w.heap.size w w85)); clear HO_10; clear HO_13; clear HO_15; clear HO_16; clear HO_101; clear BK373; clear HO379; clear HB; have HO_10 := n0_; have HO_13 := n1_; have HO_15 := n2_; have HO_16 := n3_; have HO_101 := n4_; have BK373 := n5_; have HO379 := n6_; have HB := n7_; clear n0_ n1_ n2_ n3_ n4_ n5_ n6_ n7_; clear hg hw hp_) | (go_at_call 19; refine calls_of_args (args' := #[.slice A0 l0.length c0, .slice (some ⟨go71, 0, none⟩) y381.length co83]) (by first | (rw [show y381.length = y377.length from (Kd.R_reads' HO379.out).1.symm] <;> rfl) | rfl) ?_; (with_reducible refine (wageofficelaw22_usable.calls k3 _ _ l0 _ _ y381 true _ ?side1 ?side2 ?side3 ?side4 A72.out).mono ?_); (case side1 => repeat (first | exact (Kd.C_below HR0.out HB.out) | (with_reducible refine Kd.C_alloc ?_ _) | (with_reducible refine Kd.C_drewN ?_ _) | (with_reducible refine Kd.C_drew ?_))); (case side2 => exact HC0.out); (case side3 => repeat (first | exact (Kd.R_reads' HO379.out).2.2 | (with_reducible refine Kd.C_alloc ?_ _) | (with_reducible refine Kd.C_drewN ?_ _) | (with_reducible refine Kd.C_drew ?_))); (case side4 => rw [show y381.length = y377.length from (Kd.R_reads' HO379.out).1.symm]; exact (Kd.R_reads' HO379.out).2.1); rintro e w86 ⟨rfl, hb⟩; have n0_ := Aside0.mk (Kd.R_below (by (with_reducible repeat (first | apply Kd.R_alloc | apply Kd.R_drewN | apply Kd.R_drew)); exact HO_10.out) hb); have n1_ := Aside0.mk (Kd.R_below (by (with_reducible repeat (first | apply Kd.R_alloc | apply Kd.R_drewN | apply Kd.R_drew)); exact HO_13.out) hb); have n2_ := Aside0.mk (Kd.R_below (by (with_reducible repeat (first | apply Kd.R_alloc | apply Kd.R_drewN | apply Kd.R_drew)); exact HO_15.out) hb); have n3_ := Aside0.mk (Kd.R_below (by (with_reducible repeat (first | apply Kd.R_alloc | apply Kd.R_drewN | apply Kd.R_drew)); exact HO_16.out) hb); have n4_ := Aside0.mk (Kd.R_below (by (with_reducible repeat (first | apply Kd.R_alloc | apply Kd.R_drewN | apply Kd.R_drew)); exact HO_101.out) hb); have n5_ := Aside0.mk (Kd.R_below (by (with_reducible repeat (first | apply Kd.R_alloc | apply Kd.R_drewN | apply Kd.R_drew)); exact HO379.out) hb); have n6_ := Aside0.mk (blk_below (g := gb373) (o := .cells #[.int .i64 ((rd_T57 x16_2 (ji65)).f0), .bool ((rd_T57 x16_2 (ji65)).f1), .int .i64 ((rd_T57 x16_2 (ji65)).f2)] 57 (0, 0)) (by (with_reducible repeat (first | refine blk_drewN ?_ _ | refine blk_drew ?_ | refine blk_alloc ?_ _)); exact BK373.out) hb); have n7_ := Aside0.mk (below_step (by repeat (first | (with_reducible first | exact HB.out | apply below_alloc | apply pw_below_drewN | apply below_drew1 | refine below_set ?_ GE373.out) | exact HB.out)) hb); clear HO_10; clear HO_13; clear HO_15; clear HO_16; clear HO_101; clear HO379; clear BK373; clear HB; have HO_10 := n0_; have HO_13 := n1_; have HO_15 := n2_; have HO_16 := n3_; have HO_101 := n4_; have HO379 := n5_; have BK373 := n6_; have HB := n7_; clear n0_ n1_ n2_ n3_ n4_ n5_ n6_ n7_; (try clear hb); (try clear hb2); (try clear hk); (try clear hi)) | (go_at_call 15; refine calls_of_args (args' := #[.slice A0 l0.length c0, .slice (some ⟨go71, 0, none⟩) y381.length co83, .slice Ao14 t352.length co14]) (by first | (rw [show y381.length = y377.length from (Kd.R_reads' HO379.out).1.symm] <;> rfl) | rfl) ?_; (with_reducible refine (punches_Worked.calls _ _ l0 _ _ y381 _ _ t352 t383 t384 _ ?side1 ?side2 ?side3 ?side4 ?side5 ?side6 A74.out).mono ?_); (case side1 => repeat (first | exact (Kd.C_below HR0.out HB.out) | (with_reducible refine Kd.C_alloc ?_ _) | (with_reducible refine Kd.C_drewN ?_ _) | (with_reducible refine Kd.C_drew ?_))); (case side2 => exact HC0.out); (case side3 => repeat (first | exact (Kd.R_reads' HO379.out).2.2 | (with_reducible refine Kd.C_alloc ?_ _) | (with_reducible refine Kd.C_drewN ?_ _) | (with_reducible refine Kd.C_drew ?_))); (case side4 => rw [show y381.length = y377.length from (Kd.R_reads' HO379.out).1.symm]; exact (Kd.R_reads' HO379.out).2.1); (case side5 => repeat (first | exact (Kd.R_reads' HO_10.out).2.2 | (with_reducible refine Kd.C_alloc ?_ _) | (with_reducible refine Kd.C_drewN ?_ _) | (with_reducible refine Kd.C_drew ?_))); (case side6 => exact (Kd.R_reads' HO_10.out).2.1); rintro e w87 ⟨v385, rfl, ho0, hb⟩; have n0_ := Aside0.mk (Kd.R_below (by (with_reducible repeat (first | apply Kd.R_alloc | apply Kd.R_drewN | apply Kd.R_drew)); exact HO_10.out) hb); have n1_ := Aside0.mk (Kd.R_elder' (by (with_reducible repeat (first | apply Kd.R_alloc | apply Kd.R_drewN | apply Kd.R_drew)); exact HO_13.out) (Kd.R_base ho0) hb); have n2_ := Aside0.mk (Kd.R_below (by (with_reducible repeat (first | apply Kd.R_alloc | apply Kd.R_drewN | apply Kd.R_drew)); exact HO_15.out) hb); have n3_ := Aside0.mk (Kd.R_below (by (with_reducible repeat (first | apply Kd.R_alloc | apply Kd.R_drewN | apply Kd.R_drew)); exact HO_16.out) hb); have n4_ := Aside0.mk (Kd.R_elder' (by (with_reducible repeat (first | apply Kd.R_alloc | apply Kd.R_drewN | apply Kd.R_drew)); exact HO_101.out) (Kd.R_base ho0) hb); have n5_ := Aside0.mk (Kd.R_below (by (with_reducible repeat (first | apply Kd.R_alloc | apply Kd.R_drewN | apply Kd.R_drew)); exact HO379.out) hb); have n6_ := Aside0.mk (Kd.R_lower (Kd.R_new' (Kd.R_new' ho0 (Kd.R_lt (by (with_reducible repeat (first | apply Kd.R_alloc | apply Kd.R_drewN | apply Kd.R_drew)); exact HO_13.out))) (Kd.R_lt (by (with_reducible repeat (first | apply Kd.R_alloc | apply Kd.R_drewN | apply Kd.R_drew)); exact HO_101.out))) (below_size (by repeat (first | (with_reducible first | exact HB.out | apply below_alloc | apply pw_below_drewN | apply below_drew1 | refine below_set ?_ GE373.out) | exact HB.out)))); have n7_ := Aside0.mk (blk_below (g := gb373) (o := .cells #[.int .i64 ((rd_T57 x16_2 (ji65)).f0), .bool ((rd_T57 x16_2 (ji65)).f1), .int .i64 ((rd_T57 x16_2 (ji65)).f2)] 57 (0, 0)) (by (with_reducible repeat (first | refine blk_drewN ?_ _ | refine blk_drew ?_ | refine blk_alloc ?_ _)); exact BK373.out) hb); have n8_ := Aside0.mk (below_step (by repeat (first | (with_reducible first | exact HB.out | apply below_alloc | apply pw_below_drewN | apply below_drew1 | refine below_set ?_ GE373.out) | exact HB.out)) hb); clear HO_10; clear HO_13; clear HO_15; clear HO_16; clear HO_101; clear HO379; clear BK373; clear HB; have HO_10 := n0_; have HO_13 := n1_; have HO_15 := n2_; have HO_16 := n3_; have HO_101 := n4_; have HO379 := n5_; have HO386 := n6_; have BK373 := n7_; have HB := n8_; clear n0_ n1_ n2_ n3_ n4_ n5_ n6_ n7_ n8_; (try clear hb); (try clear hb2); (try clear hk); (try clear hi); (try clear ho0)))
                    repeat (go_quiet (first | ((with_reducible refine gate_dst (N := 21) rfl ?_); (try (refine gate_guard (by rfl) ?_; dsimp only)); refine box_event ?hg (N := 21) ?hd (cs := #[.int .i64 0, .bool false, .int .i64 0]) (t := 57) ?hr ?_; (case hd => rfl); (case hg => rfl); (case hr => first | (go_simp; done) | (go_simp; rfl)); intro gb373 hg w77 hbox hb; have n0_ := Aside0.mk (Kd.R_below (Kd.R_elderB (by (with_reducible repeat (first | apply Kd.R_alloc | apply Kd.R_drewN | apply Kd.R_drew)); exact HO_10.out) gb373 (Nat.le_of_eq hg.symm)) hb); have n1_ := Aside0.mk (Kd.R_below (by (with_reducible repeat (first | apply Kd.R_alloc | apply Kd.R_drewN | apply Kd.R_drew)); exact HO_13.out) hb); have n2_ := Aside0.mk (Kd.R_below (by (with_reducible repeat (first | apply Kd.R_alloc | apply Kd.R_drewN | apply Kd.R_drew)); exact HO_15.out) hb); have n3_ := Aside0.mk (Kd.R_below (Kd.R_elderB (by (with_reducible repeat (first | apply Kd.R_alloc | apply Kd.R_drewN | apply Kd.R_drew)); exact HO_16.out) gb373 (Nat.le_of_eq hg.symm)) hb); have n4_ := Aside0.mk (Kd.R_below (by (with_reducible repeat (first | apply Kd.R_alloc | apply Kd.R_drewN | apply Kd.R_drew)); exact HO_101.out) hb); have n5_ := Aside0.mk (below_step (by repeat (first | (with_reducible first | exact HB.out | apply below_alloc | apply pw_below_drewN | apply below_drew1) | exact HB.out)) hb); have n6_ := Aside0.mk (hbox); have n7_ := Aside0.mk ((by rw [hg]; exact (below_size (by repeat (first | (with_reducible first | exact HB.out | apply below_alloc | apply pw_below_drewN | apply below_drew1) | exact HB.out))) : w.heap.size ≤ gb373)); have n8_ := Aside0.mk ((by rw [hg]; exact (below_size (by repeat (first | (with_reducible first | exact HB.out | apply below_alloc | apply pw_below_drewN | apply below_drew1) | exact HB.out))) : w.heap.size ≤ gb373)); clear HO_10; clear HO_13; clear HO_15; clear HO_16; clear HO_101; clear HB; have HO_10 := n0_; have HO_13 := n1_; have HO_15 := n2_; have HO_16 := n3_; have HO_101 := n4_; have HB := n5_; have BK373 := n6_; have GW373 := n7_; have GE373 := n8_; clear n0_ n1_ n2_ n3_ n4_ n5_ n6_ n7_ n8_; clear hb hbox hg; have hcz78_0 : w77.cell? ⟨gb373, 0, none⟩ = some (.int .i64 0) := (blk_cell BK373.out 0).trans rfl; have hcz78_1 : w77.cell? ⟨gb373, 1, none⟩ = some (.bool false) := (blk_cell BK373.out 1).trans rfl; have hcz78_2 : w77.cell? ⟨gb373, 2, none⟩ = some (.int .i64 0) := (blk_cell BK373.out 2).trans rfl; have hfz78_0 := blk_frozen BK373.out 0; have hfz78_1 := blk_frozen BK373.out 1; have hfz78_2 := blk_frozen BK373.out 2) | ((with_reducible refine gate_dst (N := 134) rfl ?_); (try (refine gate_guard (by rfl) ?_; dsimp only)); refine Kd.R_lit k45 _ 45 ?hg (N := 134) ?hd (xs := ([] : List (S45))) (inner := []) (ok := fun _ => True) (okp := fun _ => True) ?hr ?hp (fun _ hk => hk) trivial (Below.refl _ _) (Nat.le_refl _) (by simp) ?_; (case hd => rfl); (case hg => rfl); (case hr => first | (go_simp; done) | (go_simp; rfl)); (case hp => exact (Reps.none _ _)); intro v375 w79 ho80 hb hg_ hnew_; clear hg_ hnew_; (first | rw [← Ny374.out] at ho80 | (simp only [Int.reduceToNat] at ho80; rw [← Ny374.out] at ho80)); have n0_ := Aside0.mk (Kd.R_below (by (with_reducible repeat (first | apply Kd.R_alloc | apply Kd.R_drewN | apply Kd.R_drew)); exact (Kd.R_mono (Kd.R_far (p := ⟨gb373, 2, none⟩) (Kd.R_far (p := ⟨gb373, 1, none⟩) (Kd.R_far (p := ⟨gb373, 0, none⟩) (Kd.R_mono HO_10.out (fun k_ hk => (⟨hk, hk.2⟩ : _ ∧ k_ ≠ gb373))) (fun _ hk => hk.2) (.int .i64 ((rd_T57 x16_2 (ji65)).f0))) (fun _ hk => hk.2) (.bool ((rd_T57 x16_2 (ji65)).f1))) (fun _ hk => hk.2) (.int .i64 ((rd_T57 x16_2 (ji65)).f2))) (fun _ h_ => h_.1))) hb); have n1_ := Aside0.mk (Kd.R_below (by (with_reducible repeat (first | apply Kd.R_alloc | apply Kd.R_drewN | apply Kd.R_drew)); exact (Kd.R_mono (Kd.R_far (p := ⟨gb373, 2, none⟩) (Kd.R_far (p := ⟨gb373, 1, none⟩) (Kd.R_far (p := ⟨gb373, 0, none⟩) (Kd.R_types HO_13.out BK373.out (by decide)) (fun _ hk => hk.2) (.int .i64 ((rd_T57 x16_2 (ji65)).f0))) (fun _ hk => hk.2) (.bool ((rd_T57 x16_2 (ji65)).f1))) (fun _ hk => hk.2) (.int .i64 ((rd_T57 x16_2 (ji65)).f2))) (fun _ h_ => h_.1))) hb); have n2_ := Aside0.mk (Kd.R_below (by (with_reducible repeat (first | apply Kd.R_alloc | apply Kd.R_drewN | apply Kd.R_drew)); exact (Kd.R_mono (Kd.R_far (p := ⟨gb373, 2, none⟩) (Kd.R_far (p := ⟨gb373, 1, none⟩) (Kd.R_far (p := ⟨gb373, 0, none⟩) (Kd.R_types HO_15.out BK373.out (by decide)) (fun _ hk => hk.2) (.int .i64 ((rd_T57 x16_2 (ji65)).f0))) (fun _ hk => hk.2) (.bool ((rd_T57 x16_2 (ji65)).f1))) (fun _ hk => hk.2) (.int .i64 ((rd_T57 x16_2 (ji65)).f2))) (fun _ h_ => h_.1))) hb); have n3_ := Aside0.mk (Kd.R_below (by (with_reducible repeat (first | apply Kd.R_alloc | apply Kd.R_drewN | apply Kd.R_drew)); exact (Kd.R_mono (Kd.R_far (p := ⟨gb373, 2, none⟩) (Kd.R_far (p := ⟨gb373, 1, none⟩) (Kd.R_far (p := ⟨gb373, 0, none⟩) (Kd.R_mono HO_16.out (fun k_ hk => (⟨hk, hk.2⟩ : _ ∧ k_ ≠ gb373))) (fun _ hk => hk.2) (.int .i64 ((rd_T57 x16_2 (ji65)).f0))) (fun _ hk => hk.2) (.bool ((rd_T57 x16_2 (ji65)).f1))) (fun _ hk => hk.2) (.int .i64 ((rd_T57 x16_2 (ji65)).f2))) (fun _ h_ => h_.1))) hb); have n4_ := Aside0.mk (Kd.R_below (by (with_reducible repeat (first | apply Kd.R_alloc | apply Kd.R_drewN | apply Kd.R_drew)); exact (Kd.R_mono (Kd.R_far (p := ⟨gb373, 2, none⟩) (Kd.R_far (p := ⟨gb373, 1, none⟩) (Kd.R_far (p := ⟨gb373, 0, none⟩) (Kd.R_types HO_101.out BK373.out (by decide)) (fun _ hk => hk.2) (.int .i64 ((rd_T57 x16_2 (ji65)).f0))) (fun _ hk => hk.2) (.bool ((rd_T57 x16_2 (ji65)).f1))) (fun _ hk => hk.2) (.int .i64 ((rd_T57 x16_2 (ji65)).f2))) (fun _ h_ => h_.1))) hb); have n5_ := Aside0.mk (Kd.R_lower ho80 (below_size (by repeat (first | (with_reducible first | exact HB.out | apply below_alloc | apply pw_below_drewN | apply below_drew1 | refine below_set ?_ GE373.out) | exact HB.out)))); have n6_ := Aside0.mk (blk_below (g := gb373) (o := .cells #[.int .i64 ((rd_T57 x16_2 (ji65)).f0), .bool ((rd_T57 x16_2 (ji65)).f1), .int .i64 ((rd_T57 x16_2 (ji65)).f2)] 57 (0, 0)) (by (with_reducible repeat (first | refine blk_drewN ?_ _ | refine blk_drew ?_ | refine blk_alloc ?_ _)); refine blk_put (cs := #[.int .i64 ((rd_T57 x16_2 (ji65)).f0), .bool ((rd_T57 x16_2 (ji65)).f1), .int .i64 0]) ?_ 2 _ rfl; (with_reducible repeat (first | refine blk_drewN ?_ _ | refine blk_drew ?_ | refine blk_alloc ?_ _)); refine blk_put (cs := #[.int .i64 ((rd_T57 x16_2 (ji65)).f0), .bool false, .int .i64 0]) ?_ 1 _ rfl; (with_reducible repeat (first | refine blk_drewN ?_ _ | refine blk_drew ?_ | refine blk_alloc ?_ _)); refine blk_put (cs := #[.int .i64 0, .bool false, .int .i64 0]) ?_ 0 _ rfl; (with_reducible repeat (first | refine blk_drewN ?_ _ | refine blk_drew ?_ | refine blk_alloc ?_ _)); exact BK373.out) hb); have n7_ := Aside0.mk (below_step (by repeat (first | (with_reducible first | exact HB.out | apply below_alloc | apply pw_below_drewN | apply below_drew1 | refine below_set ?_ GE373.out) | exact HB.out)) hb); clear HO_10; clear HO_13; clear HO_15; clear HO_16; clear HO_101; clear BK373; clear HB; have HO_10 := n0_; have HO_13 := n1_; have HO_15 := n2_; have HO_16 := n3_; have HO_101 := n4_; have HO376 := n5_; have BK373 := n6_; have HB := n7_; clear n0_ n1_ n2_ n3_ n4_ n5_ n6_ n7_; clear hb ho80) | ((with_reducible refine gate_builtin (b := .append) (xs := #[.tmp 134, .tmp 135]) rfl ?_); (try (refine gate_guard (by rfl) ?_; dsimp only)); at_builtin; refine Kd.R_append_rows k45 (w0 := w) w.heap.size rfl (.tmp 134) (.tmp 135) 23 45 (.agg #[(.int .i64 0), (.bool false)]) 16 rfl Try.underlying23 info45 rfl (by decide) (by omega) v375 y374 l1 _ _ _ (fun _ => True) (fun _ => False) rfl rfl ?aO ?aR (fun _ _ h => h) (fun _ h => h.elim) ?aF ?aB ?aS ?aL ?_; (case aR => repeat (first | exact (Kd.C_below HR1.out HB.out) | (with_reducible refine Kd.C_alloc ?_ _) | (with_reducible refine Kd.C_drewN ?_ _) | (with_reducible refine Kd.C_drew ?_))); (case aB => exact (by repeat (first | (with_reducible first | exact HB.out | apply below_alloc | apply pw_below_drewN | apply below_drew1 | refine below_set ?_ GE373.out) | exact HB.out))); (case aF => exact (fun _ _ => trivial)); (case aO => exact (by (with_reducible repeat (first | apply Kd.R_alloc | apply Kd.R_drewN | apply Kd.R_drew)); exact HO376.out)); (case aS => exact (below_size (by repeat (first | (with_reducible first | exact HB.out | apply below_alloc | apply pw_below_drewN | apply below_drew1 | refine below_set ?_ GE373.out) | exact HB.out)))); (case aL => have := LMc68.out; omega); intro v378 w81 ho hb hg hat; rw [← Ny377.out] at ho; have n0_ := Aside0.mk (Kd.R_over' (by (with_reducible repeat (first | apply Kd.R_alloc | apply Kd.R_drewN | apply Kd.R_drew)); exact HO_10.out) (Kd.R_typed (by (with_reducible repeat (first | apply Kd.R_alloc | apply Kd.R_drewN | apply Kd.R_drew)); exact HO376.out)) (by decide) hg); have n1_ := Aside0.mk (Kd.R_over' (by (with_reducible repeat (first | apply Kd.R_alloc | apply Kd.R_drewN | apply Kd.R_drew)); exact HO_13.out) (Kd.R_typed (by (with_reducible repeat (first | apply Kd.R_alloc | apply Kd.R_drewN | apply Kd.R_drew)); exact HO376.out)) (by decide) hg); have n2_ := Aside0.mk (Kd.R_over' (by (with_reducible repeat (first | apply Kd.R_alloc | apply Kd.R_drewN | apply Kd.R_drew)); exact HO_15.out) (Kd.R_typed (by (with_reducible repeat (first | apply Kd.R_alloc | apply Kd.R_drewN | apply Kd.R_drew)); exact HO376.out)) (by decide) hg); have n3_ := Aside0.mk (Kd.R_over' (by (with_reducible repeat (first | apply Kd.R_alloc | apply Kd.R_drewN | apply Kd.R_drew)); exact HO_16.out) (Kd.R_typed (by (with_reducible repeat (first | apply Kd.R_alloc | apply Kd.R_drewN | apply Kd.R_drew)); exact HO376.out)) (by decide) hg); have n4_ := Aside0.mk (Kd.R_over' (by (with_reducible repeat (first | apply Kd.R_alloc | apply Kd.R_drewN | apply Kd.R_drew)); exact HO_101.out) (Kd.R_typed (by (with_reducible repeat (first | apply Kd.R_alloc | apply Kd.R_drewN | apply Kd.R_drew)); exact HO376.out)) (by decide) hg); have n5_ := Aside0.mk (blk_grown (g := gb373) (o := .cells #[.int .i64 ((rd_T57 x16_2 (ji65)).f0), .bool ((rd_T57 x16_2 (ji65)).f1), .int .i64 ((rd_T57 x16_2 (ji65)).f2)] 57 (0, 0)) (by (with_reducible repeat (first | refine blk_drewN ?_ _ | refine blk_drew ?_ | refine blk_alloc ?_ _)); exact BK373.out) hg (Kd.R_ne HO376.out BK373.out (by decide))); have n6_ := Aside0.mk (hb); have n7_ := Aside0.mk (ho); clear HO_10; clear HO_13; clear HO_15; clear HO_16; clear HO_101; clear BK373; clear HB; clear HO376; have HO_10 := n0_; have HO_13 := n1_; have HO_15 := n2_; have HO_16 := n3_; have HO_101 := n4_; have BK373 := n5_; have HB := n6_; have HO379 := n7_; clear n0_ n1_ n2_ n3_ n4_ n5_ n6_ n7_; clear ho hb hg hat; have hcz82_0 : w81.cell? ⟨gb373, 0, none⟩ = some (.int .i64 ((rd_T57 x16_2 (ji65)).f0)) := (blk_cell BK373.out 0).trans rfl; have hcz82_1 : w81.cell? ⟨gb373, 1, none⟩ = some (.bool ((rd_T57 x16_2 (ji65)).f1)) := (blk_cell BK373.out 1).trans rfl; have hcz82_2 : w81.cell? ⟨gb373, 2, none⟩ = some (.int .i64 ((rd_T57 x16_2 (ji65)).f2)) := (blk_cell BK373.out 2).trans rfl; have hfz82_0 := blk_frozen BK373.out 0; have hfz82_1 := blk_frozen BK373.out 1; have hfz82_2 := blk_frozen BK373.out 2; obtain ⟨Ao83, co83, eo83⟩ := Kd.R_slice HO379.out; subst eo83; have p380 : 0 ≤ (((rd_T57 x16_2 (ji65)).f2) : Int) := of_decide_eq_true (by first | (with_reducible assumption) | assumption); have q380 : ((rd_T57 x16_2 (ji65)).f2) < (y377.length : Int) := of_decide_eq_true (by first | (with_reducible assumption) | assumption); obtain ⟨ad380, e380, hx380_0, hx380_1⟩ := at_T45 (Kd.R_reads' HO379.out).2.2 ((rd_T57 x16_2 (ji65)).f2) p380 q380; cases e380; replace p380 := eq_true p380; replace q380 := eq_true q380; have p71 : 0 ≤ (((rd_T57 x16_2 (ji65)).f2) : Int) := of_decide_eq_true (by first | (with_reducible assumption) | assumption); have q71 : (((rd_T57 x16_2 (ji65)).f2) : Int) < ((y377.length : Int) : Int) := of_decide_eq_true (by first | (with_reducible assumption) | assumption); obtain ⟨go71, co71, eo71, gb71, gl71, cl71, HG71⟩ := Kd.R_form HO379.out (by omega); (first | cases eo71 | (injection eo71 with ea_ en_ ec_; (first | subst ea_ | (injection ea_ with ea_; subst ea_)); subst ec_; clear en_)); have GB71 := Aside0.mk gb71; have GG71 := Aside0.mk HG71; clear gb71 gl71 HG71; (first | simp only [add_plain] at hx380_0 | skip); (first | simp only [add_plain] at hx380_1 | skip); obtain ⟨ce71, hcl71, hM71, hcc71, hfr71⟩ := Kd.R_elem HO379.out z45 (((rd_T57 x16_2 (ji65)).f2) : Int) p71 q71; obtain rfl := k45_openM hM71; have hx71_0 : w81.cell? ⟨go71, (((rd_T57 x16_2 (ji65)).f2) : Int).toNat * 2, none⟩ = some (.int .i64 ((rd_T45 y377 ((rd_T57 x16_2 (ji65)).f2)).f0)) := hcc71 0 _ rfl; have hx71_1 : w81.cell? ⟨go71, (((rd_T57 x16_2 (ji65)).f2) : Int).toNat * 2 + 1, none⟩ = some (.bool ((rd_T45 y377 ((rd_T57 x16_2 (ji65)).f2)).f1)) := hcc71 1 _ rfl; have hf71_0 : w81.frozen? ⟨go71, (((rd_T57 x16_2 (ji65)).f2) : Int).toNat * 2, none⟩ = false := hfr71 0; have hf71_1 : w81.frozen? ⟨go71, (((rd_T57 x16_2 (ji65)).f2) : Int).toNat * 2 + 1, none⟩ = false := hfr71 1; clear hcl71 hcc71 hfr71 hM71; replace p71 := eq_true p71; replace q71 := eq_true q71; have HX84 := Aside0.mk (show Kd.R k45 45 w81 w.heap.size (fun _ => True) (.slice (some ⟨go71, 0, none⟩) y377.length co83) y377 from (by (with_reducible repeat (first | apply Kd.R_alloc | apply Kd.R_drewN | apply Kd.R_drew)); exact HO379.out)); obtain ⟨ce84, hcl84, hM84, hcc84, hfr84⟩ := Kd.R_elem HX84.out z45 (((rd_T57 x16_2 (ji65)).f2) : Int) (of_decide_eq_true (by first | (with_reducible assumption) | assumption)) (by have h_ : (((rd_T57 x16_2 (ji65)).f2) : Int) < ((y377.length : Int) : Int) := of_decide_eq_true (by first | (with_reducible assumption) | assumption); first | exact h_ | (have e_ := (Kd.R_reads' HO379.out).1; omega) | simpa using h_); obtain rfl := k45_openM hM84; have HP84 := Kd.R_seg HX84.out (((rd_T57 x16_2 (ji65)).f2) : Int) (of_decide_eq_true (by first | (with_reducible assumption) | assumption)) (by have h_ : (((rd_T57 x16_2 (ji65)).f2) : Int) < ((y377.length : Int) : Int) := of_decide_eq_true (by first | (with_reducible assumption) | assumption); first | exact h_ | (have e_ := (Kd.R_reads' HO379.out).1; omega) | simpa using h_) (seg := [.int .i64 (wrap64 (((rd_T45 y377 ((rd_T57 x16_2 (ji65)).f2)).f0) - (wrap64 (a3))))]) (j := 0) hcl84 hcc84 (show 1 ≤ 2 from by decide) (x' := (⟨wrap64 (((rd_T45 y377 ((rd_T57 x16_2 (ji65)).f2)).f0) - (wrap64 (a3))), (rd_T45 y377 ((rd_T57 x16_2 (ji65)).f2)).f1⟩ : S45)) (k45_mkM _ _ _ (⟨wrap64 (((rd_T45 y377 ((rd_T57 x16_2 (ji65)).f2)).f0) - (wrap64 (a3))), (rd_T45 y377 ((rd_T57 x16_2 (ji65)).f2)).f1⟩ : S45) ) (fun _ hk => hk); have hx84_0 := hcc84 0 _ rfl; (try simp only [show (k45).sz = 2 from rfl, Nat.mul_one, Nat.add_zero] at hx84_0); have hf84_0 := hfr84 0; (try simp only [show (k45).sz = 2 from rfl, Nat.mul_one, Nat.add_zero] at hf84_0); clear hcl84 hcc84 hfr84 hM84) | ((with_reducible refine gate_store (t := 3) (p := 147) rfl ?_); (try (rw [drewN_self w81]; generalize hq_ : World.drewN w81 _ = w81; have n0_ := Aside0.mk (Kd.R_at hq_ HO_10.out); have n1_ := Aside0.mk (Kd.R_at hq_ HO_13.out); have n2_ := Aside0.mk (Kd.R_at hq_ HO_15.out); have n3_ := Aside0.mk (Kd.R_at hq_ HO_16.out); have n4_ := Aside0.mk (Kd.R_at hq_ HO_101.out); have n5_ := Aside0.mk (Kd.R_at hq_ HO379.out); have n6_ := Aside0.mk (blk_at hq_ BK373.out); have n7_ := Aside0.mk (below_at hq_ HB.out); clear hq_ HO_10 HO_13 HO_15 HO_16 HO_101 HO379 BK373 HB; have HO_10 := n0_; have HO_13 := n1_; have HO_15 := n2_; have HO_16 := n3_; have HO_101 := n4_; have HO379 := n5_; have BK373 := n6_; have HB := n7_; clear n0_ n1_ n2_ n3_ n4_ n5_ n6_ n7_; (try (have HX84 := Aside0.mk (show Kd.R k45 45 w81 w.heap.size (fun _ => True) (.slice (some ⟨go71, 0, none⟩) y377.length co83) y377 from (by (with_reducible repeat (first | apply Kd.R_alloc | apply Kd.R_drewN | apply Kd.R_drew)); exact HO379.out)))); (try (obtain ⟨ce84, hcl84, hM84, hcc84, hfr84⟩ := Kd.R_elem HX84.out z45 (((rd_T57 x16_2 (ji65)).f2) : Int) (of_decide_eq_true (by first | (with_reducible assumption) | assumption)) (by have h_ : (((rd_T57 x16_2 (ji65)).f2) : Int) < ((y377.length : Int) : Int) := of_decide_eq_true (by first | (with_reducible assumption) | assumption); first | exact h_ | (have e_ := (Kd.R_reads' HO379.out).1; omega) | simpa using h_))); (try (obtain rfl := k45_openM hM84)); (try (have HP84 := Kd.R_seg HX84.out (((rd_T57 x16_2 (ji65)).f2) : Int) (of_decide_eq_true (by first | (with_reducible assumption) | assumption)) (by have h_ : (((rd_T57 x16_2 (ji65)).f2) : Int) < ((y377.length : Int) : Int) := of_decide_eq_true (by first | (with_reducible assumption) | assumption); first | exact h_ | (have e_ := (Kd.R_reads' HO379.out).1; omega) | simpa using h_) (seg := [.int .i64 (wrap64 (((rd_T45 y377 ((rd_T57 x16_2 (ji65)).f2)).f0) - (wrap64 (a3))))]) (j := 0) hcl84 hcc84 (show 1 ≤ 2 from by decide) (x' := (⟨wrap64 (((rd_T45 y377 ((rd_T57 x16_2 (ji65)).f2)).f0) - (wrap64 (a3))), (rd_T45 y377 ((rd_T57 x16_2 (ji65)).f2)).f1⟩ : S45)) (k45_mkM _ _ _ (⟨wrap64 (((rd_T45 y377 ((rd_T57 x16_2 (ji65)).f2)).f0) - (wrap64 (a3))), (rd_T45 y377 ((rd_T57 x16_2 (ji65)).f2)).f1⟩ : S45) ) (fun _ hk => hk))); (try (have hx84_0 := hcc84 0 _ rfl)); (try (try simp only [show (k45).sz = 2 from rfl, Nat.mul_one, Nat.add_zero] at hx84_0)); (try (have hf84_0 := hfr84 0)); (try (try simp only [show (k45).sz = 2 from rfl, Nat.mul_one, Nat.add_zero] at hf84_0)); (try (clear hcl84 hcc84 hfr84 hM84)))); refine store_event (t := 3) (p := 147) (v := ?vo_w85) (w1 := (w81.setCell ⟨go71, (((rd_T57 x16_2 (ji65)).f2) : Int).toNat * 2, none⟩ (.int .i64 (wrap64 (((rd_T45 y377 ((rd_T57 x16_2 (ji65)).f2)).f0) - (wrap64 (a3))))))) ?hg ?ho ?hn ?hr ?_; (case ho => rfl); (case hg => rfl); (case hn => rfl); (case hr => first | (go_simp; done) | (go_simp; rfl)); intro w85 hw; have hg : w81.grownBy w85 (some go71) := (by rw [hw]; exact HP84.2); have hp_ : Kd.R k45 45 w85 w.heap.size (fun _ => True) (.slice (some ⟨go71, 0, none⟩) y377.length co83) y381 := (by rw [hw, Ny381.out]; exact HP84.1); clear HP84; have n0_ := Aside0.mk (Kd.R_over' (v := (.slice (some ⟨go71, 0, none⟩) y377.length co83)) (by (with_reducible repeat (first | apply Kd.R_alloc | apply Kd.R_drewN | apply Kd.R_drew)); exact HO_10.out) (Kd.R_typed HO379.out) (by decide) hg); have n1_ := Aside0.mk (Kd.R_over' (v := (.slice (some ⟨go71, 0, none⟩) y377.length co83)) (by (with_reducible repeat (first | apply Kd.R_alloc | apply Kd.R_drewN | apply Kd.R_drew)); exact HO_13.out) (Kd.R_typed HO379.out) (by decide) hg); have n2_ := Aside0.mk (Kd.R_over' (v := (.slice (some ⟨go71, 0, none⟩) y377.length co83)) (by (with_reducible repeat (first | apply Kd.R_alloc | apply Kd.R_drewN | apply Kd.R_drew)); exact HO_15.out) (Kd.R_typed HO379.out) (by decide) hg); have n3_ := Aside0.mk (Kd.R_over' (v := (.slice (some ⟨go71, 0, none⟩) y377.length co83)) (by (with_reducible repeat (first | apply Kd.R_alloc | apply Kd.R_drewN | apply Kd.R_drew)); exact HO_16.out) (Kd.R_typed HO379.out) (by decide) hg); have n4_ := Aside0.mk (Kd.R_over' (v := (.slice (some ⟨go71, 0, none⟩) y377.length co83)) (by (with_reducible repeat (first | apply Kd.R_alloc | apply Kd.R_drewN | apply Kd.R_drew)); exact HO_101.out) (Kd.R_typed HO379.out) (by decide) hg); have n5_ := Aside0.mk (blk_grown (g := gb373) (o := .cells #[.int .i64 ((rd_T57 x16_2 (ji65)).f0), .bool ((rd_T57 x16_2 (ji65)).f1), .int .i64 ((rd_T57 x16_2 (ji65)).f2)] 57 (0, 0)) (by (with_reducible repeat (first | refine blk_drewN ?_ _ | refine blk_drew ?_ | refine blk_alloc ?_ _)); exact BK373.out) hg (Kd.R_ne HO379.out BK373.out (by decide))); have n6_ := Aside0.mk (hp_); have n7_ := Aside0.mk ((by rw [hw]; exact below_set (HB.out) GB71.out : Below w.heap.size w w85)); clear HO_10; clear HO_13; clear HO_15; clear HO_16; clear HO_101; clear BK373; clear HO379; clear HB; have HO_10 := n0_; have HO_13 := n1_; have HO_15 := n2_; have HO_16 := n3_; have HO_101 := n4_; have BK373 := n5_; have HO379 := n6_; have HB := n7_; clear n0_ n1_ n2_ n3_ n4_ n5_ n6_ n7_; clear hg hw hp_) | (go_at_call 19; refine calls_of_args (args' := #[.slice A0 l0.length c0, .slice (some ⟨go71, 0, none⟩) y381.length co83]) (by first | (rw [show y381.length = y377.length from (Kd.R_reads' HO379.out).1.symm] <;> rfl) | rfl) ?_; (with_reducible refine (wageofficelaw22_usable.calls k3 _ _ l0 _ _ y381 true _ ?side1 ?side2 ?side3 ?side4 A72.out).mono ?_); (case side1 => repeat (first | exact (Kd.C_below HR0.out HB.out) | (with_reducible refine Kd.C_alloc ?_ _) | (with_reducible refine Kd.C_drewN ?_ _) | (with_reducible refine Kd.C_drew ?_))); (case side2 => exact HC0.out); (case side3 => repeat (first | exact (Kd.R_reads' HO379.out).2.2 | (with_reducible refine Kd.C_alloc ?_ _) | (with_reducible refine Kd.C_drewN ?_ _) | (with_reducible refine Kd.C_drew ?_))); (case side4 => rw [show y381.length = y377.length from (Kd.R_reads' HO379.out).1.symm]; exact (Kd.R_reads' HO379.out).2.1); rintro e w86 ⟨rfl, hb⟩; have n0_ := Aside0.mk (Kd.R_below (by (with_reducible repeat (first | apply Kd.R_alloc | apply Kd.R_drewN | apply Kd.R_drew)); exact HO_10.out) hb); have n1_ := Aside0.mk (Kd.R_below (by (with_reducible repeat (first | apply Kd.R_alloc | apply Kd.R_drewN | apply Kd.R_drew)); exact HO_13.out) hb); have n2_ := Aside0.mk (Kd.R_below (by (with_reducible repeat (first | apply Kd.R_alloc | apply Kd.R_drewN | apply Kd.R_drew)); exact HO_15.out) hb); have n3_ := Aside0.mk (Kd.R_below (by (with_reducible repeat (first | apply Kd.R_alloc | apply Kd.R_drewN | apply Kd.R_drew)); exact HO_16.out) hb); have n4_ := Aside0.mk (Kd.R_below (by (with_reducible repeat (first | apply Kd.R_alloc | apply Kd.R_drewN | apply Kd.R_drew)); exact HO_101.out) hb); have n5_ := Aside0.mk (Kd.R_below (by (with_reducible repeat (first | apply Kd.R_alloc | apply Kd.R_drewN | apply Kd.R_drew)); exact HO379.out) hb); have n6_ := Aside0.mk (blk_below (g := gb373) (o := .cells #[.int .i64 ((rd_T57 x16_2 (ji65)).f0), .bool ((rd_T57 x16_2 (ji65)).f1), .int .i64 ((rd_T57 x16_2 (ji65)).f2)] 57 (0, 0)) (by (with_reducible repeat (first | refine blk_drewN ?_ _ | refine blk_drew ?_ | refine blk_alloc ?_ _)); exact BK373.out) hb); have n7_ := Aside0.mk (below_step (by repeat (first | (with_reducible first | exact HB.out | apply below_alloc | apply pw_below_drewN | apply below_drew1 | refine below_set ?_ GE373.out) | exact HB.out)) hb); clear HO_10; clear HO_13; clear HO_15; clear HO_16; clear HO_101; clear HO379; clear BK373; clear HB; have HO_10 := n0_; have HO_13 := n1_; have HO_15 := n2_; have HO_16 := n3_; have HO_101 := n4_; have HO379 := n5_; have BK373 := n6_; have HB := n7_; clear n0_ n1_ n2_ n3_ n4_ n5_ n6_ n7_; (try clear hb); (try clear hb2); (try clear hk); (try clear hi)) | (go_at_call 15; refine calls_of_args (args' := #[.slice A0 l0.length c0, .slice (some ⟨go71, 0, none⟩) y381.length co83, .slice Ao14 t352.length co14]) (by first | (rw [show y381.length = y377.length from (Kd.R_reads' HO379.out).1.symm] <;> rfl) | rfl) ?_; (with_reducible refine (punches_Worked.calls _ _ l0 _ _ y381 _ _ t352 t383 t384 _ ?side1 ?side2 ?side3 ?side4 ?side5 ?side6 A74.out).mono ?_); (case side1 => repeat (first | exact (Kd.C_below HR0.out HB.out) | (with_reducible refine Kd.C_alloc ?_ _) | (with_reducible refine Kd.C_drewN ?_ _) | (with_reducible refine Kd.C_drew ?_))); (case side2 => exact HC0.out); (case side3 => repeat (first | exact (Kd.R_reads' HO379.out).2.2 | (with_reducible refine Kd.C_alloc ?_ _) | (with_reducible refine Kd.C_drewN ?_ _) | (with_reducible refine Kd.C_drew ?_))); (case side4 => rw [show y381.length = y377.length from (Kd.R_reads' HO379.out).1.symm]; exact (Kd.R_reads' HO379.out).2.1); (case side5 => repeat (first | exact (Kd.R_reads' HO_10.out).2.2 | (with_reducible refine Kd.C_alloc ?_ _) | (with_reducible refine Kd.C_drewN ?_ _) | (with_reducible refine Kd.C_drew ?_))); (case side6 => exact (Kd.R_reads' HO_10.out).2.1); rintro e w87 ⟨v385, rfl, ho0, hb⟩; have n0_ := Aside0.mk (Kd.R_below (by (with_reducible repeat (first | apply Kd.R_alloc | apply Kd.R_drewN | apply Kd.R_drew)); exact HO_10.out) hb); have n1_ := Aside0.mk (Kd.R_elder' (by (with_reducible repeat (first | apply Kd.R_alloc | apply Kd.R_drewN | apply Kd.R_drew)); exact HO_13.out) (Kd.R_base ho0) hb); have n2_ := Aside0.mk (Kd.R_below (by (with_reducible repeat (first | apply Kd.R_alloc | apply Kd.R_drewN | apply Kd.R_drew)); exact HO_15.out) hb); have n3_ := Aside0.mk (Kd.R_below (by (with_reducible repeat (first | apply Kd.R_alloc | apply Kd.R_drewN | apply Kd.R_drew)); exact HO_16.out) hb); have n4_ := Aside0.mk (Kd.R_elder' (by (with_reducible repeat (first | apply Kd.R_alloc | apply Kd.R_drewN | apply Kd.R_drew)); exact HO_101.out) (Kd.R_base ho0) hb); have n5_ := Aside0.mk (Kd.R_below (by (with_reducible repeat (first | apply Kd.R_alloc | apply Kd.R_drewN | apply Kd.R_drew)); exact HO379.out) hb); have n6_ := Aside0.mk (Kd.R_lower (Kd.R_new' (Kd.R_new' ho0 (Kd.R_lt (by (with_reducible repeat (first | apply Kd.R_alloc | apply Kd.R_drewN | apply Kd.R_drew)); exact HO_13.out))) (Kd.R_lt (by (with_reducible repeat (first | apply Kd.R_alloc | apply Kd.R_drewN | apply Kd.R_drew)); exact HO_101.out))) (below_size (by repeat (first | (with_reducible first | exact HB.out | apply below_alloc | apply pw_below_drewN | apply below_drew1 | refine below_set ?_ GE373.out) | exact HB.out)))); have n7_ := Aside0.mk (blk_below (g := gb373) (o := .cells #[.int .i64 ((rd_T57 x16_2 (ji65)).f0), .bool ((rd_T57 x16_2 (ji65)).f1), .int .i64 ((rd_T57 x16_2 (ji65)).f2)] 57 (0, 0)) (by (with_reducible repeat (first | refine blk_drewN ?_ _ | refine blk_drew ?_ | refine blk_alloc ?_ _)); exact BK373.out) hb); have n8_ := Aside0.mk (below_step (by repeat (first | (with_reducible first | exact HB.out | apply below_alloc | apply pw_below_drewN | apply below_drew1 | refine below_set ?_ GE373.out) | exact HB.out)) hb); clear HO_10; clear HO_13; clear HO_15; clear HO_16; clear HO_101; clear HO379; clear BK373; clear HB; have HO_10 := n0_; have HO_13 := n1_; have HO_15 := n2_; have HO_16 := n3_; have HO_101 := n4_; have HO379 := n5_; have HO386 := n6_; have BK373 := n7_; have HB := n8_; clear n0_ n1_ n2_ n3_ n4_ n5_ n6_ n7_ n8_; (try clear hb); (try clear hb2); (try clear hk); (try clear hi); (try clear ho0))); go_upto_region 32 with (first | ((with_reducible refine gate_dst (N := 21) rfl ?_); (try (refine gate_guard (by rfl) ?_; dsimp only)); refine box_event ?hg (N := 21) ?hd (cs := #[.int .i64 0, .bool false, .int .i64 0]) (t := 57) ?hr ?_; (case hd => rfl); (case hg => rfl); (case hr => first | (go_simp; done) | (go_simp; rfl)); intro gb373 hg w77 hbox hb; have n0_ := Aside0.mk (Kd.R_below (Kd.R_elderB (by (with_reducible repeat (first | apply Kd.R_alloc | apply Kd.R_drewN | apply Kd.R_drew)); exact HO_10.out) gb373 (Nat.le_of_eq hg.symm)) hb); have n1_ := Aside0.mk (Kd.R_below (by (with_reducible repeat (first | apply Kd.R_alloc | apply Kd.R_drewN | apply Kd.R_drew)); exact HO_13.out) hb); have n2_ := Aside0.mk (Kd.R_below (by (with_reducible repeat (first | apply Kd.R_alloc | apply Kd.R_drewN | apply Kd.R_drew)); exact HO_15.out) hb); have n3_ := Aside0.mk (Kd.R_below (Kd.R_elderB (by (with_reducible repeat (first | apply Kd.R_alloc | apply Kd.R_drewN | apply Kd.R_drew)); exact HO_16.out) gb373 (Nat.le_of_eq hg.symm)) hb); have n4_ := Aside0.mk (Kd.R_below (by (with_reducible repeat (first | apply Kd.R_alloc | apply Kd.R_drewN | apply Kd.R_drew)); exact HO_101.out) hb); have n5_ := Aside0.mk (below_step (by repeat (first | (with_reducible first | exact HB.out | apply below_alloc | apply pw_below_drewN | apply below_drew1) | exact HB.out)) hb); have n6_ := Aside0.mk (hbox); have n7_ := Aside0.mk ((by rw [hg]; exact (below_size (by repeat (first | (with_reducible first | exact HB.out | apply below_alloc | apply pw_below_drewN | apply below_drew1) | exact HB.out))) : w.heap.size ≤ gb373)); have n8_ := Aside0.mk ((by rw [hg]; exact (below_size (by repeat (first | (with_reducible first | exact HB.out | apply below_alloc | apply pw_below_drewN | apply below_drew1) | exact HB.out))) : w.heap.size ≤ gb373)); clear HO_10; clear HO_13; clear HO_15; clear HO_16; clear HO_101; clear HB; have HO_10 := n0_; have HO_13 := n1_; have HO_15 := n2_; have HO_16 := n3_; have HO_101 := n4_; have HB := n5_; have BK373 := n6_; have GW373 := n7_; have GE373 := n8_; clear n0_ n1_ n2_ n3_ n4_ n5_ n6_ n7_ n8_; clear hb hbox hg; have hcz78_0 : w77.cell? ⟨gb373, 0, none⟩ = some (.int .i64 0) := (blk_cell BK373.out 0).trans rfl; have hcz78_1 : w77.cell? ⟨gb373, 1, none⟩ = some (.bool false) := (blk_cell BK373.out 1).trans rfl; have hcz78_2 : w77.cell? ⟨gb373, 2, none⟩ = some (.int .i64 0) := (blk_cell BK373.out 2).trans rfl; have hfz78_0 := blk_frozen BK373.out 0; have hfz78_1 := blk_frozen BK373.out 1; have hfz78_2 := blk_frozen BK373.out 2) | ((with_reducible refine gate_dst (N := 134) rfl ?_); (try (refine gate_guard (by rfl) ?_; dsimp only)); refine Kd.R_lit k45 _ 45 ?hg (N := 134) ?hd (xs := ([] : List (S45))) (inner := []) (ok := fun _ => True) (okp := fun _ => True) ?hr ?hp (fun _ hk => hk) trivial (Below.refl _ _) (Nat.le_refl _) (by simp) ?_; (case hd => rfl); (case hg => rfl); (case hr => first | (go_simp; done) | (go_simp; rfl)); (case hp => exact (Reps.none _ _)); intro v375 w79 ho80 hb hg_ hnew_; clear hg_ hnew_; (first | rw [← Ny374.out] at ho80 | (simp only [Int.reduceToNat] at ho80; rw [← Ny374.out] at ho80)); have n0_ := Aside0.mk (Kd.R_below (by (with_reducible repeat (first | apply Kd.R_alloc | apply Kd.R_drewN | apply Kd.R_drew)); exact (Kd.R_mono (Kd.R_far (p := ⟨gb373, 2, none⟩) (Kd.R_far (p := ⟨gb373, 1, none⟩) (Kd.R_far (p := ⟨gb373, 0, none⟩) (Kd.R_mono HO_10.out (fun k_ hk => (⟨hk, hk.2⟩ : _ ∧ k_ ≠ gb373))) (fun _ hk => hk.2) (.int .i64 ((rd_T57 x16_2 (ji65)).f0))) (fun _ hk => hk.2) (.bool ((rd_T57 x16_2 (ji65)).f1))) (fun _ hk => hk.2) (.int .i64 ((rd_T57 x16_2 (ji65)).f2))) (fun _ h_ => h_.1))) hb); have n1_ := Aside0.mk (Kd.R_below (by (with_reducible repeat (first | apply Kd.R_alloc | apply Kd.R_drewN | apply Kd.R_drew)); exact (Kd.R_mono (Kd.R_far (p := ⟨gb373, 2, none⟩) (Kd.R_far (p := ⟨gb373, 1, none⟩) (Kd.R_far (p := ⟨gb373, 0, none⟩) (Kd.R_types HO_13.out BK373.out (by decide)) (fun _ hk => hk.2) (.int .i64 ((rd_T57 x16_2 (ji65)).f0))) (fun _ hk => hk.2) (.bool ((rd_T57 x16_2 (ji65)).f1))) (fun _ hk => hk.2) (.int .i64 ((rd_T57 x16_2 (ji65)).f2))) (fun _ h_ => h_.1))) hb); have n2_ := Aside0.mk (Kd.R_below (by (with_reducible repeat (first | apply Kd.R_alloc | apply Kd.R_drewN | apply Kd.R_drew)); exact (Kd.R_mono (Kd.R_far (p := ⟨gb373, 2, none⟩) (Kd.R_far (p := ⟨gb373, 1, none⟩) (Kd.R_far (p := ⟨gb373, 0, none⟩) (Kd.R_types HO_15.out BK373.out (by decide)) (fun _ hk => hk.2) (.int .i64 ((rd_T57 x16_2 (ji65)).f0))) (fun _ hk => hk.2) (.bool ((rd_T57 x16_2 (ji65)).f1))) (fun _ hk => hk.2) (.int .i64 ((rd_T57 x16_2 (ji65)).f2))) (fun _ h_ => h_.1))) hb); have n3_ := Aside0.mk (Kd.R_below (by (with_reducible repeat (first | apply Kd.R_alloc | apply Kd.R_drewN | apply Kd.R_drew)); exact (Kd.R_mono (Kd.R_far (p := ⟨gb373, 2, none⟩) (Kd.R_far (p := ⟨gb373, 1, none⟩) (Kd.R_far (p := ⟨gb373, 0, none⟩) (Kd.R_mono HO_16.out (fun k_ hk => (⟨hk, hk.2⟩ : _ ∧ k_ ≠ gb373))) (fun _ hk => hk.2) (.int .i64 ((rd_T57 x16_2 (ji65)).f0))) (fun _ hk => hk.2) (.bool ((rd_T57 x16_2 (ji65)).f1))) (fun _ hk => hk.2) (.int .i64 ((rd_T57 x16_2 (ji65)).f2))) (fun _ h_ => h_.1))) hb); have n4_ := Aside0.mk (Kd.R_below (by (with_reducible repeat (first | apply Kd.R_alloc | apply Kd.R_drewN | apply Kd.R_drew)); exact (Kd.R_mono (Kd.R_far (p := ⟨gb373, 2, none⟩) (Kd.R_far (p := ⟨gb373, 1, none⟩) (Kd.R_far (p := ⟨gb373, 0, none⟩) (Kd.R_types HO_101.out BK373.out (by decide)) (fun _ hk => hk.2) (.int .i64 ((rd_T57 x16_2 (ji65)).f0))) (fun _ hk => hk.2) (.bool ((rd_T57 x16_2 (ji65)).f1))) (fun _ hk => hk.2) (.int .i64 ((rd_T57 x16_2 (ji65)).f2))) (fun _ h_ => h_.1))) hb); have n5_ := Aside0.mk (Kd.R_lower ho80 (below_size (by repeat (first | (with_reducible first | exact HB.out | apply below_alloc | apply pw_below_drewN | apply below_drew1 | refine below_set ?_ GE373.out) | exact HB.out)))); have n6_ := Aside0.mk (blk_below (g := gb373) (o := .cells #[.int .i64 ((rd_T57 x16_2 (ji65)).f0), .bool ((rd_T57 x16_2 (ji65)).f1), .int .i64 ((rd_T57 x16_2 (ji65)).f2)] 57 (0, 0)) (by (with_reducible repeat (first | refine blk_drewN ?_ _ | refine blk_drew ?_ | refine blk_alloc ?_ _)); refine blk_put (cs := #[.int .i64 ((rd_T57 x16_2 (ji65)).f0), .bool ((rd_T57 x16_2 (ji65)).f1), .int .i64 0]) ?_ 2 _ rfl; (with_reducible repeat (first | refine blk_drewN ?_ _ | refine blk_drew ?_ | refine blk_alloc ?_ _)); refine blk_put (cs := #[.int .i64 ((rd_T57 x16_2 (ji65)).f0), .bool false, .int .i64 0]) ?_ 1 _ rfl; (with_reducible repeat (first | refine blk_drewN ?_ _ | refine blk_drew ?_ | refine blk_alloc ?_ _)); refine blk_put (cs := #[.int .i64 0, .bool false, .int .i64 0]) ?_ 0 _ rfl; (with_reducible repeat (first | refine blk_drewN ?_ _ | refine blk_drew ?_ | refine blk_alloc ?_ _)); exact BK373.out) hb); have n7_ := Aside0.mk (below_step (by repeat (first | (with_reducible first | exact HB.out | apply below_alloc | apply pw_below_drewN | apply below_drew1 | refine below_set ?_ GE373.out) | exact HB.out)) hb); clear HO_10; clear HO_13; clear HO_15; clear HO_16; clear HO_101; clear BK373; clear HB; have HO_10 := n0_; have HO_13 := n1_; have HO_15 := n2_; have HO_16 := n3_; have HO_101 := n4_; have HO376 := n5_; have BK373 := n6_; have HB := n7_; clear n0_ n1_ n2_ n3_ n4_ n5_ n6_ n7_; clear hb ho80) | ((with_reducible refine gate_builtin (b := .append) (xs := #[.tmp 134, .tmp 135]) rfl ?_); (try (refine gate_guard (by rfl) ?_; dsimp only)); at_builtin; refine Kd.R_append_rows k45 (w0 := w) w.heap.size rfl (.tmp 134) (.tmp 135) 23 45 (.agg #[(.int .i64 0), (.bool false)]) 16 rfl Try.underlying23 info45 rfl (by decide) (by omega) v375 y374 l1 _ _ _ (fun _ => True) (fun _ => False) rfl rfl ?aO ?aR (fun _ _ h => h) (fun _ h => h.elim) ?aF ?aB ?aS ?aL ?_; (case aR => repeat (first | exact (Kd.C_below HR1.out HB.out) | (with_reducible refine Kd.C_alloc ?_ _) | (with_reducible refine Kd.C_drewN ?_ _) | (with_reducible refine Kd.C_drew ?_))); (case aB => exact (by repeat (first | (with_reducible first | exact HB.out | apply below_alloc | apply pw_below_drewN | apply below_drew1 | refine below_set ?_ GE373.out) | exact HB.out))); (case aF => exact (fun _ _ => trivial)); (case aO => exact (by (with_reducible repeat (first | apply Kd.R_alloc | apply Kd.R_drewN | apply Kd.R_drew)); exact HO376.out)); (case aS => exact (below_size (by repeat (first | (with_reducible first | exact HB.out | apply below_alloc | apply pw_below_drewN | apply below_drew1 | refine below_set ?_ GE373.out) | exact HB.out)))); (case aL => have := LMc68.out; omega); intro v378 w81 ho hb hg hat; rw [← Ny377.out] at ho; have n0_ := Aside0.mk (Kd.R_over' (by (with_reducible repeat (first | apply Kd.R_alloc | apply Kd.R_drewN | apply Kd.R_drew)); exact HO_10.out) (Kd.R_typed (by (with_reducible repeat (first | apply Kd.R_alloc | apply Kd.R_drewN | apply Kd.R_drew)); exact HO376.out)) (by decide) hg); have n1_ := Aside0.mk (Kd.R_over' (by (with_reducible repeat (first | apply Kd.R_alloc | apply Kd.R_drewN | apply Kd.R_drew)); exact HO_13.out) (Kd.R_typed (by (with_reducible repeat (first | apply Kd.R_alloc | apply Kd.R_drewN | apply Kd.R_drew)); exact HO376.out)) (by decide) hg); have n2_ := Aside0.mk (Kd.R_over' (by (with_reducible repeat (first | apply Kd.R_alloc | apply Kd.R_drewN | apply Kd.R_drew)); exact HO_15.out) (Kd.R_typed (by (with_reducible repeat (first | apply Kd.R_alloc | apply Kd.R_drewN | apply Kd.R_drew)); exact HO376.out)) (by decide) hg); have n3_ := Aside0.mk (Kd.R_over' (by (with_reducible repeat (first | apply Kd.R_alloc | apply Kd.R_drewN | apply Kd.R_drew)); exact HO_16.out) (Kd.R_typed (by (with_reducible repeat (first | apply Kd.R_alloc | apply Kd.R_drewN | apply Kd.R_drew)); exact HO376.out)) (by decide) hg); have n4_ := Aside0.mk (Kd.R_over' (by (with_reducible repeat (first | apply Kd.R_alloc | apply Kd.R_drewN | apply Kd.R_drew)); exact HO_101.out) (Kd.R_typed (by (with_reducible repeat (first | apply Kd.R_alloc | apply Kd.R_drewN | apply Kd.R_drew)); exact HO376.out)) (by decide) hg); have n5_ := Aside0.mk (blk_grown (g := gb373) (o := .cells #[.int .i64 ((rd_T57 x16_2 (ji65)).f0), .bool ((rd_T57 x16_2 (ji65)).f1), .int .i64 ((rd_T57 x16_2 (ji65)).f2)] 57 (0, 0)) (by (with_reducible repeat (first | refine blk_drewN ?_ _ | refine blk_drew ?_ | refine blk_alloc ?_ _)); exact BK373.out) hg (Kd.R_ne HO376.out BK373.out (by decide))); have n6_ := Aside0.mk (hb); have n7_ := Aside0.mk (ho); clear HO_10; clear HO_13; clear HO_15; clear HO_16; clear HO_101; clear BK373; clear HB; clear HO376; have HO_10 := n0_; have HO_13 := n1_; have HO_15 := n2_; have HO_16 := n3_; have HO_101 := n4_; have BK373 := n5_; have HB := n6_; have HO379 := n7_; clear n0_ n1_ n2_ n3_ n4_ n5_ n6_ n7_; clear ho hb hg hat; have hcz82_0 : w81.cell? ⟨gb373, 0, none⟩ = some (.int .i64 ((rd_T57 x16_2 (ji65)).f0)) := (blk_cell BK373.out 0).trans rfl; have hcz82_1 : w81.cell? ⟨gb373, 1, none⟩ = some (.bool ((rd_T57 x16_2 (ji65)).f1)) := (blk_cell BK373.out 1).trans rfl; have hcz82_2 : w81.cell? ⟨gb373, 2, none⟩ = some (.int .i64 ((rd_T57 x16_2 (ji65)).f2)) := (blk_cell BK373.out 2).trans rfl; have hfz82_0 := blk_frozen BK373.out 0; have hfz82_1 := blk_frozen BK373.out 1; have hfz82_2 := blk_frozen BK373.out 2; obtain ⟨Ao83, co83, eo83⟩ := Kd.R_slice HO379.out; subst eo83; have p380 : 0 ≤ (((rd_T57 x16_2 (ji65)).f2) : Int) := of_decide_eq_true (by first | (with_reducible assumption) | assumption); have q380 : ((rd_T57 x16_2 (ji65)).f2) < (y377.length : Int) := of_decide_eq_true (by first | (with_reducible assumption) | assumption); obtain ⟨ad380, e380, hx380_0, hx380_1⟩ := at_T45 (Kd.R_reads' HO379.out).2.2 ((rd_T57 x16_2 (ji65)).f2) p380 q380; cases e380; replace p380 := eq_true p380; replace q380 := eq_true q380; have p71 : 0 ≤ (((rd_T57 x16_2 (ji65)).f2) : Int) := of_decide_eq_true (by first | (with_reducible assumption) | assumption); have q71 : (((rd_T57 x16_2 (ji65)).f2) : Int) < ((y377.length : Int) : Int) := of_decide_eq_true (by first | (with_reducible assumption) | assumption); obtain ⟨go71, co71, eo71, gb71, gl71, cl71, HG71⟩ := Kd.R_form HO379.out (by omega); (first | cases eo71 | (injection eo71 with ea_ en_ ec_; (first | subst ea_ | (injection ea_ with ea_; subst ea_)); subst ec_; clear en_)); have GB71 := Aside0.mk gb71; have GG71 := Aside0.mk HG71; clear gb71 gl71 HG71; (first | simp only [add_plain] at hx380_0 | skip); (first | simp only [add_plain] at hx380_1 | skip); obtain ⟨ce71, hcl71, hM71, hcc71, hfr71⟩ := Kd.R_elem HO379.out z45 (((rd_T57 x16_2 (ji65)).f2) : Int) p71 q71; obtain rfl := k45_openM hM71; have hx71_0 : w81.cell? ⟨go71, (((rd_T57 x16_2 (ji65)).f2) : Int).toNat * 2, none⟩ = some (.int .i64 ((rd_T45 y377 ((rd_T57 x16_2 (ji65)).f2)).f0)) := hcc71 0 _ rfl; have hx71_1 : w81.cell? ⟨go71, (((rd_T57 x16_2 (ji65)).f2) : Int).toNat * 2 + 1, none⟩ = some (.bool ((rd_T45 y377 ((rd_T57 x16_2 (ji65)).f2)).f1)) := hcc71 1 _ rfl; have hf71_0 : w81.frozen? ⟨go71, (((rd_T57 x16_2 (ji65)).f2) : Int).toNat * 2, none⟩ = false := hfr71 0; have hf71_1 : w81.frozen? ⟨go71, (((rd_T57 x16_2 (ji65)).f2) : Int).toNat * 2 + 1, none⟩ = false := hfr71 1; clear hcl71 hcc71 hfr71 hM71; replace p71 := eq_true p71; replace q71 := eq_true q71; have HX84 := Aside0.mk (show Kd.R k45 45 w81 w.heap.size (fun _ => True) (.slice (some ⟨go71, 0, none⟩) y377.length co83) y377 from (by (with_reducible repeat (first | apply Kd.R_alloc | apply Kd.R_drewN | apply Kd.R_drew)); exact HO379.out)); obtain ⟨ce84, hcl84, hM84, hcc84, hfr84⟩ := Kd.R_elem HX84.out z45 (((rd_T57 x16_2 (ji65)).f2) : Int) (of_decide_eq_true (by first | (with_reducible assumption) | assumption)) (by have h_ : (((rd_T57 x16_2 (ji65)).f2) : Int) < ((y377.length : Int) : Int) := of_decide_eq_true (by first | (with_reducible assumption) | assumption); first | exact h_ | (have e_ := (Kd.R_reads' HO379.out).1; omega) | simpa using h_); obtain rfl := k45_openM hM84; have HP84 := Kd.R_seg HX84.out (((rd_T57 x16_2 (ji65)).f2) : Int) (of_decide_eq_true (by first | (with_reducible assumption) | assumption)) (by have h_ : (((rd_T57 x16_2 (ji65)).f2) : Int) < ((y377.length : Int) : Int) := of_decide_eq_true (by first | (with_reducible assumption) | assumption); first | exact h_ | (have e_ := (Kd.R_reads' HO379.out).1; omega) | simpa using h_) (seg := [.int .i64 (wrap64 (((rd_T45 y377 ((rd_T57 x16_2 (ji65)).f2)).f0) - (wrap64 (a3))))]) (j := 0) hcl84 hcc84 (show 1 ≤ 2 from by decide) (x' := (⟨wrap64 (((rd_T45 y377 ((rd_T57 x16_2 (ji65)).f2)).f0) - (wrap64 (a3))), (rd_T45 y377 ((rd_T57 x16_2 (ji65)).f2)).f1⟩ : S45)) (k45_mkM _ _ _ (⟨wrap64 (((rd_T45 y377 ((rd_T57 x16_2 (ji65)).f2)).f0) - (wrap64 (a3))), (rd_T45 y377 ((rd_T57 x16_2 (ji65)).f2)).f1⟩ : S45) ) (fun _ hk => hk); have hx84_0 := hcc84 0 _ rfl; (try simp only [show (k45).sz = 2 from rfl, Nat.mul_one, Nat.add_zero] at hx84_0); have hf84_0 := hfr84 0; (try simp only [show (k45).sz = 2 from rfl, Nat.mul_one, Nat.add_zero] at hf84_0); clear hcl84 hcc84 hfr84 hM84) | ((with_reducible refine gate_store (t := 3) (p := 147) rfl ?_); (try (rw [drewN_self w81]; generalize hq_ : World.drewN w81 _ = w81; have n0_ := Aside0.mk (Kd.R_at hq_ HO_10.out); have n1_ := Aside0.mk (Kd.R_at hq_ HO_13.out); have n2_ := Aside0.mk (Kd.R_at hq_ HO_15.out); have n3_ := Aside0.mk (Kd.R_at hq_ HO_16.out); have n4_ := Aside0.mk (Kd.R_at hq_ HO_101.out); have n5_ := Aside0.mk (Kd.R_at hq_ HO379.out); have n6_ := Aside0.mk (blk_at hq_ BK373.out); have n7_ := Aside0.mk (below_at hq_ HB.out); clear hq_ HO_10 HO_13 HO_15 HO_16 HO_101 HO379 BK373 HB; have HO_10 := n0_; have HO_13 := n1_; have HO_15 := n2_; have HO_16 := n3_; have HO_101 := n4_; have HO379 := n5_; have BK373 := n6_; have HB := n7_; clear n0_ n1_ n2_ n3_ n4_ n5_ n6_ n7_; (try (have HX84 := Aside0.mk (show Kd.R k45 45 w81 w.heap.size (fun _ => True) (.slice (some ⟨go71, 0, none⟩) y377.length co83) y377 from (by (with_reducible repeat (first | apply Kd.R_alloc | apply Kd.R_drewN | apply Kd.R_drew)); exact HO379.out)))); (try (obtain ⟨ce84, hcl84, hM84, hcc84, hfr84⟩ := Kd.R_elem HX84.out z45 (((rd_T57 x16_2 (ji65)).f2) : Int) (of_decide_eq_true (by first | (with_reducible assumption) | assumption)) (by have h_ : (((rd_T57 x16_2 (ji65)).f2) : Int) < ((y377.length : Int) : Int) := of_decide_eq_true (by first | (with_reducible assumption) | assumption); first | exact h_ | (have e_ := (Kd.R_reads' HO379.out).1; omega) | simpa using h_))); (try (obtain rfl := k45_openM hM84)); (try (have HP84 := Kd.R_seg HX84.out (((rd_T57 x16_2 (ji65)).f2) : Int) (of_decide_eq_true (by first | (with_reducible assumption) | assumption)) (by have h_ : (((rd_T57 x16_2 (ji65)).f2) : Int) < ((y377.length : Int) : Int) := of_decide_eq_true (by first | (with_reducible assumption) | assumption); first | exact h_ | (have e_ := (Kd.R_reads' HO379.out).1; omega) | simpa using h_) (seg := [.int .i64 (wrap64 (((rd_T45 y377 ((rd_T57 x16_2 (ji65)).f2)).f0) - (wrap64 (a3))))]) (j := 0) hcl84 hcc84 (show 1 ≤ 2 from by decide) (x' := (⟨wrap64 (((rd_T45 y377 ((rd_T57 x16_2 (ji65)).f2)).f0) - (wrap64 (a3))), (rd_T45 y377 ((rd_T57 x16_2 (ji65)).f2)).f1⟩ : S45)) (k45_mkM _ _ _ (⟨wrap64 (((rd_T45 y377 ((rd_T57 x16_2 (ji65)).f2)).f0) - (wrap64 (a3))), (rd_T45 y377 ((rd_T57 x16_2 (ji65)).f2)).f1⟩ : S45) ) (fun _ hk => hk))); (try (have hx84_0 := hcc84 0 _ rfl)); (try (try simp only [show (k45).sz = 2 from rfl, Nat.mul_one, Nat.add_zero] at hx84_0)); (try (have hf84_0 := hfr84 0)); (try (try simp only [show (k45).sz = 2 from rfl, Nat.mul_one, Nat.add_zero] at hf84_0)); (try (clear hcl84 hcc84 hfr84 hM84)))); refine store_event (t := 3) (p := 147) (v := ?vo_w85) (w1 := (w81.setCell ⟨go71, (((rd_T57 x16_2 (ji65)).f2) : Int).toNat * 2, none⟩ (.int .i64 (wrap64 (((rd_T45 y377 ((rd_T57 x16_2 (ji65)).f2)).f0) - (wrap64 (a3))))))) ?hg ?ho ?hn ?hr ?_; (case ho => rfl); (case hg => rfl); (case hn => rfl); (case hr => first | (go_simp; done) | (go_simp; rfl)); intro w85 hw; have hg : w81.grownBy w85 (some go71) := (by rw [hw]; exact HP84.2); have hp_ : Kd.R k45 45 w85 w.heap.size (fun _ => True) (.slice (some ⟨go71, 0, none⟩) y377.length co83) y381 := (by rw [hw, Ny381.out]; exact HP84.1); clear HP84; have n0_ := Aside0.mk (Kd.R_over' (v := (.slice (some ⟨go71, 0, none⟩) y377.length co83)) (by (with_reducible repeat (first | apply Kd.R_alloc | apply Kd.R_drewN | apply Kd.R_drew)); exact HO_10.out) (Kd.R_typed HO379.out) (by decide) hg); have n1_ := Aside0.mk (Kd.R_over' (v := (.slice (some ⟨go71, 0, none⟩) y377.length co83)) (by (with_reducible repeat (first | apply Kd.R_alloc | apply Kd.R_drewN | apply Kd.R_drew)); exact HO_13.out) (Kd.R_typed HO379.out) (by decide) hg); have n2_ := Aside0.mk (Kd.R_over' (v := (.slice (some ⟨go71, 0, none⟩) y377.length co83)) (by (with_reducible repeat (first | apply Kd.R_alloc | apply Kd.R_drewN | apply Kd.R_drew)); exact HO_15.out) (Kd.R_typed HO379.out) (by decide) hg); have n3_ := Aside0.mk (Kd.R_over' (v := (.slice (some ⟨go71, 0, none⟩) y377.length co83)) (by (with_reducible repeat (first | apply Kd.R_alloc | apply Kd.R_drewN | apply Kd.R_drew)); exact HO_16.out) (Kd.R_typed HO379.out) (by decide) hg); have n4_ := Aside0.mk (Kd.R_over' (v := (.slice (some ⟨go71, 0, none⟩) y377.length co83)) (by (with_reducible repeat (first | apply Kd.R_alloc | apply Kd.R_drewN | apply Kd.R_drew)); exact HO_101.out) (Kd.R_typed HO379.out) (by decide) hg); have n5_ := Aside0.mk (blk_grown (g := gb373) (o := .cells #[.int .i64 ((rd_T57 x16_2 (ji65)).f0), .bool ((rd_T57 x16_2 (ji65)).f1), .int .i64 ((rd_T57 x16_2 (ji65)).f2)] 57 (0, 0)) (by (with_reducible repeat (first | refine blk_drewN ?_ _ | refine blk_drew ?_ | refine blk_alloc ?_ _)); exact BK373.out) hg (Kd.R_ne HO379.out BK373.out (by decide))); have n6_ := Aside0.mk (hp_); have n7_ := Aside0.mk ((by rw [hw]; exact below_set (HB.out) GB71.out : Below w.heap.size w w85)); clear HO_10; clear HO_13; clear HO_15; clear HO_16; clear HO_101; clear BK373; clear HO379; clear HB; have HO_10 := n0_; have HO_13 := n1_; have HO_15 := n2_; have HO_16 := n3_; have HO_101 := n4_; have BK373 := n5_; have HO379 := n6_; have HB := n7_; clear n0_ n1_ n2_ n3_ n4_ n5_ n6_ n7_; clear hg hw hp_) | (go_at_call 19; refine calls_of_args (args' := #[.slice A0 l0.length c0, .slice (some ⟨go71, 0, none⟩) y381.length co83]) (by first | (rw [show y381.length = y377.length from (Kd.R_reads' HO379.out).1.symm] <;> rfl) | rfl) ?_; (with_reducible refine (wageofficelaw22_usable.calls k3 _ _ l0 _ _ y381 true _ ?side1 ?side2 ?side3 ?side4 A72.out).mono ?_); (case side1 => repeat (first | exact (Kd.C_below HR0.out HB.out) | (with_reducible refine Kd.C_alloc ?_ _) | (with_reducible refine Kd.C_drewN ?_ _) | (with_reducible refine Kd.C_drew ?_))); (case side2 => exact HC0.out); (case side3 => repeat (first | exact (Kd.R_reads' HO379.out).2.2 | (with_reducible refine Kd.C_alloc ?_ _) | (with_reducible refine Kd.C_drewN ?_ _) | (with_reducible refine Kd.C_drew ?_))); (case side4 => rw [show y381.length = y377.length from (Kd.R_reads' HO379.out).1.symm]; exact (Kd.R_reads' HO379.out).2.1); rintro e w86 ⟨rfl, hb⟩; have n0_ := Aside0.mk (Kd.R_below (by (with_reducible repeat (first | apply Kd.R_alloc | apply Kd.R_drewN | apply Kd.R_drew)); exact HO_10.out) hb); have n1_ := Aside0.mk (Kd.R_below (by (with_reducible repeat (first | apply Kd.R_alloc | apply Kd.R_drewN | apply Kd.R_drew)); exact HO_13.out) hb); have n2_ := Aside0.mk (Kd.R_below (by (with_reducible repeat (first | apply Kd.R_alloc | apply Kd.R_drewN | apply Kd.R_drew)); exact HO_15.out) hb); have n3_ := Aside0.mk (Kd.R_below (by (with_reducible repeat (first | apply Kd.R_alloc | apply Kd.R_drewN | apply Kd.R_drew)); exact HO_16.out) hb); have n4_ := Aside0.mk (Kd.R_below (by (with_reducible repeat (first | apply Kd.R_alloc | apply Kd.R_drewN | apply Kd.R_drew)); exact HO_101.out) hb); have n5_ := Aside0.mk (Kd.R_below (by (with_reducible repeat (first | apply Kd.R_alloc | apply Kd.R_drewN | apply Kd.R_drew)); exact HO379.out) hb); have n6_ := Aside0.mk (blk_below (g := gb373) (o := .cells #[.int .i64 ((rd_T57 x16_2 (ji65)).f0), .bool ((rd_T57 x16_2 (ji65)).f1), .int .i64 ((rd_T57 x16_2 (ji65)).f2)] 57 (0, 0)) (by (with_reducible repeat (first | refine blk_drewN ?_ _ | refine blk_drew ?_ | refine blk_alloc ?_ _)); exact BK373.out) hb); have n7_ := Aside0.mk (below_step (by repeat (first | (with_reducible first | exact HB.out | apply below_alloc | apply pw_below_drewN | apply below_drew1 | refine below_set ?_ GE373.out) | exact HB.out)) hb); clear HO_10; clear HO_13; clear HO_15; clear HO_16; clear HO_101; clear HO379; clear BK373; clear HB; have HO_10 := n0_; have HO_13 := n1_; have HO_15 := n2_; have HO_16 := n3_; have HO_101 := n4_; have HO379 := n5_; have BK373 := n6_; have HB := n7_; clear n0_ n1_ n2_ n3_ n4_ n5_ n6_ n7_; (try clear hb); (try clear hb2); (try clear hk); (try clear hi)) | (go_at_call 15; refine calls_of_args (args' := #[.slice A0 l0.length c0, .slice (some ⟨go71, 0, none⟩) y381.length co83, .slice Ao14 t352.length co14]) (by first | (rw [show y381.length = y377.length from (Kd.R_reads' HO379.out).1.symm] <;> rfl) | rfl) ?_; (with_reducible refine (punches_Worked.calls _ _ l0 _ _ y381 _ _ t352 t383 t384 _ ?side1 ?side2 ?side3 ?side4 ?side5 ?side6 A74.out).mono ?_); (case side1 => repeat (first | exact (Kd.C_below HR0.out HB.out) | (with_reducible refine Kd.C_alloc ?_ _) | (with_reducible refine Kd.C_drewN ?_ _) | (with_reducible refine Kd.C_drew ?_))); (case side2 => exact HC0.out); (case side3 => repeat (first | exact (Kd.R_reads' HO379.out).2.2 | (with_reducible refine Kd.C_alloc ?_ _) | (with_reducible refine Kd.C_drewN ?_ _) | (with_reducible refine Kd.C_drew ?_))); (case side4 => rw [show y381.length = y377.length from (Kd.R_reads' HO379.out).1.symm]; exact (Kd.R_reads' HO379.out).2.1); (case side5 => repeat (first | exact (Kd.R_reads' HO_10.out).2.2 | (with_reducible refine Kd.C_alloc ?_ _) | (with_reducible refine Kd.C_drewN ?_ _) | (with_reducible refine Kd.C_drew ?_))); (case side6 => exact (Kd.R_reads' HO_10.out).2.1); rintro e w87 ⟨v385, rfl, ho0, hb⟩; have n0_ := Aside0.mk (Kd.R_below (by (with_reducible repeat (first | apply Kd.R_alloc | apply Kd.R_drewN | apply Kd.R_drew)); exact HO_10.out) hb); have n1_ := Aside0.mk (Kd.R_elder' (by (with_reducible repeat (first | apply Kd.R_alloc | apply Kd.R_drewN | apply Kd.R_drew)); exact HO_13.out) (Kd.R_base ho0) hb); have n2_ := Aside0.mk (Kd.R_below (by (with_reducible repeat (first | apply Kd.R_alloc | apply Kd.R_drewN | apply Kd.R_drew)); exact HO_15.out) hb); have n3_ := Aside0.mk (Kd.R_below (by (with_reducible repeat (first | apply Kd.R_alloc | apply Kd.R_drewN | apply Kd.R_drew)); exact HO_16.out) hb); have n4_ := Aside0.mk (Kd.R_elder' (by (with_reducible repeat (first | apply Kd.R_alloc | apply Kd.R_drewN | apply Kd.R_drew)); exact HO_101.out) (Kd.R_base ho0) hb); have n5_ := Aside0.mk (Kd.R_below (by (with_reducible repeat (first | apply Kd.R_alloc | apply Kd.R_drewN | apply Kd.R_drew)); exact HO379.out) hb); have n6_ := Aside0.mk (Kd.R_lower (Kd.R_new' (Kd.R_new' ho0 (Kd.R_lt (by (with_reducible repeat (first | apply Kd.R_alloc | apply Kd.R_drewN | apply Kd.R_drew)); exact HO_13.out))) (Kd.R_lt (by (with_reducible repeat (first | apply Kd.R_alloc | apply Kd.R_drewN | apply Kd.R_drew)); exact HO_101.out))) (below_size (by repeat (first | (with_reducible first | exact HB.out | apply below_alloc | apply pw_below_drewN | apply below_drew1 | refine below_set ?_ GE373.out) | exact HB.out)))); have n7_ := Aside0.mk (blk_below (g := gb373) (o := .cells #[.int .i64 ((rd_T57 x16_2 (ji65)).f0), .bool ((rd_T57 x16_2 (ji65)).f1), .int .i64 ((rd_T57 x16_2 (ji65)).f2)] 57 (0, 0)) (by (with_reducible repeat (first | refine blk_drewN ?_ _ | refine blk_drew ?_ | refine blk_alloc ?_ _)); exact BK373.out) hb); have n8_ := Aside0.mk (below_step (by repeat (first | (with_reducible first | exact HB.out | apply below_alloc | apply pw_below_drewN | apply below_drew1 | refine below_set ?_ GE373.out) | exact HB.out)) hb); clear HO_10; clear HO_13; clear HO_15; clear HO_16; clear HO_101; clear HO379; clear BK373; clear HB; have HO_10 := n0_; have HO_13 := n1_; have HO_15 := n2_; have HO_16 := n3_; have HO_101 := n4_; have HO379 := n5_; have HO386 := n6_; have BK373 := n7_; have HB := n8_; clear n0_ n1_ n2_ n3_ n4_ n5_ n6_ n7_ n8_; (try clear hb); (try clear hb2); (try clear hk); (try clear hi); (try clear ho0))))
                    (try simp only [Act.put, List.setIfInBounds_toArray, List.set_cons_zero, List.set_cons_succ])
                    go_cut [168] (fun v168 wc => ∃ (kq : Nat) (x168_74 : Bool), v168 = .bool x168_74 ∧ Aside0 (pMin.j4 kq a3 t350 t357 t383 x168_74 ((rd_T57 x16_2 (ji65)).f0) ((rd_T57 x16_2 (ji65)).f1) ((rd_T57 x16_2 (ji65)).f2) = some r) ∧ Aside0 (kq ≤ k3) ∧ Aside0 (Kd.R (Kd.int .i64) 3 wc w.heap.size (fun k_ => some k_ ≠ (v385 : Value).ownBlock) (.slice Ao52 t357.length co52) t357) ∧ Aside0 (Kd.R (Kd.int .i64) 3 wc w.heap.size (fun k_ => some k_ ≠ ((.slice Ao52 t357.length co52) : Value).ownBlock) v385 t383) ∧ Aside0 (wc.heap[gb373]? = some (.cells #[.int .i64 ((rd_T57 x16_2 (ji65)).f0), .bool ((rd_T57 x16_2 (ji65)).f1), .int .i64 ((rd_T57 x16_2 (ji65)).f2)] 57 (0, 0))) ∧ Aside0 (Below w.heap.size w wc))
                    case first =>
                     have H := HC75.out
                     clear HC75
                     by_cases c88 : t384 = 0
                     ·rw [if_pos c88] at H
                      have c88b0 : (t384 == 0) = true := beq_iff_eq.mpr c88
                      have c88b1 : (t384 != 0) = false := bne_eq_false_iff_eq.mpr c88
                      clear c88
                      (first | rw [c88b0] | (simp only [i64_w, i32_w]; rw [c88b0]) | skip)
                      have H' := Aside0.mk H
                      clear H
                      obtain ⟨Ao89, co89, eo89⟩ := Kd.R_slice HO386.out
                      subst eo89
                      go_wp2
                      repeat (go_quiet (fail); try go_wp2)
                      go_meet
                      case rel => exact ⟨_, (((t383.length : Int) != (t357.length : Int))), (by first | rfl | (simp; done) | (simp [*]; done)), H', ⟨by have := HJ9.out; have := HK2.out; have := HK3.out; first | omega | exact Nat.le_refl _⟩, ⟨by (with_reducible repeat (first | apply Kd.R_alloc | apply Kd.R_drewN | apply Kd.R_drew)); exact Kd.R_mono HO_13.out (fun _ hk => hk.2)⟩, ⟨by (with_reducible repeat (first | apply Kd.R_alloc | apply Kd.R_drewN | apply Kd.R_drew)); exact Kd.R_mono HO386.out (fun _ hk => hk.1.2)⟩, ⟨by (with_reducible repeat (first | refine blk_drewN ?_ _ | refine blk_drew ?_ | refine blk_alloc ?_ _)); exact BK373.out⟩, ⟨by repeat (first | (with_reducible first | exact HB.out | apply below_alloc | apply pw_below_drewN | apply below_drew1 | refine below_set ?_ GE373.out) | exact HB.out)⟩⟩
                     ·rw [if_neg c88] at H
                      have c88b0 : (t384 == 0) = false := beq_eq_false_iff_ne.mpr c88
                      have c88b1 : (t384 != 0) = true := bne_iff_ne.mpr c88
                      (first | rw [c88b0] | (simp only [i64_w, i32_w]; rw [c88b0]) | skip)
                      have H' := Aside0.mk H
                      clear H
                      go_wp2
                      repeat (go_quiet (fail); try go_wp2)
                      go_meet
                      case rel => exact ⟨_, (true), (by first | rfl | (simp; done) | (simp [*]; done)), H', ⟨by have := HJ9.out; have := HK2.out; have := HK3.out; first | omega | exact Nat.le_refl _⟩, ⟨by (with_reducible repeat (first | apply Kd.R_alloc | apply Kd.R_drewN | apply Kd.R_drew)); exact Kd.R_mono HO_13.out (fun _ hk => hk.2)⟩, ⟨by (with_reducible repeat (first | apply Kd.R_alloc | apply Kd.R_drewN | apply Kd.R_drew)); exact Kd.R_mono HO386.out (fun _ hk => hk.1.2)⟩, ⟨by (with_reducible repeat (first | refine blk_drewN ?_ _ | refine blk_drew ?_ | refine blk_alloc ?_ _)); exact BK373.out⟩, ⟨by repeat (first | (with_reducible first | exact HB.out | apply below_alloc | apply pw_below_drewN | apply below_drew1 | refine below_set ?_ GE373.out) | exact HB.out)⟩⟩
                    case rest =>
                     clear HC75
                     try clear c1
                     try clear c2
                     try clear p2
                     try clear c3
                     try clear p3
                     try clear q3
                     try clear hx3
                     try clear c4
                     try clear p4
                     try clear q4
                     try clear hx4
                     try clear hf4
                     try clear c5
                     try clear q5
                     try clear c6
                     try clear p6
                     try clear c7
                     try clear p7
                     try clear q7
                     try clear hx7
                     try clear hf7
                     try clear c8
                     try clear hx8
                     try clear hf8
                     try clear c10
                     try clear c16
                     try clear c16b0
                     try clear c16b1
                     try clear c17
                     try clear c17b0
                     try clear c17b1
                     try clear c19
                     try clear c20
                     try clear c20b0
                     try clear c20b1
                     try clear c21
                     try clear c21b0
                     try clear c21b1
                     try clear c24
                     try clear c24b0
                     try clear c25
                     try clear c25b0
                     try clear c26
                     try clear c26b0
                     try clear c30
                     try clear c30b0
                     try clear c32
                     try clear c32b0
                     try clear c34
                     try clear c34b0
                     try clear p36
                     try clear q36
                     try clear hx36
                     try clear c37
                     try clear p37
                     try clear q37
                     try clear hx37
                     try clear c38
                     try clear c38b0
                     try clear p38
                     try clear q38
                     try clear hx38
                     try clear c39
                     try clear c39b0
                     try clear p40
                     try clear q40
                     try clear hx40
                     try clear hf40
                     try clear c41
                     try clear c41b0
                     try clear c42
                     try clear c53
                     try clear c53b0
                     try clear c54
                     try clear c54b0
                     try clear c55
                     try clear c55b0
                     try clear c56
                     try clear c56b0
                     try clear c57
                     try clear c57b0
                     try clear q58
                     try clear c59
                     try clear c61
                     try clear c61b0
                     try clear c61b1
                     try clear c63
                     try clear c63b0
                     try clear c63b1
                     try clear c63b2
                     try clear p64
                     try clear c66
                     try clear c66b0
                     try clear c67
                     try clear c67b0
                     try clear c68
                     try clear c69
                     try clear c69b0
                     try clear c70
                     try clear c70b0
                     try clear c71
                     try clear p71
                     try clear q71
                     try clear hx71
                     try clear hf71
                     try clear c73
                     try clear c84
                     try clear hx84
                     try clear hf84
                     try clear c88
                     try clear c88b0
                     try clear c88b1
                     try clear hcz29_0
                     try clear hcz29_1
                     try clear hcz29_2
                     try clear hcz31_0
                     try clear hcz31_1
                     try clear hcz31_2
                     try clear hcz33_0
                     try clear hcz33_1
                     try clear hcz33_2
                     try clear hcz35_0
                     try clear hcz35_1
                     try clear hcz35_2
                     try clear hcz36_0
                     try clear hcz36_1
                     try clear hcz36_2
                     try clear hcz43_0
                     try clear hcz43_1
                     try clear hcz43_2
                     try clear hcz46_0
                     try clear hcz46_1
                     try clear hcz46_2
                     try clear hcz48_0
                     try clear hcz48_1
                     try clear hcz48_2
                     try clear hcz51_0
                     try clear hcz51_1
                     try clear hcz51_2
                     try clear hcz78_0
                     try clear hcz78_1
                     try clear hcz78_2
                     try clear hcz82_0
                     try clear hcz82_1
                     try clear hcz82_2
                     try clear hfz29_0
                     try clear hfz29_1
                     try clear hfz29_2
                     try clear hfz31_0
                     try clear hfz31_1
                     try clear hfz31_2
                     try clear hfz33_0
                     try clear hfz33_1
                     try clear hfz33_2
                     try clear hfz35_0
                     try clear hfz35_1
                     try clear hfz35_2
                     try clear hfz36_0
                     try clear hfz36_1
                     try clear hfz36_2
                     try clear hfz43_0
                     try clear hfz43_1
                     try clear hfz43_2
                     try clear hfz46_0
                     try clear hfz46_1
                     try clear hfz46_2
                     try clear hfz48_0
                     try clear hfz48_1
                     try clear hfz48_2
                     try clear hfz51_0
                     try clear hfz51_1
                     try clear hfz51_2
                     try clear hfz78_0
                     try clear hfz78_1
                     try clear hfz78_2
                     try clear hfz82_0
                     try clear hfz82_1
                     try clear hfz82_2
                     try clear hx364_0
                     try clear hx364_1
                     try clear hx364_2
                     try clear hx370_0
                     try clear hx371_0
                     try clear hx372_0
                     try clear hx372_1
                     try clear hx372_2
                     try clear hx380_0
                     try clear hx380_1
                     try clear hx40_0
                     try clear hx71_0
                     try clear hx71_1
                     try clear hx84_0
                     try clear p2
                     try clear p3
                     try clear p36
                     try clear p364
                     try clear p370
                     try clear p371
                     try clear p372
                     try clear p380
                     try clear p4
                     try clear p40
                     try clear p6
                     try clear p71
                     try clear q3
                     try clear q36
                     try clear q364
                     try clear q370
                     try clear q371
                     try clear q372
                     try clear q380
                     try clear q4
                     try clear q40
                     try clear q71
                     obtain ⟨kq, x168_74, rfl, HA, HJ74, HO_13, HO_23, BK373, HB⟩ := hcut
                     cases kq with
                     | zero => exact absurd HA.out (by simp [pMin.j4])
                     | succ kj74 =>
                      have H := HA.out
                      clear HA
                      simp only [pMin.j4] at H
                      by_cases c90 : x168_74 = true
                      ·subst c90
                       have H1 : (some false) = some r := by rw [if_pos rfl] at H; exact H
                       clear H
                       have H := H1
                       clear H1
                       exact absurd ((Option.some.inj H).trans PR.out) (by decide)
                      ·replace c90 := Bool.eq_false_iff.mpr c90
                       subst c90
                       have H1 : (pMin.l2 kj74 a3 t350 t357 t383 (t357.length : Int) 0 ((rd_T57 x16_2 (ji65)).f0) ((rd_T57 x16_2 (ji65)).f1) ((rd_T57 x16_2 (ji65)).f2)) = some r := by rw [if_neg (show ¬ (false = true) by decide)] at H; exact H
                       clear H
                       have H := H1
                       clear H1
                       have H' := Aside0.mk H
                       clear H
                       go_wp2
                       repeat (go_quiet (fail); try go_wp2)
                       go_loopg [171] kj74 (fun kq v171 w' => ∃ (x171_5 : Int), v171 = .int .i64 x171_5 ∧ Aside0 (pMin.l2 kq a3 t350 t357 t383 (t357.length : Int) x171_5 ((rd_T57 x16_2 (ji65)).f0) ((rd_T57 x16_2 (ji65)).f1) ((rd_T57 x16_2 (ji65)).f2) = some r) ∧ Aside0 (kq ≤ kj74) ∧ Aside0 (Kd.R (Kd.int .i64) 3 w' w.heap.size (fun k_ => some k_ ≠ (v385 : Value).ownBlock) (.slice Ao52 t357.length co52) t357) ∧ Aside0 (Kd.R (Kd.int .i64) 3 w' w.heap.size (fun k_ => some k_ ≠ ((.slice Ao52 t357.length co52) : Value).ownBlock) v385 t383) ∧ Aside0 (w'.heap[gb373]? = some (.cells #[.int .i64 ((rd_T57 x16_2 (ji65)).f0), .bool ((rd_T57 x16_2 (ji65)).f1), .int .i64 ((rd_T57 x16_2 (ji65)).f2)] 57 (0, 0))) ∧ Aside0 (Below w.heap.size w w'))
                       case atStart => exact ⟨(0), (by first | rfl | (simp; done) | (simp [*]; done)), H', ⟨Nat.le_refl _⟩, ⟨by (with_reducible repeat (first | apply Kd.R_alloc | apply Kd.R_drewN | apply Kd.R_drew)); exact HO_13.out⟩, ⟨by (with_reducible repeat (first | apply Kd.R_alloc | apply Kd.R_drewN | apply Kd.R_drew)); exact HO_23.out⟩, ⟨by (with_reducible repeat (first | refine blk_drewN ?_ _ | refine blk_drew ?_ | refine blk_alloc ?_ _)); exact BK373.out⟩, ⟨by repeat (first | (with_reducible first | exact HB.out | apply below_alloc | apply pw_below_drewN | apply below_drew1 | refine below_set ?_ GE373.out) | exact HB.out)⟩⟩
                       case round =>
                        clear H'
                        try clear c1
                        try clear c2
                        try clear p2
                        try clear c3
                        try clear p3
                        try clear q3
                        try clear hx3
                        try clear c4
                        try clear p4
                        try clear q4
                        try clear hx4
                        try clear hf4
                        try clear c5
                        try clear q5
                        try clear c6
                        try clear p6
                        try clear c7
                        try clear p7
                        try clear q7
                        try clear hx7
                        try clear hf7
                        try clear c8
                        try clear hx8
                        try clear hf8
                        try clear c9
                        try clear c10
                        try clear c16
                        try clear c16b0
                        try clear c16b1
                        try clear c17
                        try clear c17b0
                        try clear c17b1
                        try clear c19
                        try clear c20
                        try clear c20b0
                        try clear c20b1
                        try clear c21
                        try clear c21b0
                        try clear c21b1
                        try clear c24
                        try clear c24b0
                        try clear c25
                        try clear c25b0
                        try clear c26
                        try clear c26b0
                        try clear c30
                        try clear c30b0
                        try clear c32
                        try clear c32b0
                        try clear c34
                        try clear c34b0
                        try clear p36
                        try clear q36
                        try clear hx36
                        try clear c37
                        try clear p37
                        try clear q37
                        try clear hx37
                        try clear c38
                        try clear c38b0
                        try clear p38
                        try clear q38
                        try clear hx38
                        try clear c39
                        try clear c39b0
                        try clear p40
                        try clear q40
                        try clear hx40
                        try clear hf40
                        try clear c41
                        try clear c41b0
                        try clear c42
                        try clear c53
                        try clear c53b0
                        try clear c54
                        try clear c54b0
                        try clear c55
                        try clear c55b0
                        try clear c56
                        try clear c56b0
                        try clear c57
                        try clear c57b0
                        try clear q58
                        try clear c59
                        try clear c61
                        try clear c61b0
                        try clear c61b1
                        try clear c63
                        try clear c63b0
                        try clear c63b1
                        try clear c63b2
                        try clear p64
                        try clear c66
                        try clear c66b0
                        try clear c67
                        try clear c67b0
                        try clear c68
                        try clear c69
                        try clear c69b0
                        try clear c70
                        try clear c70b0
                        try clear c71
                        try clear p71
                        try clear q71
                        try clear hx71
                        try clear hf71
                        try clear c73
                        try clear c84
                        try clear hx84
                        try clear hf84
                        try clear c88
                        try clear c88b0
                        try clear c88b1
                        try clear c90
                        try clear hcz29_0
                        try clear hcz29_1
                        try clear hcz29_2
                        try clear hcz31_0
                        try clear hcz31_1
                        try clear hcz31_2
                        try clear hcz33_0
                        try clear hcz33_1
                        try clear hcz33_2
                        try clear hcz35_0
                        try clear hcz35_1
                        try clear hcz35_2
                        try clear hcz36_0
                        try clear hcz36_1
                        try clear hcz36_2
                        try clear hcz43_0
                        try clear hcz43_1
                        try clear hcz43_2
                        try clear hcz46_0
                        try clear hcz46_1
                        try clear hcz46_2
                        try clear hcz48_0
                        try clear hcz48_1
                        try clear hcz48_2
                        try clear hcz51_0
                        try clear hcz51_1
                        try clear hcz51_2
                        try clear hcz78_0
                        try clear hcz78_1
                        try clear hcz78_2
                        try clear hcz82_0
                        try clear hcz82_1
                        try clear hcz82_2
                        try clear hfz29_0
                        try clear hfz29_1
                        try clear hfz29_2
                        try clear hfz31_0
                        try clear hfz31_1
                        try clear hfz31_2
                        try clear hfz33_0
                        try clear hfz33_1
                        try clear hfz33_2
                        try clear hfz35_0
                        try clear hfz35_1
                        try clear hfz35_2
                        try clear hfz36_0
                        try clear hfz36_1
                        try clear hfz36_2
                        try clear hfz43_0
                        try clear hfz43_1
                        try clear hfz43_2
                        try clear hfz46_0
                        try clear hfz46_1
                        try clear hfz46_2
                        try clear hfz48_0
                        try clear hfz48_1
                        try clear hfz48_2
                        try clear hfz51_0
                        try clear hfz51_1
                        try clear hfz51_2
                        try clear hfz78_0
                        try clear hfz78_1
                        try clear hfz78_2
                        try clear hfz82_0
                        try clear hfz82_1
                        try clear hfz82_2
                        try clear hx364_0
                        try clear hx364_1
                        try clear hx364_2
                        try clear hx370_0
                        try clear hx371_0
                        try clear hx372_0
                        try clear hx372_1
                        try clear hx372_2
                        try clear hx380_0
                        try clear hx380_1
                        try clear hx40_0
                        try clear hx71_0
                        try clear hx71_1
                        try clear hx84_0
                        try clear p2
                        try clear p3
                        try clear p36
                        try clear p364
                        try clear p37
                        try clear p370
                        try clear p371
                        try clear p372
                        try clear p38
                        try clear p380
                        try clear p4
                        try clear p40
                        try clear p6
                        try clear p64
                        try clear p7
                        try clear p71
                        try clear q3
                        try clear q36
                        try clear q364
                        try clear q37
                        try clear q370
                        try clear q371
                        try clear q372
                        try clear q38
                        try clear q380
                        try clear q4
                        try clear q40
                        try clear q5
                        try clear q58
                        try clear q7
                        try clear q71
                        obtain ⟨x171_5, rfl, HA, HK5, HO_13, HO_23, BK373, HB⟩ := hrel
                        cases gk with
                        | zero => exact absurd HA.out (by simp [pMin.l2])
                        | succ k5 =>
                         have H := HA.out
                         clear HA
                         simp only [pMin.l2] at H
                         by_cases c91 : x171_5 < (t357.length : Int)
                         ·rw [if_pos c91] at H
                          have c91b0 : decide (x171_5 < (t357.length : Int)) = true := decide_eq_true c91
                          clear c91
                          by_cases c92 : x171_5 = ((rd_T57 x16_2 (ji65)).f0)
                          ·as_aux_lemma =>
                           rw [if_pos c92] at H
                           have c92b0 : (x171_5 == ((rd_T57 x16_2 (ji65)).f0)) = true := beq_iff_eq.mpr c92
                           have c92b1 : (x171_5 != ((rd_T57 x16_2 (ji65)).f0)) = false := bne_eq_false_iff_eq.mpr c92
                           clear c92
                           by_cases c93 : 0 ≤ x171_5
                           ·rw [if_pos c93] at H
                            have c93b0 : decide (0 ≤ x171_5) = true := decide_eq_true c93
                            clear c93
                            by_cases c94 : x171_5 < (t383.length : Int)
                            ·rw [if_pos c94] at H
                             have c94b0 : decide (x171_5 < (t383.length : Int)) = true := decide_eq_true c94
                             clear c94
                             by_cases c95 : x171_5 < (t357.length : Int)
                             ·rw [if_pos c95] at H
                              have c95b0 : decide (x171_5 < (t357.length : Int)) = true := decide_eq_true c95
                              clear c95
                              by_cases c96 : (rd t383 x171_5) < (rd t357 x171_5)
                              ·rw [if_pos c96] at H
                               have c96b0 : decide ((rd t383 x171_5) < (rd t357 x171_5)) = true := decide_eq_true c96
                               clear c96
                               exact absurd ((Option.some.inj H).trans PR.out) (by decide)
                              ·rw [if_neg c96] at H
                               have c96b0 : decide ((rd t383 x171_5) < (rd t357 x171_5)) = false := decide_eq_false c96
                               clear c96
                               by_cases c97 : (rd t383 x171_5) > (wrap64 ((rd t357 x171_5) + (wrap64 (a3))))
                               ·rw [if_pos c97] at H
                                have c97b0 : decide ((wrap64 ((rd t357 x171_5) + (wrap64 (a3)))) < (rd t383 x171_5)) = true := decide_eq_true c97
                                clear c97
                                exact absurd ((Option.some.inj H).trans PR.out) (by decide)
                               ·rw [if_neg c97] at H
                                have c97b0 : decide ((wrap64 ((rd t357 x171_5) + (wrap64 (a3)))) < (rd t383 x171_5)) = false := decide_eq_false c97
                                clear c97
                                by_cases c98 : (rd t357 x171_5) > 0
                                ·rw [if_pos c98] at H
                                 have c98b0 : decide (0 < (rd t357 x171_5)) = true := decide_eq_true c98
                                 clear c98
                                 by_cases c99 : (rd t383 x171_5) = (wrap64 ((rd t357 x171_5) + (wrap64 (a3))))
                                 ·rw [if_pos c99] at H
                                  have c99b0 : ((rd t383 x171_5) == (wrap64 ((rd t357 x171_5) + (wrap64 (a3))))) = true := beq_iff_eq.mpr c99
                                  have c99b1 : ((rd t383 x171_5) != (wrap64 ((rd t357 x171_5) + (wrap64 (a3))))) = false := bne_eq_false_iff_eq.mpr c99
                                  clear c99
                                  have H' := Aside0.mk H
                                  clear H
                                  have hcz100_0 : wr.cell? ⟨gb373, 0, none⟩ = some (.int .i64 ((rd_T57 x16_2 (ji65)).f0)) := (blk_cell BK373.out 0).trans rfl
                                  have hcz100_1 : wr.cell? ⟨gb373, 1, none⟩ = some (.bool ((rd_T57 x16_2 (ji65)).f1)) := (blk_cell BK373.out 1).trans rfl
                                  have hcz100_2 : wr.cell? ⟨gb373, 2, none⟩ = some (.int .i64 ((rd_T57 x16_2 (ji65)).f2)) := (blk_cell BK373.out 2).trans rfl
                                  have hfz100_0 := blk_frozen BK373.out 0
                                  have hfz100_1 := blk_frozen BK373.out 1
                                  have hfz100_2 := blk_frozen BK373.out 2
                                  obtain ⟨Ao101, co101, eo101⟩ := Kd.R_slice HO_23.out
                                  subst eo101
                                  have p387 : 0 ≤ (x171_5 : Int) := of_decide_eq_true (by first | (with_reducible assumption) | assumption)
                                  have q387 : x171_5 < (t383.length : Int) := of_decide_eq_true (by first | (with_reducible assumption) | assumption)
                                  obtain ⟨ad387, e387, hx387_0⟩ := Kd.at_int (Kd.R_reads' HO_23.out).2.2 x171_5 p387 q387
                                  cases e387
                                  replace p387 := eq_true p387
                                  replace q387 := eq_true q387
                                  have p388 : 0 ≤ (x171_5 : Int) := of_decide_eq_true (by first | (with_reducible assumption) | assumption)
                                  have q388 : x171_5 < (t357.length : Int) := of_decide_eq_true (by first | (with_reducible assumption) | assumption)
                                  obtain ⟨ad388, e388, hx388_0⟩ := Kd.at_int (Kd.R_reads' HO_13.out).2.2 x171_5 p388 q388
                                  cases e388
                                  replace p388 := eq_true p388
                                  replace q388 := eq_true q388
                                  have p389 : 0 ≤ (x171_5 : Int) := of_decide_eq_true (by first | (with_reducible assumption) | assumption)
                                  have q389 : x171_5 < (t383.length : Int) := of_decide_eq_true (by first | (with_reducible assumption) | assumption)
                                  obtain ⟨ad389, e389, hx389_0⟩ := Kd.at_int (Kd.R_reads' HO_23.out).2.2 x171_5 p389 q389
                                  obtain rfl : ad387 = ad389 := (by injection e389)
                                  replace p389 := eq_true p389
                                  replace q389 := eq_true q389
                                  have p390 : 0 ≤ (x171_5 : Int) := of_decide_eq_true (by first | (with_reducible assumption) | assumption)
                                  have q390 : x171_5 < (t357.length : Int) := of_decide_eq_true (by first | (with_reducible assumption) | assumption)
                                  obtain ⟨ad390, e390, hx390_0⟩ := Kd.at_int (Kd.R_reads' HO_13.out).2.2 x171_5 p390 q390
                                  obtain rfl : ad388 = ad390 := (by injection e390)
                                  replace p390 := eq_true p390
                                  replace q390 := eq_true q390
                                  have p391 : 0 ≤ (x171_5 : Int) := of_decide_eq_true (by first | (with_reducible assumption) | assumption)
                                  have q391 : x171_5 < (t357.length : Int) := of_decide_eq_true (by first | (with_reducible assumption) | assumption)
                                  obtain ⟨ad391, e391, hx391_0⟩ := Kd.at_int (Kd.R_reads' HO_13.out).2.2 x171_5 p391 q391
                                  obtain rfl : ad388 = ad391 := (by injection e391)
                                  replace p391 := eq_true p391
                                  replace q391 := eq_true q391
                                  have p392 : 0 ≤ (x171_5 : Int) := of_decide_eq_true (by first | (with_reducible assumption) | assumption)
                                  have q392 : x171_5 < (t383.length : Int) := of_decide_eq_true (by first | (with_reducible assumption) | assumption)
                                  obtain ⟨ad392, e392, hx392_0⟩ := Kd.at_int (Kd.R_reads' HO_23.out).2.2 x171_5 p392 q392
                                  obtain rfl : ad387 = ad392 := (by injection e392)
                                  replace p392 := eq_true p392
                                  replace q392 := eq_true q392
                                  have p393 : 0 ≤ (x171_5 : Int) := of_decide_eq_true (by first | (with_reducible assumption) | assumption)
                                  have q393 : x171_5 < (t357.length : Int) := of_decide_eq_true (by first | (with_reducible assumption) | assumption)
                                  obtain ⟨ad393, e393, hx393_0⟩ := Kd.at_int (Kd.R_reads' HO_13.out).2.2 x171_5 p393 q393
                                  obtain rfl : ad388 = ad393 := (by injection e393)
                                  replace p393 := eq_true p393
                                  replace q393 := eq_true q393
                                  go_wp2
                                  (try simp only [List.append_eq, List.cons_append, List.nil_append])
                                  repeat (go_quiet (fail); try go_wp2)
                                  go_roundg k5
                                  case measure => have := HJ9.out; have := HK2.out; have := HK3.out; have := HJ74.out; have := HK5.out; omega
                                  case rel => exact ⟨(wrap64 (x171_5 + 1)), (by first | rfl | (simp; done) | (simp [*]; done)), H', ⟨by have := HJ9.out; have := HK2.out; have := HK3.out; have := HJ74.out; have := HK5.out; omega⟩, ⟨by (with_reducible repeat (first | apply Kd.R_alloc | apply Kd.R_drewN | apply Kd.R_drew)); exact HO_13.out⟩, ⟨by (with_reducible repeat (first | apply Kd.R_alloc | apply Kd.R_drewN | apply Kd.R_drew)); exact HO_23.out⟩, ⟨by (with_reducible repeat (first | refine blk_drewN ?_ _ | refine blk_drew ?_ | refine blk_alloc ?_ _)); exact BK373.out⟩, ⟨by repeat (first | (with_reducible first | exact HB.out | apply below_alloc | apply pw_below_drewN | apply below_drew1 | refine below_set ?_ GE373.out) | exact HB.out)⟩⟩
                                 ·rw [if_neg c99] at H
                                  have c99b0 : ((rd t383 x171_5) == (wrap64 ((rd t357 x171_5) + (wrap64 (a3))))) = false := beq_eq_false_iff_ne.mpr c99
                                  have c99b1 : ((rd t383 x171_5) != (wrap64 ((rd t357 x171_5) + (wrap64 (a3))))) = true := bne_iff_ne.mpr c99
                                  exact absurd ((Option.some.inj H).trans PR.out) (by decide)
                                ·rw [if_neg c98] at H
                                 have c98b0 : decide (0 < (rd t357 x171_5)) = false := decide_eq_false c98
                                 clear c98
                                 have H' := Aside0.mk H
                                 clear H
                                 have hcz102_0 : wr.cell? ⟨gb373, 0, none⟩ = some (.int .i64 ((rd_T57 x16_2 (ji65)).f0)) := (blk_cell BK373.out 0).trans rfl
                                 have hcz102_1 : wr.cell? ⟨gb373, 1, none⟩ = some (.bool ((rd_T57 x16_2 (ji65)).f1)) := (blk_cell BK373.out 1).trans rfl
                                 have hcz102_2 : wr.cell? ⟨gb373, 2, none⟩ = some (.int .i64 ((rd_T57 x16_2 (ji65)).f2)) := (blk_cell BK373.out 2).trans rfl
                                 have hfz102_0 := blk_frozen BK373.out 0
                                 have hfz102_1 := blk_frozen BK373.out 1
                                 have hfz102_2 := blk_frozen BK373.out 2
                                 obtain ⟨Ao103, co103, eo103⟩ := Kd.R_slice HO_23.out
                                 subst eo103
                                 have p387 : 0 ≤ (x171_5 : Int) := of_decide_eq_true (by first | (with_reducible assumption) | assumption)
                                 have q387 : x171_5 < (t383.length : Int) := of_decide_eq_true (by first | (with_reducible assumption) | assumption)
                                 obtain ⟨ad387, e387, hx387_0⟩ := Kd.at_int (Kd.R_reads' HO_23.out).2.2 x171_5 p387 q387
                                 cases e387
                                 replace p387 := eq_true p387
                                 replace q387 := eq_true q387
                                 have p388 : 0 ≤ (x171_5 : Int) := of_decide_eq_true (by first | (with_reducible assumption) | assumption)
                                 have q388 : x171_5 < (t357.length : Int) := of_decide_eq_true (by first | (with_reducible assumption) | assumption)
                                 obtain ⟨ad388, e388, hx388_0⟩ := Kd.at_int (Kd.R_reads' HO_13.out).2.2 x171_5 p388 q388
                                 cases e388
                                 replace p388 := eq_true p388
                                 replace q388 := eq_true q388
                                 have p389 : 0 ≤ (x171_5 : Int) := of_decide_eq_true (by first | (with_reducible assumption) | assumption)
                                 have q389 : x171_5 < (t383.length : Int) := of_decide_eq_true (by first | (with_reducible assumption) | assumption)
                                 obtain ⟨ad389, e389, hx389_0⟩ := Kd.at_int (Kd.R_reads' HO_23.out).2.2 x171_5 p389 q389
                                 obtain rfl : ad387 = ad389 := (by injection e389)
                                 replace p389 := eq_true p389
                                 replace q389 := eq_true q389
                                 have p390 : 0 ≤ (x171_5 : Int) := of_decide_eq_true (by first | (with_reducible assumption) | assumption)
                                 have q390 : x171_5 < (t357.length : Int) := of_decide_eq_true (by first | (with_reducible assumption) | assumption)
                                 obtain ⟨ad390, e390, hx390_0⟩ := Kd.at_int (Kd.R_reads' HO_13.out).2.2 x171_5 p390 q390
                                 obtain rfl : ad388 = ad390 := (by injection e390)
                                 replace p390 := eq_true p390
                                 replace q390 := eq_true q390
                                 have p391 : 0 ≤ (x171_5 : Int) := of_decide_eq_true (by first | (with_reducible assumption) | assumption)
                                 have q391 : x171_5 < (t357.length : Int) := of_decide_eq_true (by first | (with_reducible assumption) | assumption)
                                 obtain ⟨ad391, e391, hx391_0⟩ := Kd.at_int (Kd.R_reads' HO_13.out).2.2 x171_5 p391 q391
                                 obtain rfl : ad388 = ad391 := (by injection e391)
                                 replace p391 := eq_true p391
                                 replace q391 := eq_true q391
                                 go_wp2
                                 (try simp only [List.append_eq, List.cons_append, List.nil_append])
                                 repeat (go_quiet (fail); try go_wp2)
                                 go_roundg k5
                                 case measure => have := HJ9.out; have := HK2.out; have := HK3.out; have := HJ74.out; have := HK5.out; omega
                                 case rel => exact ⟨(wrap64 (x171_5 + 1)), (by first | rfl | (simp; done) | (simp [*]; done)), H', ⟨by have := HJ9.out; have := HK2.out; have := HK3.out; have := HJ74.out; have := HK5.out; omega⟩, ⟨by (with_reducible repeat (first | apply Kd.R_alloc | apply Kd.R_drewN | apply Kd.R_drew)); exact HO_13.out⟩, ⟨by (with_reducible repeat (first | apply Kd.R_alloc | apply Kd.R_drewN | apply Kd.R_drew)); exact HO_23.out⟩, ⟨by (with_reducible repeat (first | refine blk_drewN ?_ _ | refine blk_drew ?_ | refine blk_alloc ?_ _)); exact BK373.out⟩, ⟨by repeat (first | (with_reducible first | exact HB.out | apply below_alloc | apply pw_below_drewN | apply below_drew1 | refine below_set ?_ GE373.out) | exact HB.out)⟩⟩
                             ·rw [if_neg c95] at H
                              exact absurd H (by simp)
                            ·rw [if_neg c94] at H
                             exact absurd H (by simp)
                           ·rw [if_neg c93] at H
                            exact absurd H (by simp)
                          ·as_aux_lemma =>
                           rw [if_neg c92] at H
                           have c92b0 : (x171_5 == ((rd_T57 x16_2 (ji65)).f0)) = false := beq_eq_false_iff_ne.mpr c92
                           have c92b1 : (x171_5 != ((rd_T57 x16_2 (ji65)).f0)) = true := bne_iff_ne.mpr c92
                           by_cases c104 : 0 ≤ x171_5
                           ·rw [if_pos c104] at H
                            have c104b0 : decide (0 ≤ x171_5) = true := decide_eq_true c104
                            clear c104
                            by_cases c105 : x171_5 < (t383.length : Int)
                            ·rw [if_pos c105] at H
                             have c105b0 : decide (x171_5 < (t383.length : Int)) = true := decide_eq_true c105
                             clear c105
                             by_cases c106 : x171_5 < (t357.length : Int)
                             ·rw [if_pos c106] at H
                              have c106b0 : decide (x171_5 < (t357.length : Int)) = true := decide_eq_true c106
                              clear c106
                              by_cases c107 : (rd t383 x171_5) = (rd t357 x171_5)
                              ·rw [if_pos c107] at H
                               have c107b0 : ((rd t383 x171_5) == (rd t357 x171_5)) = true := beq_iff_eq.mpr c107
                               have c107b1 : ((rd t383 x171_5) != (rd t357 x171_5)) = false := bne_eq_false_iff_eq.mpr c107
                               clear c107
                               have H' := Aside0.mk H
                               clear H
                               have hcz108_0 : wr.cell? ⟨gb373, 0, none⟩ = some (.int .i64 ((rd_T57 x16_2 (ji65)).f0)) := (blk_cell BK373.out 0).trans rfl
                               have hcz108_1 : wr.cell? ⟨gb373, 1, none⟩ = some (.bool ((rd_T57 x16_2 (ji65)).f1)) := (blk_cell BK373.out 1).trans rfl
                               have hcz108_2 : wr.cell? ⟨gb373, 2, none⟩ = some (.int .i64 ((rd_T57 x16_2 (ji65)).f2)) := (blk_cell BK373.out 2).trans rfl
                               have hfz108_0 := blk_frozen BK373.out 0
                               have hfz108_1 := blk_frozen BK373.out 1
                               have hfz108_2 := blk_frozen BK373.out 2
                               obtain ⟨Ao109, co109, eo109⟩ := Kd.R_slice HO_23.out
                               subst eo109
                               have p394 : 0 ≤ (x171_5 : Int) := of_decide_eq_true (by first | (with_reducible assumption) | assumption)
                               have q394 : x171_5 < (t383.length : Int) := of_decide_eq_true (by first | (with_reducible assumption) | assumption)
                               obtain ⟨ad394, e394, hx394_0⟩ := Kd.at_int (Kd.R_reads' HO_23.out).2.2 x171_5 p394 q394
                               cases e394
                               replace p394 := eq_true p394
                               replace q394 := eq_true q394
                               have p395 : 0 ≤ (x171_5 : Int) := of_decide_eq_true (by first | (with_reducible assumption) | assumption)
                               have q395 : x171_5 < (t357.length : Int) := of_decide_eq_true (by first | (with_reducible assumption) | assumption)
                               obtain ⟨ad395, e395, hx395_0⟩ := Kd.at_int (Kd.R_reads' HO_13.out).2.2 x171_5 p395 q395
                               cases e395
                               replace p395 := eq_true p395
                               replace q395 := eq_true q395
                               go_wp2
                               (try simp only [List.append_eq, List.cons_append, List.nil_append])
                               repeat (go_quiet (fail); try go_wp2)
                               go_roundg k5
                               case measure => have := HJ9.out; have := HK2.out; have := HK3.out; have := HJ74.out; have := HK5.out; omega
                               case rel => exact ⟨(wrap64 (x171_5 + 1)), (by first | rfl | (simp; done) | (simp [*]; done)), H', ⟨by have := HJ9.out; have := HK2.out; have := HK3.out; have := HJ74.out; have := HK5.out; omega⟩, ⟨by (with_reducible repeat (first | apply Kd.R_alloc | apply Kd.R_drewN | apply Kd.R_drew)); exact HO_13.out⟩, ⟨by (with_reducible repeat (first | apply Kd.R_alloc | apply Kd.R_drewN | apply Kd.R_drew)); exact HO_23.out⟩, ⟨by (with_reducible repeat (first | refine blk_drewN ?_ _ | refine blk_drew ?_ | refine blk_alloc ?_ _)); exact BK373.out⟩, ⟨by repeat (first | (with_reducible first | exact HB.out | apply below_alloc | apply pw_below_drewN | apply below_drew1 | refine below_set ?_ GE373.out) | exact HB.out)⟩⟩
                              ·rw [if_neg c107] at H
                               have c107b0 : ((rd t383 x171_5) == (rd t357 x171_5)) = false := beq_eq_false_iff_ne.mpr c107
                               have c107b1 : ((rd t383 x171_5) != (rd t357 x171_5)) = true := bne_iff_ne.mpr c107
                               exact absurd ((Option.some.inj H).trans PR.out) (by decide)
                             ·rw [if_neg c106] at H
                              exact absurd H (by simp)
                            ·rw [if_neg c105] at H
                             exact absurd H (by simp)
                           ·rw [if_neg c104] at H
                            exact absurd H (by simp)
                         ·rw [if_neg c91] at H
                          have c91b0 : decide (x171_5 < (t357.length : Int)) = false := decide_eq_false c91
                          clear c91
                          obtain rfl := Option.some.inj H
                          go_wp2
                          (try simp only [List.append_eq, List.cons_append, List.nil_append])
                          repeat (go_quiet (fail); try go_wp2)
                          go_ret
                          exact ⟨by first | rfl | (simp [errW_none, errW_some] <;> rfl) | (simp only [← hji65]; first | rfl | (simp [errW_none, errW_some] <;> rfl)) | (simp [*, errW_none, errW_some] <;> rfl), by repeat (first | (with_reducible first | exact HB.out | apply below_alloc | apply pw_below_drewN | apply below_drew1 | refine below_set ?_ GE373.out) | exact HB.out)⟩
                   ·replace c73 := Bool.eq_false_iff.mpr c73
                    subst c73
                    have H1 : (some t350) = some r := by rw [if_neg (show ¬ (false = true) by decide)] at H; exact H
                    clear H
                    have H := H1
                    clear H1
                    obtain rfl := Option.some.inj H
                    obtain ⟨Ao110, co110, eo110⟩ := Kd.R_slice HO_16.out
                    subst eo110
                    have p372 : 0 ≤ ((ji65) : Int) := of_decide_eq_true (by first | (with_reducible assumption) | assumption)
                    have q372 : (ji65) < (x16_2.length : Int) := of_decide_eq_true (by first | (with_reducible assumption) | assumption)
                    obtain ⟨ad372, e372, hx372_0, hx372_1, hx372_2⟩ := at_T57 (Kd.R_reads' HO_16.out).2.2 (ji65) p372 q372
                    cases e372
                    replace p372 := eq_true p372
                    replace q372 := eq_true q372
                    go_wp2_with (first | ((with_reducible refine gate_dst (N := 21) rfl ?_); (try (refine gate_guard (by rfl) ?_; dsimp only)); refine box_event ?hg (N := 21) ?hd (cs := #[.int .i64 0, .bool false, .int .i64 0]) (t := 57) ?hr ?_; (case hd => rfl); (case hg => rfl); (case hr => first | (go_simp; done) | (go_simp; rfl)); intro gb373 hg w111 hbox hb; have n0_ := Aside0.mk (Kd.R_below (Kd.R_elderB (by (with_reducible repeat (first | apply Kd.R_alloc | apply Kd.R_drewN | apply Kd.R_drew)); exact HO_10.out) gb373 (Nat.le_of_eq hg.symm)) hb); have n1_ := Aside0.mk (Kd.R_below (by (with_reducible repeat (first | apply Kd.R_alloc | apply Kd.R_drewN | apply Kd.R_drew)); exact HO_13.out) hb); have n2_ := Aside0.mk (Kd.R_below (by (with_reducible repeat (first | apply Kd.R_alloc | apply Kd.R_drewN | apply Kd.R_drew)); exact HO_15.out) hb); have n3_ := Aside0.mk (Kd.R_below (Kd.R_elderB (by (with_reducible repeat (first | apply Kd.R_alloc | apply Kd.R_drewN | apply Kd.R_drew)); exact HO_16.out) gb373 (Nat.le_of_eq hg.symm)) hb); have n4_ := Aside0.mk (Kd.R_below (by (with_reducible repeat (first | apply Kd.R_alloc | apply Kd.R_drewN | apply Kd.R_drew)); exact HO_101.out) hb); have n5_ := Aside0.mk (below_step (by repeat (first | (with_reducible first | exact HB.out | apply below_alloc | apply pw_below_drewN | apply below_drew1) | exact HB.out)) hb); have n6_ := Aside0.mk (hbox); have n7_ := Aside0.mk ((by rw [hg]; exact (below_size (by repeat (first | (with_reducible first | exact HB.out | apply below_alloc | apply pw_below_drewN | apply below_drew1) | exact HB.out))) : w.heap.size ≤ gb373)); have n8_ := Aside0.mk ((by rw [hg]; exact (below_size (by repeat (first | (with_reducible first | exact HB.out | apply below_alloc | apply pw_below_drewN | apply below_drew1) | exact HB.out))) : w.heap.size ≤ gb373)); clear HO_10; clear HO_13; clear HO_15; clear HO_16; clear HO_101; clear HB; have HO_10 := n0_; have HO_13 := n1_; have HO_15 := n2_; have HO_16 := n3_; have HO_101 := n4_; have HB := n5_; have BK373 := n6_; have GW373 := n7_; have GE373 := n8_; clear n0_ n1_ n2_ n3_ n4_ n5_ n6_ n7_ n8_; clear hb hbox hg; have hcz112_0 : w111.cell? ⟨gb373, 0, none⟩ = some (.int .i64 0) := (blk_cell BK373.out 0).trans rfl; have hcz112_1 : w111.cell? ⟨gb373, 1, none⟩ = some (.bool false) := (blk_cell BK373.out 1).trans rfl; have hcz112_2 : w111.cell? ⟨gb373, 2, none⟩ = some (.int .i64 0) := (blk_cell BK373.out 2).trans rfl; have hfz112_0 := blk_frozen BK373.out 0; have hfz112_1 := blk_frozen BK373.out 1; have hfz112_2 := blk_frozen BK373.out 2) | ((with_reducible refine gate_dst (N := 134) rfl ?_); (try (refine gate_guard (by rfl) ?_; dsimp only)); refine Kd.R_lit k45 _ 45 ?hg (N := 134) ?hd (xs := ([] : List (S45))) (inner := []) (ok := fun _ => True) (okp := fun _ => True) ?hr ?hp (fun _ hk => hk) trivial (Below.refl _ _) (Nat.le_refl _) (by simp) ?_; (case hd => rfl); (case hg => rfl); (case hr => first | (go_simp; done) | (go_simp; rfl)); (case hp => exact (Reps.none _ _)); intro v375 w113 ho114 hb hg_ hnew_; clear hg_ hnew_; (first | rw [← Ny374.out] at ho114 | (simp only [Int.reduceToNat] at ho114; rw [← Ny374.out] at ho114)); have n0_ := Aside0.mk (Kd.R_below (by (with_reducible repeat (first | apply Kd.R_alloc | apply Kd.R_drewN | apply Kd.R_drew)); exact (Kd.R_mono (Kd.R_far (p := ⟨gb373, 2, none⟩) (Kd.R_far (p := ⟨gb373, 1, none⟩) (Kd.R_far (p := ⟨gb373, 0, none⟩) (Kd.R_mono HO_10.out (fun k_ hk => (⟨hk, hk.2⟩ : _ ∧ k_ ≠ gb373))) (fun _ hk => hk.2) (.int .i64 ((rd_T57 x16_2 (ji65)).f0))) (fun _ hk => hk.2) (.bool ((rd_T57 x16_2 (ji65)).f1))) (fun _ hk => hk.2) (.int .i64 ((rd_T57 x16_2 (ji65)).f2))) (fun _ h_ => h_.1))) hb); have n1_ := Aside0.mk (Kd.R_below (by (with_reducible repeat (first | apply Kd.R_alloc | apply Kd.R_drewN | apply Kd.R_drew)); exact (Kd.R_mono (Kd.R_far (p := ⟨gb373, 2, none⟩) (Kd.R_far (p := ⟨gb373, 1, none⟩) (Kd.R_far (p := ⟨gb373, 0, none⟩) (Kd.R_types HO_13.out BK373.out (by decide)) (fun _ hk => hk.2) (.int .i64 ((rd_T57 x16_2 (ji65)).f0))) (fun _ hk => hk.2) (.bool ((rd_T57 x16_2 (ji65)).f1))) (fun _ hk => hk.2) (.int .i64 ((rd_T57 x16_2 (ji65)).f2))) (fun _ h_ => h_.1))) hb); have n2_ := Aside0.mk (Kd.R_below (by (with_reducible repeat (first | apply Kd.R_alloc | apply Kd.R_drewN | apply Kd.R_drew)); exact (Kd.R_mono (Kd.R_far (p := ⟨gb373, 2, none⟩) (Kd.R_far (p := ⟨gb373, 1, none⟩) (Kd.R_far (p := ⟨gb373, 0, none⟩) (Kd.R_types HO_15.out BK373.out (by decide)) (fun _ hk => hk.2) (.int .i64 ((rd_T57 x16_2 (ji65)).f0))) (fun _ hk => hk.2) (.bool ((rd_T57 x16_2 (ji65)).f1))) (fun _ hk => hk.2) (.int .i64 ((rd_T57 x16_2 (ji65)).f2))) (fun _ h_ => h_.1))) hb); have n3_ := Aside0.mk (Kd.R_below (by (with_reducible repeat (first | apply Kd.R_alloc | apply Kd.R_drewN | apply Kd.R_drew)); exact (Kd.R_mono (Kd.R_far (p := ⟨gb373, 2, none⟩) (Kd.R_far (p := ⟨gb373, 1, none⟩) (Kd.R_far (p := ⟨gb373, 0, none⟩) (Kd.R_mono HO_16.out (fun k_ hk => (⟨hk, hk.2⟩ : _ ∧ k_ ≠ gb373))) (fun _ hk => hk.2) (.int .i64 ((rd_T57 x16_2 (ji65)).f0))) (fun _ hk => hk.2) (.bool ((rd_T57 x16_2 (ji65)).f1))) (fun _ hk => hk.2) (.int .i64 ((rd_T57 x16_2 (ji65)).f2))) (fun _ h_ => h_.1))) hb); have n4_ := Aside0.mk (Kd.R_below (by (with_reducible repeat (first | apply Kd.R_alloc | apply Kd.R_drewN | apply Kd.R_drew)); exact (Kd.R_mono (Kd.R_far (p := ⟨gb373, 2, none⟩) (Kd.R_far (p := ⟨gb373, 1, none⟩) (Kd.R_far (p := ⟨gb373, 0, none⟩) (Kd.R_types HO_101.out BK373.out (by decide)) (fun _ hk => hk.2) (.int .i64 ((rd_T57 x16_2 (ji65)).f0))) (fun _ hk => hk.2) (.bool ((rd_T57 x16_2 (ji65)).f1))) (fun _ hk => hk.2) (.int .i64 ((rd_T57 x16_2 (ji65)).f2))) (fun _ h_ => h_.1))) hb); have n5_ := Aside0.mk (Kd.R_lower ho114 (below_size (by repeat (first | (with_reducible first | exact HB.out | apply below_alloc | apply pw_below_drewN | apply below_drew1 | refine below_set ?_ GE373.out) | exact HB.out)))); have n6_ := Aside0.mk (blk_below (g := gb373) (o := .cells #[.int .i64 ((rd_T57 x16_2 (ji65)).f0), .bool ((rd_T57 x16_2 (ji65)).f1), .int .i64 ((rd_T57 x16_2 (ji65)).f2)] 57 (0, 0)) (by (with_reducible repeat (first | refine blk_drewN ?_ _ | refine blk_drew ?_ | refine blk_alloc ?_ _)); refine blk_put (cs := #[.int .i64 ((rd_T57 x16_2 (ji65)).f0), .bool ((rd_T57 x16_2 (ji65)).f1), .int .i64 0]) ?_ 2 _ rfl; (with_reducible repeat (first | refine blk_drewN ?_ _ | refine blk_drew ?_ | refine blk_alloc ?_ _)); refine blk_put (cs := #[.int .i64 ((rd_T57 x16_2 (ji65)).f0), .bool false, .int .i64 0]) ?_ 1 _ rfl; (with_reducible repeat (first | refine blk_drewN ?_ _ | refine blk_drew ?_ | refine blk_alloc ?_ _)); refine blk_put (cs := #[.int .i64 0, .bool false, .int .i64 0]) ?_ 0 _ rfl; (with_reducible repeat (first | refine blk_drewN ?_ _ | refine blk_drew ?_ | refine blk_alloc ?_ _)); exact BK373.out) hb); have n7_ := Aside0.mk (below_step (by repeat (first | (with_reducible first | exact HB.out | apply below_alloc | apply pw_below_drewN | apply below_drew1 | refine below_set ?_ GE373.out) | exact HB.out)) hb); clear HO_10; clear HO_13; clear HO_15; clear HO_16; clear HO_101; clear BK373; clear HB; have HO_10 := n0_; have HO_13 := n1_; have HO_15 := n2_; have HO_16 := n3_; have HO_101 := n4_; have HO376 := n5_; have BK373 := n6_; have HB := n7_; clear n0_ n1_ n2_ n3_ n4_ n5_ n6_ n7_; clear hb ho114) | ((with_reducible refine gate_builtin (b := .append) (xs := #[.tmp 134, .tmp 135]) rfl ?_); (try (refine gate_guard (by rfl) ?_; dsimp only)); at_builtin; refine Kd.R_append_rows k45 (w0 := w) w.heap.size rfl (.tmp 134) (.tmp 135) 23 45 (.agg #[(.int .i64 0), (.bool false)]) 16 rfl Try.underlying23 info45 rfl (by decide) (by omega) v375 y374 l1 _ _ _ (fun _ => True) (fun _ => False) rfl rfl ?aO ?aR (fun _ _ h => h) (fun _ h => h.elim) ?aF ?aB ?aS ?aL ?_; (case aR => repeat (first | exact (Kd.C_below HR1.out HB.out) | (with_reducible refine Kd.C_alloc ?_ _) | (with_reducible refine Kd.C_drewN ?_ _) | (with_reducible refine Kd.C_drew ?_))); (case aB => exact (by repeat (first | (with_reducible first | exact HB.out | apply below_alloc | apply pw_below_drewN | apply below_drew1 | refine below_set ?_ GE373.out) | exact HB.out))); (case aF => exact (fun _ _ => trivial)); (case aO => exact (by (with_reducible repeat (first | apply Kd.R_alloc | apply Kd.R_drewN | apply Kd.R_drew)); exact HO376.out)); (case aS => exact (below_size (by repeat (first | (with_reducible first | exact HB.out | apply below_alloc | apply pw_below_drewN | apply below_drew1 | refine below_set ?_ GE373.out) | exact HB.out)))); (case aL => have := LMc68.out; omega); intro v378 w115 ho hb hg hat; rw [← Ny377.out] at ho; have n0_ := Aside0.mk (Kd.R_over' (by (with_reducible repeat (first | apply Kd.R_alloc | apply Kd.R_drewN | apply Kd.R_drew)); exact HO_10.out) (Kd.R_typed (by (with_reducible repeat (first | apply Kd.R_alloc | apply Kd.R_drewN | apply Kd.R_drew)); exact HO376.out)) (by decide) hg); have n1_ := Aside0.mk (Kd.R_over' (by (with_reducible repeat (first | apply Kd.R_alloc | apply Kd.R_drewN | apply Kd.R_drew)); exact HO_13.out) (Kd.R_typed (by (with_reducible repeat (first | apply Kd.R_alloc | apply Kd.R_drewN | apply Kd.R_drew)); exact HO376.out)) (by decide) hg); have n2_ := Aside0.mk (Kd.R_over' (by (with_reducible repeat (first | apply Kd.R_alloc | apply Kd.R_drewN | apply Kd.R_drew)); exact HO_15.out) (Kd.R_typed (by (with_reducible repeat (first | apply Kd.R_alloc | apply Kd.R_drewN | apply Kd.R_drew)); exact HO376.out)) (by decide) hg); have n3_ := Aside0.mk (Kd.R_over' (by (with_reducible repeat (first | apply Kd.R_alloc | apply Kd.R_drewN | apply Kd.R_drew)); exact HO_16.out) (Kd.R_typed (by (with_reducible repeat (first | apply Kd.R_alloc | apply Kd.R_drewN | apply Kd.R_drew)); exact HO376.out)) (by decide) hg); have n4_ := Aside0.mk (Kd.R_over' (by (with_reducible repeat (first | apply Kd.R_alloc | apply Kd.R_drewN | apply Kd.R_drew)); exact HO_101.out) (Kd.R_typed (by (with_reducible repeat (first | apply Kd.R_alloc | apply Kd.R_drewN | apply Kd.R_drew)); exact HO376.out)) (by decide) hg); have n5_ := Aside0.mk (blk_grown (g := gb373) (o := .cells #[.int .i64 ((rd_T57 x16_2 (ji65)).f0), .bool ((rd_T57 x16_2 (ji65)).f1), .int .i64 ((rd_T57 x16_2 (ji65)).f2)] 57 (0, 0)) (by (with_reducible repeat (first | refine blk_drewN ?_ _ | refine blk_drew ?_ | refine blk_alloc ?_ _)); exact BK373.out) hg (Kd.R_ne HO376.out BK373.out (by decide))); have n6_ := Aside0.mk (hb); have n7_ := Aside0.mk (ho); clear HO_10; clear HO_13; clear HO_15; clear HO_16; clear HO_101; clear BK373; clear HB; clear HO376; have HO_10 := n0_; have HO_13 := n1_; have HO_15 := n2_; have HO_16 := n3_; have HO_101 := n4_; have BK373 := n5_; have HB := n6_; have HO379 := n7_; clear n0_ n1_ n2_ n3_ n4_ n5_ n6_ n7_; clear ho hb hg hat; have hcz116_0 : w115.cell? ⟨gb373, 0, none⟩ = some (.int .i64 ((rd_T57 x16_2 (ji65)).f0)) := (blk_cell BK373.out 0).trans rfl; have hcz116_1 : w115.cell? ⟨gb373, 1, none⟩ = some (.bool ((rd_T57 x16_2 (ji65)).f1)) := (blk_cell BK373.out 1).trans rfl; have hcz116_2 : w115.cell? ⟨gb373, 2, none⟩ = some (.int .i64 ((rd_T57 x16_2 (ji65)).f2)) := (blk_cell BK373.out 2).trans rfl; have hfz116_0 := blk_frozen BK373.out 0; have hfz116_1 := blk_frozen BK373.out 1; have hfz116_2 := blk_frozen BK373.out 2; obtain ⟨Ao117, co117, eo117⟩ := Kd.R_slice HO379.out; subst eo117; have p380 : 0 ≤ (((rd_T57 x16_2 (ji65)).f2) : Int) := of_decide_eq_true (by first | (with_reducible assumption) | assumption); have q380 : ((rd_T57 x16_2 (ji65)).f2) < (y377.length : Int) := of_decide_eq_true (by first | (with_reducible assumption) | assumption); obtain ⟨ad380, e380, hx380_0, hx380_1⟩ := at_T45 (Kd.R_reads' HO379.out).2.2 ((rd_T57 x16_2 (ji65)).f2) p380 q380; cases e380; replace p380 := eq_true p380; replace q380 := eq_true q380; have p71 : 0 ≤ (((rd_T57 x16_2 (ji65)).f2) : Int) := of_decide_eq_true (by first | (with_reducible assumption) | assumption); have q71 : (((rd_T57 x16_2 (ji65)).f2) : Int) < ((y377.length : Int) : Int) := of_decide_eq_true (by first | (with_reducible assumption) | assumption); obtain ⟨go71, co71, eo71, gb71, gl71, cl71, HG71⟩ := Kd.R_form HO379.out (by omega); (first | cases eo71 | (injection eo71 with ea_ en_ ec_; (first | subst ea_ | (injection ea_ with ea_; subst ea_)); subst ec_; clear en_)); have GB71 := Aside0.mk gb71; have GG71 := Aside0.mk HG71; clear gb71 gl71 HG71; (first | simp only [add_plain] at hx380_0 | skip); (first | simp only [add_plain] at hx380_1 | skip); obtain ⟨ce71, hcl71, hM71, hcc71, hfr71⟩ := Kd.R_elem HO379.out z45 (((rd_T57 x16_2 (ji65)).f2) : Int) p71 q71; obtain rfl := k45_openM hM71; have hx71_0 : w115.cell? ⟨go71, (((rd_T57 x16_2 (ji65)).f2) : Int).toNat * 2, none⟩ = some (.int .i64 ((rd_T45 y377 ((rd_T57 x16_2 (ji65)).f2)).f0)) := hcc71 0 _ rfl; have hx71_1 : w115.cell? ⟨go71, (((rd_T57 x16_2 (ji65)).f2) : Int).toNat * 2 + 1, none⟩ = some (.bool ((rd_T45 y377 ((rd_T57 x16_2 (ji65)).f2)).f1)) := hcc71 1 _ rfl; have hf71_0 : w115.frozen? ⟨go71, (((rd_T57 x16_2 (ji65)).f2) : Int).toNat * 2, none⟩ = false := hfr71 0; have hf71_1 : w115.frozen? ⟨go71, (((rd_T57 x16_2 (ji65)).f2) : Int).toNat * 2 + 1, none⟩ = false := hfr71 1; clear hcl71 hcc71 hfr71 hM71; replace p71 := eq_true p71; replace q71 := eq_true q71; have HX118 := Aside0.mk (show Kd.R k45 45 w115 w.heap.size (fun _ => True) (.slice (some ⟨go71, 0, none⟩) y377.length co117) y377 from (by (with_reducible repeat (first | apply Kd.R_alloc | apply Kd.R_drewN | apply Kd.R_drew)); exact HO379.out)); obtain ⟨ce118, hcl118, hM118, hcc118, hfr118⟩ := Kd.R_elem HX118.out z45 (((rd_T57 x16_2 (ji65)).f2) : Int) (of_decide_eq_true (by first | (with_reducible assumption) | assumption)) (by have h_ : (((rd_T57 x16_2 (ji65)).f2) : Int) < ((y377.length : Int) : Int) := of_decide_eq_true (by first | (with_reducible assumption) | assumption); first | exact h_ | (have e_ := (Kd.R_reads' HO379.out).1; omega) | simpa using h_); obtain rfl := k45_openM hM118; have HP118 := Kd.R_seg HX118.out (((rd_T57 x16_2 (ji65)).f2) : Int) (of_decide_eq_true (by first | (with_reducible assumption) | assumption)) (by have h_ : (((rd_T57 x16_2 (ji65)).f2) : Int) < ((y377.length : Int) : Int) := of_decide_eq_true (by first | (with_reducible assumption) | assumption); first | exact h_ | (have e_ := (Kd.R_reads' HO379.out).1; omega) | simpa using h_) (seg := [.int .i64 (wrap64 (((rd_T45 y377 ((rd_T57 x16_2 (ji65)).f2)).f0) - (wrap64 (a3))))]) (j := 0) hcl118 hcc118 (show 1 ≤ 2 from by decide) (x' := (⟨wrap64 (((rd_T45 y377 ((rd_T57 x16_2 (ji65)).f2)).f0) - (wrap64 (a3))), (rd_T45 y377 ((rd_T57 x16_2 (ji65)).f2)).f1⟩ : S45)) (k45_mkM _ _ _ (⟨wrap64 (((rd_T45 y377 ((rd_T57 x16_2 (ji65)).f2)).f0) - (wrap64 (a3))), (rd_T45 y377 ((rd_T57 x16_2 (ji65)).f2)).f1⟩ : S45) ) (fun _ hk => hk); have hx118_0 := hcc118 0 _ rfl; (try simp only [show (k45).sz = 2 from rfl, Nat.mul_one, Nat.add_zero] at hx118_0); have hf118_0 := hfr118 0; (try simp only [show (k45).sz = 2 from rfl, Nat.mul_one, Nat.add_zero] at hf118_0); clear hcl118 hcc118 hfr118 hM118) | ((with_reducible refine gate_store (t := 3) (p := 147) rfl ?_); (try (rw [drewN_self w115]; generalize hq_ : World.drewN w115 _ = w115; have n0_ := Aside0.mk (Kd.R_at hq_ HO_10.out); have n1_ := Aside0.mk (Kd.R_at hq_ HO_13.out); have n2_ := Aside0.mk (Kd.R_at hq_ HO_15.out); have n3_ := Aside0.mk (Kd.R_at hq_ HO_16.out); have n4_ := Aside0.mk (Kd.R_at hq_ HO_101.out); have n5_ := Aside0.mk (Kd.R_at hq_ HO379.out); have n6_ := Aside0.mk (blk_at hq_ BK373.out); have n7_ := Aside0.mk (below_at hq_ HB.out); clear hq_ HO_10 HO_13 HO_15 HO_16 HO_101 HO379 BK373 HB; have HO_10 := n0_; have HO_13 := n1_; have HO_15 := n2_; have HO_16 := n3_; have HO_101 := n4_; have HO379 := n5_; have BK373 := n6_; have HB := n7_; clear n0_ n1_ n2_ n3_ n4_ n5_ n6_ n7_; (try (have HX118 := Aside0.mk (show Kd.R k45 45 w115 w.heap.size (fun _ => True) (.slice (some ⟨go71, 0, none⟩) y377.length co117) y377 from (by (with_reducible repeat (first | apply Kd.R_alloc | apply Kd.R_drewN | apply Kd.R_drew)); exact HO379.out)))); (try (obtain ⟨ce118, hcl118, hM118, hcc118, hfr118⟩ := Kd.R_elem HX118.out z45 (((rd_T57 x16_2 (ji65)).f2) : Int) (of_decide_eq_true (by first | (with_reducible assumption) | assumption)) (by have h_ : (((rd_T57 x16_2 (ji65)).f2) : Int) < ((y377.length : Int) : Int) := of_decide_eq_true (by first | (with_reducible assumption) | assumption); first | exact h_ | (have e_ := (Kd.R_reads' HO379.out).1; omega) | simpa using h_))); (try (obtain rfl := k45_openM hM118)); (try (have HP118 := Kd.R_seg HX118.out (((rd_T57 x16_2 (ji65)).f2) : Int) (of_decide_eq_true (by first | (with_reducible assumption) | assumption)) (by have h_ : (((rd_T57 x16_2 (ji65)).f2) : Int) < ((y377.length : Int) : Int) := of_decide_eq_true (by first | (with_reducible assumption) | assumption); first | exact h_ | (have e_ := (Kd.R_reads' HO379.out).1; omega) | simpa using h_) (seg := [.int .i64 (wrap64 (((rd_T45 y377 ((rd_T57 x16_2 (ji65)).f2)).f0) - (wrap64 (a3))))]) (j := 0) hcl118 hcc118 (show 1 ≤ 2 from by decide) (x' := (⟨wrap64 (((rd_T45 y377 ((rd_T57 x16_2 (ji65)).f2)).f0) - (wrap64 (a3))), (rd_T45 y377 ((rd_T57 x16_2 (ji65)).f2)).f1⟩ : S45)) (k45_mkM _ _ _ (⟨wrap64 (((rd_T45 y377 ((rd_T57 x16_2 (ji65)).f2)).f0) - (wrap64 (a3))), (rd_T45 y377 ((rd_T57 x16_2 (ji65)).f2)).f1⟩ : S45) ) (fun _ hk => hk))); (try (have hx118_0 := hcc118 0 _ rfl)); (try (try simp only [show (k45).sz = 2 from rfl, Nat.mul_one, Nat.add_zero] at hx118_0)); (try (have hf118_0 := hfr118 0)); (try (try simp only [show (k45).sz = 2 from rfl, Nat.mul_one, Nat.add_zero] at hf118_0)); (try (clear hcl118 hcc118 hfr118 hM118)))); refine store_event (t := 3) (p := 147) (v := ?vo_w119) (w1 := (w115.setCell ⟨go71, (((rd_T57 x16_2 (ji65)).f2) : Int).toNat * 2, none⟩ (.int .i64 (wrap64 (((rd_T45 y377 ((rd_T57 x16_2 (ji65)).f2)).f0) - (wrap64 (a3))))))) ?hg ?ho ?hn ?hr ?_; (case ho => rfl); (case hg => rfl); (case hn => rfl); (case hr => first | (go_simp; done) | (go_simp; rfl)); intro w119 hw; have hg : w115.grownBy w119 (some go71) := (by rw [hw]; exact HP118.2); have hp_ : Kd.R k45 45 w119 w.heap.size (fun _ => True) (.slice (some ⟨go71, 0, none⟩) y377.length co117) y381 := (by rw [hw, Ny381.out]; exact HP118.1); clear HP118; have n0_ := Aside0.mk (Kd.R_over' (v := (.slice (some ⟨go71, 0, none⟩) y377.length co117)) (by (with_reducible repeat (first | apply Kd.R_alloc | apply Kd.R_drewN | apply Kd.R_drew)); exact HO_10.out) (Kd.R_typed HO379.out) (by decide) hg); have n1_ := Aside0.mk (Kd.R_over' (v := (.slice (some ⟨go71, 0, none⟩) y377.length co117)) (by (with_reducible repeat (first | apply Kd.R_alloc | apply Kd.R_drewN | apply Kd.R_drew)); exact HO_13.out) (Kd.R_typed HO379.out) (by decide) hg); have n2_ := Aside0.mk (Kd.R_over' (v := (.slice (some ⟨go71, 0, none⟩) y377.length co117)) (by (with_reducible repeat (first | apply Kd.R_alloc | apply Kd.R_drewN | apply Kd.R_drew)); exact HO_15.out) (Kd.R_typed HO379.out) (by decide) hg); have n3_ := Aside0.mk (Kd.R_over' (v := (.slice (some ⟨go71, 0, none⟩) y377.length co117)) (by (with_reducible repeat (first | apply Kd.R_alloc | apply Kd.R_drewN | apply Kd.R_drew)); exact HO_16.out) (Kd.R_typed HO379.out) (by decide) hg); have n4_ := Aside0.mk (Kd.R_over' (v := (.slice (some ⟨go71, 0, none⟩) y377.length co117)) (by (with_reducible repeat (first | apply Kd.R_alloc | apply Kd.R_drewN | apply Kd.R_drew)); exact HO_101.out) (Kd.R_typed HO379.out) (by decide) hg); have n5_ := Aside0.mk (blk_grown (g := gb373) (o := .cells #[.int .i64 ((rd_T57 x16_2 (ji65)).f0), .bool ((rd_T57 x16_2 (ji65)).f1), .int .i64 ((rd_T57 x16_2 (ji65)).f2)] 57 (0, 0)) (by (with_reducible repeat (first | refine blk_drewN ?_ _ | refine blk_drew ?_ | refine blk_alloc ?_ _)); exact BK373.out) hg (Kd.R_ne HO379.out BK373.out (by decide))); have n6_ := Aside0.mk (hp_); have n7_ := Aside0.mk ((by rw [hw]; exact below_set (HB.out) GB71.out : Below w.heap.size w w119)); clear HO_10; clear HO_13; clear HO_15; clear HO_16; clear HO_101; clear BK373; clear HO379; clear HB; have HO_10 := n0_; have HO_13 := n1_; have HO_15 := n2_; have HO_16 := n3_; have HO_101 := n4_; have BK373 := n5_; have HO379 := n6_; have HB := n7_; clear n0_ n1_ n2_ n3_ n4_ n5_ n6_ n7_; clear hg hw hp_) | (go_at_call 19; refine calls_of_args (args' := #[.slice A0 l0.length c0, .slice (some ⟨go71, 0, none⟩) y381.length co117]) (by first | (rw [show y381.length = y377.length from (Kd.R_reads' HO379.out).1.symm] <;> rfl) | rfl) ?_; (with_reducible refine (wageofficelaw22_usable.calls k3 _ _ l0 _ _ y381 false _ ?side1 ?side2 ?side3 ?side4 A72.out).mono ?_); (case side1 => repeat (first | exact (Kd.C_below HR0.out HB.out) | (with_reducible refine Kd.C_alloc ?_ _) | (with_reducible refine Kd.C_drewN ?_ _) | (with_reducible refine Kd.C_drew ?_))); (case side2 => exact HC0.out); (case side3 => repeat (first | exact (Kd.R_reads' HO379.out).2.2 | (with_reducible refine Kd.C_alloc ?_ _) | (with_reducible refine Kd.C_drewN ?_ _) | (with_reducible refine Kd.C_drew ?_))); (case side4 => rw [show y381.length = y377.length from (Kd.R_reads' HO379.out).1.symm]; exact (Kd.R_reads' HO379.out).2.1); rintro e w120 ⟨rfl, hb⟩; have n0_ := Aside0.mk (Kd.R_below (by (with_reducible repeat (first | apply Kd.R_alloc | apply Kd.R_drewN | apply Kd.R_drew)); exact HO_10.out) hb); have n1_ := Aside0.mk (Kd.R_below (by (with_reducible repeat (first | apply Kd.R_alloc | apply Kd.R_drewN | apply Kd.R_drew)); exact HO_13.out) hb); have n2_ := Aside0.mk (Kd.R_below (by (with_reducible repeat (first | apply Kd.R_alloc | apply Kd.R_drewN | apply Kd.R_drew)); exact HO_15.out) hb); have n3_ := Aside0.mk (Kd.R_below (by (with_reducible repeat (first | apply Kd.R_alloc | apply Kd.R_drewN | apply Kd.R_drew)); exact HO_16.out) hb); have n4_ := Aside0.mk (Kd.R_below (by (with_reducible repeat (first | apply Kd.R_alloc | apply Kd.R_drewN | apply Kd.R_drew)); exact HO_101.out) hb); have n5_ := Aside0.mk (Kd.R_below (by (with_reducible repeat (first | apply Kd.R_alloc | apply Kd.R_drewN | apply Kd.R_drew)); exact HO379.out) hb); have n6_ := Aside0.mk (blk_below (g := gb373) (o := .cells #[.int .i64 ((rd_T57 x16_2 (ji65)).f0), .bool ((rd_T57 x16_2 (ji65)).f1), .int .i64 ((rd_T57 x16_2 (ji65)).f2)] 57 (0, 0)) (by (with_reducible repeat (first | refine blk_drewN ?_ _ | refine blk_drew ?_ | refine blk_alloc ?_ _)); exact BK373.out) hb); have n7_ := Aside0.mk (below_step (by repeat (first | (with_reducible first | exact HB.out | apply below_alloc | apply pw_below_drewN | apply below_drew1 | refine below_set ?_ GE373.out) | exact HB.out)) hb); clear HO_10; clear HO_13; clear HO_15; clear HO_16; clear HO_101; clear HO379; clear BK373; clear HB; have HO_10 := n0_; have HO_13 := n1_; have HO_15 := n2_; have HO_16 := n3_; have HO_101 := n4_; have HO379 := n5_; have BK373 := n6_; have HB := n7_; clear n0_ n1_ n2_ n3_ n4_ n5_ n6_ n7_; (try clear hb); (try clear hb2); (try clear hk); (try clear hi)))
                    repeat (go_quiet (fail); try go_wp2_with (first | ((with_reducible refine gate_dst (N := 21) rfl ?_); (try (refine gate_guard (by rfl) ?_; dsimp only)); refine box_event ?hg (N := 21) ?hd (cs := #[.int .i64 0, .bool false, .int .i64 0]) (t := 57) ?hr ?_; (case hd => rfl); (case hg => rfl); (case hr => first | (go_simp; done) | (go_simp; rfl)); intro gb373 hg w111 hbox hb; have n0_ := Aside0.mk (Kd.R_below (Kd.R_elderB (by (with_reducible repeat (first | apply Kd.R_alloc | apply Kd.R_drewN | apply Kd.R_drew)); exact HO_10.out) gb373 (Nat.le_of_eq hg.symm)) hb); have n1_ := Aside0.mk (Kd.R_below (by (with_reducible repeat (first | apply Kd.R_alloc | apply Kd.R_drewN | apply Kd.R_drew)); exact HO_13.out) hb); have n2_ := Aside0.mk (Kd.R_below (by (with_reducible repeat (first | apply Kd.R_alloc | apply Kd.R_drewN | apply Kd.R_drew)); exact HO_15.out) hb); have n3_ := Aside0.mk (Kd.R_below (Kd.R_elderB (by (with_reducible repeat (first | apply Kd.R_alloc | apply Kd.R_drewN | apply Kd.R_drew)); exact HO_16.out) gb373 (Nat.le_of_eq hg.symm)) hb); have n4_ := Aside0.mk (Kd.R_below (by (with_reducible repeat (first | apply Kd.R_alloc | apply Kd.R_drewN | apply Kd.R_drew)); exact HO_101.out) hb); have n5_ := Aside0.mk (below_step (by repeat (first | (with_reducible first | exact HB.out | apply below_alloc | apply pw_below_drewN | apply below_drew1) | exact HB.out)) hb); have n6_ := Aside0.mk (hbox); have n7_ := Aside0.mk ((by rw [hg]; exact (below_size (by repeat (first | (with_reducible first | exact HB.out | apply below_alloc | apply pw_below_drewN | apply below_drew1) | exact HB.out))) : w.heap.size ≤ gb373)); have n8_ := Aside0.mk ((by rw [hg]; exact (below_size (by repeat (first | (with_reducible first | exact HB.out | apply below_alloc | apply pw_below_drewN | apply below_drew1) | exact HB.out))) : w.heap.size ≤ gb373)); clear HO_10; clear HO_13; clear HO_15; clear HO_16; clear HO_101; clear HB; have HO_10 := n0_; have HO_13 := n1_; have HO_15 := n2_; have HO_16 := n3_; have HO_101 := n4_; have HB := n5_; have BK373 := n6_; have GW373 := n7_; have GE373 := n8_; clear n0_ n1_ n2_ n3_ n4_ n5_ n6_ n7_ n8_; clear hb hbox hg; have hcz112_0 : w111.cell? ⟨gb373, 0, none⟩ = some (.int .i64 0) := (blk_cell BK373.out 0).trans rfl; have hcz112_1 : w111.cell? ⟨gb373, 1, none⟩ = some (.bool false) := (blk_cell BK373.out 1).trans rfl; have hcz112_2 : w111.cell? ⟨gb373, 2, none⟩ = some (.int .i64 0) := (blk_cell BK373.out 2).trans rfl; have hfz112_0 := blk_frozen BK373.out 0; have hfz112_1 := blk_frozen BK373.out 1; have hfz112_2 := blk_frozen BK373.out 2) | ((with_reducible refine gate_dst (N := 134) rfl ?_); (try (refine gate_guard (by rfl) ?_; dsimp only)); refine Kd.R_lit k45 _ 45 ?hg (N := 134) ?hd (xs := ([] : List (S45))) (inner := []) (ok := fun _ => True) (okp := fun _ => True) ?hr ?hp (fun _ hk => hk) trivial (Below.refl _ _) (Nat.le_refl _) (by simp) ?_; (case hd => rfl); (case hg => rfl); (case hr => first | (go_simp; done) | (go_simp; rfl)); (case hp => exact (Reps.none _ _)); intro v375 w113 ho114 hb hg_ hnew_; clear hg_ hnew_; (first | rw [← Ny374.out] at ho114 | (simp only [Int.reduceToNat] at ho114; rw [← Ny374.out] at ho114)); have n0_ := Aside0.mk (Kd.R_below (by (with_reducible repeat (first | apply Kd.R_alloc | apply Kd.R_drewN | apply Kd.R_drew)); exact (Kd.R_mono (Kd.R_far (p := ⟨gb373, 2, none⟩) (Kd.R_far (p := ⟨gb373, 1, none⟩) (Kd.R_far (p := ⟨gb373, 0, none⟩) (Kd.R_mono HO_10.out (fun k_ hk => (⟨hk, hk.2⟩ : _ ∧ k_ ≠ gb373))) (fun _ hk => hk.2) (.int .i64 ((rd_T57 x16_2 (ji65)).f0))) (fun _ hk => hk.2) (.bool ((rd_T57 x16_2 (ji65)).f1))) (fun _ hk => hk.2) (.int .i64 ((rd_T57 x16_2 (ji65)).f2))) (fun _ h_ => h_.1))) hb); have n1_ := Aside0.mk (Kd.R_below (by (with_reducible repeat (first | apply Kd.R_alloc | apply Kd.R_drewN | apply Kd.R_drew)); exact (Kd.R_mono (Kd.R_far (p := ⟨gb373, 2, none⟩) (Kd.R_far (p := ⟨gb373, 1, none⟩) (Kd.R_far (p := ⟨gb373, 0, none⟩) (Kd.R_types HO_13.out BK373.out (by decide)) (fun _ hk => hk.2) (.int .i64 ((rd_T57 x16_2 (ji65)).f0))) (fun _ hk => hk.2) (.bool ((rd_T57 x16_2 (ji65)).f1))) (fun _ hk => hk.2) (.int .i64 ((rd_T57 x16_2 (ji65)).f2))) (fun _ h_ => h_.1))) hb); have n2_ := Aside0.mk (Kd.R_below (by (with_reducible repeat (first | apply Kd.R_alloc | apply Kd.R_drewN | apply Kd.R_drew)); exact (Kd.R_mono (Kd.R_far (p := ⟨gb373, 2, none⟩) (Kd.R_far (p := ⟨gb373, 1, none⟩) (Kd.R_far (p := ⟨gb373, 0, none⟩) (Kd.R_types HO_15.out BK373.out (by decide)) (fun _ hk => hk.2) (.int .i64 ((rd_T57 x16_2 (ji65)).f0))) (fun _ hk => hk.2) (.bool ((rd_T57 x16_2 (ji65)).f1))) (fun _ hk => hk.2) (.int .i64 ((rd_T57 x16_2 (ji65)).f2))) (fun _ h_ => h_.1))) hb); have n3_ := Aside0.mk (Kd.R_below (by (with_reducible repeat (first | apply Kd.R_alloc | apply Kd.R_drewN | apply Kd.R_drew)); exact (Kd.R_mono (Kd.R_far (p := ⟨gb373, 2, none⟩) (Kd.R_far (p := ⟨gb373, 1, none⟩) (Kd.R_far (p := ⟨gb373, 0, none⟩) (Kd.R_mono HO_16.out (fun k_ hk => (⟨hk, hk.2⟩ : _ ∧ k_ ≠ gb373))) (fun _ hk => hk.2) (.int .i64 ((rd_T57 x16_2 (ji65)).f0))) (fun _ hk => hk.2) (.bool ((rd_T57 x16_2 (ji65)).f1))) (fun _ hk => hk.2) (.int .i64 ((rd_T57 x16_2 (ji65)).f2))) (fun _ h_ => h_.1))) hb); have n4_ := Aside0.mk (Kd.R_below (by (with_reducible repeat (first | apply Kd.R_alloc | apply Kd.R_drewN | apply Kd.R_drew)); exact (Kd.R_mono (Kd.R_far (p := ⟨gb373, 2, none⟩) (Kd.R_far (p := ⟨gb373, 1, none⟩) (Kd.R_far (p := ⟨gb373, 0, none⟩) (Kd.R_types HO_101.out BK373.out (by decide)) (fun _ hk => hk.2) (.int .i64 ((rd_T57 x16_2 (ji65)).f0))) (fun _ hk => hk.2) (.bool ((rd_T57 x16_2 (ji65)).f1))) (fun _ hk => hk.2) (.int .i64 ((rd_T57 x16_2 (ji65)).f2))) (fun _ h_ => h_.1))) hb); have n5_ := Aside0.mk (Kd.R_lower ho114 (below_size (by repeat (first | (with_reducible first | exact HB.out | apply below_alloc | apply pw_below_drewN | apply below_drew1 | refine below_set ?_ GE373.out) | exact HB.out)))); have n6_ := Aside0.mk (blk_below (g := gb373) (o := .cells #[.int .i64 ((rd_T57 x16_2 (ji65)).f0), .bool ((rd_T57 x16_2 (ji65)).f1), .int .i64 ((rd_T57 x16_2 (ji65)).f2)] 57 (0, 0)) (by (with_reducible repeat (first | refine blk_drewN ?_ _ | refine blk_drew ?_ | refine blk_alloc ?_ _)); refine blk_put (cs := #[.int .i64 ((rd_T57 x16_2 (ji65)).f0), .bool ((rd_T57 x16_2 (ji65)).f1), .int .i64 0]) ?_ 2 _ rfl; (with_reducible repeat (first | refine blk_drewN ?_ _ | refine blk_drew ?_ | refine blk_alloc ?_ _)); refine blk_put (cs := #[.int .i64 ((rd_T57 x16_2 (ji65)).f0), .bool false, .int .i64 0]) ?_ 1 _ rfl; (with_reducible repeat (first | refine blk_drewN ?_ _ | refine blk_drew ?_ | refine blk_alloc ?_ _)); refine blk_put (cs := #[.int .i64 0, .bool false, .int .i64 0]) ?_ 0 _ rfl; (with_reducible repeat (first | refine blk_drewN ?_ _ | refine blk_drew ?_ | refine blk_alloc ?_ _)); exact BK373.out) hb); have n7_ := Aside0.mk (below_step (by repeat (first | (with_reducible first | exact HB.out | apply below_alloc | apply pw_below_drewN | apply below_drew1 | refine below_set ?_ GE373.out) | exact HB.out)) hb); clear HO_10; clear HO_13; clear HO_15; clear HO_16; clear HO_101; clear BK373; clear HB; have HO_10 := n0_; have HO_13 := n1_; have HO_15 := n2_; have HO_16 := n3_; have HO_101 := n4_; have HO376 := n5_; have BK373 := n6_; have HB := n7_; clear n0_ n1_ n2_ n3_ n4_ n5_ n6_ n7_; clear hb ho114) | ((with_reducible refine gate_builtin (b := .append) (xs := #[.tmp 134, .tmp 135]) rfl ?_); (try (refine gate_guard (by rfl) ?_; dsimp only)); at_builtin; refine Kd.R_append_rows k45 (w0 := w) w.heap.size rfl (.tmp 134) (.tmp 135) 23 45 (.agg #[(.int .i64 0), (.bool false)]) 16 rfl Try.underlying23 info45 rfl (by decide) (by omega) v375 y374 l1 _ _ _ (fun _ => True) (fun _ => False) rfl rfl ?aO ?aR (fun _ _ h => h) (fun _ h => h.elim) ?aF ?aB ?aS ?aL ?_; (case aR => repeat (first | exact (Kd.C_below HR1.out HB.out) | (with_reducible refine Kd.C_alloc ?_ _) | (with_reducible refine Kd.C_drewN ?_ _) | (with_reducible refine Kd.C_drew ?_))); (case aB => exact (by repeat (first | (with_reducible first | exact HB.out | apply below_alloc | apply pw_below_drewN | apply below_drew1 | refine below_set ?_ GE373.out) | exact HB.out))); (case aF => exact (fun _ _ => trivial)); (case aO => exact (by (with_reducible repeat (first | apply Kd.R_alloc | apply Kd.R_drewN | apply Kd.R_drew)); exact HO376.out)); (case aS => exact (below_size (by repeat (first | (with_reducible first | exact HB.out | apply below_alloc | apply pw_below_drewN | apply below_drew1 | refine below_set ?_ GE373.out) | exact HB.out)))); (case aL => have := LMc68.out; omega); intro v378 w115 ho hb hg hat; rw [← Ny377.out] at ho; have n0_ := Aside0.mk (Kd.R_over' (by (with_reducible repeat (first | apply Kd.R_alloc | apply Kd.R_drewN | apply Kd.R_drew)); exact HO_10.out) (Kd.R_typed (by (with_reducible repeat (first | apply Kd.R_alloc | apply Kd.R_drewN | apply Kd.R_drew)); exact HO376.out)) (by decide) hg); have n1_ := Aside0.mk (Kd.R_over' (by (with_reducible repeat (first | apply Kd.R_alloc | apply Kd.R_drewN | apply Kd.R_drew)); exact HO_13.out) (Kd.R_typed (by (with_reducible repeat (first | apply Kd.R_alloc | apply Kd.R_drewN | apply Kd.R_drew)); exact HO376.out)) (by decide) hg); have n2_ := Aside0.mk (Kd.R_over' (by (with_reducible repeat (first | apply Kd.R_alloc | apply Kd.R_drewN | apply Kd.R_drew)); exact HO_15.out) (Kd.R_typed (by (with_reducible repeat (first | apply Kd.R_alloc | apply Kd.R_drewN | apply Kd.R_drew)); exact HO376.out)) (by decide) hg); have n3_ := Aside0.mk (Kd.R_over' (by (with_reducible repeat (first | apply Kd.R_alloc | apply Kd.R_drewN | apply Kd.R_drew)); exact HO_16.out) (Kd.R_typed (by (with_reducible repeat (first | apply Kd.R_alloc | apply Kd.R_drewN | apply Kd.R_drew)); exact HO376.out)) (by decide) hg); have n4_ := Aside0.mk (Kd.R_over' (by (with_reducible repeat (first | apply Kd.R_alloc | apply Kd.R_drewN | apply Kd.R_drew)); exact HO_101.out) (Kd.R_typed (by (with_reducible repeat (first | apply Kd.R_alloc | apply Kd.R_drewN | apply Kd.R_drew)); exact HO376.out)) (by decide) hg); have n5_ := Aside0.mk (blk_grown (g := gb373) (o := .cells #[.int .i64 ((rd_T57 x16_2 (ji65)).f0), .bool ((rd_T57 x16_2 (ji65)).f1), .int .i64 ((rd_T57 x16_2 (ji65)).f2)] 57 (0, 0)) (by (with_reducible repeat (first | refine blk_drewN ?_ _ | refine blk_drew ?_ | refine blk_alloc ?_ _)); exact BK373.out) hg (Kd.R_ne HO376.out BK373.out (by decide))); have n6_ := Aside0.mk (hb); have n7_ := Aside0.mk (ho); clear HO_10; clear HO_13; clear HO_15; clear HO_16; clear HO_101; clear BK373; clear HB; clear HO376; have HO_10 := n0_; have HO_13 := n1_; have HO_15 := n2_; have HO_16 := n3_; have HO_101 := n4_; have BK373 := n5_; have HB := n6_; have HO379 := n7_; clear n0_ n1_ n2_ n3_ n4_ n5_ n6_ n7_; clear ho hb hg hat; have hcz116_0 : w115.cell? ⟨gb373, 0, none⟩ = some (.int .i64 ((rd_T57 x16_2 (ji65)).f0)) := (blk_cell BK373.out 0).trans rfl; have hcz116_1 : w115.cell? ⟨gb373, 1, none⟩ = some (.bool ((rd_T57 x16_2 (ji65)).f1)) := (blk_cell BK373.out 1).trans rfl; have hcz116_2 : w115.cell? ⟨gb373, 2, none⟩ = some (.int .i64 ((rd_T57 x16_2 (ji65)).f2)) := (blk_cell BK373.out 2).trans rfl; have hfz116_0 := blk_frozen BK373.out 0; have hfz116_1 := blk_frozen BK373.out 1; have hfz116_2 := blk_frozen BK373.out 2; obtain ⟨Ao117, co117, eo117⟩ := Kd.R_slice HO379.out; subst eo117; have p380 : 0 ≤ (((rd_T57 x16_2 (ji65)).f2) : Int) := of_decide_eq_true (by first | (with_reducible assumption) | assumption); have q380 : ((rd_T57 x16_2 (ji65)).f2) < (y377.length : Int) := of_decide_eq_true (by first | (with_reducible assumption) | assumption); obtain ⟨ad380, e380, hx380_0, hx380_1⟩ := at_T45 (Kd.R_reads' HO379.out).2.2 ((rd_T57 x16_2 (ji65)).f2) p380 q380; cases e380; replace p380 := eq_true p380; replace q380 := eq_true q380; have p71 : 0 ≤ (((rd_T57 x16_2 (ji65)).f2) : Int) := of_decide_eq_true (by first | (with_reducible assumption) | assumption); have q71 : (((rd_T57 x16_2 (ji65)).f2) : Int) < ((y377.length : Int) : Int) := of_decide_eq_true (by first | (with_reducible assumption) | assumption); obtain ⟨go71, co71, eo71, gb71, gl71, cl71, HG71⟩ := Kd.R_form HO379.out (by omega); (first | cases eo71 | (injection eo71 with ea_ en_ ec_; (first | subst ea_ | (injection ea_ with ea_; subst ea_)); subst ec_; clear en_)); have GB71 := Aside0.mk gb71; have GG71 := Aside0.mk HG71; clear gb71 gl71 HG71; (first | simp only [add_plain] at hx380_0 | skip); (first | simp only [add_plain] at hx380_1 | skip); obtain ⟨ce71, hcl71, hM71, hcc71, hfr71⟩ := Kd.R_elem HO379.out z45 (((rd_T57 x16_2 (ji65)).f2) : Int) p71 q71; obtain rfl := k45_openM hM71; have hx71_0 : w115.cell? ⟨go71, (((rd_T57 x16_2 (ji65)).f2) : Int).toNat * 2, none⟩ = some (.int .i64 ((rd_T45 y377 ((rd_T57 x16_2 (ji65)).f2)).f0)) := hcc71 0 _ rfl; have hx71_1 : w115.cell? ⟨go71, (((rd_T57 x16_2 (ji65)).f2) : Int).toNat * 2 + 1, none⟩ = some (.bool ((rd_T45 y377 ((rd_T57 x16_2 (ji65)).f2)).f1)) := hcc71 1 _ rfl; have hf71_0 : w115.frozen? ⟨go71, (((rd_T57 x16_2 (ji65)).f2) : Int).toNat * 2, none⟩ = false := hfr71 0; have hf71_1 : w115.frozen? ⟨go71, (((rd_T57 x16_2 (ji65)).f2) : Int).toNat * 2 + 1, none⟩ = false := hfr71 1; clear hcl71 hcc71 hfr71 hM71; replace p71 := eq_true p71; replace q71 := eq_true q71; have HX118 := Aside0.mk (show Kd.R k45 45 w115 w.heap.size (fun _ => True) (.slice (some ⟨go71, 0, none⟩) y377.length co117) y377 from (by (with_reducible repeat (first | apply Kd.R_alloc | apply Kd.R_drewN | apply Kd.R_drew)); exact HO379.out)); obtain ⟨ce118, hcl118, hM118, hcc118, hfr118⟩ := Kd.R_elem HX118.out z45 (((rd_T57 x16_2 (ji65)).f2) : Int) (of_decide_eq_true (by first | (with_reducible assumption) | assumption)) (by have h_ : (((rd_T57 x16_2 (ji65)).f2) : Int) < ((y377.length : Int) : Int) := of_decide_eq_true (by first | (with_reducible assumption) | assumption); first | exact h_ | (have e_ := (Kd.R_reads' HO379.out).1; omega) | simpa using h_); obtain rfl := k45_openM hM118; have HP118 := Kd.R_seg HX118.out (((rd_T57 x16_2 (ji65)).f2) : Int) (of_decide_eq_true (by first | (with_reducible assumption) | assumption)) (by have h_ : (((rd_T57 x16_2 (ji65)).f2) : Int) < ((y377.length : Int) : Int) := of_decide_eq_true (by first | (with_reducible assumption) | assumption); first | exact h_ | (have e_ := (Kd.R_reads' HO379.out).1; omega) | simpa using h_) (seg := [.int .i64 (wrap64 (((rd_T45 y377 ((rd_T57 x16_2 (ji65)).f2)).f0) - (wrap64 (a3))))]) (j := 0) hcl118 hcc118 (show 1 ≤ 2 from by decide) (x' := (⟨wrap64 (((rd_T45 y377 ((rd_T57 x16_2 (ji65)).f2)).f0) - (wrap64 (a3))), (rd_T45 y377 ((rd_T57 x16_2 (ji65)).f2)).f1⟩ : S45)) (k45_mkM _ _ _ (⟨wrap64 (((rd_T45 y377 ((rd_T57 x16_2 (ji65)).f2)).f0) - (wrap64 (a3))), (rd_T45 y377 ((rd_T57 x16_2 (ji65)).f2)).f1⟩ : S45) ) (fun _ hk => hk); have hx118_0 := hcc118 0 _ rfl; (try simp only [show (k45).sz = 2 from rfl, Nat.mul_one, Nat.add_zero] at hx118_0); have hf118_0 := hfr118 0; (try simp only [show (k45).sz = 2 from rfl, Nat.mul_one, Nat.add_zero] at hf118_0); clear hcl118 hcc118 hfr118 hM118) | ((with_reducible refine gate_store (t := 3) (p := 147) rfl ?_); (try (rw [drewN_self w115]; generalize hq_ : World.drewN w115 _ = w115; have n0_ := Aside0.mk (Kd.R_at hq_ HO_10.out); have n1_ := Aside0.mk (Kd.R_at hq_ HO_13.out); have n2_ := Aside0.mk (Kd.R_at hq_ HO_15.out); have n3_ := Aside0.mk (Kd.R_at hq_ HO_16.out); have n4_ := Aside0.mk (Kd.R_at hq_ HO_101.out); have n5_ := Aside0.mk (Kd.R_at hq_ HO379.out); have n6_ := Aside0.mk (blk_at hq_ BK373.out); have n7_ := Aside0.mk (below_at hq_ HB.out); clear hq_ HO_10 HO_13 HO_15 HO_16 HO_101 HO379 BK373 HB; have HO_10 := n0_; have HO_13 := n1_; have HO_15 := n2_; have HO_16 := n3_; have HO_101 := n4_; have HO379 := n5_; have BK373 := n6_; have HB := n7_; clear n0_ n1_ n2_ n3_ n4_ n5_ n6_ n7_; (try (have HX118 := Aside0.mk (show Kd.R k45 45 w115 w.heap.size (fun _ => True) (.slice (some ⟨go71, 0, none⟩) y377.length co117) y377 from (by (with_reducible repeat (first | apply Kd.R_alloc | apply Kd.R_drewN | apply Kd.R_drew)); exact HO379.out)))); (try (obtain ⟨ce118, hcl118, hM118, hcc118, hfr118⟩ := Kd.R_elem HX118.out z45 (((rd_T57 x16_2 (ji65)).f2) : Int) (of_decide_eq_true (by first | (with_reducible assumption) | assumption)) (by have h_ : (((rd_T57 x16_2 (ji65)).f2) : Int) < ((y377.length : Int) : Int) := of_decide_eq_true (by first | (with_reducible assumption) | assumption); first | exact h_ | (have e_ := (Kd.R_reads' HO379.out).1; omega) | simpa using h_))); (try (obtain rfl := k45_openM hM118)); (try (have HP118 := Kd.R_seg HX118.out (((rd_T57 x16_2 (ji65)).f2) : Int) (of_decide_eq_true (by first | (with_reducible assumption) | assumption)) (by have h_ : (((rd_T57 x16_2 (ji65)).f2) : Int) < ((y377.length : Int) : Int) := of_decide_eq_true (by first | (with_reducible assumption) | assumption); first | exact h_ | (have e_ := (Kd.R_reads' HO379.out).1; omega) | simpa using h_) (seg := [.int .i64 (wrap64 (((rd_T45 y377 ((rd_T57 x16_2 (ji65)).f2)).f0) - (wrap64 (a3))))]) (j := 0) hcl118 hcc118 (show 1 ≤ 2 from by decide) (x' := (⟨wrap64 (((rd_T45 y377 ((rd_T57 x16_2 (ji65)).f2)).f0) - (wrap64 (a3))), (rd_T45 y377 ((rd_T57 x16_2 (ji65)).f2)).f1⟩ : S45)) (k45_mkM _ _ _ (⟨wrap64 (((rd_T45 y377 ((rd_T57 x16_2 (ji65)).f2)).f0) - (wrap64 (a3))), (rd_T45 y377 ((rd_T57 x16_2 (ji65)).f2)).f1⟩ : S45) ) (fun _ hk => hk))); (try (have hx118_0 := hcc118 0 _ rfl)); (try (try simp only [show (k45).sz = 2 from rfl, Nat.mul_one, Nat.add_zero] at hx118_0)); (try (have hf118_0 := hfr118 0)); (try (try simp only [show (k45).sz = 2 from rfl, Nat.mul_one, Nat.add_zero] at hf118_0)); (try (clear hcl118 hcc118 hfr118 hM118)))); refine store_event (t := 3) (p := 147) (v := ?vo_w119) (w1 := (w115.setCell ⟨go71, (((rd_T57 x16_2 (ji65)).f2) : Int).toNat * 2, none⟩ (.int .i64 (wrap64 (((rd_T45 y377 ((rd_T57 x16_2 (ji65)).f2)).f0) - (wrap64 (a3))))))) ?hg ?ho ?hn ?hr ?_; (case ho => rfl); (case hg => rfl); (case hn => rfl); (case hr => first | (go_simp; done) | (go_simp; rfl)); intro w119 hw; have hg : w115.grownBy w119 (some go71) := (by rw [hw]; exact HP118.2); have hp_ : Kd.R k45 45 w119 w.heap.size (fun _ => True) (.slice (some ⟨go71, 0, none⟩) y377.length co117) y381 := (by rw [hw, Ny381.out]; exact HP118.1); clear HP118; have n0_ := Aside0.mk (Kd.R_over' (v := (.slice (some ⟨go71, 0, none⟩) y377.length co117)) (by (with_reducible repeat (first | apply Kd.R_alloc | apply Kd.R_drewN | apply Kd.R_drew)); exact HO_10.out) (Kd.R_typed HO379.out) (by decide) hg); have n1_ := Aside0.mk (Kd.R_over' (v := (.slice (some ⟨go71, 0, none⟩) y377.length co117)) (by (with_reducible repeat (first | apply Kd.R_alloc | apply Kd.R_drewN | apply Kd.R_drew)); exact HO_13.out) (Kd.R_typed HO379.out) (by decide) hg); have n2_ := Aside0.mk (Kd.R_over' (v := (.slice (some ⟨go71, 0, none⟩) y377.length co117)) (by (with_reducible repeat (first | apply Kd.R_alloc | apply Kd.R_drewN | apply Kd.R_drew)); exact HO_15.out) (Kd.R_typed HO379.out) (by decide) hg); have n3_ := Aside0.mk (Kd.R_over' (v := (.slice (some ⟨go71, 0, none⟩) y377.length co117)) (by (with_reducible repeat (first | apply Kd.R_alloc | apply Kd.R_drewN | apply Kd.R_drew)); exact HO_16.out) (Kd.R_typed HO379.out) (by decide) hg); have n4_ := Aside0.mk (Kd.R_over' (v := (.slice (some ⟨go71, 0, none⟩) y377.length co117)) (by (with_reducible repeat (first | apply Kd.R_alloc | apply Kd.R_drewN | apply Kd.R_drew)); exact HO_101.out) (Kd.R_typed HO379.out) (by decide) hg); have n5_ := Aside0.mk (blk_grown (g := gb373) (o := .cells #[.int .i64 ((rd_T57 x16_2 (ji65)).f0), .bool ((rd_T57 x16_2 (ji65)).f1), .int .i64 ((rd_T57 x16_2 (ji65)).f2)] 57 (0, 0)) (by (with_reducible repeat (first | refine blk_drewN ?_ _ | refine blk_drew ?_ | refine blk_alloc ?_ _)); exact BK373.out) hg (Kd.R_ne HO379.out BK373.out (by decide))); have n6_ := Aside0.mk (hp_); have n7_ := Aside0.mk ((by rw [hw]; exact below_set (HB.out) GB71.out : Below w.heap.size w w119)); clear HO_10; clear HO_13; clear HO_15; clear HO_16; clear HO_101; clear BK373; clear HO379; clear HB; have HO_10 := n0_; have HO_13 := n1_; have HO_15 := n2_; have HO_16 := n3_; have HO_101 := n4_; have BK373 := n5_; have HO379 := n6_; have HB := n7_; clear n0_ n1_ n2_ n3_ n4_ n5_ n6_ n7_; clear hg hw hp_) | (go_at_call 19; refine calls_of_args (args' := #[.slice A0 l0.length c0, .slice (some ⟨go71, 0, none⟩) y381.length co117]) (by first | (rw [show y381.length = y377.length from (Kd.R_reads' HO379.out).1.symm] <;> rfl) | rfl) ?_; (with_reducible refine (wageofficelaw22_usable.calls k3 _ _ l0 _ _ y381 false _ ?side1 ?side2 ?side3 ?side4 A72.out).mono ?_); (case side1 => repeat (first | exact (Kd.C_below HR0.out HB.out) | (with_reducible refine Kd.C_alloc ?_ _) | (with_reducible refine Kd.C_drewN ?_ _) | (with_reducible refine Kd.C_drew ?_))); (case side2 => exact HC0.out); (case side3 => repeat (first | exact (Kd.R_reads' HO379.out).2.2 | (with_reducible refine Kd.C_alloc ?_ _) | (with_reducible refine Kd.C_drewN ?_ _) | (with_reducible refine Kd.C_drew ?_))); (case side4 => rw [show y381.length = y377.length from (Kd.R_reads' HO379.out).1.symm]; exact (Kd.R_reads' HO379.out).2.1); rintro e w120 ⟨rfl, hb⟩; have n0_ := Aside0.mk (Kd.R_below (by (with_reducible repeat (first | apply Kd.R_alloc | apply Kd.R_drewN | apply Kd.R_drew)); exact HO_10.out) hb); have n1_ := Aside0.mk (Kd.R_below (by (with_reducible repeat (first | apply Kd.R_alloc | apply Kd.R_drewN | apply Kd.R_drew)); exact HO_13.out) hb); have n2_ := Aside0.mk (Kd.R_below (by (with_reducible repeat (first | apply Kd.R_alloc | apply Kd.R_drewN | apply Kd.R_drew)); exact HO_15.out) hb); have n3_ := Aside0.mk (Kd.R_below (by (with_reducible repeat (first | apply Kd.R_alloc | apply Kd.R_drewN | apply Kd.R_drew)); exact HO_16.out) hb); have n4_ := Aside0.mk (Kd.R_below (by (with_reducible repeat (first | apply Kd.R_alloc | apply Kd.R_drewN | apply Kd.R_drew)); exact HO_101.out) hb); have n5_ := Aside0.mk (Kd.R_below (by (with_reducible repeat (first | apply Kd.R_alloc | apply Kd.R_drewN | apply Kd.R_drew)); exact HO379.out) hb); have n6_ := Aside0.mk (blk_below (g := gb373) (o := .cells #[.int .i64 ((rd_T57 x16_2 (ji65)).f0), .bool ((rd_T57 x16_2 (ji65)).f1), .int .i64 ((rd_T57 x16_2 (ji65)).f2)] 57 (0, 0)) (by (with_reducible repeat (first | refine blk_drewN ?_ _ | refine blk_drew ?_ | refine blk_alloc ?_ _)); exact BK373.out) hb); have n7_ := Aside0.mk (below_step (by repeat (first | (with_reducible first | exact HB.out | apply below_alloc | apply pw_below_drewN | apply below_drew1 | refine below_set ?_ GE373.out) | exact HB.out)) hb); clear HO_10; clear HO_13; clear HO_15; clear HO_16; clear HO_101; clear HO379; clear BK373; clear HB; have HO_10 := n0_; have HO_13 := n1_; have HO_15 := n2_; have HO_16 := n3_; have HO_101 := n4_; have HO379 := n5_; have BK373 := n6_; have HB := n7_; clear n0_ n1_ n2_ n3_ n4_ n5_ n6_ n7_; (try clear hb); (try clear hb2); (try clear hk); (try clear hi))))
                    go_ret
                    exact ⟨by first | rfl | (simp [errW_none, errW_some] <;> rfl) | (simp only [← hji65]; first | rfl | (simp [errW_none, errW_some] <;> rfl)) | (simp [*, errW_none, errW_some] <;> rfl), by repeat (first | (with_reducible first | exact HB.out | apply below_alloc | apply pw_below_drewN | apply below_drew1 | refine below_set ?_ GE373.out) | exact HB.out)⟩
                  ·rw [if_neg c70] at H
                   exact absurd H (by simp)
                 ·rw [if_neg c69] at H
                  exact absurd H (by simp)
                ·rw [if_neg c68] at H
                 exact absurd H (by simp)
               ·rw [if_neg c67] at H
                exact absurd H (by simp)
              ·rw [if_neg c66] at H
               exact absurd H (by simp)
      ·rw [if_neg c21] at H
       exact absurd H (by simp)
     ·rw [if_neg c20] at H
      exact absurd H (by simp)
 ·replace c7 := Bool.eq_false_iff.mpr c7
  subst c7
  have H1 : (some t350) = some r := by rw [if_neg (show ¬ (false = true) by decide)] at H; exact H
  clear H
  have H := H1
  clear H1
  obtain rfl := Option.some.inj H
  go_enter Try.func10, Try.ntmps10
  go_wp2_with (first | (go_at_call 11; (with_reducible refine (wageofficelaw22_head.calls  t350 _ A5.out).mono ?_); rintro e w121 ⟨rfl, hb⟩; have n0_ := Aside0.mk (below_step (by repeat (first | (with_reducible first | exact HB.out | apply below_alloc | apply pw_below_drewN | apply below_drew1) | exact HB.out)) hb); clear HB; have HB := n0_; clear n0_; (try clear hb); (try clear hb2); (try clear hk); (try clear hi)) | (go_at_call 19; (with_reducible refine (wageofficelaw22_usable.calls k _ _ l0 _ _ l1 false _ ?side1 ?side2 ?side3 ?side4 A6.out).mono ?_); (case side1 => repeat (first | exact (Kd.C_below HR0.out HB.out) | (with_reducible refine Kd.C_alloc ?_ _) | (with_reducible refine Kd.C_drewN ?_ _) | (with_reducible refine Kd.C_drew ?_))); (case side2 => exact HC0.out); (case side3 => repeat (first | exact (Kd.C_below HR1.out HB.out) | (with_reducible refine Kd.C_alloc ?_ _) | (with_reducible refine Kd.C_drewN ?_ _) | (with_reducible refine Kd.C_drew ?_))); (case side4 => exact HC1.out); rintro e w122 ⟨rfl, hb⟩; have n0_ := Aside0.mk (below_step (by repeat (first | (with_reducible first | exact HB.out | apply below_alloc | apply pw_below_drewN | apply below_drew1) | exact HB.out)) hb); clear HB; have HB := n0_; clear n0_; (try clear hb); (try clear hb2); (try clear hk); (try clear hi)))
  repeat (go_quiet (fail); try go_wp2_with (first | (go_at_call 11; (with_reducible refine (wageofficelaw22_head.calls  t350 _ A5.out).mono ?_); rintro e w121 ⟨rfl, hb⟩; have n0_ := Aside0.mk (below_step (by repeat (first | (with_reducible first | exact HB.out | apply below_alloc | apply pw_below_drewN | apply below_drew1) | exact HB.out)) hb); clear HB; have HB := n0_; clear n0_; (try clear hb); (try clear hb2); (try clear hk); (try clear hi)) | (go_at_call 19; (with_reducible refine (wageofficelaw22_usable.calls k _ _ l0 _ _ l1 false _ ?side1 ?side2 ?side3 ?side4 A6.out).mono ?_); (case side1 => repeat (first | exact (Kd.C_below HR0.out HB.out) | (with_reducible refine Kd.C_alloc ?_ _) | (with_reducible refine Kd.C_drewN ?_ _) | (with_reducible refine Kd.C_drew ?_))); (case side2 => exact HC0.out); (case side3 => repeat (first | exact (Kd.C_below HR1.out HB.out) | (with_reducible refine Kd.C_alloc ?_ _) | (with_reducible refine Kd.C_drewN ?_ _) | (with_reducible refine Kd.C_drew ?_))); (case side4 => exact HC1.out); rintro e w122 ⟨rfl, hb⟩; have n0_ := Aside0.mk (below_step (by repeat (first | (with_reducible first | exact HB.out | apply below_alloc | apply pw_below_drewN | apply below_drew1) | exact HB.out)) hb); clear HB; have HB := n0_; clear n0_; (try clear hb); (try clear hb2); (try clear hk); (try clear hi))))
  go_ret
  exact ⟨by first | rfl | (simp [errW_none, errW_some] <;> rfl) | (simp [*, errW_none, errW_some] <;> rfl), by repeat (first | (with_reducible first | exact HB.out | apply below_alloc | apply pw_below_drewN | apply below_drew1) | exact HB.out)⟩

end Go.Proofs.Ytpbamfoaoeicgaa.PAll

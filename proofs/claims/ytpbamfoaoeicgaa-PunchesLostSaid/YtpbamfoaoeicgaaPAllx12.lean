-- Printed by a program (the kit's print, with functions given by hand) out of the translation: machine-written for this claim.
import Derived.Test.YtpbamfoaoeicgaaPAllx0
import Derived.Test.YtpbamfoaoeicgaaPAllx3
import Derived.Test.YtpbamfoaoeicgaaPAllx5
import Derived.Test.YtpbamfoaoeicgaaPAllx8
namespace Go.Proofs.Ytpbamfoaoeicgaa.PAll
open Go.RowKit Go.Proofs.YtpbamfoaoeicgaaW.PrintWords Go.Proofs.YtpbamfoaoeicgaaW.PrintLast Go.Proofs.YtpbamfoaoeicgaaW.PrintMore
attribute [local go_sem] max2_int min2_int max_two min_two max_three min_three max_four min_four   -- for this text's walks alone
set_option linter.unusedVariables false
set_option linter.unusedSimpArgs false

/-! ### wageofficelaw22_PunchesLost: function 6 -/
mutual
def wageofficelaw22_PunchesLost.j0 : Nat → List (S48) → List (S45) → Int → Int → Bool → Bool → Option (Bool)
  | 0, _, _, _, _, _, _ => none
  | k + 1, x0, x1, x2, x3, x9, x31 => if x31 = true then (some x9) else (if (x1.length : Int) = 0 then (none) else ((punches_Pair.f x0 x1).bind fun bt199 => ((some (([] : List (S45)) : List (S45))).bind fun y204 => (if 0 ≤ (Int.tmod (wrap64 (x2)) (x1.length : Int)) then (if (Int.tmod (wrap64 (x2)) (x1.length : Int)) ≤ (x1.length : Int) then ((some (x1.take ((Int.tmod (wrap64 (x2)) (x1.length : Int)) : Int).toNat : List (S45))).bind fun y207 => (if y204.length + y207.length < 8796093022208 then ((some (y204 ++ y207 : List (S45))).bind fun y211 => (if 0 ≤ (wrap64 ((Int.tmod (wrap64 (x2)) (x1.length : Int)) + 1)) then (if (wrap64 ((Int.tmod (wrap64 (x2)) (x1.length : Int)) + 1)) ≤ (x1.length : Int) then ((some (x1.drop ((wrap64 ((Int.tmod (wrap64 (x2)) (x1.length : Int)) + 1)) : Int).toNat : List (S45))).bind fun y214 => (if y211.length + y214.length < 8796093022208 then ((punches_Pair.f x0 (y211 ++ y214)).bind fun bt221 => (if bt199.2.2 = 0 then (if bt221.2.2 = 0 then (if (wrap64 (bt199.2.1 - bt221.2.1)) > 120 then (wageofficelaw22_PunchesLost.j1 k x0 x1 x3 x9 (Int.tmod (wrap64 (x2)) (x1.length : Int)) bt199.2.1 true) else (wageofficelaw22_PunchesLost.j1 k x0 x1 x3 x9 (Int.tmod (wrap64 (x2)) (x1.length : Int)) bt199.2.1 (decide ((wrap64 (bt221.2.1 - bt199.2.1)) > 120)))) else (wageofficelaw22_PunchesLost.j1 k x0 x1 x3 x9 (Int.tmod (wrap64 (x2)) (x1.length : Int)) bt199.2.1 true)) else (wageofficelaw22_PunchesLost.j1 k x0 x1 x3 x9 (Int.tmod (wrap64 (x2)) (x1.length : Int)) bt199.2.1 true))) else (none))) else (none)) else (none))) else (none))) else (none)) else (none)))))
def wageofficelaw22_PunchesLost.j1 : Nat → List (S48) → List (S45) → Int → Bool → Int → Int → Bool → Option (Bool)
  | 0, _, _, _, _, _, _, _ => none
  | k + 1, x0, x1, x3, x9, x10, x12, x78 => if x78 = true then (some false) else ((some (([] : List (S45)) : List (S45))).bind fun y226 => (if y226.length + x1.length < 8796093022208 then ((some (y226 ++ x1 : List (S45))).bind fun y229 => (if 0 ≤ x10 then (if x10 < (y229.length : Int) then ((some (y229.set (x10 : Int).toNat (⟨x3, (rd_T45 y229 x10).f1⟩ : S45) : List (S45))).bind fun y232 => ((wageofficelaw22_usable.f k x0 y232).bind fun t233 => (if t233 = true then ((punches_Pair.f x0 y232).bind fun bt234 => (if x10 < (x1.length : Int) then (if x9 = true then (if bt234.2.2 = 0 then (if (wrap64 (bt234.2.1 - x12)) ≤ (mx (wrap64 (x3 - ((rd_T45 x1 x10).f0))) (wrap64 (((rd_T45 x1 x10).f0) - x3))) then (some (decide ((wrap64 (x12 - bt234.2.1)) ≤ (mx (wrap64 (x3 - ((rd_T45 x1 x10).f0))) (wrap64 (((rd_T45 x1 x10).f0) - x3)))))) else (some false)) else (some false)) else (some false)) else (none))) else (some x9)))) else (none)) else (none))) else (none)))
end
def wageofficelaw22_PunchesLost.f (k : Nat) (l0 : List (S48)) (l1 : List (S45)) (a2 : Int) (a3 : Int) : Option (Bool) := (wageofficelaw22_head.f).bind fun t197 => ((wageofficelaw22_usable.f k l0 l1).bind fun t198 => (if t198 = true then (wageofficelaw22_PunchesLost.j0 k l0 l1 a2 a3 t197 ((l1.length : Int) == 0)) else (wageofficelaw22_PunchesLost.j0 k l0 l1 a2 a3 t197 true)))
theorem wageofficelaw22_PunchesLost.mono_l : ∀ k, (∀ y0 y1 y2 y3 y4 y5, LeO (wageofficelaw22_PunchesLost.j0 k y0 y1 y2 y3 y4 y5) (wageofficelaw22_PunchesLost.j0 (k + 1) y0 y1 y2 y3 y4 y5)) ∧ (∀ y0 y1 y2 y3 y4 y5 y6, LeO (wageofficelaw22_PunchesLost.j1 k y0 y1 y2 y3 y4 y5 y6) (wageofficelaw22_PunchesLost.j1 (k + 1) y0 y1 y2 y3 y4 y5 y6))
  | 0 => ⟨fun _ _ _ _ _ _ r h => by simp [wageofficelaw22_PunchesLost.j0] at h, fun _ _ _ _ _ _ _ r h => by simp [wageofficelaw22_PunchesLost.j1] at h⟩
  | k + 1 => by
    obtain ⟨ih0, ih1⟩ := wageofficelaw22_PunchesLost.mono_l k
    refine ⟨?_, ?_⟩
    · intro y0 y1 y2 y3 y4 y5
      unfold wageofficelaw22_PunchesLost.j0
      repeat' first
      | (with_reducible exact ih0 _ _ _ _ _ _)
      | (with_reducible exact ih1 _ _ _ _ _ _ _)
      | (with_reducible exact wageofficelaw22_usable.mono _ _ _)
      | (with_reducible exact LeO.refl _)
      | (with_reducible exact LeO.none _)
      | (with_reducible refine LeO.ite ?_ ?_)
      | (with_reducible refine LeO.bind ?_ (fun _ => ?_))
      | exact ih0 _ _ _ _ _ _
      | exact ih1 _ _ _ _ _ _ _
      | exact wageofficelaw22_usable.mono _ _ _
      | exact LeO.none _
      | refine LeO.ite ?_ ?_
      | refine LeO.bind ?_ (fun _ => ?_)
    · intro y0 y1 y2 y3 y4 y5 y6
      unfold wageofficelaw22_PunchesLost.j1
      repeat' first
      | (with_reducible exact ih0 _ _ _ _ _ _)
      | (with_reducible exact ih1 _ _ _ _ _ _ _)
      | (with_reducible exact wageofficelaw22_usable.mono _ _ _)
      | (with_reducible exact LeO.refl _)
      | (with_reducible exact LeO.none _)
      | (with_reducible refine LeO.ite ?_ ?_)
      | (with_reducible refine LeO.bind ?_ (fun _ => ?_))
      | exact ih0 _ _ _ _ _ _
      | exact ih1 _ _ _ _ _ _ _
      | exact wageofficelaw22_usable.mono _ _ _
      | exact LeO.none _
      | refine LeO.ite ?_ ?_
      | refine LeO.bind ?_ (fun _ => ?_)
theorem wageofficelaw22_PunchesLost.mono : ∀ a0 a1 a2 a3 k, LeO (wageofficelaw22_PunchesLost.f k a0 a1 a2 a3) (wageofficelaw22_PunchesLost.f (k + 1) a0 a1 a2 a3) := by
  intro a0 a1 a2 a3 k
  obtain ⟨ih0, ih1⟩ := wageofficelaw22_PunchesLost.mono_l k
  unfold wageofficelaw22_PunchesLost.f
  repeat' first
      | (with_reducible exact ih0 _ _ _ _ _ _)
      | (with_reducible exact ih1 _ _ _ _ _ _ _)
      | (with_reducible exact wageofficelaw22_usable.mono _ _ _)
      | (with_reducible exact LeO.refl _)
      | (with_reducible exact LeO.none _)
      | (with_reducible refine LeO.ite ?_ ?_)
      | (with_reducible refine LeO.bind ?_ (fun _ => ?_))
      | exact ih0 _ _ _ _ _ _
      | exact ih1 _ _ _ _ _ _ _
      | exact wageofficelaw22_usable.mono _ _ _
      | exact LeO.none _
      | refine LeO.ite ?_ ?_
      | refine LeO.bind ?_ (fun _ => ?_)
def wageofficelaw22_PunchesLost.T6 : Bool × List (List Nat × List Nat) := (true, [([], []), ([], []), ([], []), ([], []), ([2, 3], [2, 3]), ([1, 4], [1, 4]), ([], []), ([], []), ([7], [7]), ([6, 8], [6, 8]), ([5, 9, 5], [5, 9]), ([0, 10, 10], [0, 10]), ([11], [11]), ([12], [12]), ([12], [12]), ([12], [12]), ([13, 11, 0, 1, 2, 3, 4, 5, 6, 7, 8, 9, 10, 11, 12, 13], [13]), ([14, 16, 0, 1, 2, 3, 4, 5, 6, 7, 8, 9, 10, 11, 12, 13, 14, 16], [14]), ([15, 17, 0, 1, 2, 3, 4, 5, 6, 7, 8, 9, 10, 11, 12, 13, 14, 15, 16, 17], [15])])
def wageofficelaw22_PunchesLost.B6 : List Nat := [0, 0, 0, 0, 12, 30, 0, 0, 128, 448, 1022, 2047, 4095, 8191, 8191, 8191, 16383, 98303, 262143]
theorem wageofficelaw22_PunchesLost.tab6 : rtab .any (opsOf Try.f6 6) = wageofficelaw22_PunchesLost.T6 := by kernel_rfl
theorem wageofficelaw22_PunchesLost.bits6 : waitsOk wageofficelaw22_PunchesLost.T6.2 wageofficelaw22_PunchesLost.B6 = true := by kernel_rfl
def wageofficelaw22_PunchesLost.T14 : Bool × List (List Nat × List Nat) := (true, [([], []), ([], []), ([], []), ([1, 2], [1, 2]), ([3], [3]), ([4], [4]), ([0, 5], [0, 5]), ([], []), ([], []), ([7, 8], [7, 8]), ([9], [9]), ([10], [10]), ([], []), ([11, 12], [11, 12]), ([6, 13], [6, 13]), ([14, 0, 1, 2, 3, 4, 5, 6, 7, 8, 9, 10, 11, 12, 13, 14], [14])])
def wageofficelaw22_PunchesLost.B14 : List Nat := [0, 0, 0, 6, 14, 30, 63, 0, 0, 384, 896, 1920, 0, 8064, 16383, 32767]
theorem wageofficelaw22_PunchesLost.tab14 : rtab .any (opsOf Try.f6 14) = wageofficelaw22_PunchesLost.T14 := by kernel_rfl
theorem wageofficelaw22_PunchesLost.bits14 : waitsOk wageofficelaw22_PunchesLost.T14.2 wageofficelaw22_PunchesLost.B14 = true := by kernel_rfl
set_option maxHeartbeats 8000000 in
set_option maxRecDepth 100000 in
theorem wageofficelaw22_PunchesLost.calls (k : Nat) (A0 : Option Addr) (c0 : Nat) (l0 : List (S48)) (A1 : Option Addr) (c1 : Nat) (l1 : List (S45)) (a2 : Int) (a3 : Int) (r : Bool) (w : World) (hr0 : Kd.C k48 w A0 l0.length l0) (hc0 : l0.length ≤ c0) (hr1 : Kd.C k45 w A1 l1.length l1) (hc1 : l1.length ≤ c1) (hr : r = true) (h : wageofficelaw22_PunchesLost.f k l0 l1 a2 a3 = some r) :
    Calls Try.prog 6 #[.slice A0 l0.length c0, .slice A1 l1.length c1, .int .u8 a2, .int .i64 a3] w fun e w' => e = .returned (.bool r) ∧ Below w.heap.size w w' := by
  have HR0 := Aside0.mk hr0
  have HC0 := Aside0.mk hc0
  clear hr0 hc0
  have HR1 := Aside0.mk hr1
  have HC1 := Aside0.mk hc1
  clear hr1 hc1
  have HB := Aside0.mk (Below.refl w.heap.size w)
  have PR := Aside0.mk hr
  clear hr
  have H : ((wageofficelaw22_head.f).bind fun t197 => ((wageofficelaw22_usable.f k l0 l1).bind fun t198 => (if t198 = true then (wageofficelaw22_PunchesLost.j0 k l0 l1 a2 a3 t197 ((l1.length : Int) == 0)) else (wageofficelaw22_PunchesLost.j0 k l0 l1 a2 a3 t197 true)))) = some r := h
  clear h
  replace H := Option.bind_eq_some_iff.mp H
  obtain ⟨t197, A50, H⟩ := H
  replace H : ((wageofficelaw22_usable.f k l0 l1).bind fun t198 => (if t198 = true then (wageofficelaw22_PunchesLost.j0 k l0 l1 a2 a3 t197 ((l1.length : Int) == 0)) else (wageofficelaw22_PunchesLost.j0 k l0 l1 a2 a3 t197 true))) = some r := H
  have A5 := Aside0.mk A50
  clear A50
  have HC6 := Aside0.mk H
  clear H
  go_enter Try.func6, Try.ntmps6
  go_upto_region 2 with (first | ((with_reducible refine gate_callee (f := 11) rfl ?_); refine goesL_ (some 22) rfl rfl Try.func11 (by kernel_rfl) rfl #[] rfl (by (try simp only [List.map_toArray, List.map_cons, List.map_nil]); first | done | rfl | (simp only [List.length_drop, List.length_take]; rfl)) ?_; (with_reducible refine (wageofficelaw22_head.calls  t197 _ A5.out).mono ?_); rintro e w7 ⟨rfl, hb⟩; refine ⟨_, rfl, ?_⟩; have n0_ := Aside0.mk (below_step (by repeat (first | (with_reducible first | exact HB.out | apply below_alloc | apply pw_below_drewN | apply below_drew1) | exact HB.out)) hb); clear HB; have HB := n0_; clear n0_; (try clear hb); (try clear hb2); (try clear hk); (try clear hi)))
  (try simp only [Act.put, List.setIfInBounds_toArray, List.set_cons_zero, List.set_cons_succ])
  go_cut [31] (fun v31 wc => ∃ (kq : Nat) (x31_5 : Bool), v31 = .bool x31_5 ∧ Aside0 (wageofficelaw22_PunchesLost.j0 kq l0 l1 a2 a3 t197 x31_5 = some r) ∧ Aside0 (kq ≤ k) ∧ Aside0 (Below w.heap.size w wc))
  case first =>
    have H := HC6.out
    clear HC6
    replace H := Option.bind_eq_some_iff.mp H
    obtain ⟨t198, A80, H⟩ := H
    replace H : (if t198 = true then (wageofficelaw22_PunchesLost.j0 k l0 l1 a2 a3 t197 ((l1.length : Int) == 0)) else (wageofficelaw22_PunchesLost.j0 k l0 l1 a2 a3 t197 true)) = some r := H
    have A8 := Aside0.mk A80
    clear A80
    by_cases c9 : t198 = true
    · subst c9
      have H1 : (wageofficelaw22_PunchesLost.j0 k l0 l1 a2 a3 t197 ((l1.length : Int) == 0)) = some r := by rw [if_pos rfl] at H; exact H
      clear H
      have H := H1
      clear H1
      have H' := Aside0.mk H
      clear H
      go_wp2_with (first | ((with_reducible refine gate_callee (f := 19) rfl ?_); refine goesL_ (some 25) rfl rfl Try.func19 (by kernel_rfl) rfl #[.slice A0 l0.length c0, .slice A1 l1.length c1] rfl (by (try simp only [List.map_toArray, List.map_cons, List.map_nil]); first | done | rfl | (simp only [List.length_drop, List.length_take]; rfl)) ?_; (with_reducible refine (wageofficelaw22_usable.calls k _ _ l0 _ _ l1 true _ ?side1 ?side2 ?side3 ?side4 A8.out).mono ?_); (case side1 => repeat (first | exact (Kd.C_below HR0.out HB.out) | (with_reducible refine Kd.C_alloc ?_ _) | (with_reducible refine Kd.C_drewN ?_ _) | (with_reducible refine Kd.C_drew ?_))); (case side2 => exact HC0.out); (case side3 => repeat (first | exact (Kd.C_below HR1.out HB.out) | (with_reducible refine Kd.C_alloc ?_ _) | (with_reducible refine Kd.C_drewN ?_ _) | (with_reducible refine Kd.C_drew ?_))); (case side4 => exact HC1.out); rintro e w10 ⟨rfl, hb⟩; refine ⟨_, rfl, ?_⟩; have n0_ := Aside0.mk (below_step (by repeat (first | (with_reducible first | exact HB.out | apply below_alloc | apply pw_below_drewN | apply below_drew1) | exact HB.out)) hb); clear HB; have HB := n0_; clear n0_; (try clear hb); (try clear hb2); (try clear hk); (try clear hi)))
      go_meet
      case rel => exact ⟨_, (((l1.length : Int) == 0)), (by first | rfl | (simp; done) | (simp [*]; done)), H', ⟨by first | omega | exact Nat.le_refl _⟩, ⟨by repeat (first | (with_reducible first | exact HB.out | apply below_alloc | apply pw_below_drewN | apply below_drew1) | exact HB.out)⟩⟩
    · replace c9 := Bool.eq_false_iff.mpr c9
      subst c9
      have H1 : (wageofficelaw22_PunchesLost.j0 k l0 l1 a2 a3 t197 true) = some r := by rw [if_neg (show ¬ (false = true) by decide)] at H; exact H
      clear H
      have H := H1
      clear H1
      have H' := Aside0.mk H
      clear H
      go_wp2_with (first | ((with_reducible refine gate_callee (f := 19) rfl ?_); refine goesL_ (some 25) rfl rfl Try.func19 (by kernel_rfl) rfl #[.slice A0 l0.length c0, .slice A1 l1.length c1] rfl (by (try simp only [List.map_toArray, List.map_cons, List.map_nil]); first | done | rfl | (simp only [List.length_drop, List.length_take]; rfl)) ?_; (with_reducible refine (wageofficelaw22_usable.calls k _ _ l0 _ _ l1 false _ ?side1 ?side2 ?side3 ?side4 A8.out).mono ?_); (case side1 => repeat (first | exact (Kd.C_below HR0.out HB.out) | (with_reducible refine Kd.C_alloc ?_ _) | (with_reducible refine Kd.C_drewN ?_ _) | (with_reducible refine Kd.C_drew ?_))); (case side2 => exact HC0.out); (case side3 => repeat (first | exact (Kd.C_below HR1.out HB.out) | (with_reducible refine Kd.C_alloc ?_ _) | (with_reducible refine Kd.C_drewN ?_ _) | (with_reducible refine Kd.C_drew ?_))); (case side4 => exact HC1.out); rintro e w11 ⟨rfl, hb⟩; refine ⟨_, rfl, ?_⟩; have n0_ := Aside0.mk (below_step (by repeat (first | (with_reducible first | exact HB.out | apply below_alloc | apply pw_below_drewN | apply below_drew1) | exact HB.out)) hb); clear HB; have HB := n0_; clear n0_; (try clear hb); (try clear hb2); (try clear hk); (try clear hi)))
      go_meet
      case rel => exact ⟨_, (true), (by first | rfl | (simp; done) | (simp [*]; done)), H', ⟨by first | omega | exact Nat.le_refl _⟩, ⟨by repeat (first | (with_reducible first | exact HB.out | apply below_alloc | apply pw_below_drewN | apply below_drew1) | exact HB.out)⟩⟩
  case rest =>
    clear HC6
    try clear c1
    try clear p2
    try clear c6
    try clear c9
    try clear c11
    obtain ⟨kq, x31_5, rfl, HA, HJ5, HB⟩ := hcut
    cases kq with
    | zero => exact absurd HA.out (by simp [wageofficelaw22_PunchesLost.j0])
    | succ kj5 =>
      have H := HA.out
      clear HA
      simp only [wageofficelaw22_PunchesLost.j0] at H
      by_cases c12 : x31_5 = true
      · subst c12
        have H1 : (some t197) = some r := by rw [if_pos rfl] at H; exact H
        clear H
        have H := H1
        clear H1
        obtain rfl := Option.some.inj H
        go_wp2
        go_ret
        exact ⟨by first | rfl | (simp [errW_none, errW_some] <;> rfl) | (simp [*, errW_none, errW_some] <;> rfl), by repeat (first | (with_reducible first | exact HB.out | apply below_alloc | apply pw_below_drewN | apply below_drew1) | exact HB.out)⟩
      · replace c12 := Bool.eq_false_iff.mpr c12
        subst c12
        have H1 : (if (l1.length : Int) = 0 then (none) else ((punches_Pair.f l0 l1).bind fun bt199 => ((some (([] : List (S45)) : List (S45))).bind fun y204 => (if 0 ≤ (Int.tmod (wrap64 (a2)) (l1.length : Int)) then (if (Int.tmod (wrap64 (a2)) (l1.length : Int)) ≤ (l1.length : Int) then ((some (l1.take ((Int.tmod (wrap64 (a2)) (l1.length : Int)) : Int).toNat : List (S45))).bind fun y207 => (if y204.length + y207.length < 8796093022208 then ((some (y204 ++ y207 : List (S45))).bind fun y211 => (if 0 ≤ (wrap64 ((Int.tmod (wrap64 (a2)) (l1.length : Int)) + 1)) then (if (wrap64 ((Int.tmod (wrap64 (a2)) (l1.length : Int)) + 1)) ≤ (l1.length : Int) then ((some (l1.drop ((wrap64 ((Int.tmod (wrap64 (a2)) (l1.length : Int)) + 1)) : Int).toNat : List (S45))).bind fun y214 => (if y211.length + y214.length < 8796093022208 then ((punches_Pair.f l0 (y211 ++ y214)).bind fun bt221 => (if bt199.2.2 = 0 then (if bt221.2.2 = 0 then (if (wrap64 (bt199.2.1 - bt221.2.1)) > 120 then (wageofficelaw22_PunchesLost.j1 kj5 l0 l1 a3 t197 (Int.tmod (wrap64 (a2)) (l1.length : Int)) bt199.2.1 true) else (wageofficelaw22_PunchesLost.j1 kj5 l0 l1 a3 t197 (Int.tmod (wrap64 (a2)) (l1.length : Int)) bt199.2.1 (decide ((wrap64 (bt221.2.1 - bt199.2.1)) > 120)))) else (wageofficelaw22_PunchesLost.j1 kj5 l0 l1 a3 t197 (Int.tmod (wrap64 (a2)) (l1.length : Int)) bt199.2.1 true)) else (wageofficelaw22_PunchesLost.j1 kj5 l0 l1 a3 t197 (Int.tmod (wrap64 (a2)) (l1.length : Int)) bt199.2.1 true))) else (none))) else (none)) else (none))) else (none))) else (none)) else (none))))) = some r := by rw [if_neg (show ¬ (false = true) by decide)] at H; exact H
        clear H
        have H := H1
        clear H1
        by_cases c13 : (l1.length : Int) = 0
        · rw [if_pos c13] at H
          exact absurd H (by simp)
        · rw [if_neg c13] at H
          have c13b0 : ((l1.length : Int) == 0) = false := beq_eq_false_iff_ne.mpr c13
          have c13b1 : ((l1.length : Int) != 0) = true := bne_iff_ne.mpr c13
          have c13b2 : ¬ (l1 = []) := fun h_ => c13 (by rw [h_]; rfl)
          replace H := Option.bind_eq_some_iff.mp H
          obtain ⟨⟨t199, t200, t201⟩, A140, H⟩ := H
          replace H : ((some (([] : List (S45)) : List (S45))).bind fun y204 => (if 0 ≤ (Int.tmod (wrap64 (a2)) (l1.length : Int)) then (if (Int.tmod (wrap64 (a2)) (l1.length : Int)) ≤ (l1.length : Int) then ((some (l1.take ((Int.tmod (wrap64 (a2)) (l1.length : Int)) : Int).toNat : List (S45))).bind fun y207 => (if y204.length + y207.length < 8796093022208 then ((some (y204 ++ y207 : List (S45))).bind fun y211 => (if 0 ≤ (wrap64 ((Int.tmod (wrap64 (a2)) (l1.length : Int)) + 1)) then (if (wrap64 ((Int.tmod (wrap64 (a2)) (l1.length : Int)) + 1)) ≤ (l1.length : Int) then ((some (l1.drop ((wrap64 ((Int.tmod (wrap64 (a2)) (l1.length : Int)) + 1)) : Int).toNat : List (S45))).bind fun y214 => (if y211.length + y214.length < 8796093022208 then ((punches_Pair.f l0 (y211 ++ y214)).bind fun bt221 => (if t201 = 0 then (if bt221.2.2 = 0 then (if (wrap64 (t200 - bt221.2.1)) > 120 then (wageofficelaw22_PunchesLost.j1 kj5 l0 l1 a3 t197 (Int.tmod (wrap64 (a2)) (l1.length : Int)) t200 true) else (wageofficelaw22_PunchesLost.j1 kj5 l0 l1 a3 t197 (Int.tmod (wrap64 (a2)) (l1.length : Int)) t200 (decide ((wrap64 (bt221.2.1 - t200)) > 120)))) else (wageofficelaw22_PunchesLost.j1 kj5 l0 l1 a3 t197 (Int.tmod (wrap64 (a2)) (l1.length : Int)) t200 true)) else (wageofficelaw22_PunchesLost.j1 kj5 l0 l1 a3 t197 (Int.tmod (wrap64 (a2)) (l1.length : Int)) t200 true))) else (none))) else (none)) else (none))) else (none))) else (none)) else (none))) = some r := H
          have A14 := Aside0.mk A140
          clear A140
          obtain ⟨y204, hy204⟩ : ∃ y_ : List (S45), y_ = (([] : List (S45))) := ⟨_, rfl⟩
          replace H : (if 0 ≤ (Int.tmod (wrap64 (a2)) (l1.length : Int)) then (if (Int.tmod (wrap64 (a2)) (l1.length : Int)) ≤ (l1.length : Int) then ((some (l1.take ((Int.tmod (wrap64 (a2)) (l1.length : Int)) : Int).toNat : List (S45))).bind fun y207 => (if y204.length + y207.length < 8796093022208 then ((some (y204 ++ y207 : List (S45))).bind fun y211 => (if 0 ≤ (wrap64 ((Int.tmod (wrap64 (a2)) (l1.length : Int)) + 1)) then (if (wrap64 ((Int.tmod (wrap64 (a2)) (l1.length : Int)) + 1)) ≤ (l1.length : Int) then ((some (l1.drop ((wrap64 ((Int.tmod (wrap64 (a2)) (l1.length : Int)) + 1)) : Int).toNat : List (S45))).bind fun y214 => (if y211.length + y214.length < 8796093022208 then ((punches_Pair.f l0 (y211 ++ y214)).bind fun bt221 => (if t201 = 0 then (if bt221.2.2 = 0 then (if (wrap64 (t200 - bt221.2.1)) > 120 then (wageofficelaw22_PunchesLost.j1 kj5 l0 l1 a3 t197 (Int.tmod (wrap64 (a2)) (l1.length : Int)) t200 true) else (wageofficelaw22_PunchesLost.j1 kj5 l0 l1 a3 t197 (Int.tmod (wrap64 (a2)) (l1.length : Int)) t200 (decide ((wrap64 (bt221.2.1 - t200)) > 120)))) else (wageofficelaw22_PunchesLost.j1 kj5 l0 l1 a3 t197 (Int.tmod (wrap64 (a2)) (l1.length : Int)) t200 true)) else (wageofficelaw22_PunchesLost.j1 kj5 l0 l1 a3 t197 (Int.tmod (wrap64 (a2)) (l1.length : Int)) t200 true))) else (none))) else (none)) else (none))) else (none))) else (none)) else (none)) = some r := by first | (rw [hy204]; with_reducible exact H) | (have H2_ := (Option.bind_some _ _).symm.trans H; rw [hy204]; with_reducible exact H2_) | (have H2_ := (Option.bind_some _ _).symm.trans H; with_reducible exact H2_) | with_reducible exact H | (rw [hy204]; exact H) | exact H
          have Ny204 := Aside0.mk hy204
          clear hy204
          obtain ⟨ji15, hji15⟩ : ∃ j_ : Int, (Int.tmod (wrap64 (a2)) (l1.length : Int)) = j_ := ⟨_, rfl⟩
          replace H : (if 0 ≤ (ji15) then (if (ji15) ≤ (l1.length : Int) then ((some (l1.take ((ji15) : Int).toNat : List (S45))).bind fun y207 => (if y204.length + y207.length < 8796093022208 then ((some (y204 ++ y207 : List (S45))).bind fun y211 => (if 0 ≤ (wrap64 ((ji15) + 1)) then (if (wrap64 ((ji15) + 1)) ≤ (l1.length : Int) then ((some (l1.drop ((wrap64 ((ji15) + 1)) : Int).toNat : List (S45))).bind fun y214 => (if y211.length + y214.length < 8796093022208 then ((punches_Pair.f l0 (y211 ++ y214)).bind fun bt221 => (if t201 = 0 then (if bt221.2.2 = 0 then (if (wrap64 (t200 - bt221.2.1)) > 120 then (wageofficelaw22_PunchesLost.j1 kj5 l0 l1 a3 t197 ji15 t200 true) else (wageofficelaw22_PunchesLost.j1 kj5 l0 l1 a3 t197 ji15 t200 (decide ((wrap64 (bt221.2.1 - t200)) > 120)))) else (wageofficelaw22_PunchesLost.j1 kj5 l0 l1 a3 t197 ji15 t200 true)) else (wageofficelaw22_PunchesLost.j1 kj5 l0 l1 a3 t197 ji15 t200 true))) else (none))) else (none)) else (none))) else (none))) else (none)) else (none)) = some r := by first | (rw [hji15] at H; exact H) | (simp only [hji15] at H ⊢; exact H)
          (try rw [hji15] at A14)
          by_cases c16 : 0 ≤ (ji15)
          · rw [if_pos c16] at H
            have c16b0 := eq_true c16
            have c16b1 : decide (0 ≤ (ji15)) = true := decide_eq_true c16
            clear c16
            by_cases c17 : (ji15) ≤ (l1.length : Int)
            · rw [if_pos c17] at H
              have c17b0 := eq_true c17
              have c17b1 : decide ((ji15) ≤ (l1.length : Int)) = true := decide_eq_true c17
              clear c17
              obtain ⟨y207, hy207⟩ : ∃ y_ : List (S45), y_ = (l1.take ((ji15) : Int).toNat) := ⟨_, rfl⟩
              replace H : (if y204.length + y207.length < 8796093022208 then ((some (y204 ++ y207 : List (S45))).bind fun y211 => (if 0 ≤ (wrap64 ((ji15) + 1)) then (if (wrap64 ((ji15) + 1)) ≤ (l1.length : Int) then ((some (l1.drop ((wrap64 ((ji15) + 1)) : Int).toNat : List (S45))).bind fun y214 => (if y211.length + y214.length < 8796093022208 then ((punches_Pair.f l0 (y211 ++ y214)).bind fun bt221 => (if t201 = 0 then (if bt221.2.2 = 0 then (if (wrap64 (t200 - bt221.2.1)) > 120 then (wageofficelaw22_PunchesLost.j1 kj5 l0 l1 a3 t197 ji15 t200 true) else (wageofficelaw22_PunchesLost.j1 kj5 l0 l1 a3 t197 ji15 t200 (decide ((wrap64 (bt221.2.1 - t200)) > 120)))) else (wageofficelaw22_PunchesLost.j1 kj5 l0 l1 a3 t197 ji15 t200 true)) else (wageofficelaw22_PunchesLost.j1 kj5 l0 l1 a3 t197 ji15 t200 true))) else (none))) else (none)) else (none))) else (none)) = some r := by first | (rw [hy207]; with_reducible exact H) | (have H2_ := (Option.bind_some _ _).symm.trans H; rw [hy207]; with_reducible exact H2_) | (have H2_ := (Option.bind_some _ _).symm.trans H; with_reducible exact H2_) | with_reducible exact H | (rw [hy207]; exact H) | exact H
              have Ny207 := Aside0.mk hy207
              clear hy207
              by_cases c18 : y204.length + y207.length < 8796093022208
              · rw [if_pos c18] at H
                have LMc18 := Aside0.mk c18
                clear c18
                obtain ⟨y211, hy211⟩ : ∃ y_ : List (S45), y_ = (y204 ++ y207) := ⟨_, rfl⟩
                replace H : (if 0 ≤ (wrap64 ((ji15) + 1)) then (if (wrap64 ((ji15) + 1)) ≤ (l1.length : Int) then ((some (l1.drop ((wrap64 ((ji15) + 1)) : Int).toNat : List (S45))).bind fun y214 => (if y211.length + y214.length < 8796093022208 then ((punches_Pair.f l0 (y211 ++ y214)).bind fun bt221 => (if t201 = 0 then (if bt221.2.2 = 0 then (if (wrap64 (t200 - bt221.2.1)) > 120 then (wageofficelaw22_PunchesLost.j1 kj5 l0 l1 a3 t197 ji15 t200 true) else (wageofficelaw22_PunchesLost.j1 kj5 l0 l1 a3 t197 ji15 t200 (decide ((wrap64 (bt221.2.1 - t200)) > 120)))) else (wageofficelaw22_PunchesLost.j1 kj5 l0 l1 a3 t197 ji15 t200 true)) else (wageofficelaw22_PunchesLost.j1 kj5 l0 l1 a3 t197 ji15 t200 true))) else (none))) else (none)) else (none)) = some r := by first | (rw [hy211]; with_reducible exact H) | (have H2_ := (Option.bind_some _ _).symm.trans H; rw [hy211]; with_reducible exact H2_) | (have H2_ := (Option.bind_some _ _).symm.trans H; with_reducible exact H2_) | with_reducible exact H | (rw [hy211]; exact H) | exact H
                have Ny211 := Aside0.mk hy211
                clear hy211
                obtain ⟨ji19, hji19⟩ : ∃ j_ : Int, (wrap64 ((ji15) + 1)) = j_ := ⟨_, rfl⟩
                replace H : (if 0 ≤ (ji19) then (if (ji19) ≤ (l1.length : Int) then ((some (l1.drop ((ji19) : Int).toNat : List (S45))).bind fun y214 => (if y211.length + y214.length < 8796093022208 then ((punches_Pair.f l0 (y211 ++ y214)).bind fun bt221 => (if t201 = 0 then (if bt221.2.2 = 0 then (if (wrap64 (t200 - bt221.2.1)) > 120 then (wageofficelaw22_PunchesLost.j1 kj5 l0 l1 a3 t197 ji15 t200 true) else (wageofficelaw22_PunchesLost.j1 kj5 l0 l1 a3 t197 ji15 t200 (decide ((wrap64 (bt221.2.1 - t200)) > 120)))) else (wageofficelaw22_PunchesLost.j1 kj5 l0 l1 a3 t197 ji15 t200 true)) else (wageofficelaw22_PunchesLost.j1 kj5 l0 l1 a3 t197 ji15 t200 true))) else (none))) else (none)) else (none)) = some r := by first | (rw [hji19] at H; exact H) | (simp only [hji19] at H ⊢; exact H)
                (try rw [hji19] at A14)
                have hji19w : (IntKind.i64.wrap ((ji15) + 1)) = ji19 := (i64_w _).trans hji19
                by_cases c20 : 0 ≤ (ji19)
                · rw [if_pos c20] at H
                  have c20b0 := eq_true c20
                  have c20b1 : decide (0 ≤ (ji19)) = true := decide_eq_true c20
                  clear c20
                  by_cases c21 : (ji19) ≤ (l1.length : Int)
                  · rw [if_pos c21] at H
                    have c21b0 := eq_true c21
                    have c21b1 : decide ((ji19) ≤ (l1.length : Int)) = true := decide_eq_true c21
                    clear c21
                    obtain ⟨y214, hy214⟩ : ∃ y_ : List (S45), y_ = (l1.drop ((ji19) : Int).toNat) := ⟨_, rfl⟩
                    replace H : (if y211.length + y214.length < 8796093022208 then ((punches_Pair.f l0 (y211 ++ y214)).bind fun bt221 => (if t201 = 0 then (if bt221.2.2 = 0 then (if (wrap64 (t200 - bt221.2.1)) > 120 then (wageofficelaw22_PunchesLost.j1 kj5 l0 l1 a3 t197 ji15 t200 true) else (wageofficelaw22_PunchesLost.j1 kj5 l0 l1 a3 t197 ji15 t200 (decide ((wrap64 (bt221.2.1 - t200)) > 120)))) else (wageofficelaw22_PunchesLost.j1 kj5 l0 l1 a3 t197 ji15 t200 true)) else (wageofficelaw22_PunchesLost.j1 kj5 l0 l1 a3 t197 ji15 t200 true))) else (none)) = some r := by first | (rw [hy214]; with_reducible exact H) | (have H2_ := (Option.bind_some _ _).symm.trans H; rw [hy214]; with_reducible exact H2_) | (have H2_ := (Option.bind_some _ _).symm.trans H; with_reducible exact H2_) | with_reducible exact H | (rw [hy214]; exact H) | exact H
                    have Ny214 := Aside0.mk hy214
                    clear hy214
                    by_cases c22 : y211.length + y214.length < 8796093022208
                    · rw [if_pos c22] at H
                      have LMc22 := Aside0.mk c22
                      clear c22
                      obtain ⟨y218, hy218⟩ : ∃ y_ : List (S45), y_ = (y211 ++ y214) := ⟨_, rfl⟩
                      replace H : ((punches_Pair.f l0 y218).bind fun bt221 => (if t201 = 0 then (if bt221.2.2 = 0 then (if (wrap64 (t200 - bt221.2.1)) > 120 then (wageofficelaw22_PunchesLost.j1 kj5 l0 l1 a3 t197 ji15 t200 true) else (wageofficelaw22_PunchesLost.j1 kj5 l0 l1 a3 t197 ji15 t200 (decide ((wrap64 (bt221.2.1 - t200)) > 120)))) else (wageofficelaw22_PunchesLost.j1 kj5 l0 l1 a3 t197 ji15 t200 true)) else (wageofficelaw22_PunchesLost.j1 kj5 l0 l1 a3 t197 ji15 t200 true))) = some r := by first | (rw [hy218]; with_reducible exact H) | (have H2_ := (Option.bind_some _ _).symm.trans H; rw [hy218]; with_reducible exact H2_) | (have H2_ := (Option.bind_some _ _).symm.trans H; with_reducible exact H2_) | with_reducible exact H | (rw [hy218]; exact H) | exact H
                      have Ny218 := Aside0.mk hy218
                      clear hy218
                      replace H := Option.bind_eq_some_iff.mp H
                      obtain ⟨⟨t221, t222, t223⟩, A230, H⟩ := H
                      replace H : (if t201 = 0 then (if t223 = 0 then (if (wrap64 (t200 - t222)) > 120 then (wageofficelaw22_PunchesLost.j1 kj5 l0 l1 a3 t197 ji15 t200 true) else (wageofficelaw22_PunchesLost.j1 kj5 l0 l1 a3 t197 ji15 t200 (decide ((wrap64 (t222 - t200)) > 120)))) else (wageofficelaw22_PunchesLost.j1 kj5 l0 l1 a3 t197 ji15 t200 true)) else (wageofficelaw22_PunchesLost.j1 kj5 l0 l1 a3 t197 ji15 t200 true)) = some r := H
                      have A23 := Aside0.mk A230
                      clear A230
                      have HC24 := Aside0.mk H
                      clear H
                      try go_wp2_with (first | ((with_reducible refine gate_callee (f := 13) rfl ?_); refine goesL_ (some 41) rfl rfl Try.func13 (by kernel_rfl) rfl #[.slice A0 l0.length c0, .slice A1 l1.length c1] rfl (by (try simp only [List.map_toArray, List.map_cons, List.map_nil]); first | done | rfl | (simp only [List.length_drop, List.length_take]; rfl)) ?_; (with_reducible refine (punches_Pair.calls _ _ l0 _ _ l1 t199 t200 t201 _ ?side1 ?side2 ?side3 ?side4 A14.out).mono ?_); (case side1 => repeat (first | exact (Kd.C_below HR0.out HB.out) | (with_reducible refine Kd.C_alloc ?_ _) | (with_reducible refine Kd.C_drewN ?_ _) | (with_reducible refine Kd.C_drew ?_))); (case side2 => exact HC0.out); (case side3 => repeat (first | exact (Kd.C_below HR1.out HB.out) | (with_reducible refine Kd.C_alloc ?_ _) | (with_reducible refine Kd.C_drewN ?_ _) | (with_reducible refine Kd.C_drew ?_))); (case side4 => exact HC1.out); rintro e w25 ⟨v202, rfl, ho0, hb⟩; refine ⟨_, rfl, ?_⟩; have n0_ := Aside0.mk (Kd.R_lower ho0 (below_size (by repeat (first | (with_reducible first | exact HB.out | apply below_alloc | apply pw_below_drewN | apply below_drew1) | exact HB.out)))); have n1_ := Aside0.mk (below_step (by repeat (first | (with_reducible first | exact HB.out | apply below_alloc | apply pw_below_drewN | apply below_drew1) | exact HB.out)) hb); clear HB; have HO203 := n0_; have HB := n1_; clear n0_ n1_; (try clear hb); (try clear hb2); (try clear hk); (try clear hi); (try clear ho0)))
                      have n0_ := Aside0.mk (Kd.R_drew HO203.out)
                      have n1_ := Aside0.mk (below_drew1 HB.out)
                      clear HO203
                      clear HB
                      have HO203 := n0_
                      have HB := n1_
                      clear n0_ n1_
                      have q27 : ((ji15) : Int) ≤ ((l1.length : Int) : Int) := of_decide_eq_true (by first | (with_reducible assumption) | assumption)
                      obtain ⟨i027, hi027, _, hsz27, _⟩ := info_parts info45
                      have hroom27 : l1.length ≤ c1 := HC1.out
                      have hC27 : Kd.C k45 _ A1 l1.length l1 := HR1.out
                      have hcut27 := cut_to (P := Try.prog) 23 45 .i64 Try.underlying23 hi027 A1 l1.length c1 (ji15) (of_decide_eq_true (by first | (with_reducible assumption) | assumption)) q27 hroom27
                      have hr27 := Kd.C_take (m := ((ji15) : Int).toNat) hC27 (by omega)
                      have hy27 : y207.length = ((ji15) : Int).toNat := (by rw [Ny207.out, List.length_take]; omega)
                      rw [← Ny207.out] at hr27
                      rw [← hy27] at hcut27
                      have HR210 := Aside0.mk hr27
                      have HC210 := Aside0.mk (show y207.length ≤ c1 from by omega)
                      clear hr27 hC27 hroom27 hi027 hsz27
                      have KY27 := Aside0.mk hy27
                      clear hy27
                      replace q27 := eq_true q27
                      have q28 : ((ji19) : Int) ≤ ((l1.length : Int) : Int) := of_decide_eq_true (by first | (with_reducible assumption) | assumption)
                      obtain ⟨i028, hi028, _, hsz28, _⟩ := info_parts info45
                      have hroom28 : l1.length ≤ c1 := HC1.out
                      have hC28 : Kd.C k45 _ A1 l1.length l1 := HR1.out
                      have q028 : (0 : Int) ≤ ((ji19) : Int) := of_decide_eq_true (by first | (with_reducible assumption) | assumption)
                      have hcut28 := cut_from (P := Try.prog) 23 45 .i64 Try.underlying23 hi028 2 hsz28 A1 l1.length c1 (ji19) q028 q28
                      have hr28 := Kd.C_drop (m := ((ji19) : Int).toNat) (c := c1) hC28 (by omega) hroom28
                      obtain ⟨A28, hA28⟩ : ∃ Ab_, Ab_ = (if c1 = ((ji19) : Int).toNat then A1 else (A1 : Option Addr).map (·.add (((ji19) : Int).toNat * 2))) := ⟨_, rfl⟩
                      obtain ⟨c28, hc28⟩ : ∃ cb_, cb_ = c1 - ((ji19) : Int).toNat := ⟨_, rfl⟩
                      have hy28 : y214.length = l1.length - ((ji19) : Int).toNat := (by rw [Ny214.out, List.length_drop] <;> omega)
                      rw [show (l1).drop ((ji19) : Int).toNat = y214 from Ny214.out.symm] at hr28
                      replace hr28 : Kd.C k45 _ A28 y214.length y214 := (by rw [hA28]; exact hr28)
                      rw [← hy28, ← hA28, ← hc28] at hcut28
                      have HR217 := Aside0.mk hr28
                      have HC217 := Aside0.mk (show y214.length ≤ c28 from by rw [hy28, hc28]; exact Nat.sub_le_sub_right hroom28 _)
                      clear hr28 hC28 hroom28 hi028 hsz28 hc28
                      have KY28 := Aside0.mk hy28
                      have KA28 := Aside0.mk hA28
                      clear hy28 hA28
                      replace q28 := eq_true q28
                      refine start_ (n := 19) (S := fun w' => True) (ds := []) #[false, false, false, false, false, false, false, false, false, false, false, false, false, false, false, false, false, false, false] (by kernel_rfl) rfl rfl trivial (fun hHeld => ?_); refine with_tabW wageofficelaw22_PunchesLost.tab6 wageofficelaw22_PunchesLost.bits6 (fun HT_ HW_ => ?_)
                      generalize w25.drew = w26 at HO203 HB HR210 HR217 hHeld ⊢
                      refine pure_ (i := 0) (N := some 46) (v := ?_) (a' := ?_) #[true, false, false, false, false, false, false, false, false, false, false, false, false, false, false, false, false, false, false] rfl rfl (any_of HT_.out (by kernel_rfl)) (fun _ _ _ h => h) (Or.inl ⟨by rfl, ?_⟩) ?_ ?_
                      rotate_left
                      · intro w'
                        go_simp
                        with_reducible rfl
                      rotate_left
                      · simp only [Act.put, List.setIfInBounds_toArray, List.set_cons_zero, List.set_cons_succ, i64_w, i32_w]
                        rfl
                      refine pure_ (i := 2) (N := some 48) (v := ?_) (a' := ?_) #[true, false, true, false, false, false, false, false, false, false, false, false, false, false, false, false, false, false, false] rfl rfl (any_of HT_.out (by kernel_rfl)) (fun _ _ _ h => h) (Or.inl ⟨by rfl, ?_⟩) ?_ ?_
                      rotate_left
                      · intro w'
                        go_simp
                        with_reducible rfl
                      rotate_left
                      · simp only [Act.put, List.setIfInBounds_toArray, List.set_cons_zero, List.set_cons_succ, i64_w, i32_w]
                        rfl
                      refine pure_ (i := 3) (N := some 49) (v := ?_) (a' := ?_) #[true, false, true, true, false, false, false, false, false, false, false, false, false, false, false, false, false, false, false] rfl rfl (any_of HT_.out (by kernel_rfl)) (fun _ _ _ h => h) (Or.inl ⟨by rfl, ?_⟩) ?_ ?_
                      rotate_left
                      · intro w'
                        go_simp
                        with_reducible rfl
                      rotate_left
                      · simp only [Act.put, List.setIfInBounds_toArray, List.set_cons_zero, List.set_cons_succ, i64_w, i32_w]
                        rfl
                      refine pure_ (i := 4) (N := some 50) (v := ?_) (a' := ?_) #[true, false, true, true, true, false, false, false, false, false, false, false, false, false, false, false, false, false, false] rfl rfl (any_of HT_.out (by kernel_rfl)) (fun _ _ _ h => h) (Or.inl ⟨by rfl, ?_⟩) ?_ ?_
                      rotate_left
                      · intro w'
                        go_simp
                        with_reducible rfl
                      rotate_left
                      · simp only [Act.put, List.setIfInBounds_toArray, List.set_cons_zero, List.set_cons_succ, i64_w, i32_w]
                        rfl
                      refine pure_ (i := 6) (N := some 52) (v := ?_) (a' := ?_) #[true, false, true, true, true, false, true, false, false, false, false, false, false, false, false, false, false, false, false] rfl rfl (any_of HT_.out (by kernel_rfl)) (fun _ _ _ h => h) (Or.inl ⟨by rfl, ?_⟩) ?_ ?_
                      rotate_left
                      · intro w'
                        go_simp
                        with_reducible rfl
                      rotate_left
                      · simp only [Act.put, List.setIfInBounds_toArray, List.set_cons_zero, List.set_cons_succ, i64_w, i32_w]
                        rfl
                      refine pure_ (i := 7) (N := some 53) (v := ?_) (a' := ?_) #[true, false, true, true, true, false, true, true, false, false, false, false, false, false, false, false, false, false, false] rfl rfl (any_of HT_.out (by kernel_rfl)) (fun _ _ _ h => h) (Or.inl ⟨by rfl, ?_⟩) ?_ ?_
                      rotate_left
                      · intro w'
                        go_simp
                        with_reducible rfl
                      rotate_left
                      · simp only [Act.put, List.setIfInBounds_toArray, List.set_cons_zero, List.set_cons_succ, i64_w, i32_w]
                        rfl
                      refine pure_ (i := 8) (N := some 54) (v := ?_) (a' := ?_) #[true, false, true, true, true, false, true, true, true, false, false, false, false, false, false, false, false, false, false] rfl rfl (any_of HT_.out (by kernel_rfl)) (fun _ _ _ h => h) (Or.inl ⟨by rfl, ?_⟩) ?_ ?_
                      rotate_left
                      · intro w'
                        go_simp
                        with_reducible rfl
                      rotate_left
                      · simp only [Act.put, List.setIfInBounds_toArray, List.set_cons_zero, List.set_cons_succ, i64_w, i32_w]
                        rfl
                      refine pure_ (i := 9) (N := some 55) (v := ?_) (a' := ?_) #[true, false, true, true, true, false, true, true, true, true, false, false, false, false, false, false, false, false, false] rfl rfl (any_of HT_.out (by kernel_rfl)) (fun _ _ _ h => h) (Or.inl ⟨by rfl, ?_⟩) ?_ ?_
                      rotate_left
                      · intro w'
                        go_simp
                        with_reducible rfl
                      rotate_left
                      · simp only [Act.put, List.setIfInBounds_toArray, List.set_cons_zero, List.set_cons_succ, i64_w, i32_w]
                        rfl
                      refine one_ (i := 1) (N := some 47) #[true, true, true, true, true, false, true, true, true, true, false, false, false, false, false, false, false, false, false] rfl rfl (one_of HT_.out (by kernel_rfl)) (by decide) (fun K hK => ?_)
                      refine Kd.R_lit_step k45 _ 45 ?hg (N := 47) ?hd (xs := ([] : List (S45))) (inner := []) (ok := fun _ => True) (okp := fun _ => True) ?hr ?hp (fun _ hk => hk) trivial (Below.refl _ _) (Nat.le_refl _) (by simp) ?_; (case hd => rfl); (case hg => rfl); (case hr => first | (go_simp; done) | (go_simp; rfl)); (case hp => exact (Reps.none _ _))
                      intro v205 w29 ho30 hb hg_ hnew_
                      clear hg_ hnew_
                      (first | rw [← Ny204.out] at ho30 | (simp only [Int.reduceToNat] at ho30; rw [← Ny204.out] at ho30))
                      have n0_ := Aside0.mk (Kd.R_below (by (with_reducible repeat (first | apply Kd.R_alloc | apply Kd.R_drewN | apply Kd.R_drew)); exact HO203.out) hb)
                      have n1_ := Aside0.mk (Kd.R_lower ho30 (below_size (by repeat (first | (with_reducible first | exact HB.out | apply below_alloc | apply pw_below_drewN | apply below_drew1) | exact HB.out))))
                      have n2_ := Aside0.mk (below_step (by repeat (first | (with_reducible first | exact HB.out | apply below_alloc | apply pw_below_drewN | apply below_drew1) | exact HB.out)) hb)
                      clear HO203
                      clear HB
                      have HO203 := n0_
                      have HO206 := n1_
                      have HB := n2_
                      clear n0_ n1_ n2_
                      clear hb ho30
                      refine hK.out _ _ trivial (fun hHeld => ?_)
                      clear hK K
                      refine norm_ (a' := ?_) ?_ ?_
                      rotate_left
                      · show Act.put _ (some 47) _ = _
                        simp only [Act.put, List.setIfInBounds_toArray, List.set_cons_zero, List.set_cons_succ, i64_w, i32_w]
                        rfl
                      refine one_ (i := 5) (N := some 51) #[true, true, true, true, true, true, true, true, true, true, false, false, false, false, false, false, false, false, false] rfl rfl (one_of HT_.out (by kernel_rfl)) (by decide) (fun K hK => ?_)
                      refine Kd.R_append_rows_step k45 (w0 := w) w.heap.size (by rfl) (.tmp 47) (.tmp 50) 23 45 (.agg #[(.int .i64 0), (.bool false)]) 16 rfl Try.underlying23 info45 rfl (by decide) (by omega) v205 y204 y207 _ _ _ (fun _ => True) (fun _ => False) rfl rfl ?aO ?aR (fun _ _ h => h) (fun _ h => h.elim) ?aF ?aB ?aS ?aL ?_
                      (case aR => repeat (first | exact (Kd.C_below HR210.out HB.out) | (with_reducible refine Kd.C_alloc ?_ _) | (with_reducible refine Kd.C_drewN ?_ _) | (with_reducible refine Kd.C_drew ?_)))
                      (case aB => exact (by repeat (first | (with_reducible first | exact HB.out | apply below_alloc | apply pw_below_drewN | apply below_drew1) | exact HB.out)))
                      (case aF => exact (fun _ _ => trivial))
                      (case aO => exact (by (with_reducible repeat (first | apply Kd.R_alloc | apply Kd.R_drewN | apply Kd.R_drew)); exact HO206.out))
                      (case aS => exact (below_size (by repeat (first | (with_reducible first | exact HB.out | apply below_alloc | apply pw_below_drewN | apply below_drew1) | exact HB.out))))
                      (case aL => have := LMc18.out; omega)
                      intro v212 w31 ho hb hg hat
                      rw [← Ny211.out] at ho
                      have n0_ := Aside0.mk (Kd.R_over' (by (with_reducible repeat (first | apply Kd.R_alloc | apply Kd.R_drewN | apply Kd.R_drew)); exact HO203.out) (Kd.R_typed (by (with_reducible repeat (first | apply Kd.R_alloc | apply Kd.R_drewN | apply Kd.R_drew)); exact HO206.out)) (by decide) hg)
                      have n1_ := Aside0.mk (hb)
                      have n2_ := Aside0.mk (ho)
                      clear HO203
                      clear HB
                      clear HO206
                      have HO203 := n0_
                      have HB := n1_
                      have HO213 := n2_
                      clear n0_ n1_ n2_
                      clear ho hb hg hat
                      refine hK.out _ _ trivial (fun hHeld => ?_)
                      clear hK K
                      refine norm_ (a' := ?_) ?_ ?_
                      rotate_left
                      · show Act.put _ (some 51) _ = _
                        simp only [Act.put, List.setIfInBounds_toArray, List.set_cons_zero, List.set_cons_succ, i64_w, i32_w]
                        rfl
                      refine one_ (i := 10) (N := some 56) #[true, true, true, true, true, true, true, true, true, true, true, false, false, false, false, false, false, false, false] rfl rfl (one_of HT_.out (by kernel_rfl)) (by decide) (fun K hK => ?_)
                      refine Kd.R_append_rows_step k45 (w0 := w) w.heap.size (by rfl) (.tmp 51) (.tmp 55) 23 45 (.agg #[(.int .i64 0), (.bool false)]) 16 rfl Try.underlying23 info45 rfl (by decide) (by omega) v212 y211 y214 _ _ _ (fun _ => True) (fun _ => False) rfl rfl ?aO ?aR (fun _ _ h => h) (fun _ h => h.elim) ?aF ?aB ?aS ?aL ?_
                      (case aR => repeat (first | exact (Kd.C_below HR217.out HB.out) | (with_reducible refine Kd.C_alloc ?_ _) | (with_reducible refine Kd.C_drewN ?_ _) | (with_reducible refine Kd.C_drew ?_)))
                      (case aB => exact (by repeat (first | (with_reducible first | exact HB.out | apply below_alloc | apply pw_below_drewN | apply below_drew1) | exact HB.out)))
                      (case aF => exact (fun _ _ => trivial))
                      (case aO => exact (by (with_reducible repeat (first | apply Kd.R_alloc | apply Kd.R_drewN | apply Kd.R_drew)); exact HO213.out))
                      (case aS => exact (below_size (by repeat (first | (with_reducible first | exact HB.out | apply below_alloc | apply pw_below_drewN | apply below_drew1) | exact HB.out))))
                      (case aL => have := LMc22.out; omega)
                      intro v219 w32 ho hb hg hat
                      rw [← Ny218.out] at ho
                      have n0_ := Aside0.mk (Kd.R_over' (by (with_reducible repeat (first | apply Kd.R_alloc | apply Kd.R_drewN | apply Kd.R_drew)); exact HO203.out) (Kd.R_typed (by (with_reducible repeat (first | apply Kd.R_alloc | apply Kd.R_drewN | apply Kd.R_drew)); exact HO213.out)) (by decide) hg)
                      have n1_ := Aside0.mk (hb)
                      have n2_ := Aside0.mk (ho)
                      clear HO203
                      clear HB
                      clear HO213
                      have HO203 := n0_
                      have HB := n1_
                      have HO220 := n2_
                      clear n0_ n1_ n2_
                      clear ho hb hg hat
                      obtain ⟨Ao33, co33, eo33⟩ := Kd.R_slice HO220.out
                      (first | subst eo33 | (injection eo33 with f1_ f2_ f3_; have f4_ := f1_.symm; have f5_ := f3_.symm; clear f1_ f2_ f3_; subst f4_; subst f5_))
                      refine hK.out _ _ trivial (fun hHeld => ?_)
                      clear hK K
                      refine norm_ (a' := ?_) ?_ ?_
                      rotate_left
                      · show Act.put _ (some 56) _ = _
                        simp only [Act.put, List.setIfInBounds_toArray, List.set_cons_zero, List.set_cons_succ, i64_w, i32_w]
                        rfl
                      refine one_ (i := 11) (N := some 57) #[true, true, true, true, true, true, true, true, true, true, true, true, false, false, false, false, false, false, false] rfl rfl (one_of HT_.out (by kernel_rfl)) (by decide) (fun K hK => ?_)
                      refine goes_ Try.func13 (by kernel_rfl) rfl #[.slice A0 l0.length c0, .slice Ao33 y218.length co33] (by rfl) rfl rfl (by (try simp only [List.map_toArray, List.map_cons, List.map_nil]); first | done | rfl | (simp only [List.length_drop, List.length_take]; rfl)) ?_
                      with_reducible refine (punches_Pair.calls _ _ l0 _ _ y218 t221 t222 t223 _ ?side1 ?side2 ?side3 ?side4 A23.out).mono ?_
                      (case side1 => repeat (first | exact (Kd.C_below HR0.out HB.out) | (with_reducible refine Kd.C_alloc ?_ _) | (with_reducible refine Kd.C_drewN ?_ _) | (with_reducible refine Kd.C_drew ?_)))
                      (case side2 => exact HC0.out)
                      (case side3 => repeat (first | exact (Kd.R_reads' HO220.out).2.2 | (with_reducible refine Kd.C_alloc ?_ _) | (with_reducible refine Kd.C_drewN ?_ _) | (with_reducible refine Kd.C_drew ?_)))
                      (case side4 => exact (Kd.R_reads' HO220.out).2.1)
                      rintro e w34 ⟨v224, rfl, ho0, hb⟩
                      refine ⟨_, rfl, ?_⟩
                      have n0_ := Aside0.mk (Kd.R_elder' (by (with_reducible repeat (first | apply Kd.R_alloc | apply Kd.R_drewN | apply Kd.R_drew)); exact HO203.out) (Kd.R_base ho0) hb)
                      have n1_ := Aside0.mk (Kd.R_below (by (with_reducible repeat (first | apply Kd.R_alloc | apply Kd.R_drewN | apply Kd.R_drew)); exact HO220.out) hb)
                      have n2_ := Aside0.mk (Kd.R_lower (Kd.R_new' ho0 (Kd.R_lt (by (with_reducible repeat (first | apply Kd.R_alloc | apply Kd.R_drewN | apply Kd.R_drew)); exact HO203.out))) (below_size (by repeat (first | (with_reducible first | exact HB.out | apply below_alloc | apply pw_below_drewN | apply below_drew1) | exact HB.out))))
                      have n3_ := Aside0.mk (below_step (by repeat (first | (with_reducible first | exact HB.out | apply below_alloc | apply pw_below_drewN | apply below_drew1) | exact HB.out)) hb)
                      clear HO203
                      clear HO220
                      clear HB
                      have HO203 := n0_
                      have HO220 := n1_
                      have HO225 := n2_
                      have HB := n3_
                      clear n0_ n1_ n2_ n3_
                      (try clear hb)
                      (try clear hb2)
                      (try clear hk)
                      (try clear hi)
                      (try clear ho0)
                      refine hK.out _ _ trivial (fun hHeld => ?_)
                      clear hK K
                      refine norm_ (a' := ?_) ?_ ?_
                      rotate_left
                      · show Act.put _ (some 57) _ = _
                        simp only [Act.put, List.setIfInBounds_toArray, List.set_cons_zero, List.set_cons_succ, i64_w, i32_w]
                        rfl
                      refine pure_ (i := 12) (N := some 45) (v := ?_) (a' := ?_) #[true, true, true, true, true, true, true, true, true, true, true, true, true, false, false, false, false, false, false] rfl rfl (any_of HT_.out (by kernel_rfl)) (fun _ _ _ h => h) (Or.inl ⟨by rfl, ?_⟩) ?_ ?_
                      rotate_left
                      · intro w'
                        go_simp
                        with_reducible rfl
                      rotate_left
                      · simp only [Act.put, List.setIfInBounds_toArray, List.set_cons_zero, List.set_cons_succ, i64_w, i32_w]
                        rfl
                      refine pure_ (i := 13) (N := some 58) (v := ?_) (a' := ?_) #[true, true, true, true, true, true, true, true, true, true, true, true, true, true, false, false, false, false, false] rfl rfl (any_of HT_.out (by kernel_rfl)) (fun _ _ _ h => h) (Or.inl ⟨by rfl, ?_⟩) ?_ ?_
                      rotate_left
                      · intro w'
                        go_simp
                        with_reducible rfl
                      rotate_left
                      · simp only [Act.put, List.setIfInBounds_toArray, List.set_cons_zero, List.set_cons_succ, i64_w, i32_w]
                        rfl
                      refine pure_ (i := 14) (N := some 59) (v := ?_) (a' := ?_) #[true, true, true, true, true, true, true, true, true, true, true, true, true, true, true, false, false, false, false] rfl rfl (any_of HT_.out (by kernel_rfl)) (fun _ _ _ h => h) (Or.inl ⟨by rfl, ?_⟩) ?_ ?_
                      rotate_left
                      · intro w'
                        go_simp
                        with_reducible rfl
                      rotate_left
                      · simp only [Act.put, List.setIfInBounds_toArray, List.set_cons_zero, List.set_cons_succ, i64_w, i32_w]
                        rfl
                      refine pure_ (i := 15) (N := some 60) (v := ?_) (a' := ?_) #[true, true, true, true, true, true, true, true, true, true, true, true, true, true, true, true, false, false, false] rfl rfl (any_of HT_.out (by kernel_rfl)) (fun _ _ _ h => h) (Or.inl ⟨by rfl, ?_⟩) ?_ ?_
                      rotate_left
                      · intro w'
                        go_simp
                        with_reducible rfl
                      rotate_left
                      · simp only [Act.put, List.setIfInBounds_toArray, List.set_cons_zero, List.set_cons_succ, i64_w, i32_w]
                        rfl
                      refine pure_ (i := 16) (N := some 14) (v := ?_) (a' := ?_) #[true, true, true, true, true, true, true, true, true, true, true, true, true, true, true, true, true, false, false] rfl rfl (any_of HT_.out (by kernel_rfl)) (fun _ _ _ h => h) (Or.inl ⟨by rfl, ?_⟩) ?_ ?_
                      rotate_left
                      · intro w'
                        go_simp
                        with_reducible rfl
                      rotate_left
                      · simp only [Act.put, List.setIfInBounds_toArray, List.set_cons_zero, List.set_cons_succ, i64_w, i32_w]
                        rfl
                      refine pure_ (i := 17) (N := some 15) (v := ?_) (a' := ?_) #[true, true, true, true, true, true, true, true, true, true, true, true, true, true, true, true, true, true, false] rfl rfl (any_of HT_.out (by kernel_rfl)) (fun _ _ _ h => h) (Or.inl ⟨by rfl, ?_⟩) ?_ ?_
                      rotate_left
                      · intro w'
                        go_simp
                        with_reducible rfl
                      rotate_left
                      · simp only [Act.put, List.setIfInBounds_toArray, List.set_cons_zero, List.set_cons_succ, i64_w, i32_w]
                        rfl
                      refine pure_ (i := 18) (N := some 16) (v := ?_) (a' := ?_) #[true, true, true, true, true, true, true, true, true, true, true, true, true, true, true, true, true, true, true] rfl rfl (any_of HT_.out (by kernel_rfl)) (fun _ _ _ h => h) (Or.inl ⟨by rfl, ?_⟩) ?_ ?_
                      rotate_left
                      · intro w'
                        go_simp
                        with_reducible rfl
                      rotate_left
                      · simp only [Act.put, List.setIfInBounds_toArray, List.set_cons_zero, List.set_cons_succ, i64_w, i32_w]
                        rfl
                      refine done_ (done_of HT_.out (by kernel_rfl)) ?_
                      go_upto_region 7 with (fail)
                      go_cut [78] (fun v78 wc => ∃ (kq : Nat) (x78_23 : Bool), v78 = .bool x78_23 ∧ Aside0 (wageofficelaw22_PunchesLost.j1 kq l0 l1 a3 t197 ji15 t200 x78_23 = some r) ∧ Aside0 (kq ≤ kj5) ∧ Aside0 (Below w.heap.size w wc))
                      case first =>
                        have H := HC24.out
                        clear HC24
                        by_cases c35 : t201 = 0
                        · rw [if_pos c35] at H
                          have c35b0 : (t201 == 0) = true := beq_iff_eq.mpr c35
                          have c35b1 : (t201 != 0) = false := bne_eq_false_iff_eq.mpr c35
                          clear c35
                          (first | rw [c35b0] | (simp only [i64_w, i32_w]; rw [c35b0]) | skip)
                          by_cases c36 : t223 = 0
                          · rw [if_pos c36] at H
                            have c36b0 : (t223 == 0) = true := beq_iff_eq.mpr c36
                            have c36b1 : (t223 != 0) = false := bne_eq_false_iff_eq.mpr c36
                            clear c36
                            by_cases c37 : (wrap64 (t200 - t222)) > 120
                            · rw [if_pos c37] at H
                              have c37b0 : decide (120 < (wrap64 (t200 - t222))) = true := decide_eq_true c37
                              clear c37
                              have H' := Aside0.mk H
                              clear H
                              go_wp2
                              go_meet
                              case rel => exact ⟨_, (true), (by first | rfl | (simp; done) | (simp [*]; done)), H', ⟨by have := HJ5.out; first | omega | exact Nat.le_refl _⟩, ⟨by repeat (first | (with_reducible first | exact HB.out | apply below_alloc | apply pw_below_drewN | apply below_drew1) | exact HB.out)⟩⟩
                            · rw [if_neg c37] at H
                              have c37b0 : decide (120 < (wrap64 (t200 - t222))) = false := decide_eq_false c37
                              clear c37
                              have H' := Aside0.mk H
                              clear H
                              go_wp2
                              go_meet
                              case rel => exact ⟨_, (decide ((wrap64 (t222 - t200)) > 120)), (by first | rfl | (simp; done) | (simp [*]; done)), H', ⟨by have := HJ5.out; first | omega | exact Nat.le_refl _⟩, ⟨by repeat (first | (with_reducible first | exact HB.out | apply below_alloc | apply pw_below_drewN | apply below_drew1) | exact HB.out)⟩⟩
                          · rw [if_neg c36] at H
                            have c36b0 : (t223 == 0) = false := beq_eq_false_iff_ne.mpr c36
                            have c36b1 : (t223 != 0) = true := bne_iff_ne.mpr c36
                            have H' := Aside0.mk H
                            clear H
                            go_wp2
                            go_meet
                            case rel => exact ⟨_, (true), (by first | rfl | (simp; done) | (simp [*]; done)), H', ⟨by have := HJ5.out; first | omega | exact Nat.le_refl _⟩, ⟨by repeat (first | (with_reducible first | exact HB.out | apply below_alloc | apply pw_below_drewN | apply below_drew1) | exact HB.out)⟩⟩
                        · rw [if_neg c35] at H
                          have c35b0 : (t201 == 0) = false := beq_eq_false_iff_ne.mpr c35
                          have c35b1 : (t201 != 0) = true := bne_iff_ne.mpr c35
                          (first | rw [c35b0] | (simp only [i64_w, i32_w]; rw [c35b0]) | skip)
                          have H' := Aside0.mk H
                          clear H
                          go_wp2
                          go_meet
                          case rel => exact ⟨_, (true), (by first | rfl | (simp; done) | (simp [*]; done)), H', ⟨by have := HJ5.out; first | omega | exact Nat.le_refl _⟩, ⟨by repeat (first | (with_reducible first | exact HB.out | apply below_alloc | apply pw_below_drewN | apply below_drew1) | exact HB.out)⟩⟩
                      case rest =>
                        clear HC24
                        try clear c1
                        try clear c2
                        try clear p2
                        try clear q2
                        try clear c3
                        try clear c6
                        try clear p6
                        try clear c9
                        try clear c11
                        try clear c12
                        try clear c13
                        try clear c13b0
                        try clear c13b1
                        try clear c13b2
                        try clear c16
                        try clear c16b0
                        try clear c16b1
                        try clear c17
                        try clear c17b0
                        try clear c17b1
                        try clear c18
                        try clear c19
                        try clear c20
                        try clear c20b0
                        try clear c20b1
                        try clear c21
                        try clear c21b0
                        try clear c21b1
                        try clear c22
                        try clear q27
                        try clear c28
                        try clear q28
                        try clear c35
                        try clear c35b0
                        try clear c35b1
                        try clear c36
                        try clear c36b0
                        try clear c36b1
                        try clear c37
                        try clear c37b0
                        try clear p2
                        try clear q028
                        try clear q27
                        try clear q28
                        obtain ⟨kq, x78_23, rfl, HA, HJ23, HB⟩ := hcut
                        cases kq with
                        | zero => exact absurd HA.out (by simp [wageofficelaw22_PunchesLost.j1])
                        | succ kj23 =>
                          have H := HA.out
                          clear HA
                          simp only [wageofficelaw22_PunchesLost.j1] at H
                          by_cases c38 : x78_23 = true
                          · subst c38
                            have H1 : (some false) = some r := by rw [if_pos rfl] at H; exact H
                            clear H
                            have H := H1
                            clear H1
                            exact absurd ((Option.some.inj H).trans PR.out) (by decide)
                          · replace c38 := Bool.eq_false_iff.mpr c38
                            subst c38
                            have H1 : ((some (([] : List (S45)) : List (S45))).bind fun y226 => (if y226.length + l1.length < 8796093022208 then ((some (y226 ++ l1 : List (S45))).bind fun y229 => (if 0 ≤ ji15 then (if ji15 < (y229.length : Int) then ((some (y229.set (ji15 : Int).toNat (⟨a3, (rd_T45 y229 ji15).f1⟩ : S45) : List (S45))).bind fun y232 => ((wageofficelaw22_usable.f kj23 l0 y232).bind fun t233 => (if t233 = true then ((punches_Pair.f l0 y232).bind fun bt234 => (if ji15 < (l1.length : Int) then (if t197 = true then (if bt234.2.2 = 0 then (if (wrap64 (bt234.2.1 - t200)) ≤ (mx (wrap64 (a3 - ((rd_T45 l1 ji15).f0))) (wrap64 (((rd_T45 l1 ji15).f0) - a3))) then (some (decide ((wrap64 (t200 - bt234.2.1)) ≤ (mx (wrap64 (a3 - ((rd_T45 l1 ji15).f0))) (wrap64 (((rd_T45 l1 ji15).f0) - a3)))))) else (some false)) else (some false)) else (some false)) else (none))) else (some t197)))) else (none)) else (none))) else (none))) = some r := by rw [if_neg (show ¬ (false = true) by decide)] at H; exact H
                            clear H
                            have H := H1
                            clear H1
                            obtain ⟨y226, hy226⟩ : ∃ y_ : List (S45), y_ = (([] : List (S45))) := ⟨_, rfl⟩
                            replace H : (if y226.length + l1.length < 8796093022208 then ((some (y226 ++ l1 : List (S45))).bind fun y229 => (if 0 ≤ ji15 then (if ji15 < (y229.length : Int) then ((some (y229.set (ji15 : Int).toNat (⟨a3, (rd_T45 y229 ji15).f1⟩ : S45) : List (S45))).bind fun y232 => ((wageofficelaw22_usable.f kj23 l0 y232).bind fun t233 => (if t233 = true then ((punches_Pair.f l0 y232).bind fun bt234 => (if ji15 < (l1.length : Int) then (if t197 = true then (if bt234.2.2 = 0 then (if (wrap64 (bt234.2.1 - t200)) ≤ (mx (wrap64 (a3 - ((rd_T45 l1 ji15).f0))) (wrap64 (((rd_T45 l1 ji15).f0) - a3))) then (some (decide ((wrap64 (t200 - bt234.2.1)) ≤ (mx (wrap64 (a3 - ((rd_T45 l1 ji15).f0))) (wrap64 (((rd_T45 l1 ji15).f0) - a3)))))) else (some false)) else (some false)) else (some false)) else (none))) else (some t197)))) else (none)) else (none))) else (none)) = some r := by first | (rw [hy226]; with_reducible exact H) | (have H2_ := (Option.bind_some _ _).symm.trans H; rw [hy226]; with_reducible exact H2_) | (have H2_ := (Option.bind_some _ _).symm.trans H; with_reducible exact H2_) | with_reducible exact H | (rw [hy226]; exact H) | exact H
                            have Ny226 := Aside0.mk hy226
                            clear hy226
                            by_cases c39 : y226.length + l1.length < 8796093022208
                            · rw [if_pos c39] at H
                              have LMc39 := Aside0.mk c39
                              clear c39
                              obtain ⟨y229, hy229⟩ : ∃ y_ : List (S45), y_ = (y226 ++ l1) := ⟨_, rfl⟩
                              replace H : (if 0 ≤ ji15 then (if ji15 < (y229.length : Int) then ((some (y229.set (ji15 : Int).toNat (⟨a3, (rd_T45 y229 ji15).f1⟩ : S45) : List (S45))).bind fun y232 => ((wageofficelaw22_usable.f kj23 l0 y232).bind fun t233 => (if t233 = true then ((punches_Pair.f l0 y232).bind fun bt234 => (if ji15 < (l1.length : Int) then (if t197 = true then (if bt234.2.2 = 0 then (if (wrap64 (bt234.2.1 - t200)) ≤ (mx (wrap64 (a3 - ((rd_T45 l1 ji15).f0))) (wrap64 (((rd_T45 l1 ji15).f0) - a3))) then (some (decide ((wrap64 (t200 - bt234.2.1)) ≤ (mx (wrap64 (a3 - ((rd_T45 l1 ji15).f0))) (wrap64 (((rd_T45 l1 ji15).f0) - a3)))))) else (some false)) else (some false)) else (some false)) else (none))) else (some t197)))) else (none)) else (none)) = some r := by first | (rw [hy229]; with_reducible exact H) | (have H2_ := (Option.bind_some _ _).symm.trans H; rw [hy229]; with_reducible exact H2_) | (have H2_ := (Option.bind_some _ _).symm.trans H; with_reducible exact H2_) | with_reducible exact H | (rw [hy229]; exact H) | exact H
                              have Ny229 := Aside0.mk hy229
                              clear hy229
                              by_cases c40 : 0 ≤ ji15
                              · rw [if_pos c40] at H
                                have c40b0 : decide (0 ≤ ji15) = true := decide_eq_true c40
                                clear c40
                                by_cases c41 : ji15 < (y229.length : Int)
                                · rw [if_pos c41] at H
                                  have c41b0 : decide (ji15 < (y229.length : Int)) = true := decide_eq_true c41
                                  clear c41
                                  obtain ⟨y232, hy232⟩ : ∃ y_ : List (S45), y_ = (y229.set (ji15 : Int).toNat (⟨a3, (rd_T45 y229 ji15).f1⟩ : S45)) := ⟨_, rfl⟩
                                  replace H : ((wageofficelaw22_usable.f kj23 l0 y232).bind fun t233 => (if t233 = true then ((punches_Pair.f l0 y232).bind fun bt234 => (if ji15 < (l1.length : Int) then (if t197 = true then (if bt234.2.2 = 0 then (if (wrap64 (bt234.2.1 - t200)) ≤ (mx (wrap64 (a3 - ((rd_T45 l1 ji15).f0))) (wrap64 (((rd_T45 l1 ji15).f0) - a3))) then (some (decide ((wrap64 (t200 - bt234.2.1)) ≤ (mx (wrap64 (a3 - ((rd_T45 l1 ji15).f0))) (wrap64 (((rd_T45 l1 ji15).f0) - a3)))))) else (some false)) else (some false)) else (some false)) else (none))) else (some t197))) = some r := by first | (rw [hy232]; with_reducible exact H) | (have H2_ := (Option.bind_some _ _).symm.trans H; rw [hy232]; with_reducible exact H2_) | (have H2_ := (Option.bind_some _ _).symm.trans H; with_reducible exact H2_) | with_reducible exact H | (rw [hy232]; exact H) | exact H
                                  have Ny232 := Aside0.mk hy232
                                  clear hy232
                                  replace H := Option.bind_eq_some_iff.mp H
                                  obtain ⟨t233, A430, H⟩ := H
                                  replace H : (if t233 = true then ((punches_Pair.f l0 y232).bind fun bt234 => (if ji15 < (l1.length : Int) then (if t197 = true then (if bt234.2.2 = 0 then (if (wrap64 (bt234.2.1 - t200)) ≤ (mx (wrap64 (a3 - ((rd_T45 l1 ji15).f0))) (wrap64 (((rd_T45 l1 ji15).f0) - a3))) then (some (decide ((wrap64 (t200 - bt234.2.1)) ≤ (mx (wrap64 (a3 - ((rd_T45 l1 ji15).f0))) (wrap64 (((rd_T45 l1 ji15).f0) - a3)))))) else (some false)) else (some false)) else (some false)) else (none))) else (some t197)) = some r := H
                                  have A43 := Aside0.mk A430
                                  clear A430
                                  by_cases c44 : t233 = true
                                  · subst c44
                                    have H1 : ((punches_Pair.f l0 y232).bind fun bt234 => (if ji15 < (l1.length : Int) then (if t197 = true then (if bt234.2.2 = 0 then (if (wrap64 (bt234.2.1 - t200)) ≤ (mx (wrap64 (a3 - ((rd_T45 l1 ji15).f0))) (wrap64 (((rd_T45 l1 ji15).f0) - a3))) then (some (decide ((wrap64 (t200 - bt234.2.1)) ≤ (mx (wrap64 (a3 - ((rd_T45 l1 ji15).f0))) (wrap64 (((rd_T45 l1 ji15).f0) - a3)))))) else (some false)) else (some false)) else (some false)) else (none))) = some r := by rw [if_pos rfl] at H; exact H
                                    clear H
                                    have H := H1
                                    clear H1
                                    replace H := Option.bind_eq_some_iff.mp H
                                    obtain ⟨⟨t234, t235, t236⟩, A450, H⟩ := H
                                    replace H : (if ji15 < (l1.length : Int) then (if t197 = true then (if t236 = 0 then (if (wrap64 (t235 - t200)) ≤ (mx (wrap64 (a3 - ((rd_T45 l1 ji15).f0))) (wrap64 (((rd_T45 l1 ji15).f0) - a3))) then (some (decide ((wrap64 (t200 - t235)) ≤ (mx (wrap64 (a3 - ((rd_T45 l1 ji15).f0))) (wrap64 (((rd_T45 l1 ji15).f0) - a3)))))) else (some false)) else (some false)) else (some false)) else (none)) = some r := H
                                    have A45 := Aside0.mk A450
                                    clear A450
                                    by_cases c46 : ji15 < (l1.length : Int)
                                    · rw [if_pos c46] at H
                                      have c46b0 : decide (ji15 < (l1.length : Int)) = true := decide_eq_true c46
                                      clear c46
                                      obtain ⟨ji47, hji47⟩ : ∃ j_ : Int, (mx (wrap64 (a3 - ((rd_T45 l1 ji15).f0))) (wrap64 (((rd_T45 l1 ji15).f0) - a3))) = j_ := ⟨_, rfl⟩
                                      replace H : (if t197 = true then (if t236 = 0 then (if (wrap64 (t235 - t200)) ≤ (ji47) then (some (decide ((wrap64 (t200 - t235)) ≤ (ji47)))) else (some false)) else (some false)) else (some false)) = some r := by first | (rw [hji47] at H; exact H) | (simp only [hji47] at H ⊢; exact H)
                                      (try rw [hji47] at A43)
                                      (try rw [hji47] at A45)
                                      have hji47_ : (if (wrap64 (a3 - ((rd_T45 l1 ji15).f0))) < (wrap64 (((rd_T45 l1 ji15).f0) - a3)) then (wrap64 (((rd_T45 l1 ji15).f0) - a3)) else (wrap64 (a3 - ((rd_T45 l1 ji15).f0)))) = ji47 := hji47
                                      by_cases c48 : t197 = true
                                      · subst c48
                                        have H1 : (if t236 = 0 then (if (wrap64 (t235 - t200)) ≤ (ji47) then (some (decide ((wrap64 (t200 - t235)) ≤ (ji47)))) else (some false)) else (some false)) = some r := by rw [if_pos rfl] at H; exact H
                                        clear H
                                        have H := H1
                                        clear H1
                                        by_cases c49 : t236 = 0
                                        · rw [if_pos c49] at H
                                          have c49b0 : (t236 == 0) = true := beq_iff_eq.mpr c49
                                          have c49b1 : (t236 != 0) = false := bne_eq_false_iff_eq.mpr c49
                                          clear c49
                                          by_cases c50 : (wrap64 (t235 - t200)) ≤ (ji47)
                                          · rw [if_pos c50] at H
                                            have c50b0 : decide ((wrap64 (t235 - t200)) ≤ (ji47)) = true := decide_eq_true c50
                                            clear c50
                                            obtain rfl := Option.some.inj H
                                            try go_wp2_with (first | ((with_reducible refine gate_dst (N := 79) rfl ?_); (try (refine gate_guard (by rfl) ?_; dsimp only)); refine Kd.R_lit k45 _ 45 ?hg (N := 79) ?hd (xs := ([] : List (S45))) (inner := []) (ok := fun _ => True) (okp := fun _ => True) ?hr ?hp (fun _ hk => hk) trivial (Below.refl _ _) (Nat.le_refl _) (by simp) ?_; (case hd => rfl); (case hg => rfl); (case hr => first | (go_simp; done) | (go_simp; rfl)); (case hp => exact (Reps.none _ _)); intro v227 w51 ho52 hb hg_ hnew_; clear hg_ hnew_; (first | rw [← Ny226.out] at ho52 | (simp only [Int.reduceToNat] at ho52; rw [← Ny226.out] at ho52)); have n0_ := Aside0.mk (Kd.R_lower ho52 (below_size (by repeat (first | (with_reducible first | exact HB.out | apply below_alloc | apply pw_below_drewN | apply below_drew1) | exact HB.out)))); have n1_ := Aside0.mk (below_step (by repeat (first | (with_reducible first | exact HB.out | apply below_alloc | apply pw_below_drewN | apply below_drew1) | exact HB.out)) hb); clear HB; have HO228 := n0_; have HB := n1_; clear n0_ n1_; clear hb ho52) | ((with_reducible refine gate_builtin (b := .append) (xs := #[.tmp 79, .tmp 80]) rfl ?_); (try (refine gate_guard (by rfl) ?_; dsimp only)); at_builtin; refine Kd.R_append_rows k45 (w0 := w) w.heap.size rfl (.tmp 79) (.tmp 80) 23 45 (.agg #[(.int .i64 0), (.bool false)]) 16 rfl Try.underlying23 info45 rfl (by decide) (by omega) v227 y226 l1 _ _ _ (fun _ => True) (fun _ => False) rfl rfl ?aO ?aR (fun _ _ h => h) (fun _ h => h.elim) ?aF ?aB ?aS ?aL ?_; (case aR => repeat (first | exact (Kd.C_below HR1.out HB.out) | (with_reducible refine Kd.C_alloc ?_ _) | (with_reducible refine Kd.C_drewN ?_ _) | (with_reducible refine Kd.C_drew ?_))); (case aB => exact (by repeat (first | (with_reducible first | exact HB.out | apply below_alloc | apply pw_below_drewN | apply below_drew1) | exact HB.out))); (case aF => exact (fun _ _ => trivial)); (case aO => exact (by (with_reducible repeat (first | apply Kd.R_alloc | apply Kd.R_drewN | apply Kd.R_drew)); exact HO228.out)); (case aS => exact (below_size (by repeat (first | (with_reducible first | exact HB.out | apply below_alloc | apply pw_below_drewN | apply below_drew1) | exact HB.out)))); (case aL => have := LMc39.out; omega); intro v230 w53 ho hb hg hat; rw [← Ny229.out] at ho; have n0_ := Aside0.mk (hb); have n1_ := Aside0.mk (ho); clear HB; clear HO228; have HB := n0_; have HO231 := n1_; clear n0_ n1_; clear ho hb hg hat; have p42 : 0 ≤ (ji15 : Int) := of_decide_eq_true (by first | (with_reducible assumption) | assumption); have q42 : (ji15 : Int) < ((y229.length : Int) : Int) := of_decide_eq_true (by first | (with_reducible assumption) | assumption); obtain ⟨go42, co42, eo42, gb42, gl42, cl42, HG42⟩ := Kd.R_form HO231.out (by omega); (first | cases eo42 | (injection eo42 with ea_ en_ ec_; (first | subst ea_ | (injection ea_ with ea_; subst ea_)); subst ec_; clear en_)); have GB42 := Aside0.mk gb42; have GG42 := Aside0.mk HG42; clear gb42 gl42 HG42; obtain ⟨ce42, hcl42, hM42, hcc42, hfr42⟩ := Kd.R_elem HO231.out z45 (ji15 : Int) p42 q42; obtain rfl := k45_openM hM42; have hx42_0 : w53.cell? ⟨go42, (ji15 : Int).toNat * 2, none⟩ = some (.int .i64 ((rd_T45 y229 ji15).f0)) := hcc42 0 _ rfl; have hx42_1 : w53.cell? ⟨go42, (ji15 : Int).toNat * 2 + 1, none⟩ = some (.bool ((rd_T45 y229 ji15).f1)) := hcc42 1 _ rfl; have hf42_0 : w53.frozen? ⟨go42, (ji15 : Int).toNat * 2, none⟩ = false := hfr42 0; have hf42_1 : w53.frozen? ⟨go42, (ji15 : Int).toNat * 2 + 1, none⟩ = false := hfr42 1; clear hcl42 hcc42 hfr42 hM42; replace p42 := eq_true p42; replace q42 := eq_true q42; have HX54 := Aside0.mk (show Kd.R k45 45 w53 w.heap.size (fun _ => True) (.slice (some ⟨go42, 0, none⟩) y229.length co42) y229 from (by (with_reducible repeat (first | apply Kd.R_alloc | apply Kd.R_drewN | apply Kd.R_drew)); exact HO231.out)); obtain ⟨ce54, hcl54, hM54, hcc54, hfr54⟩ := Kd.R_elem HX54.out z45 (ji15 : Int) (of_decide_eq_true (by first | (with_reducible assumption) | assumption)) (by have h_ : (ji15 : Int) < ((y229.length : Int) : Int) := of_decide_eq_true (by first | (with_reducible assumption) | assumption); first | exact h_ | (have e_ := (Kd.R_reads' HO231.out).1; omega) | simpa using h_); obtain rfl := k45_openM hM54; have HP54 := Kd.R_seg HX54.out (ji15 : Int) (of_decide_eq_true (by first | (with_reducible assumption) | assumption)) (by have h_ : (ji15 : Int) < ((y229.length : Int) : Int) := of_decide_eq_true (by first | (with_reducible assumption) | assumption); first | exact h_ | (have e_ := (Kd.R_reads' HO231.out).1; omega) | simpa using h_) (seg := [.int .i64 a3]) (j := 0) hcl54 hcc54 (show 1 ≤ 2 from by decide) (x' := (⟨a3, (rd_T45 y229 ji15).f1⟩ : S45)) (k45_mkM _ _ _ (⟨a3, (rd_T45 y229 ji15).f1⟩ : S45) ) (fun _ hk => hk); have hx54_0 := hcc54 0 _ rfl; (try simp only [show (k45).sz = 2 from rfl, Nat.mul_one, Nat.add_zero] at hx54_0); have hf54_0 := hfr54 0; (try simp only [show (k45).sz = 2 from rfl, Nat.mul_one, Nat.add_zero] at hf54_0); clear hcl54 hcc54 hfr54 hM54) | ((with_reducible refine gate_store (t := 3) (p := 86) rfl ?_); refine store_event (t := 3) (p := 86) (v := ?vo_w55) (w1 := (w53.setCell ⟨go42, (ji15 : Int).toNat * 2, none⟩ (.int .i64 a3))) ?hg ?ho ?hn ?hr ?_; (case ho => rfl); (case hg => rfl); (case hn => rfl); (case hr => first | (go_simp; done) | (go_simp; rfl)); intro w55 hw; have hg : w53.grownBy w55 (some go42) := (by rw [hw]; exact HP54.2); have hp_ : Kd.R k45 45 w55 w.heap.size (fun _ => True) (.slice (some ⟨go42, 0, none⟩) y229.length co42) y232 := (by rw [hw, Ny232.out]; exact HP54.1); clear HP54; have n0_ := Aside0.mk (hp_); have n1_ := Aside0.mk ((by rw [hw]; exact below_set (HB.out) GB42.out : Below w.heap.size w w55)); clear HO231; clear HB; have HO231 := n0_; have HB := n1_; clear n0_ n1_; clear hg hw hp_) | ((with_reducible refine gate_callee (f := 19) rfl ?_); refine goesL_ (some 89) rfl rfl Try.func19 (by kernel_rfl) rfl #[.slice A0 l0.length c0, .slice (some ⟨go42, 0, none⟩) y232.length co42] rfl (by (try simp only [List.map_toArray, List.map_cons, List.map_nil]); first | done | (rw [show y232.length = y229.length from (Kd.R_reads' HO231.out).1.symm] <;> rfl) | rfl | (simp only [List.length_drop, List.length_take]; rfl)) ?_; (with_reducible refine (wageofficelaw22_usable.calls kj23 _ _ l0 _ _ y232 true _ ?side1 ?side2 ?side3 ?side4 A43.out).mono ?_); (case side1 => repeat (first | exact (Kd.C_below HR0.out HB.out) | (with_reducible refine Kd.C_alloc ?_ _) | (with_reducible refine Kd.C_drewN ?_ _) | (with_reducible refine Kd.C_drew ?_))); (case side2 => exact HC0.out); (case side3 => repeat (first | exact (Kd.R_reads' HO231.out).2.2 | (with_reducible refine Kd.C_alloc ?_ _) | (with_reducible refine Kd.C_drewN ?_ _) | (with_reducible refine Kd.C_drew ?_))); (case side4 => rw [show y232.length = y229.length from (Kd.R_reads' HO231.out).1.symm]; exact (Kd.R_reads' HO231.out).2.1); rintro e w56 ⟨rfl, hb⟩; refine ⟨_, rfl, ?_⟩; have n0_ := Aside0.mk (Kd.R_below (by (with_reducible repeat (first | apply Kd.R_alloc | apply Kd.R_drewN | apply Kd.R_drew)); exact HO231.out) hb); have n1_ := Aside0.mk (below_step (by repeat (first | (with_reducible first | exact HB.out | apply below_alloc | apply pw_below_drewN | apply below_drew1) | exact HB.out)) hb); clear HO231; clear HB; have HO231 := n0_; have HB := n1_; clear n0_ n1_; (try clear hb); (try clear hb2); (try clear hk); (try clear hi)) | ((with_reducible refine gate_callee (f := 13) rfl ?_); refine goesL_ (some 95) rfl rfl Try.func13 (by kernel_rfl) rfl #[.slice A0 l0.length c0, .slice (some ⟨go42, 0, none⟩) y232.length co42] rfl (by (try simp only [List.map_toArray, List.map_cons, List.map_nil]); first | done | (rw [show y232.length = y229.length from (Kd.R_reads' HO231.out).1.symm] <;> rfl) | rfl | (simp only [List.length_drop, List.length_take]; rfl)) ?_; (with_reducible refine (punches_Pair.calls _ _ l0 _ _ y232 t234 t235 t236 _ ?side1 ?side2 ?side3 ?side4 A45.out).mono ?_); (case side1 => repeat (first | exact (Kd.C_below HR0.out HB.out) | (with_reducible refine Kd.C_alloc ?_ _) | (with_reducible refine Kd.C_drewN ?_ _) | (with_reducible refine Kd.C_drew ?_))); (case side2 => exact HC0.out); (case side3 => repeat (first | exact (Kd.R_reads' HO231.out).2.2 | (with_reducible refine Kd.C_alloc ?_ _) | (with_reducible refine Kd.C_drewN ?_ _) | (with_reducible refine Kd.C_drew ?_))); (case side4 => rw [show y232.length = y229.length from (Kd.R_reads' HO231.out).1.symm]; exact (Kd.R_reads' HO231.out).2.1); rintro e w57 ⟨v237, rfl, ho0, hb⟩; refine ⟨_, rfl, ?_⟩; have n0_ := Aside0.mk (Kd.R_below (by (with_reducible repeat (first | apply Kd.R_alloc | apply Kd.R_drewN | apply Kd.R_drew)); exact HO231.out) hb); have n1_ := Aside0.mk (Kd.R_lower ho0 (below_size (by repeat (first | (with_reducible first | exact HB.out | apply below_alloc | apply pw_below_drewN | apply below_drew1) | exact HB.out)))); have n2_ := Aside0.mk (below_step (by repeat (first | (with_reducible first | exact HB.out | apply below_alloc | apply pw_below_drewN | apply below_drew1) | exact HB.out)) hb); clear HO231; clear HB; have HO231 := n0_; have HO238 := n1_; have HB := n2_; clear n0_ n1_ n2_; (try clear hb); (try clear hb2); (try clear hk); (try clear hi); (try clear ho0)))
                                            have n0_ := Aside0.mk (Kd.R_drew HO231.out)
                                            have n1_ := Aside0.mk (Kd.R_drew HO238.out)
                                            have n2_ := Aside0.mk (below_drew1 HB.out)
                                            clear HO231
                                            clear HO238
                                            clear HB
                                            have HO231 := n0_
                                            have HO238 := n1_
                                            have HB := n2_
                                            clear n0_ n1_ n2_
                                            have p239 : 0 ≤ (ji15 : Int) := of_decide_eq_true (by first | (with_reducible assumption) | assumption)
                                            have q239 : ji15 < (l1.length : Int) := of_decide_eq_true (by first | (with_reducible assumption) | assumption)
                                            obtain ⟨ad239, e239, hx239_0, hx239_1⟩ := at_T45 HR1.out ji15 p239 q239
                                            have hw239_1 := hx239_1
                                            have hw239_0 := hx239_0
                                            cases e239
                                            replace hx239_0 := (HB.out.cell (World.block_lt_of_cell? w _ hx239_0)).trans hx239_0
                                            replace hx239_1 := (HB.out.cell (World.block_lt_of_cell? w _ hx239_1)).trans hx239_1
                                            replace p239 := eq_true p239
                                            replace q239 := eq_true q239
                                            have p240 : 0 ≤ (ji15 : Int) := of_decide_eq_true (by first | (with_reducible assumption) | assumption)
                                            have q240 : ji15 < (l1.length : Int) := of_decide_eq_true (by first | (with_reducible assumption) | assumption)
                                            obtain ⟨ad240, e240, hx240_0, hx240_1⟩ := at_T45 HR1.out ji15 p240 q240
                                            have hw240_1 := hx240_1
                                            have hw240_0 := hx240_0
                                            obtain rfl : ad239 = ad240 := (by injection e240)
                                            replace hx240_0 := (HB.out.cell (World.block_lt_of_cell? w _ hx240_0)).trans hx240_0
                                            replace hx240_1 := (HB.out.cell (World.block_lt_of_cell? w _ hx240_1)).trans hx240_1
                                            replace p240 := eq_true p240
                                            replace q240 := eq_true q240
                                            refine start_ (n := 16) (S := fun w' => w'.cell? (ad239.add ((ji15).toNat * 2)) = some (.int .i64 ((rd_T45 l1 ji15).f0)) ∧ w'.cell? ⟨(ad239.add ((ji15).toNat * 2)).block, (ad239.add ((ji15).toNat * 2)).off + 1, none⟩ = some (.bool ((rd_T45 l1 ji15).f1)) ∧ w'.cell? (ad239.add ((ji15).toNat * 2)) = some (.int .i64 ((rd_T45 l1 ji15).f0)) ∧ w'.cell? ⟨(ad239.add ((ji15).toNat * 2)).block, (ad239.add ((ji15).toNat * 2)).off + 1, none⟩ = some (.bool ((rd_T45 l1 ji15).f1))) (ds := []) #[false, false, false, false, false, false, false, false, false, false, false, false, false, false, false, false] (by kernel_rfl) rfl rfl ⟨((HB.out.cell (World.block_lt_of_cell? w _ hw239_0)).trans hw239_0), ((HB.out.cell (World.block_lt_of_cell? w _ hw239_1)).trans hw239_1), ((HB.out.cell (World.block_lt_of_cell? w _ hw240_0)).trans hw240_0), ((HB.out.cell (World.block_lt_of_cell? w _ hw240_1)).trans hw240_1)⟩ (fun hHeld => ?_); refine with_tabW wageofficelaw22_PunchesLost.tab14 wageofficelaw22_PunchesLost.bits14 (fun HT_ HW_ => ?_)
                                            generalize w57.drew = w58 at HO231 HO238 HB hx239_0 hx239_1 hx240_0 hx240_1 hHeld ⊢
                                            refine pure_ (i := 0) (N := some 99) (v := ?_) (a' := ?_) #[true, false, false, false, false, false, false, false, false, false, false, false, false, false, false, false] rfl rfl (any_of HT_.out (by kernel_rfl)) (fun _ _ _ h => h) (Or.inl ⟨by rfl, ?_⟩) ?_ ?_
                                            rotate_left
                                            · intro w'
                                              go_simp
                                              with_reducible rfl
                                            rotate_left
                                            · simp only [Act.put, List.setIfInBounds_toArray, List.set_cons_zero, List.set_cons_succ, i64_w, i32_w]
                                              rfl
                                            refine pure_ (i := 1) (N := some 100) (v := ?_) (a' := ?_) #[true, true, false, false, false, false, false, false, false, false, false, false, false, false, false, false] rfl rfl (any_of HT_.out (by kernel_rfl)) (fun _ _ _ h => h) (Or.inl ⟨by rfl, ?_⟩) ?_ ?_
                                            rotate_left
                                            · intro w'
                                              go_simp
                                              with_reducible rfl
                                            rotate_left
                                            · simp only [Act.put, List.setIfInBounds_toArray, List.set_cons_zero, List.set_cons_succ, i64_w, i32_w]
                                              rfl
                                            refine pure_ (i := 2) (N := some 101) (v := ?_) (a' := ?_) #[true, true, true, false, false, false, false, false, false, false, false, false, false, false, false, false] rfl rfl (any_of HT_.out (by kernel_rfl)) (fun _ _ _ h => h) (Or.inl ⟨by rfl, ?_⟩) ?_ ?_
                                            rotate_left
                                            · intro w'
                                              go_simp
                                              with_reducible rfl
                                            rotate_left
                                            · simp only [Act.put, List.setIfInBounds_toArray, List.set_cons_zero, List.set_cons_succ, i64_w, i32_w]
                                              rfl
                                            refine pure_ (i := 3) (N := some 102) (v := ?_) (a' := ?_) #[true, true, true, true, false, false, false, false, false, false, false, false, false, false, false, false] rfl rfl (any_of HT_.out (by kernel_rfl)) (fun _ _ _ h => h) (Or.inl ⟨by rfl, ?_⟩) ?_ ?_
                                            rotate_left
                                            · intro w'
                                              go_simp
                                              with_reducible rfl
                                            rotate_left
                                            · simp only [Act.put, List.setIfInBounds_toArray, List.set_cons_zero, List.set_cons_succ, i64_w, i32_w]
                                              rfl
                                            refine pure_ (i := 4) (N := some 103) (v := ?_) (a' := ?_) #[true, true, true, true, true, false, false, false, false, false, false, false, false, false, false, false] rfl rfl (any_of HT_.out (by kernel_rfl)) (fun _ _ _ h => h) (Or.inl ⟨by rfl, ?_⟩) ?_ ?_
                                            rotate_left
                                            · intro w'
                                              go_simp
                                              with_reducible rfl
                                            rotate_left
                                            · simp only [Act.put, List.setIfInBounds_toArray, List.set_cons_zero, List.set_cons_succ, i64_w, i32_w]
                                              rfl
                                            refine pure_ (i := 7) (N := some 106) (v := ?_) (a' := ?_) #[true, true, true, true, true, false, false, true, false, false, false, false, false, false, false, false] rfl rfl (any_of HT_.out (by kernel_rfl)) (fun _ _ _ h => h) (Or.inl ⟨by rfl, ?_⟩) ?_ ?_
                                            rotate_left
                                            · intro w'
                                              go_simp
                                              with_reducible rfl
                                            rotate_left
                                            · simp only [Act.put, List.setIfInBounds_toArray, List.set_cons_zero, List.set_cons_succ, i64_w, i32_w]
                                              rfl
                                            refine pure_ (i := 8) (N := some 107) (v := ?_) (a' := ?_) #[true, true, true, true, true, false, false, true, true, false, false, false, false, false, false, false] rfl rfl (any_of HT_.out (by kernel_rfl)) (fun _ _ _ h => h) (Or.inl ⟨by rfl, ?_⟩) ?_ ?_
                                            rotate_left
                                            · intro w'
                                              go_simp
                                              with_reducible rfl
                                            rotate_left
                                            · simp only [Act.put, List.setIfInBounds_toArray, List.set_cons_zero, List.set_cons_succ, i64_w, i32_w]
                                              rfl
                                            refine pure_ (i := 9) (N := some 108) (v := ?_) (a' := ?_) #[true, true, true, true, true, false, false, true, true, true, false, false, false, false, false, false] rfl rfl (any_of HT_.out (by kernel_rfl)) (fun _ _ _ h => h) (Or.inl ⟨by rfl, ?_⟩) ?_ ?_
                                            rotate_left
                                            · intro w'
                                              go_simp
                                              with_reducible rfl
                                            rotate_left
                                            · simp only [Act.put, List.setIfInBounds_toArray, List.set_cons_zero, List.set_cons_succ, i64_w, i32_w]
                                              rfl
                                            refine pure_ (i := 10) (N := some 109) (v := ?_) (a' := ?_) #[true, true, true, true, true, false, false, true, true, true, true, false, false, false, false, false] rfl rfl (any_of HT_.out (by kernel_rfl)) (fun _ _ _ h => h) (Or.inl ⟨by rfl, ?_⟩) ?_ ?_
                                            rotate_left
                                            · intro w'
                                              go_simp
                                              with_reducible rfl
                                            rotate_left
                                            · simp only [Act.put, List.setIfInBounds_toArray, List.set_cons_zero, List.set_cons_succ, i64_w, i32_w]
                                              rfl
                                            refine pure_ (i := 12) (N := some 111) (v := ?_) (a' := ?_) #[true, true, true, true, true, false, false, true, true, true, true, false, true, false, false, false] rfl rfl (any_of HT_.out (by kernel_rfl)) (fun _ _ _ h => h) (Or.inl ⟨by rfl, ?_⟩) ?_ ?_
                                            rotate_left
                                            · intro w'
                                              go_simp
                                              with_reducible rfl
                                            rotate_left
                                            · simp only [Act.put, List.setIfInBounds_toArray, List.set_cons_zero, List.set_cons_succ, i64_w, i32_w]
                                              rfl
                                            refine take_ (i := 5) (N := some 104) (v := ?_) (a' := ?_) #[true, true, true, true, true, true, false, true, true, true, true, false, true, false, false, false] rfl rfl (take_ofW HT_.out HW_.out (by kernel_rfl)) (fun _ _ _ h => h) (Or.inl ⟨by rfl, ?_⟩) hHeld ?_ ?_
                                            rotate_left
                                            · rintro w' ⟨s0, s1, s2, s3⟩
                                              go_simp
                                              with_reducible rfl
                                            rotate_left
                                            · simp only [Act.put, List.setIfInBounds_toArray, List.set_cons_zero, List.set_cons_succ, i64_w, i32_w]
                                              rfl
                                            refine pure_ (i := 6) (N := some 105) (v := ?_) (a' := ?_) #[true, true, true, true, true, true, true, true, true, true, true, false, true, false, false, false] rfl rfl (any_of HT_.out (by kernel_rfl)) (fun _ _ _ h => h) (Or.inl ⟨by rfl, ?_⟩) ?_ ?_
                                            rotate_left
                                            · intro w'
                                              go_simp
                                              with_reducible rfl
                                            rotate_left
                                            · simp only [Act.put, List.setIfInBounds_toArray, List.set_cons_zero, List.set_cons_succ, i64_w, i32_w]
                                              rfl
                                            refine take_ (i := 11) (N := some 110) (v := ?_) (a' := ?_) #[true, true, true, true, true, true, true, true, true, true, true, true, true, false, false, false] rfl rfl (take_ofW HT_.out HW_.out (by kernel_rfl)) (fun _ _ _ h => h) (Or.inl ⟨by rfl, ?_⟩) hHeld ?_ ?_
                                            rotate_left
                                            · rintro w' ⟨s0, s1, s2, s3⟩
                                              go_simp
                                              with_reducible rfl
                                            rotate_left
                                            · simp only [Act.put, List.setIfInBounds_toArray, List.set_cons_zero, List.set_cons_succ, i64_w, i32_w]
                                              rfl
                                            refine pure_ (i := 13) (N := some 112) (v := ?_) (a' := ?_) #[true, true, true, true, true, true, true, true, true, true, true, true, true, true, false, false] rfl rfl (any_of HT_.out (by kernel_rfl)) (fun _ _ _ h => h) (Or.inl ⟨by rfl, ?_⟩) ?_ ?_
                                            rotate_left
                                            · intro w'
                                              go_simp
                                              with_reducible rfl
                                            rotate_left
                                            · simp only [Act.put, List.setIfInBounds_toArray, List.set_cons_zero, List.set_cons_succ, i64_w, i32_w]
                                              rfl
                                            refine pure_ (i := 14) (N := some 113) (v := ?_) (a' := ?_) #[true, true, true, true, true, true, true, true, true, true, true, true, true, true, true, false] rfl rfl (any_of HT_.out (by kernel_rfl)) (fun _ _ _ h => h) (Or.inl ⟨by rfl, ?_⟩) ?_ ?_
                                            rotate_left
                                            · intro w'
                                              go_simp
                                              with_reducible rfl
                                            rotate_left
                                            · simp only [Act.put, List.setIfInBounds_toArray, List.set_cons_zero, List.set_cons_succ, i64_w, i32_w]
                                              rfl
                                            refine pure_ (i := 15) (N := some 21) (v := ?_) (a' := ?_) #[true, true, true, true, true, true, true, true, true, true, true, true, true, true, true, true] rfl rfl (any_of HT_.out (by kernel_rfl)) (fun _ _ _ h => h) (Or.inl ⟨by rfl, ?_⟩) ?_ ?_
                                            rotate_left
                                            · intro w'
                                              go_simp
                                              with_reducible rfl
                                            rotate_left
                                            · simp only [Act.put, List.setIfInBounds_toArray, List.set_cons_zero, List.set_cons_succ, i64_w, i32_w]
                                              rfl
                                            refine done_ (done_of HT_.out (by kernel_rfl)) ?_
                                            try go_wp2
                                            go_ret
                                            exact ⟨by first | rfl | (simp [errW_none, errW_some] <;> rfl) | (simp only [← hji15, ← hji19, ← hji47]; first | rfl | (simp [errW_none, errW_some] <;> rfl)) | (simp [*, errW_none, errW_some] <;> rfl), by repeat (first | (with_reducible first | exact HB.out | apply below_alloc | apply pw_below_drewN | apply below_drew1) | exact HB.out)⟩
                                          · rw [if_neg c50] at H
                                            have c50b0 : decide ((wrap64 (t235 - t200)) ≤ (ji47)) = false := decide_eq_false c50
                                            clear c50
                                            exact absurd ((Option.some.inj H).trans PR.out) (by decide)
                                        · rw [if_neg c49] at H
                                          have c49b0 : (t236 == 0) = false := beq_eq_false_iff_ne.mpr c49
                                          have c49b1 : (t236 != 0) = true := bne_iff_ne.mpr c49
                                          exact absurd ((Option.some.inj H).trans PR.out) (by decide)
                                      · replace c48 := Bool.eq_false_iff.mpr c48
                                        subst c48
                                        have H1 : (some false) = some r := by rw [if_neg (show ¬ (false = true) by decide)] at H; exact H
                                        clear H
                                        have H := H1
                                        clear H1
                                        exact absurd ((Option.some.inj H).trans PR.out) (by decide)
                                    · rw [if_neg c46] at H
                                      exact absurd H (by simp)
                                  · replace c44 := Bool.eq_false_iff.mpr c44
                                    subst c44
                                    have H1 : (some t197) = some r := by rw [if_neg (show ¬ (false = true) by decide)] at H; exact H
                                    clear H
                                    have H := H1
                                    clear H1
                                    obtain rfl := Option.some.inj H
                                    go_wp2_with (first | ((with_reducible refine gate_dst (N := 79) rfl ?_); (try (refine gate_guard (by rfl) ?_; dsimp only)); refine Kd.R_lit k45 _ 45 ?hg (N := 79) ?hd (xs := ([] : List (S45))) (inner := []) (ok := fun _ => True) (okp := fun _ => True) ?hr ?hp (fun _ hk => hk) trivial (Below.refl _ _) (Nat.le_refl _) (by simp) ?_; (case hd => rfl); (case hg => rfl); (case hr => first | (go_simp; done) | (go_simp; rfl)); (case hp => exact (Reps.none _ _)); intro v227 w59 ho60 hb hg_ hnew_; clear hg_ hnew_; (first | rw [← Ny226.out] at ho60 | (simp only [Int.reduceToNat] at ho60; rw [← Ny226.out] at ho60)); have n0_ := Aside0.mk (Kd.R_lower ho60 (below_size (by repeat (first | (with_reducible first | exact HB.out | apply below_alloc | apply pw_below_drewN | apply below_drew1) | exact HB.out)))); have n1_ := Aside0.mk (below_step (by repeat (first | (with_reducible first | exact HB.out | apply below_alloc | apply pw_below_drewN | apply below_drew1) | exact HB.out)) hb); clear HB; have HO228 := n0_; have HB := n1_; clear n0_ n1_; clear hb ho60) | ((with_reducible refine gate_builtin (b := .append) (xs := #[.tmp 79, .tmp 80]) rfl ?_); (try (refine gate_guard (by rfl) ?_; dsimp only)); at_builtin; refine Kd.R_append_rows k45 (w0 := w) w.heap.size rfl (.tmp 79) (.tmp 80) 23 45 (.agg #[(.int .i64 0), (.bool false)]) 16 rfl Try.underlying23 info45 rfl (by decide) (by omega) v227 y226 l1 _ _ _ (fun _ => True) (fun _ => False) rfl rfl ?aO ?aR (fun _ _ h => h) (fun _ h => h.elim) ?aF ?aB ?aS ?aL ?_; (case aR => repeat (first | exact (Kd.C_below HR1.out HB.out) | (with_reducible refine Kd.C_alloc ?_ _) | (with_reducible refine Kd.C_drewN ?_ _) | (with_reducible refine Kd.C_drew ?_))); (case aB => exact (by repeat (first | (with_reducible first | exact HB.out | apply below_alloc | apply pw_below_drewN | apply below_drew1) | exact HB.out))); (case aF => exact (fun _ _ => trivial)); (case aO => exact (by (with_reducible repeat (first | apply Kd.R_alloc | apply Kd.R_drewN | apply Kd.R_drew)); exact HO228.out)); (case aS => exact (below_size (by repeat (first | (with_reducible first | exact HB.out | apply below_alloc | apply pw_below_drewN | apply below_drew1) | exact HB.out)))); (case aL => have := LMc39.out; omega); intro v230 w61 ho hb hg hat; rw [← Ny229.out] at ho; have n0_ := Aside0.mk (hb); have n1_ := Aside0.mk (ho); clear HB; clear HO228; have HB := n0_; have HO231 := n1_; clear n0_ n1_; clear ho hb hg hat; have p42 : 0 ≤ (ji15 : Int) := of_decide_eq_true (by first | (with_reducible assumption) | assumption); have q42 : (ji15 : Int) < ((y229.length : Int) : Int) := of_decide_eq_true (by first | (with_reducible assumption) | assumption); obtain ⟨go42, co42, eo42, gb42, gl42, cl42, HG42⟩ := Kd.R_form HO231.out (by omega); (first | cases eo42 | (injection eo42 with ea_ en_ ec_; (first | subst ea_ | (injection ea_ with ea_; subst ea_)); subst ec_; clear en_)); have GB42 := Aside0.mk gb42; have GG42 := Aside0.mk HG42; clear gb42 gl42 HG42; obtain ⟨ce42, hcl42, hM42, hcc42, hfr42⟩ := Kd.R_elem HO231.out z45 (ji15 : Int) p42 q42; obtain rfl := k45_openM hM42; have hx42_0 : w61.cell? ⟨go42, (ji15 : Int).toNat * 2, none⟩ = some (.int .i64 ((rd_T45 y229 ji15).f0)) := hcc42 0 _ rfl; have hx42_1 : w61.cell? ⟨go42, (ji15 : Int).toNat * 2 + 1, none⟩ = some (.bool ((rd_T45 y229 ji15).f1)) := hcc42 1 _ rfl; have hf42_0 : w61.frozen? ⟨go42, (ji15 : Int).toNat * 2, none⟩ = false := hfr42 0; have hf42_1 : w61.frozen? ⟨go42, (ji15 : Int).toNat * 2 + 1, none⟩ = false := hfr42 1; clear hcl42 hcc42 hfr42 hM42; replace p42 := eq_true p42; replace q42 := eq_true q42; have HX62 := Aside0.mk (show Kd.R k45 45 w61 w.heap.size (fun _ => True) (.slice (some ⟨go42, 0, none⟩) y229.length co42) y229 from (by (with_reducible repeat (first | apply Kd.R_alloc | apply Kd.R_drewN | apply Kd.R_drew)); exact HO231.out)); obtain ⟨ce62, hcl62, hM62, hcc62, hfr62⟩ := Kd.R_elem HX62.out z45 (ji15 : Int) (of_decide_eq_true (by first | (with_reducible assumption) | assumption)) (by have h_ : (ji15 : Int) < ((y229.length : Int) : Int) := of_decide_eq_true (by first | (with_reducible assumption) | assumption); first | exact h_ | (have e_ := (Kd.R_reads' HO231.out).1; omega) | simpa using h_); obtain rfl := k45_openM hM62; have HP62 := Kd.R_seg HX62.out (ji15 : Int) (of_decide_eq_true (by first | (with_reducible assumption) | assumption)) (by have h_ : (ji15 : Int) < ((y229.length : Int) : Int) := of_decide_eq_true (by first | (with_reducible assumption) | assumption); first | exact h_ | (have e_ := (Kd.R_reads' HO231.out).1; omega) | simpa using h_) (seg := [.int .i64 a3]) (j := 0) hcl62 hcc62 (show 1 ≤ 2 from by decide) (x' := (⟨a3, (rd_T45 y229 ji15).f1⟩ : S45)) (k45_mkM _ _ _ (⟨a3, (rd_T45 y229 ji15).f1⟩ : S45) ) (fun _ hk => hk); have hx62_0 := hcc62 0 _ rfl; (try simp only [show (k45).sz = 2 from rfl, Nat.mul_one, Nat.add_zero] at hx62_0); have hf62_0 := hfr62 0; (try simp only [show (k45).sz = 2 from rfl, Nat.mul_one, Nat.add_zero] at hf62_0); clear hcl62 hcc62 hfr62 hM62) | ((with_reducible refine gate_store (t := 3) (p := 86) rfl ?_); refine store_event (t := 3) (p := 86) (v := ?vo_w63) (w1 := (w61.setCell ⟨go42, (ji15 : Int).toNat * 2, none⟩ (.int .i64 a3))) ?hg ?ho ?hn ?hr ?_; (case ho => rfl); (case hg => rfl); (case hn => rfl); (case hr => first | (go_simp; done) | (go_simp; rfl)); intro w63 hw; have hg : w61.grownBy w63 (some go42) := (by rw [hw]; exact HP62.2); have hp_ : Kd.R k45 45 w63 w.heap.size (fun _ => True) (.slice (some ⟨go42, 0, none⟩) y229.length co42) y232 := (by rw [hw, Ny232.out]; exact HP62.1); clear HP62; have n0_ := Aside0.mk (hp_); have n1_ := Aside0.mk ((by rw [hw]; exact below_set (HB.out) GB42.out : Below w.heap.size w w63)); clear HO231; clear HB; have HO231 := n0_; have HB := n1_; clear n0_ n1_; clear hg hw hp_) | ((with_reducible refine gate_callee (f := 19) rfl ?_); refine goesL_ (some 89) rfl rfl Try.func19 (by kernel_rfl) rfl #[.slice A0 l0.length c0, .slice (some ⟨go42, 0, none⟩) y232.length co42] rfl (by (try simp only [List.map_toArray, List.map_cons, List.map_nil]); first | done | (rw [show y232.length = y229.length from (Kd.R_reads' HO231.out).1.symm] <;> rfl) | rfl | (simp only [List.length_drop, List.length_take]; rfl)) ?_; (with_reducible refine (wageofficelaw22_usable.calls kj23 _ _ l0 _ _ y232 false _ ?side1 ?side2 ?side3 ?side4 A43.out).mono ?_); (case side1 => repeat (first | exact (Kd.C_below HR0.out HB.out) | (with_reducible refine Kd.C_alloc ?_ _) | (with_reducible refine Kd.C_drewN ?_ _) | (with_reducible refine Kd.C_drew ?_))); (case side2 => exact HC0.out); (case side3 => repeat (first | exact (Kd.R_reads' HO231.out).2.2 | (with_reducible refine Kd.C_alloc ?_ _) | (with_reducible refine Kd.C_drewN ?_ _) | (with_reducible refine Kd.C_drew ?_))); (case side4 => rw [show y232.length = y229.length from (Kd.R_reads' HO231.out).1.symm]; exact (Kd.R_reads' HO231.out).2.1); rintro e w64 ⟨rfl, hb⟩; refine ⟨_, rfl, ?_⟩; have n0_ := Aside0.mk (Kd.R_below (by (with_reducible repeat (first | apply Kd.R_alloc | apply Kd.R_drewN | apply Kd.R_drew)); exact HO231.out) hb); have n1_ := Aside0.mk (below_step (by repeat (first | (with_reducible first | exact HB.out | apply below_alloc | apply pw_below_drewN | apply below_drew1) | exact HB.out)) hb); clear HO231; clear HB; have HO231 := n0_; have HB := n1_; clear n0_ n1_; (try clear hb); (try clear hb2); (try clear hk); (try clear hi)))
                                    go_ret
                                    exact ⟨by first | rfl | (simp [errW_none, errW_some] <;> rfl) | (simp only [← hji15, ← hji19]; first | rfl | (simp [errW_none, errW_some] <;> rfl)) | (simp [*, errW_none, errW_some] <;> rfl), by repeat (first | (with_reducible first | exact HB.out | apply below_alloc | apply pw_below_drewN | apply below_drew1) | exact HB.out)⟩
                                · rw [if_neg c41] at H
                                  exact absurd H (by simp)
                              · rw [if_neg c40] at H
                                exact absurd H (by simp)
                            · rw [if_neg c39] at H
                              exact absurd H (by simp)
                    · rw [if_neg c22] at H
                      exact absurd H (by simp)
                  · rw [if_neg c21] at H
                    exact absurd H (by simp)
                · rw [if_neg c20] at H
                  exact absurd H (by simp)
              · rw [if_neg c18] at H
                exact absurd H (by simp)
            · rw [if_neg c17] at H
              exact absurd H (by simp)
          · rw [if_neg c16] at H
            exact absurd H (by simp)

end Go.Proofs.Ytpbamfoaoeicgaa.PAll

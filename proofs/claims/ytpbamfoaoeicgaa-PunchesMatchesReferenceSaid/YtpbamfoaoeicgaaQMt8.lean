-- Printed by a program (the kit's print, with functions given by hand) out of the translation: machine-written for this claim.
import Derived.Test.YtpbamfoaoeicgaaQPAllx0
import Derived.Test.YtpbamfoaoeicgaaQPAllx8
namespace Go.Proofs.Ytpbamfoaoeicgaa.PAll
open Go.RowKit Go.Proofs.YtpbamfoaoeicgaaW.PrintWords Go.Proofs.YtpbamfoaoeicgaaW.PrintLast Go.Proofs.YtpbamfoaoeicgaaW.PrintMore
attribute [local go_sem] max2_int min2_int max_two min_two max_three min_three max_four min_four   -- for this text's walks alone
set_option linter.unusedVariables false
set_option linter.unusedSimpArgs false

theorem info30 : (Try.prog.info? 30).map (fun i => (i.zero, i.size, i.bytes)) = some (some (.slice none 0 0), 1, 24) := by kernel_rfl
/-! ### wageofficeref22_table: function 30 -/
mutual
def wageofficeref22_table.l0 : Nat → List (S43) → List (S45) → List (List Int) → Int → Option ((List (List Int)))
 | 0, _, _, _, _ => none
 | k + 1, x0, x1, x5, x6 => if x6 ≥ 0 then (if 0 ≤ (wrap64 ((x1.length : Int) + 1)) then (if (wrap64 ((x1.length : Int) + 1) : Int).toNat ≤ 35184372088832 then (if 0 ≤ x6 then (if x6 < (x5.length : Int) then (wageofficeref22_table.l1 k x0 x1 (x5.set (x6 : Int).toNat (List.replicate (wrap64 ((x1.length : Int) + 1) : Int).toNat 0)) x6 (x1.length : Int)) else (none)) else (none)) else (none)) else (none)) else (some x5)
def wageofficeref22_table.l1 : Nat → List (S43) → List (S45) → List (List Int) → Int → Int → Option ((List (List Int)))
 | 0, _, _, _, _, _ => none
 | k + 1, x0, x1, x5, x6, x7 => if x7 ≥ 0 then (if 0 ≤ x6 then (if x6 < (x5.length : Int) then (if 0 ≤ x7 then (if x7 < ((rd_L9 x5 x6).length : Int) then ((some (x5.set (x6 : Int).toNat ((rd_L9 x5 x6).set (x7 : Int).toNat (wrap64 (120 * (wrap64 ((wrap64 ((wrap64 ((x0.length : Int) - x6)) + (x1.length : Int))) - x7))))) : List (List Int))).bind fun y153 => (if x6 < (x0.length : Int) then (if x7 < (x1.length : Int) then ((wageofficeref22_Cost.f ((rd_T43 x0 x6).f0) ((rd_T43 x0 x6).f1) ((rd_T43 x0 x6).f2) ((rd_T45 x1 x7).f0) ((rd_T45 x1 x7).f1)).bind fun t157 => (if 0 ≤ (wrap64 (x6 + 1)) then (if (wrap64 (x6 + 1)) < (x5.length : Int) then (if 0 ≤ (wrap64 (x7 + 1)) then (if (wrap64 (x7 + 1)) < ((rd_L9 y153 (wrap64 (x6 + 1))).length : Int) then (if x7 < ((rd_L9 y153 (wrap64 (x6 + 1))).length : Int) then (if (wrap64 (x7 + 1)) < ((rd_L9 y153 x6).length : Int) then (if x7 < ((rd_L9 y153 x6).length : Int) then (wageofficeref22_table.l1 k x0 x1 (y153.set (x6 : Int).toNat ((rd_L9 y153 x6).set (x7 : Int).toNat (mn (mn (wrap64 (t157 + (rd (rd_L9 y153 (wrap64 (x6 + 1))) (wrap64 (x7 + 1))))) (wrap64 (120 + (rd (rd_L9 y153 (wrap64 (x6 + 1))) x7)))) (wrap64 (120 + (rd (rd_L9 y153 x6) (wrap64 (x7 + 1)))))))) x6 (wrap64 (x7 - 1))) else (none)) else (none)) else (none)) else (none)) else (none)) else (none)) else (none))) else (wageofficeref22_table.l1 k x0 x1 y153 x6 (wrap64 (x7 - 1)))) else (wageofficeref22_table.l1 k x0 x1 y153 x6 (wrap64 (x7 - 1))))) else (none)) else (none)) else (none)) else (none)) else (wageofficeref22_table.l0 k x0 x1 x5 (wrap64 (x6 - 1)))
end
def wageofficeref22_table.f (k : Nat) (l0 : List (S43)) (l1 : List (S45)) : Option ((List (List Int))) := if 0 ≤ (wrap64 ((l0.length : Int) + 1)) then (if (wrap64 ((l0.length : Int) + 1) : Int).toNat ≤ 11728124029610 then (wageofficeref22_table.l0 k l0 l1 (List.replicate (wrap64 ((l0.length : Int) + 1) : Int).toNat []) (l0.length : Int)) else (none)) else (none)
theorem wageofficeref22_table.mono_l : ∀ k, (∀ y0 y1 y2 y3, LeO (wageofficeref22_table.l0 k y0 y1 y2 y3) (wageofficeref22_table.l0 (k + 1) y0 y1 y2 y3)) ∧ (∀ y0 y1 y2 y3 y4, LeO (wageofficeref22_table.l1 k y0 y1 y2 y3 y4) (wageofficeref22_table.l1 (k + 1) y0 y1 y2 y3 y4))
 | 0 => ⟨fun _ _ _ _ r h => by simp [wageofficeref22_table.l0] at h, fun _ _ _ _ _ r h => by simp [wageofficeref22_table.l1] at h⟩
 | k + 1 => by
  obtain ⟨ih0, ih1⟩ := wageofficeref22_table.mono_l k
  refine ⟨?_, ?_⟩
  ·intro y0 y1 y2 y3
   unfold wageofficeref22_table.l0
   repeat' first
   | (with_reducible exact ih0 _ _ _ _)
   | (with_reducible exact ih1 _ _ _ _ _)
   | (with_reducible exact LeO.refl _)
   | (with_reducible exact LeO.none _)
   | (with_reducible refine LeO.ite ?_ ?_)
   | (with_reducible refine LeO.bind ?_ (fun _ => ?_))
   | exact ih0 _ _ _ _
   | exact ih1 _ _ _ _ _
   | exact LeO.none _
   | refine LeO.ite ?_ ?_
   | refine LeO.bind ?_ (fun _ => ?_)
  ·intro y0 y1 y2 y3 y4
   unfold wageofficeref22_table.l1
   repeat' first
   | (with_reducible exact ih0 _ _ _ _)
   | (with_reducible exact ih1 _ _ _ _ _)
   | (with_reducible exact LeO.refl _)
   | (with_reducible exact LeO.none _)
   | (with_reducible refine LeO.ite ?_ ?_)
   | (with_reducible refine LeO.bind ?_ (fun _ => ?_))
   | exact ih0 _ _ _ _
   | exact ih1 _ _ _ _ _
   | exact LeO.none _
   | refine LeO.ite ?_ ?_
   | refine LeO.bind ?_ (fun _ => ?_)
theorem wageofficeref22_table.mono : ∀ a0 a1 k, LeO (wageofficeref22_table.f k a0 a1) (wageofficeref22_table.f (k + 1) a0 a1) := by
 intro a0 a1 k
 obtain ⟨ih0, ih1⟩ := wageofficeref22_table.mono_l k
 unfold wageofficeref22_table.f
 repeat' first
   | (with_reducible exact ih0 _ _ _ _)
   | (with_reducible exact ih1 _ _ _ _ _)
   | (with_reducible exact LeO.refl _)
   | (with_reducible exact LeO.none _)
   | (with_reducible refine LeO.ite ?_ ?_)
   | (with_reducible refine LeO.bind ?_ (fun _ => ?_))
   | exact ih0 _ _ _ _
   | exact ih1 _ _ _ _ _
   | exact LeO.none _
   | refine LeO.ite ?_ ?_
   | refine LeO.bind ?_ (fun _ => ?_)
def wageofficeref22_table.T11 : Bool × List (List Nat × List Nat) := (true, [([], []), ([], []), ([0, 1], [0, 1]), ([2], [2]), ([], []), ([], []), ([], []), ([5, 6], [5, 6]), ([7], [7]), ([], []), ([], []), ([9, 10], [9, 10]), ([11], [11]), ([8, 12], [8, 12]), ([], []), ([], []), ([15], [15]), ([14, 16], [14, 16]), ([17], [17]), ([], []), ([19], [19]), ([18, 20], [18, 20]), ([21], [21]), ([13, 22], [13, 22]), ([], []), ([], []), ([25], [25]), ([24, 26], [24, 26]), ([27], [27]), ([], []), ([28, 29], [28, 29]), ([30], [30]), ([31], [31]), ([], []), ([], []), ([33, 34], [33, 34]), ([35], [35]), ([], []), ([37], [37]), ([36, 38], [36, 38]), ([39], [39]), ([40], [40]), ([23, 32, 41], [23, 32, 41]), ([3, 4, 0, 1, 2, 3, 4, 5, 6, 7, 8, 9, 10, 11, 12, 13, 14, 15, 16, 17, 18, 19, 20, 21, 22, 23, 24, 25, 26, 27, 28, 29, 30, 31, 32, 33, 34, 35, 36, 37, 38, 39, 40, 41, 42], [3, 4]), ([43, 42, 13, 0, 1, 2, 3, 4, 5, 6, 7, 8, 9, 10, 11, 12, 13, 14, 15, 16, 17, 18, 19, 20, 21, 22, 23, 24, 25, 26, 27, 28, 29, 30, 31, 32, 33, 34, 35, 36, 37, 38, 39, 40, 41, 42], [42, 43])])
def wageofficeref22_table.B11 : List Nat := [0, 0, 3, 7, 0, 0, 0, 96, 224, 0, 0, 1536, 3584, 8160, 0, 0, 32768, 114688, 245760, 0, 524288, 2080768, 4177920, 8388576, 0, 0, 33554432, 117440512, 251658240, 0, 1056964608, 2130706432, 4278190080, 0, 0, 25769803776, 60129542144, 0, 137438953472, 541165879296, 1090921693184, 2190433320960, 4398046511072, 8796093022207, 17592186044415]
theorem wageofficeref22_table.tab11 : rtab .any (opsOf Try.f30 11) = wageofficeref22_table.T11 := by kernel_rfl
theorem wageofficeref22_table.bits11 : waitsOk wageofficeref22_table.T11.2 wageofficeref22_table.B11 = true := by kernel_rfl
set_option maxHeartbeats 8000000 in
set_option maxRecDepth 100000 in
theorem wageofficeref22_table.calls (k : Nat) (A0 : Option Addr) (c0 : Nat) (l0 : List (S43)) (A1 : Option Addr) (c1 : Nat) (l1 : List (S45)) (r : List (List Int)) (w : World) (hr0 : Kd.C k43 w A0 l0.length l0) (hc0 : l0.length ≤ c0) (hr1 : Kd.C k45 w A1 l1.length l1) (hc1 : l1.length ≤ c1) (h : wageofficeref22_table.f k l0 l1 = some r) :
  Calls Try.prog 30 #[.slice A0 l0.length c0, .slice A1 l1.length c1] w fun e w' => ∃ v0_ : Value, e = .returned (v0_) ∧ Kd.S (Kd.slice 3 (Kd.int .i64)) 30 w' w.heap.size (fun _ => True) v0_ r ∧ Below w.heap.size w w' := by
 have hu43 := Try.underlying43
 have hu45 := Try.underlying45
 have HR0 := Aside0.mk hr0
 have HC0 := Aside0.mk hc0
 clear hr0 hc0
 have HR1 := Aside0.mk hr1
 have HC1 := Aside0.mk hc1
 clear hr1 hc1
 have HB := Aside0.mk (Below.refl w.heap.size w)
 have H : (if 0 ≤ (wrap64 ((l0.length : Int) + 1)) then (if (wrap64 ((l0.length : Int) + 1) : Int).toNat ≤ 11728124029610 then (wageofficeref22_table.l0 k l0 l1 (List.replicate (wrap64 ((l0.length : Int) + 1) : Int).toNat []) (l0.length : Int)) else (none)) else (none)) = some r := h
 clear h
 obtain ⟨ji3, hji3⟩ : ∃ j_ : Int, (wrap64 ((l0.length : Int) + 1)) = j_ := ⟨_, rfl⟩
 replace H : (if 0 ≤ (ji3) then (if (ji3 : Int).toNat ≤ 11728124029610 then (wageofficeref22_table.l0 k l0 l1 (List.replicate (ji3 : Int).toNat []) (l0.length : Int)) else (none)) else (none)) = some r := by first | (rw [hji3] at H; exact H) | (simp only [hji3] at H ⊢; exact H)
 have hji3w : (IntKind.i64.wrap ((l0.length : Int) + 1)) = ji3 := (i64_w _).trans hji3
 by_cases c4 : 0 ≤ (ji3)
 ·rw [if_pos c4] at H
  have c4b0 := eq_true c4
  have c4b1 : decide (0 ≤ (ji3)) = true := decide_eq_true c4
  clear c4
  by_cases c5 : (ji3 : Int).toNat ≤ 11728124029610
  ·rw [if_pos c5] at H
   have c5b0 := eq_true c5
   have c5b1 : decide ((ji3 : Int).toNat ≤ 11728124029610) = true := decide_eq_true c5
   clear c5
   obtain ⟨y143, hy143⟩ : ∃ y_ : List (List Int), y_ = (List.replicate (ji3 : Int).toNat []) := ⟨_, rfl⟩
   replace H : (wageofficeref22_table.l0 k l0 l1 y143 (l0.length : Int)) = some r := by first | (rw [hy143]; with_reducible exact H) | (have H2_ := (Option.bind_some _ _).symm.trans H; rw [hy143]; with_reducible exact H2_) | (have H2_ := (Option.bind_some _ _).symm.trans H; with_reducible exact H2_) | with_reducible exact H | (rw [hy143]; exact H) | exact H
   have Ny143 := Aside0.mk hy143
   clear hy143
   have H' := Aside0.mk H
   clear H
   go_enter Try.func30, Try.ntmps30
   go_wp2_with (first | ((with_reducible refine gate_dst (N := 11) rfl ?_); (try (refine gate_guard (by rfl) ?_; dsimp only)); refine Kd.S_make (Kd.slice 3 (Kd.int .i64)) _ 30 rfl (N := 11) rfl 69 _ _ rfl ji3 rfl rfl Try.underlying69 (.slice none 0 0) 24 info30 rfl (by decide) (by omega) [] (ok := fun _ => True) (okp := fun _ => True) ⟨_, rfl, Kd.R_nil _ _ _ _ _⟩ (fun _ hk => hk) trivial (of_decide_eq_true (by first | (with_reducible assumption) | assumption)) (Nat.le_trans (Nat.mul_le_mul_right _ (of_decide_eq_true (by first | (with_reducible assumption) | assumption) : ji3.toNat ≤ 11728124029610)) (by omega)) (Below.refl _ _) (Nat.le_refl _) ?_; intro v144 w6 ho7 hb hg_ hnew_; clear hg_ hnew_; (first | rw [← Ny143.out] at ho7 | (simp only [Int.reduceToNat] at ho7; rw [← Ny143.out] at ho7)); have n0_ := Aside0.mk (Kd.S_lower ho7 (below_size (by repeat (first | (with_reducible first | exact HB.out | apply below_alloc | apply pw_below_drewN | apply below_drew1) | exact HB.out)))); have n1_ := Aside0.mk (below_step (by repeat (first | (with_reducible first | exact HB.out | apply below_alloc | apply pw_below_drewN | apply below_drew1) | exact HB.out)) hb); clear HB; have HO145 := n0_; have HB := n1_; clear n0_ n1_; clear hb ho7))
   go_loopg [6] k (fun kq v6 w' => ∃ (x5_1 : List (List Int)) (x6_1 : Int), v6 = .int .i64 x6_1 ∧ Aside0 (wageofficeref22_table.l0 kq l0 l1 x5_1 x6_1 = some r) ∧ Aside0 (kq ≤ k) ∧ Aside0 (Kd.S (Kd.slice 3 (Kd.int .i64)) 30 w' w.heap.size (fun _ => True) v144 x5_1) ∧ Aside0 (Below w.heap.size w w'))
   case atStart => exact ⟨(y143), ((l0.length : Int)), (by first | rfl | (simp; done) | (simp [*]; done)), H', ⟨Nat.le_refl _⟩, ⟨by (with_reducible repeat (first | apply Kd.S_alloc | apply Kd.S_drewN | apply Kd.S_drew)); exact HO145.out⟩, ⟨by repeat (first | (with_reducible first | exact HB.out | apply below_alloc | apply pw_below_drewN | apply below_drew1) | exact HB.out)⟩⟩
   case round =>
    clear H'
    try clear c1
    try clear p2
    try clear c3
    try clear c4
    try clear c4b0
    try clear c4b1
    try clear c5
    try clear c5b0
    try clear c5b1
    try clear p6
    obtain ⟨x5_1, x6_1, rfl, HA, HK1, HO_5, HB⟩ := hrel
    cases gk with
    | zero => exact absurd HA.out (by simp [wageofficeref22_table.l0])
    | succ k1 =>
     have H := HA.out
     clear HA
     simp only [wageofficeref22_table.l0] at H
     by_cases c8 : x6_1 ≥ 0
     ·rw [if_pos c8] at H
      have c8b0 : decide (0 ≤ x6_1) = true := decide_eq_true c8
      clear c8
      obtain ⟨ji9, hji9⟩ : ∃ j_ : Int, (wrap64 ((l1.length : Int) + 1)) = j_ := ⟨_, rfl⟩
      replace H : (if 0 ≤ (ji9) then (if (ji9 : Int).toNat ≤ 35184372088832 then (if 0 ≤ x6_1 then (if x6_1 < (x5_1.length : Int) then (wageofficeref22_table.l1 k1 l0 l1 (x5_1.set (x6_1 : Int).toNat (List.replicate (ji9 : Int).toNat 0)) x6_1 (l1.length : Int)) else (none)) else (none)) else (none)) else (none)) = some r := by first | (rw [hji9] at H; exact H) | (simp only [hji9] at H ⊢; exact H)
      have hji9w : (IntKind.i64.wrap ((l1.length : Int) + 1)) = ji9 := (i64_w _).trans hji9
      by_cases c10 : 0 ≤ (ji9)
      ·rw [if_pos c10] at H
       have c10b0 := eq_true c10
       have c10b1 : decide (0 ≤ (ji9)) = true := decide_eq_true c10
       clear c10
       by_cases c11 : (ji9 : Int).toNat ≤ 35184372088832
       ·rw [if_pos c11] at H
        have c11b0 := eq_true c11
        have c11b1 : decide ((ji9 : Int).toNat ≤ 35184372088832) = true := decide_eq_true c11
        clear c11
        obtain ⟨y146, hy146⟩ : ∃ y_ : List Int, y_ = (List.replicate (ji9 : Int).toNat 0) := ⟨_, rfl⟩
        replace H : (if 0 ≤ x6_1 then (if x6_1 < (x5_1.length : Int) then (wageofficeref22_table.l1 k1 l0 l1 (x5_1.set (x6_1 : Int).toNat y146) x6_1 (l1.length : Int)) else (none)) else (none)) = some r := by first | (rw [hy146]; with_reducible exact H) | (have H2_ := (Option.bind_some _ _).symm.trans H; rw [hy146]; with_reducible exact H2_) | (have H2_ := (Option.bind_some _ _).symm.trans H; with_reducible exact H2_) | with_reducible exact H | (rw [hy146]; exact H) | exact H
        have Ny146 := Aside0.mk hy146
        clear hy146
        by_cases c12 : 0 ≤ x6_1
        ·rw [if_pos c12] at H
         have c12b0 : decide (0 ≤ x6_1) = true := decide_eq_true c12
         clear c12
         by_cases c13 : x6_1 < (x5_1.length : Int)
         ·rw [if_pos c13] at H
          have c13b0 : decide (x6_1 < (x5_1.length : Int)) = true := decide_eq_true c13
          clear c13
          obtain ⟨y149, hy149⟩ : ∃ y_ : List (List Int), y_ = (x5_1.set (x6_1 : Int).toNat y146) := ⟨_, rfl⟩
          replace H : (wageofficeref22_table.l1 k1 l0 l1 y149 x6_1 (l1.length : Int)) = some r := by first | (rw [hy149]; with_reducible exact H) | (have H2_ := (Option.bind_some _ _).symm.trans H; rw [hy149]; with_reducible exact H2_) | (have H2_ := (Option.bind_some _ _).symm.trans H; with_reducible exact H2_) | with_reducible exact H | (rw [hy149]; exact H) | exact H
          have Ny149 := Aside0.mk hy149
          clear hy149
          have H' := Aside0.mk H
          clear H
          go_wp2_with (first | ((with_reducible refine gate_dst (N := 23) rfl ?_); (try (refine gate_guard (by rfl) ?_; dsimp only)); refine Kd.R_make (Kd.int .i64) _ 3 rfl (N := 23) rfl 30 _ _ rfl ji9 rfl rfl Try.underlying30 (.int .i64 0) 8 info3 rfl (by decide) (by omega) 0 (ok := fun _ => True) (okp := fun _ => True) rfl (fun _ hk => hk) trivial (of_decide_eq_true (by first | (with_reducible assumption) | assumption)) (Nat.le_trans (Nat.mul_le_mul_right _ (of_decide_eq_true (by first | (with_reducible assumption) | assumption) : ji9.toNat ≤ 35184372088832)) (by omega)) (Below.refl _ _) (Nat.le_refl _) ?_; intro v147 w15 ho16 hb hg_ hnew_; clear hg_ hnew_; (first | rw [← Ny146.out] at ho16 | (simp only [Int.reduceToNat] at ho16; rw [← Ny146.out] at ho16)); have n0_ := Aside0.mk (Kd.S_elder' (by (with_reducible repeat (first | apply Kd.S_alloc | apply Kd.S_drewN | apply Kd.S_drew)); exact HO_5.out) (Kd.R_base ho16) hb); have n1_ := Aside0.mk (Kd.R_lower ho16 (below_size (by repeat (first | (with_reducible first | exact HB.out | apply below_alloc | apply pw_below_drewN | apply below_drew1) | exact HB.out)))); have n2_ := Aside0.mk (below_step (by repeat (first | (with_reducible first | exact HB.out | apply below_alloc | apply pw_below_drewN | apply below_drew1) | exact HB.out)) hb); clear HO_5; clear HB; have HO_5 := n0_; have HO148 := n1_; have HB := n2_; clear n0_ n1_ n2_; clear hb ho16; have p14 : 0 ≤ (x6_1 : Int) := of_decide_eq_true (by first | (with_reducible assumption) | assumption); have q14 : (x6_1 : Int) < ((x5_1.length : Int) : Int) := of_decide_eq_true (by first | (with_reducible assumption) | assumption); obtain ⟨go14, co14, eo14, gb14, gl14, cl14, HG14⟩ := Kd.S_form HO_5.out (by omega); (first | cases eo14 | (injection eo14 with ea_ en_ ec_; (first | subst ea_ | (injection ea_ with ea_; subst ea_)); subst ec_; clear en_)); have GB14 := Aside0.mk gb14; have GG14 := Aside0.mk HG14; clear gb14 gl14 HG14; obtain ⟨_, ce14, hcl14, hM14, hcc14, hfr14, _, _⟩ := Kd.S_elem HO_5.out [] (x6_1 : Int) p14 q14; obtain ⟨ve14_0, rfl, ge14_0⟩ := hM14; have hx14_0 := hcc14 0 _ rfl; have hf14_0 := hfr14 0; (try simp only [show ((Kd.slice 3 (Kd.int .i64))).sz = 1 from rfl, Nat.mul_one, Nat.add_zero] at hx14_0); (try simp only [show ((Kd.slice 3 (Kd.int .i64))).sz = 1 from rfl, Nat.mul_one, Nat.add_zero] at hf14_0); clear hcl14 hcc14 hfr14; (try clear hM14); replace p14 := eq_true p14; replace q14 := eq_true q14; have n_ := Aside0.mk (Kd.S_mono (ok' := (fun k_ => some k_ ≠ (v147 : Value).ownBlock)) HO_5.out (fun k_ hk => hk.2)); clear HO_5; have HO_5 := n_; clear n_; have HX17 := Aside0.mk (show Kd.S (Kd.slice 3 (Kd.int .i64)) 30 w15 w.heap.size (fun k_ => ((fun _ => True)) k_ ∧ ¬ ((fun k_ => some k_ = (v147 : Value).ownBlock)) k_) (.slice (some ⟨go14, 0, none⟩) x5_1.length co14) x5_1 from (by (with_reducible repeat (first | apply Kd.S_alloc | apply Kd.S_drewN | apply Kd.S_drew)); exact Kd.S_mono HO_5.out (fun k_ hk => ⟨trivial, fun e_ => hk e_⟩))); obtain ⟨oki17, ce17, hcl17, hM17, hcc17, hfr17, hoki17, hH17⟩ := Kd.S_elem HX17.out [] (x6_1 : Int) (of_decide_eq_true (by first | (with_reducible assumption) | assumption)) (by have h_ : (x6_1 : Int) < ((x5_1.length : Int) : Int) := of_decide_eq_true (by first | (with_reducible assumption) | assumption); first | exact h_ | (have e_ := (Kd.S_reads' HO_5.out).1; omega) | simpa using h_); obtain ⟨ve17_0, rfl, ge17_0⟩ := hM17; have HP17 := Kd.S_seg hH17 (of_decide_eq_true (by first | (with_reducible assumption) | assumption)) (by have h_ : (x6_1 : Int) < ((x5_1.length : Int) : Int) := of_decide_eq_true (by first | (with_reducible assumption) | assumption); first | exact h_ | (have e_ := (Kd.S_reads' HO_5.out).1; omega) | simpa using h_) (seg := [v147]) (j := 0) (show 1 ≤ 1 from by decide) (x' := y146) (Kd.M_row (Kd.R_mono (Kd.R_tight rfl (Kd.R_mono (ok' := fun k_ => ((fun _ => True)) k_ ∧ k_ ≠ go14) (Kd.R_apart' (HO148.out) (Kd.S_typed HO_5.out) (by decide)) (fun k_ hk => ⟨trivial, fun e_ => (hk.2) (by rw [e_]; rfl)⟩))) (fun _ h_ => Or.inr (h_)))) (fun _ hk => hk) (fun k_ hk_ => ((Kd.R_mono (ok' := fun k_ => ((fun _ => True)) k_ ∧ k_ ≠ go14) (Kd.R_apart' (HO148.out) (Kd.S_typed HO_5.out) (by decide)) (fun k_ hk => ⟨trivial, fun e_ => (hk.2) (by rw [e_]; rfl)⟩))).1 k_ hk_.symm); have hx17_0 := hcc17 0 _ rfl; (try simp only [show ((Kd.slice 3 (Kd.int .i64))).sz = 1 from rfl, Nat.mul_one, Nat.add_zero] at hx17_0); have hf17_0 := hfr17 0; (try simp only [show ((Kd.slice 3 (Kd.int .i64))).sz = 1 from rfl, Nat.mul_one, Nat.add_zero] at hf17_0); clear hcl17 hcc17 hfr17 hoki17 hH17; (try clear hM17); (try simp only [show ((Kd.slice 3 (Kd.int .i64))).sz = 1 from rfl, Nat.mul_one, Nat.add_zero] at HP17)) | ((with_reducible refine gate_store (t := 30) (p := 24) rfl ?_); refine store_event (t := 30) (p := 24) (v := ?vo_w18) (w1 := (w15.setCell ⟨go14, (x6_1 : Int).toNat, none⟩ (v147))) ?hg ?ho ?hn ?hr ?_; (case ho => rfl); (case hg => rfl); (case hn => rfl); (case hr => first | (go_simp; done) | (go_simp; rfl) | (obtain ⟨_, _, e_⟩ := Kd.R_slice HO148.out; subst e_; first | (go_simp; done) | (go_simp; rfl))); intro w18 hw; have hg : w15.grownBy w18 (some go14) := (by rw [hw]; exact HP17.2); have hp_ : Kd.S (Kd.slice 3 (Kd.int .i64)) 30 w18 w.heap.size (fun _ => True) (.slice (some ⟨go14, 0, none⟩) x5_1.length co14) y149 := (by rw [hw, Ny149.out]; exact HP17.1); clear HP17; have n0_ := Aside0.mk (hp_); have n1_ := Aside0.mk ((by rw [hw]; exact below_set (HB.out) GB14.out : Below w.heap.size w w18)); clear HO_5; clear HB; clear HO148; have HO_5 := n0_; have HB := n1_; clear n0_ n1_; clear hg hw hp_))
          go_loopg [7] k1 (fun kq v7 w' => ∃ (x5_2 : List (List Int)) (x7_2 : Int), v7 = .int .i64 x7_2 ∧ Aside0 (wageofficeref22_table.l1 kq l0 l1 x5_2 x6_1 x7_2 = some r) ∧ Aside0 (kq ≤ k1) ∧ Aside0 (Kd.S (Kd.slice 3 (Kd.int .i64)) 30 w' w.heap.size (fun _ => True) (.slice (some ⟨go14, 0, none⟩) x5_1.length co14) x5_2) ∧ Aside0 (Below w.heap.size w w'))
          case atStart => exact ⟨(y149), ((l1.length : Int)), (by first | rfl | (simp; done) | (simp [*]; done)), H', ⟨Nat.le_refl _⟩, ⟨by (with_reducible repeat (first | apply Kd.S_alloc | apply Kd.S_drewN | apply Kd.S_drew)); exact HO_5.out⟩, ⟨by repeat (first | (with_reducible first | exact HB.out | apply below_alloc | apply pw_below_drewN | apply below_drew1) | exact HB.out)⟩⟩
          case round =>
           clear H'
           try clear c1
           try clear p1
           try clear q1
           try clear hx1
           try clear p2
           try clear c3
           try clear c4
           try clear c4b0
           try clear c4b1
           try clear c5
           try clear c5b0
           try clear c5b1
           try clear p6
           try clear c8
           try clear c8b0
           try clear c10
           try clear c10b0
           try clear c10b1
           try clear c11
           try clear c11b0
           try clear c11b1
           try clear c12
           try clear c12b0
           try clear c13
           try clear c13b0
           try clear c14
           try clear p14
           try clear q14
           try clear hx14
           try clear hf14
           try clear c17
           try clear hx17
           try clear hf17
           try clear hx14_0
           try clear hx17_0
           try clear p14
           try clear p2
           try clear p6
           try clear q14
           obtain ⟨x5_2, x7_2, rfl, HA, HK2, HO_5, HB⟩ := hrel
           have hl5_2 := (Kd.S_reads' HO_5.out).1
           rw [hl5_2] at HO_5
           (try simp only [hl5_2])
           cases gk with
           | zero => exact absurd HA.out (by simp [wageofficeref22_table.l1])
           | succ k2 =>
            have H := HA.out
            clear HA
            simp only [wageofficeref22_table.l1] at H
            by_cases c19 : x7_2 ≥ 0
            ·rw [if_pos c19] at H
             have c19b0 : decide (0 ≤ x7_2) = true := decide_eq_true c19
             clear c19
             by_cases c20 : 0 ≤ x6_1
             ·rw [if_pos c20] at H
              have c20b0 : decide (0 ≤ x6_1) = true := decide_eq_true c20
              clear c20
              by_cases c21 : x6_1 < (x5_2.length : Int)
              ·rw [if_pos c21] at H
               have c21b0 : decide (x6_1 < (x5_2.length : Int)) = true := decide_eq_true c21
               clear c21
               by_cases c22 : 0 ≤ x7_2
               ·rw [if_pos c22] at H
                have c22b0 : decide (0 ≤ x7_2) = true := decide_eq_true c22
                clear c22
                by_cases c23 : x7_2 < ((rd_L9 x5_2 x6_1).length : Int)
                ·rw [if_pos c23] at H
                 have c23b0 : decide (x7_2 < ((rd_L9 x5_2 x6_1).length : Int)) = true := decide_eq_true c23
                 clear c23
                 obtain ⟨y151, hy151⟩ : ∃ y_ : List Int, y_ = ((rd_L9 x5_2 x6_1).set (x7_2 : Int).toNat (wrap64 (120 * (wrap64 ((wrap64 ((wrap64 ((l0.length : Int) - x6_1)) + (l1.length : Int))) - x7_2))))) := ⟨_, rfl⟩
                 replace H : ((some (x5_2.set (x6_1 : Int).toNat y151 : List (List Int))).bind fun y153 => (if x6_1 < (l0.length : Int) then (if x7_2 < (l1.length : Int) then ((wageofficeref22_Cost.f ((rd_T43 l0 x6_1).f0) ((rd_T43 l0 x6_1).f1) ((rd_T43 l0 x6_1).f2) ((rd_T45 l1 x7_2).f0) ((rd_T45 l1 x7_2).f1)).bind fun t157 => (if 0 ≤ (wrap64 (x6_1 + 1)) then (if (wrap64 (x6_1 + 1)) < (x5_2.length : Int) then (if 0 ≤ (wrap64 (x7_2 + 1)) then (if (wrap64 (x7_2 + 1)) < ((rd_L9 y153 (wrap64 (x6_1 + 1))).length : Int) then (if x7_2 < ((rd_L9 y153 (wrap64 (x6_1 + 1))).length : Int) then (if (wrap64 (x7_2 + 1)) < ((rd_L9 y153 x6_1).length : Int) then (if x7_2 < ((rd_L9 y153 x6_1).length : Int) then (wageofficeref22_table.l1 k2 l0 l1 (y153.set (x6_1 : Int).toNat ((rd_L9 y153 x6_1).set (x7_2 : Int).toNat (mn (mn (wrap64 (t157 + (rd (rd_L9 y153 (wrap64 (x6_1 + 1))) (wrap64 (x7_2 + 1))))) (wrap64 (120 + (rd (rd_L9 y153 (wrap64 (x6_1 + 1))) x7_2)))) (wrap64 (120 + (rd (rd_L9 y153 x6_1) (wrap64 (x7_2 + 1)))))))) x6_1 (wrap64 (x7_2 - 1))) else (none)) else (none)) else (none)) else (none)) else (none)) else (none)) else (none))) else (wageofficeref22_table.l1 k2 l0 l1 y153 x6_1 (wrap64 (x7_2 - 1)))) else (wageofficeref22_table.l1 k2 l0 l1 y153 x6_1 (wrap64 (x7_2 - 1))))) = some r := by first | (rw [hy151]; with_reducible exact H) | (have H2_ := (Option.bind_some _ _).symm.trans H; rw [hy151]; with_reducible exact H2_) | (have H2_ := (Option.bind_some _ _).symm.trans H; with_reducible exact H2_) | with_reducible exact H | (rw [hy151]; exact H) | exact H
                 have Ny151 := Aside0.mk hy151
                 clear hy151
                 obtain ⟨y153, hy153⟩ : ∃ y_ : List (List Int), y_ = (x5_2.set (x6_1 : Int).toNat y151) := ⟨_, rfl⟩
                 replace H : (if x6_1 < (l0.length : Int) then (if x7_2 < (l1.length : Int) then ((wageofficeref22_Cost.f ((rd_T43 l0 x6_1).f0) ((rd_T43 l0 x6_1).f1) ((rd_T43 l0 x6_1).f2) ((rd_T45 l1 x7_2).f0) ((rd_T45 l1 x7_2).f1)).bind fun t157 => (if 0 ≤ (wrap64 (x6_1 + 1)) then (if (wrap64 (x6_1 + 1)) < (x5_2.length : Int) then (if 0 ≤ (wrap64 (x7_2 + 1)) then (if (wrap64 (x7_2 + 1)) < ((rd_L9 y153 (wrap64 (x6_1 + 1))).length : Int) then (if x7_2 < ((rd_L9 y153 (wrap64 (x6_1 + 1))).length : Int) then (if (wrap64 (x7_2 + 1)) < ((rd_L9 y153 x6_1).length : Int) then (if x7_2 < ((rd_L9 y153 x6_1).length : Int) then (wageofficeref22_table.l1 k2 l0 l1 (y153.set (x6_1 : Int).toNat ((rd_L9 y153 x6_1).set (x7_2 : Int).toNat (mn (mn (wrap64 (t157 + (rd (rd_L9 y153 (wrap64 (x6_1 + 1))) (wrap64 (x7_2 + 1))))) (wrap64 (120 + (rd (rd_L9 y153 (wrap64 (x6_1 + 1))) x7_2)))) (wrap64 (120 + (rd (rd_L9 y153 x6_1) (wrap64 (x7_2 + 1)))))))) x6_1 (wrap64 (x7_2 - 1))) else (none)) else (none)) else (none)) else (none)) else (none)) else (none)) else (none))) else (wageofficeref22_table.l1 k2 l0 l1 y153 x6_1 (wrap64 (x7_2 - 1)))) else (wageofficeref22_table.l1 k2 l0 l1 y153 x6_1 (wrap64 (x7_2 - 1)))) = some r := by first | (rw [hy153]; with_reducible exact H) | (have H2_ := (Option.bind_some _ _).symm.trans H; rw [hy153]; with_reducible exact H2_) | (have H2_ := (Option.bind_some _ _).symm.trans H; with_reducible exact H2_) | with_reducible exact H | (rw [hy153]; exact H) | exact H
                 have Ny153 := Aside0.mk hy153
                 clear hy153
                 by_cases c25 : x6_1 < (l0.length : Int)
                 ·rw [if_pos c25] at H
                  have c25b0 : decide (x6_1 < (l0.length : Int)) = true := decide_eq_true c25
                  clear c25
                  by_cases c26 : x7_2 < (l1.length : Int)
                  ·rw [if_pos c26] at H
                   have c26b0 : decide (x7_2 < (l1.length : Int)) = true := decide_eq_true c26
                   clear c26
                   replace H := Option.bind_eq_some_iff.mp H
                   obtain ⟨t157, A270, H⟩ := H
                   replace H : (if 0 ≤ (wrap64 (x6_1 + 1)) then (if (wrap64 (x6_1 + 1)) < (x5_2.length : Int) then (if 0 ≤ (wrap64 (x7_2 + 1)) then (if (wrap64 (x7_2 + 1)) < ((rd_L9 y153 (wrap64 (x6_1 + 1))).length : Int) then (if x7_2 < ((rd_L9 y153 (wrap64 (x6_1 + 1))).length : Int) then (if (wrap64 (x7_2 + 1)) < ((rd_L9 y153 x6_1).length : Int) then (if x7_2 < ((rd_L9 y153 x6_1).length : Int) then (wageofficeref22_table.l1 k2 l0 l1 (y153.set (x6_1 : Int).toNat ((rd_L9 y153 x6_1).set (x7_2 : Int).toNat (mn (mn (wrap64 (t157 + (rd (rd_L9 y153 (wrap64 (x6_1 + 1))) (wrap64 (x7_2 + 1))))) (wrap64 (120 + (rd (rd_L9 y153 (wrap64 (x6_1 + 1))) x7_2)))) (wrap64 (120 + (rd (rd_L9 y153 x6_1) (wrap64 (x7_2 + 1)))))))) x6_1 (wrap64 (x7_2 - 1))) else (none)) else (none)) else (none)) else (none)) else (none)) else (none)) else (none)) = some r := H
                   have A27 := Aside0.mk A270
                   clear A270
                   obtain ⟨ji28, hji28⟩ : ∃ j_ : Int, (wrap64 (x6_1 + 1)) = j_ := ⟨_, rfl⟩
                   replace H : (if 0 ≤ (ji28) then (if (ji28) < (x5_2.length : Int) then (if 0 ≤ (wrap64 (x7_2 + 1)) then (if (wrap64 (x7_2 + 1)) < ((rd_L9 y153 (ji28)).length : Int) then (if x7_2 < ((rd_L9 y153 (ji28)).length : Int) then (if (wrap64 (x7_2 + 1)) < ((rd_L9 y153 x6_1).length : Int) then (if x7_2 < ((rd_L9 y153 x6_1).length : Int) then (wageofficeref22_table.l1 k2 l0 l1 (y153.set (x6_1 : Int).toNat ((rd_L9 y153 x6_1).set (x7_2 : Int).toNat (mn (mn (wrap64 (t157 + (rd (rd_L9 y153 (ji28)) (wrap64 (x7_2 + 1))))) (wrap64 (120 + (rd (rd_L9 y153 (ji28)) x7_2)))) (wrap64 (120 + (rd (rd_L9 y153 x6_1) (wrap64 (x7_2 + 1)))))))) x6_1 (wrap64 (x7_2 - 1))) else (none)) else (none)) else (none)) else (none)) else (none)) else (none)) else (none)) = some r := by first | (rw [hji28] at H; exact H) | (simp only [hji28] at H ⊢; exact H)
                   (try rw [hji28] at A27)
                   have hji28w : (IntKind.i64.wrap (x6_1 + 1)) = ji28 := (i64_w _).trans hji28
                   by_cases c29 : 0 ≤ (ji28)
                   ·rw [if_pos c29] at H
                    have c29b0 : decide (0 ≤ (ji28)) = true := decide_eq_true c29
                    clear c29
                    by_cases c30 : (ji28) < (x5_2.length : Int)
                    ·rw [if_pos c30] at H
                     have c30b0 : decide ((ji28) < (x5_2.length : Int)) = true := decide_eq_true c30
                     clear c30
                     obtain ⟨ji31, hji31⟩ : ∃ j_ : Int, (wrap64 (x7_2 + 1)) = j_ := ⟨_, rfl⟩
                     replace H : (if 0 ≤ (ji31) then (if (ji31) < ((rd_L9 y153 (ji28)).length : Int) then (if x7_2 < ((rd_L9 y153 (ji28)).length : Int) then (if (ji31) < ((rd_L9 y153 x6_1).length : Int) then (if x7_2 < ((rd_L9 y153 x6_1).length : Int) then (wageofficeref22_table.l1 k2 l0 l1 (y153.set (x6_1 : Int).toNat ((rd_L9 y153 x6_1).set (x7_2 : Int).toNat (mn (mn (wrap64 (t157 + (rd (rd_L9 y153 (ji28)) (ji31)))) (wrap64 (120 + (rd (rd_L9 y153 (ji28)) x7_2)))) (wrap64 (120 + (rd (rd_L9 y153 x6_1) (ji31))))))) x6_1 (wrap64 (x7_2 - 1))) else (none)) else (none)) else (none)) else (none)) else (none)) = some r := by first | (rw [hji31] at H; exact H) | (simp only [hji31] at H ⊢; exact H)
                     (try rw [hji31] at A27)
                     have hji31w : (IntKind.i64.wrap (x7_2 + 1)) = ji31 := (i64_w _).trans hji31
                     by_cases c32 : 0 ≤ (ji31)
                     ·rw [if_pos c32] at H
                      have c32b0 : decide (0 ≤ (ji31)) = true := decide_eq_true c32
                      clear c32
                      by_cases c33 : (ji31) < ((rd_L9 y153 (ji28)).length : Int)
                      ·rw [if_pos c33] at H
                       have c33b0 : decide ((ji31) < ((rd_L9 y153 (ji28)).length : Int)) = true := decide_eq_true c33
                       clear c33
                       by_cases c34 : x7_2 < ((rd_L9 y153 (ji28)).length : Int)
                       ·rw [if_pos c34] at H
                        have c34b0 : decide (x7_2 < ((rd_L9 y153 (ji28)).length : Int)) = true := decide_eq_true c34
                        clear c34
                        by_cases c35 : (ji31) < ((rd_L9 y153 x6_1).length : Int)
                        ·rw [if_pos c35] at H
                         have c35b0 : decide ((ji31) < ((rd_L9 y153 x6_1).length : Int)) = true := decide_eq_true c35
                         clear c35
                         obtain ⟨ji36, hji36⟩ : ∃ j_ : Int, (mn (wrap64 (t157 + (rd (rd_L9 y153 (ji28)) (ji31)))) (wrap64 (120 + (rd (rd_L9 y153 (ji28)) x7_2)))) = j_ := ⟨_, rfl⟩
                         replace H : (if x7_2 < ((rd_L9 y153 x6_1).length : Int) then (wageofficeref22_table.l1 k2 l0 l1 (y153.set (x6_1 : Int).toNat ((rd_L9 y153 x6_1).set (x7_2 : Int).toNat (mn (ji36) (wrap64 (120 + (rd (rd_L9 y153 x6_1) (ji31))))))) x6_1 (wrap64 (x7_2 - 1))) else (none)) = some r := by first | (rw [hji36] at H; exact H) | (simp only [hji36] at H ⊢; exact H)
                         (try rw [hji36] at A27)
                         have hji36_ : (if (wrap64 (120 + (rd (rd_L9 y153 (ji28)) x7_2))) < (wrap64 (t157 + (rd (rd_L9 y153 (ji28)) (ji31)))) then (wrap64 (120 + (rd (rd_L9 y153 (ji28)) x7_2))) else (wrap64 (t157 + (rd (rd_L9 y153 (ji28)) (ji31))))) = ji36 := hji36
                         obtain ⟨ji37, hji37⟩ : ∃ j_ : Int, (mn (ji36) (wrap64 (120 + (rd (rd_L9 y153 x6_1) (ji31))))) = j_ := ⟨_, rfl⟩
                         replace H : (if x7_2 < ((rd_L9 y153 x6_1).length : Int) then (wageofficeref22_table.l1 k2 l0 l1 (y153.set (x6_1 : Int).toNat ((rd_L9 y153 x6_1).set (x7_2 : Int).toNat (ji37))) x6_1 (wrap64 (x7_2 - 1))) else (none)) = some r := by first | (rw [hji37] at H; exact H) | (simp only [hji37] at H ⊢; exact H)
                         (try rw [hji37] at A27)
                         have hji37_ : (if (wrap64 (120 + (rd (rd_L9 y153 x6_1) (ji31)))) < (ji36) then (wrap64 (120 + (rd (rd_L9 y153 x6_1) (ji31)))) else (ji36)) = ji37 := hji37
                         by_cases c38 : x7_2 < ((rd_L9 y153 x6_1).length : Int)
                         ·rw [if_pos c38] at H
                          have c38b0 : decide (x7_2 < ((rd_L9 y153 x6_1).length : Int)) = true := decide_eq_true c38
                          clear c38
                          obtain ⟨y164, hy164⟩ : ∃ y_ : List Int, y_ = ((rd_L9 y153 x6_1).set (x7_2 : Int).toNat (ji37)) := ⟨_, rfl⟩
                          replace H : (wageofficeref22_table.l1 k2 l0 l1 (y153.set (x6_1 : Int).toNat y164) x6_1 (wrap64 (x7_2 - 1))) = some r := by first | (rw [hy164]; with_reducible exact H) | (have H2_ := (Option.bind_some _ _).symm.trans H; rw [hy164]; with_reducible exact H2_) | (have H2_ := (Option.bind_some _ _).symm.trans H; with_reducible exact H2_) | with_reducible exact H | (rw [hy164]; exact H) | exact H
                          have Ny164 := Aside0.mk hy164
                          clear hy164
                          obtain ⟨y166, hy166⟩ : ∃ y_ : List (List Int), y_ = (y153.set (x6_1 : Int).toNat y164) := ⟨_, rfl⟩
                          replace H : (wageofficeref22_table.l1 k2 l0 l1 y166 x6_1 (wrap64 (x7_2 - 1))) = some r := by first | (rw [hy166]; with_reducible exact H) | (have H2_ := (Option.bind_some _ _).symm.trans H; rw [hy166]; with_reducible exact H2_) | (have H2_ := (Option.bind_some _ _).symm.trans H; with_reducible exact H2_) | with_reducible exact H | (rw [hy166]; exact H) | exact H
                          have Ny166 := Aside0.mk hy166
                          clear hy166
                          have H' := Aside0.mk H
                          clear H
                          have p150 : 0 ≤ (x6_1 : Int) := of_decide_eq_true (by first | (with_reducible assumption) | assumption)
                          have q150 : x6_1 < (x5_2.length : Int) := of_decide_eq_true (by first | (with_reducible assumption) | assumption)
                          obtain ⟨ad150, A150_0, c150_0, e150, hx150_0, hl150_0, hi150_0⟩ := at_L9 (Kd.S_reads' HO_5.out).2.2 x6_1 p150 q150
                          obtain rfl : (⟨go14, 0, none⟩ : Addr) = ad150 := (by injection e150)
                          obtain ⟨ce150, hce150, hMe150, hcc150⟩ := Kd.S_get HO_5.out [] x6_1 p150 (by first | exact q150 | exact of_decide_eq_true (by first | (with_reducible assumption) | assumption) | (have e_ := (Kd.S_reads' HO_5.out).1; omega))
                          obtain ⟨ve150_0, rfl, ge150_0⟩ := hMe150
                          have hv150_0 := hcc150 0 _ rfl
                          rw [Nat.add_zero, show ((Kd.slice 3 (Kd.int .i64))).sz = 1 from rfl, Nat.mul_one] at hv150_0
                          replace hv150_0 := Option.some.inj (hv150_0.symm.trans hx150_0)
                          rw [hv150_0] at ge150_0
                          have HL150_0 := Aside0.mk (show Kd.R (Kd.int .i64) 3 _ _ _ _ (rd_L9 x5_2 x6_1) from ge150_0)
                          clear hv150_0 ge150_0
                          have HX150_0 := Aside0.mk hx150_0
                          clear hcc150 hce150
                          (first | simp only [add_plain] at hx150_0 | simp only [add_at] at hx150_0 | simp only [Addr.add, Nat.zero_add] at hx150_0 | skip)
                          have HR150_0 := Aside0.mk hi150_0
                          have HC150_0 := Aside0.mk hl150_0
                          clear hi150_0 hl150_0
                          replace p150 := eq_true p150
                          replace q150 := eq_true q150
                          have p24 : 0 ≤ (x7_2 : Int) := of_decide_eq_true (by first | (with_reducible assumption) | assumption)
                          have q24 : (x7_2 : Int) < (((rd_L9 x5_2 x6_1).length : Int) : Int) := of_decide_eq_true (by first | (with_reducible assumption) | assumption)
                          obtain ⟨go24, co24, eo24, gb24, gl24, cl24, HG24⟩ := Kd.R_form HL150_0.out (by omega)
                          (first | cases eo24 | (injection eo24 with ea_ en_ ec_; (first | subst ea_ | (injection ea_ with ea_; subst ea_)); subst ec_; clear en_))
                          have GB24 := Aside0.mk gb24
                          have GG24 := Aside0.mk HG24
                          clear gb24 gl24 HG24
                          obtain ⟨hx24_0, hf24_0⟩ := Kd.R_celln 0 HL150_0.out (x7_2 : Int) p24 q24
                          replace p24 := eq_true p24
                          replace q24 := eq_true q24
                          have hq40 : (x6_1 : Int) < (x5_2.length : Int) := (by have h_ : (x6_1 : Int) < ((x5_2.length : Int) : Int) := of_decide_eq_true (by first | (with_reducible assumption) | assumption); first | exact h_ | (have e_ := (Kd.S_reads' HO_5.out).1; omega) | simpa only [List.length_set, List.length_set] using h_)
                          obtain ⟨oki40, ce40, hcl40, hM40, hcc40, hok40, hbk40⟩ := Kd.S_borrow HO_5.out [] (x6_1 : Int) (of_decide_eq_true (by first | (with_reducible assumption) | assumption)) (by first | exact hq40 | (have h_ := hq40; rw [Ny153.out, List.length_set] at h_; exact h_))
                          obtain ⟨ve40_0, rfl, ge40_0⟩ := hM40
                          have hv40 := hcc40 0 _ rfl
                          rw [Nat.add_zero, show ((Kd.slice 3 (Kd.int .i64))).sz = 1 from rfl, Nat.mul_one] at hv40
                          replace hv40 := Option.some.inj (hv40.symm.trans HX150_0.out)
                          subst hv40
                          clear hcc40 hcl40
                          replace ge40_0 := (show Kd.R (Kd.int .i64) 3 _ _ _ _ (rd_L9 x5_2 x6_1) from ge40_0)
                          have HP40 := Kd.R_putg ge40_0 (x7_2 : Int) (wrap64 (120 * (wrap64 ((wrap64 ((wrap64 ((l0.length : Int) - x6_1)) + (l1.length : Int))) - x7_2))))
                          try go_wp2_with (first | ((with_reducible refine gate_store (t := 3) (p := 46) rfl ?_); refine store_event (t := 3) (p := 46) (v := ?vo_w41) (w1 := (wr.setCell ⟨go24, (x7_2 : Int).toNat, none⟩ (.int .i64 (wrap64 (120 * (wrap64 ((wrap64 ((wrap64 ((l0.length : Int) - x6_1)) + (l1.length : Int))) - x7_2))))))) ?hg ?ho ?hn ?hr ?_; (case ho => rfl); (case hg => rfl); (case hn => rfl); (case hr => first | (go_simp; done) | (go_simp; rfl)); intro w41 hw; have hg : wr.grownBy w41 (some go24) := (by rw [hw]; exact HP40.2); have hz_ : Kd.R (Kd.int .i64) 3 w41 w.heap.size oki40 (.slice (some ⟨go24, 0, none⟩) (rd_L9 x5_2 x6_1).length c150_0) y151 := (by rw [hw, Ny151.out]; exact HP40.1); have hp_ : Kd.S (Kd.slice 3 (Kd.int .i64)) 30 w41 w.heap.size (fun _ => True) (.slice (some ⟨go14, 0, none⟩) x5_2.length co14) y153 := (by rw [Ny153.out]; exact hbk40 hg (fun k_ e_ => by injection e_ with e_; subst e_; exact ge40_0.1 _ rfl) (Kd.M_row hz_)); have hm_ := Kd.R_mono hz_ hok40; clear HP40 hbk40; have n0_ := Aside0.mk (hp_); have n1_ := Aside0.mk ((by rw [hw]; exact below_set (HB.out) GB24.out : Below w.heap.size w w41)); have n2_ := Aside0.mk (hm_); have n3_ := Aside0.mk ((Kd.R_reads' hm_).2.1); clear HO_5; clear HB; clear HL150_0; have HO_5 := n0_; have HB := n1_; have HL167 := n2_; have HC152 := n3_; clear n0_ n1_ n2_ n3_; clear hg hw hp_ hz_ hm_ hok40))
                          have n0_ := Aside0.mk (Kd.S_drew HO_5.out)
                          have n1_ := Aside0.mk (Kd.R_drew HL167.out)
                          have n2_ := Aside0.mk (below_drew1 HB.out)
                          clear HO_5
                          clear HL167
                          clear HB
                          have HO_5 := n0_
                          have HL167 := n1_
                          have HB := n2_
                          clear n0_ n1_ n2_
                          have p154 : 0 ≤ (x6_1 : Int) := of_decide_eq_true (by first | (with_reducible assumption) | assumption)
                          have q154 : x6_1 < (y153.length : Int) := (by have h_ : (x6_1 : Int) < ((x5_2.length : Int) : Int) := of_decide_eq_true (by first | (with_reducible assumption) | assumption); first | (have e_ := (Kd.S_reads' HO_5.out).1; omega) | simpa only [Ny153.out, List.length_set] using h_)
                          have ql154 : ((x6_1 : Int) < ((x5_2.length : Int) : Int)) = True := eq_true (of_decide_eq_true (by first | (with_reducible assumption) | assumption))
                          obtain ⟨ad154, A154_0, c154_0, e154, hx154_0, hl154_0, hi154_0⟩ := at_L9 (Kd.S_reads' HO_5.out).2.2 x6_1 p154 q154
                          obtain rfl : (⟨go14, 0, none⟩ : Addr) = ad154 := (by injection e154)
                          obtain ⟨ce154, hce154, hMe154, hcc154⟩ := Kd.S_get HO_5.out [] x6_1 p154 (by first | exact q154 | exact of_decide_eq_true (by first | (with_reducible assumption) | assumption) | (have e_ := (Kd.S_reads' HO_5.out).1; omega))
                          obtain ⟨ve154_0, rfl, ge154_0⟩ := hMe154
                          have hv154_0 := hcc154 0 _ rfl
                          rw [Nat.add_zero, show ((Kd.slice 3 (Kd.int .i64))).sz = 1 from rfl, Nat.mul_one] at hv154_0
                          replace hv154_0 := Option.some.inj (hv154_0.symm.trans hx154_0)
                          rw [hv154_0] at ge154_0
                          have HL154_0 := Aside0.mk (show Kd.R (Kd.int .i64) 3 _ _ _ _ (rd_L9 y153 x6_1) from ge154_0)
                          clear hv154_0 ge154_0
                          have HX154_0 := Aside0.mk hx154_0
                          clear hcc154 hce154
                          (first | simp only [add_plain] at hx154_0 | simp only [add_at] at hx154_0 | simp only [Addr.add, Nat.zero_add] at hx154_0 | skip)
                          have HR154_0 := Aside0.mk hi154_0
                          have HC154_0 := Aside0.mk hl154_0
                          clear hi154_0 hl154_0
                          replace p154 := eq_true p154
                          replace q154 := eq_true q154
                          have p155 : 0 ≤ (x6_1 : Int) := of_decide_eq_true (by first | (with_reducible assumption) | assumption)
                          have q155 : x6_1 < (l0.length : Int) := of_decide_eq_true (by first | (with_reducible assumption) | assumption)
                          obtain ⟨ad155, e155, hx155_0, hx155_1, hx155_2⟩ := at_T43 HR0.out x6_1 p155 q155
                          have hw155_2 := hx155_2
                          have hw155_1 := hx155_1
                          have hw155_0 := hx155_0
                          cases e155
                          replace hx155_0 := (HB.out.cell (World.block_lt_of_cell? w _ hx155_0)).trans hx155_0
                          replace hx155_1 := (HB.out.cell (World.block_lt_of_cell? w _ hx155_1)).trans hx155_1
                          replace hx155_2 := (HB.out.cell (World.block_lt_of_cell? w _ hx155_2)).trans hx155_2
                          replace p155 := eq_true p155
                          replace q155 := eq_true q155
                          have p156 : 0 ≤ (x7_2 : Int) := of_decide_eq_true (by first | (with_reducible assumption) | assumption)
                          have q156 : x7_2 < (l1.length : Int) := of_decide_eq_true (by first | (with_reducible assumption) | assumption)
                          obtain ⟨ad156, e156, hx156_0, hx156_1⟩ := at_T45 HR1.out x7_2 p156 q156
                          have hw156_1 := hx156_1
                          have hw156_0 := hx156_0
                          cases e156
                          replace hx156_0 := (HB.out.cell (World.block_lt_of_cell? w _ hx156_0)).trans hx156_0
                          replace hx156_1 := (HB.out.cell (World.block_lt_of_cell? w _ hx156_1)).trans hx156_1
                          replace p156 := eq_true p156
                          replace q156 := eq_true q156
                          have p158 : 0 ≤ ((ji28) : Int) := of_decide_eq_true (by first | (with_reducible assumption) | assumption)
                          have q158 : (ji28) < (y153.length : Int) := (by have h_ : ((ji28) : Int) < ((x5_2.length : Int) : Int) := of_decide_eq_true (by first | (with_reducible assumption) | assumption); first | (have e_ := (Kd.S_reads' HO_5.out).1; omega) | simpa only [Ny153.out, List.length_set] using h_)
                          have ql158 : (((ji28) : Int) < ((x5_2.length : Int) : Int)) = True := eq_true (of_decide_eq_true (by first | (with_reducible assumption) | assumption))
                          obtain ⟨ad158, A158_0, c158_0, e158, hx158_0, hl158_0, hi158_0⟩ := at_L9 (Kd.S_reads' HO_5.out).2.2 (ji28) p158 q158
                          obtain rfl : (⟨go14, 0, none⟩ : Addr) = ad158 := (by injection e158)
                          obtain ⟨ce158, hce158, hMe158, hcc158⟩ := Kd.S_get HO_5.out [] (ji28) p158 (by first | exact q158 | exact of_decide_eq_true (by first | (with_reducible assumption) | assumption) | (have e_ := (Kd.S_reads' HO_5.out).1; omega))
                          obtain ⟨ve158_0, rfl, ge158_0⟩ := hMe158
                          have hv158_0 := hcc158 0 _ rfl
                          rw [Nat.add_zero, show ((Kd.slice 3 (Kd.int .i64))).sz = 1 from rfl, Nat.mul_one] at hv158_0
                          replace hv158_0 := Option.some.inj (hv158_0.symm.trans hx158_0)
                          rw [hv158_0] at ge158_0
                          have HL158_0 := Aside0.mk (show Kd.R (Kd.int .i64) 3 _ _ _ _ (rd_L9 y153 (ji28)) from ge158_0)
                          clear hv158_0 ge158_0
                          have HX158_0 := Aside0.mk hx158_0
                          clear hcc158 hce158
                          (first | simp only [add_plain] at hx158_0 | simp only [add_at] at hx158_0 | simp only [Addr.add, Nat.zero_add] at hx158_0 | skip)
                          have HR158_0 := Aside0.mk hi158_0
                          have HC158_0 := Aside0.mk hl158_0
                          clear hi158_0 hl158_0
                          replace p158 := eq_true p158
                          replace q158 := eq_true q158
                          have p159 : 0 ≤ ((ji31) : Int) := of_decide_eq_true (by first | (with_reducible assumption) | assumption)
                          have q159 : (ji31) < ((rd_L9 y153 (ji28)).length : Int) := of_decide_eq_true (by first | (with_reducible assumption) | assumption)
                          obtain ⟨ad159, e159, hx159_0⟩ := Kd.at_int (by repeat (first | (with_reducible exact HR158_0.out) | (with_reducible refine Kd.C_alloc ?_ _) | (with_reducible refine Kd.C_drewN ?_ _) | (with_reducible refine Kd.C_drew ?_) | exact HR158_0.out)) (ji31) p159 q159
                          cases e159
                          replace p159 := eq_true p159
                          replace q159 := eq_true q159
                          have p160 : 0 ≤ ((ji28) : Int) := of_decide_eq_true (by first | (with_reducible assumption) | assumption)
                          have q160 : (ji28) < (y153.length : Int) := (by have h_ : ((ji28) : Int) < ((x5_2.length : Int) : Int) := of_decide_eq_true (by first | (with_reducible assumption) | assumption); first | (have e_ := (Kd.S_reads' HO_5.out).1; omega) | simpa only [Ny153.out, List.length_set] using h_)
                          have ql160 : (((ji28) : Int) < ((x5_2.length : Int) : Int)) = True := eq_true (of_decide_eq_true (by first | (with_reducible assumption) | assumption))
                          obtain ⟨ad160, A160_0, c160_0, e160, hx160_0, hl160_0, hi160_0⟩ := at_L9 (Kd.S_reads' HO_5.out).2.2 (ji28) p160 q160
                          obtain rfl : (⟨go14, 0, none⟩ : Addr) = ad160 := (by injection e160)
                          obtain ⟨ce160, hce160, hMe160, hcc160⟩ := Kd.S_get HO_5.out [] (ji28) p160 (by first | exact q160 | exact of_decide_eq_true (by first | (with_reducible assumption) | assumption) | (have e_ := (Kd.S_reads' HO_5.out).1; omega))
                          obtain ⟨ve160_0, rfl, ge160_0⟩ := hMe160
                          have hv160_0 := hcc160 0 _ rfl
                          rw [Nat.add_zero, show ((Kd.slice 3 (Kd.int .i64))).sz = 1 from rfl, Nat.mul_one] at hv160_0
                          replace hv160_0 := Option.some.inj (hv160_0.symm.trans hx160_0)
                          rw [hv160_0] at ge160_0
                          have HL160_0 := Aside0.mk (show Kd.R (Kd.int .i64) 3 _ _ _ _ (rd_L9 y153 (ji28)) from ge160_0)
                          clear hv160_0 ge160_0
                          have HX160_0 := Aside0.mk hx160_0
                          clear hcc160 hce160
                          (first | simp only [add_plain] at hx160_0 | simp only [add_at] at hx160_0 | simp only [Addr.add, Nat.zero_add] at hx160_0 | skip)
                          have HR160_0 := Aside0.mk hi160_0
                          have HC160_0 := Aside0.mk hl160_0
                          clear hi160_0 hl160_0
                          replace p160 := eq_true p160
                          replace q160 := eq_true q160
                          have ea_ := Option.some.inj (hx158_0.symm.trans hx160_0)
                          injection ea_ with ea_ en_ ec_
                          subst ea_
                          subst ec_
                          clear en_
                          have p161 : 0 ≤ (x7_2 : Int) := of_decide_eq_true (by first | (with_reducible assumption) | assumption)
                          have q161 : x7_2 < ((rd_L9 y153 (ji28)).length : Int) := of_decide_eq_true (by first | (with_reducible assumption) | assumption)
                          obtain ⟨ad161, e161, hx161_0⟩ := Kd.at_int (by repeat (first | (with_reducible exact HR160_0.out) | (with_reducible refine Kd.C_alloc ?_ _) | (with_reducible refine Kd.C_drewN ?_ _) | (with_reducible refine Kd.C_drew ?_) | exact HR160_0.out)) x7_2 p161 q161
                          cases e161
                          replace p161 := eq_true p161
                          replace q161 := eq_true q161
                          have p162 : 0 ≤ (x6_1 : Int) := of_decide_eq_true (by first | (with_reducible assumption) | assumption)
                          have q162 : x6_1 < (y153.length : Int) := (by have h_ : (x6_1 : Int) < ((x5_2.length : Int) : Int) := of_decide_eq_true (by first | (with_reducible assumption) | assumption); first | (have e_ := (Kd.S_reads' HO_5.out).1; omega) | simpa only [Ny153.out, List.length_set] using h_)
                          have ql162 : ((x6_1 : Int) < ((x5_2.length : Int) : Int)) = True := eq_true (of_decide_eq_true (by first | (with_reducible assumption) | assumption))
                          obtain ⟨ad162, A162_0, c162_0, e162, hx162_0, hl162_0, hi162_0⟩ := at_L9 (Kd.S_reads' HO_5.out).2.2 x6_1 p162 q162
                          obtain rfl : (⟨go14, 0, none⟩ : Addr) = ad162 := (by injection e162)
                          obtain ⟨ce162, hce162, hMe162, hcc162⟩ := Kd.S_get HO_5.out [] x6_1 p162 (by first | exact q162 | exact of_decide_eq_true (by first | (with_reducible assumption) | assumption) | (have e_ := (Kd.S_reads' HO_5.out).1; omega))
                          obtain ⟨ve162_0, rfl, ge162_0⟩ := hMe162
                          have hv162_0 := hcc162 0 _ rfl
                          rw [Nat.add_zero, show ((Kd.slice 3 (Kd.int .i64))).sz = 1 from rfl, Nat.mul_one] at hv162_0
                          replace hv162_0 := Option.some.inj (hv162_0.symm.trans hx162_0)
                          rw [hv162_0] at ge162_0
                          have HL162_0 := Aside0.mk (show Kd.R (Kd.int .i64) 3 _ _ _ _ (rd_L9 y153 x6_1) from ge162_0)
                          clear hv162_0 ge162_0
                          have HX162_0 := Aside0.mk hx162_0
                          clear hcc162 hce162
                          (first | simp only [add_plain] at hx162_0 | simp only [add_at] at hx162_0 | simp only [Addr.add, Nat.zero_add] at hx162_0 | skip)
                          have HR162_0 := Aside0.mk hi162_0
                          have HC162_0 := Aside0.mk hl162_0
                          clear hi162_0 hl162_0
                          replace p162 := eq_true p162
                          replace q162 := eq_true q162
                          have ea_ := Option.some.inj (hx154_0.symm.trans hx162_0)
                          injection ea_ with ea_ en_ ec_
                          subst ea_
                          subst ec_
                          clear en_
                          have p163 : 0 ≤ ((ji31) : Int) := of_decide_eq_true (by first | (with_reducible assumption) | assumption)
                          have q163 : (ji31) < ((rd_L9 y153 x6_1).length : Int) := of_decide_eq_true (by first | (with_reducible assumption) | assumption)
                          obtain ⟨ad163, e163, hx163_0⟩ := Kd.at_int (by repeat (first | (with_reducible exact HR162_0.out) | (with_reducible refine Kd.C_alloc ?_ _) | (with_reducible refine Kd.C_drewN ?_ _) | (with_reducible refine Kd.C_drew ?_) | exact HR162_0.out)) (ji31) p163 q163
                          cases e163
                          replace p163 := eq_true p163
                          replace q163 := eq_true q163
                          refine start_ (n := 45) (S := fun w' => w'.cell? ⟨go14, (x6_1).toNat, none⟩ = some (.slice (some ad163) (rd_L9 y153 x6_1).length c154_0) ∧ w'.cell? (ad155.add ((x6_1).toNat * 3)) = some (.int .i64 ((rd_T43 l0 x6_1).f0)) ∧ w'.cell? ⟨(ad155.add ((x6_1).toNat * 3)).block, (ad155.add ((x6_1).toNat * 3)).off + 1, none⟩ = some (.bool ((rd_T43 l0 x6_1).f1)) ∧ w'.cell? ⟨(ad155.add ((x6_1).toNat * 3)).block, (ad155.add ((x6_1).toNat * 3)).off + 2, none⟩ = some (.int .i64 ((rd_T43 l0 x6_1).f2)) ∧ w'.cell? (ad156.add ((x7_2).toNat * 2)) = some (.int .i64 ((rd_T45 l1 x7_2).f0)) ∧ w'.cell? ⟨(ad156.add ((x7_2).toNat * 2)).block, (ad156.add ((x7_2).toNat * 2)).off + 1, none⟩ = some (.bool ((rd_T45 l1 x7_2).f1)) ∧ w'.cell? ⟨go14, ((ji28)).toNat, none⟩ = some (.slice (some ad159) (rd_L9 y153 (ji28)).length c158_0) ∧ w'.cell? (ad159.add ((ji31)).toNat) = some (.int .i64 (rd (rd_L9 y153 (ji28)) (ji31))) ∧ w'.cell? ⟨go14, ((ji28)).toNat, none⟩ = some (.slice (some ad159) (rd_L9 y153 (ji28)).length c158_0) ∧ w'.cell? (ad159.add (x7_2).toNat) = some (.int .i64 (rd (rd_L9 y153 (ji28)) x7_2)) ∧ w'.cell? ⟨go14, (x6_1).toNat, none⟩ = some (.slice (some ad163) (rd_L9 y153 x6_1).length c154_0) ∧ w'.cell? (ad163.add ((ji31)).toNat) = some (.int .i64 (rd (rd_L9 y153 x6_1) (ji31)))) (ds := [44]) (bb 45 0) (by kernel_rfl) rfl rfl ⟨hx154_0, ((HB.out.cell (World.block_lt_of_cell? w _ hw155_0)).trans hw155_0), ((HB.out.cell (World.block_lt_of_cell? w _ hw155_1)).trans hw155_1), ((HB.out.cell (World.block_lt_of_cell? w _ hw155_2)).trans hw155_2), ((HB.out.cell (World.block_lt_of_cell? w _ hw156_0)).trans hw156_0), ((HB.out.cell (World.block_lt_of_cell? w _ hw156_1)).trans hw156_1), hx158_0, hx159_0, hx160_0, hx161_0, hx162_0, hx163_0⟩ (fun hHeld => ?_); refine with_tabW wageofficeref22_table.tab11 wageofficeref22_table.bits11 (fun HT_ HW_ => ?_)
                          generalize w41.drew = w42 at HO_5 HL167 HB HL154_0 HL158_0 HL160_0 HL162_0 HR154_0 HR158_0 HR160_0 HR162_0 HX154_0 HX158_0 HX160_0 HX162_0 hx154_0 hx155_0 hx155_1 hx155_2 hx156_0 hx156_1 hx158_0 hx159_0 hx160_0 hx161_0 hx162_0 hx163_0 hHeld ⊢
                          refine pure_ (i := 0) (N := some 57) (v := ?_) (a' := ?_) (bb 45 1) rfl rfl (any_of HT_.out (by kernel_rfl)) (fun _ _ _ h => h) (Or.inl ⟨by rfl, ?_⟩) ?_ ?_
                          rotate_left
                          ·intro w'
                           go_simp
                           with_reducible rfl
                          rotate_left
                          ·simp only [Act.put, sA, sB, sC, i64_w, i32_w]
                           rfl
                          refine pure_ (i := 1) (N := some 58) (v := ?_) (a' := ?_) (bb 45 3) rfl rfl (any_of HT_.out (by kernel_rfl)) (fun _ _ _ h => h) (Or.inl ⟨by rfl, ?_⟩) ?_ ?_
                          rotate_left
                          ·intro w'
                           go_simp
                           with_reducible rfl
                          rotate_left
                          ·simp only [Act.put, sA, sB, sC, i64_w, i32_w]
                           rfl
                          refine pure_ (i := 2) (N := some 59) (v := ?_) (a' := ?_) (bb 45 7) rfl rfl (any_of HT_.out (by kernel_rfl)) (fun _ _ _ h => h) (Or.inl ⟨by rfl, ?_⟩) ?_ ?_
                          rotate_left
                          ·intro w'
                           go_simp
                           with_reducible rfl
                          rotate_left
                          ·simp only [Act.put, sA, sB, sC, i64_w, i32_w]
                           rfl
                          refine pure_ (i := 4) (N := some 61) (v := ?_) (a' := ?_) (bb 45 23) rfl rfl (any_of HT_.out (by kernel_rfl)) (fun _ _ _ h => h) (Or.inl ⟨by rfl, ?_⟩) ?_ ?_
                          rotate_left
                          ·intro w'
                           go_simp
                           with_reducible rfl
                          rotate_left
                          ·simp only [Act.put, sA, sB, sC, i64_w, i32_w]
                           rfl
                          refine pure_ (i := 5) (N := some 62) (v := ?_) (a' := ?_) (bb 45 55) rfl rfl (any_of HT_.out (by kernel_rfl)) (fun _ _ _ h => h) (Or.inl ⟨by rfl, ?_⟩) ?_ ?_
                          rotate_left
                          ·intro w'
                           go_simp
                           with_reducible rfl
                          rotate_left
                          ·simp only [Act.put, sA, sB, sC, i64_w, i32_w]
                           rfl
                          refine pure_ (i := 6) (N := some 63) (v := ?_) (a' := ?_) (bb 45 119) rfl rfl (any_of HT_.out (by kernel_rfl)) (fun _ _ _ h => h) (Or.inl ⟨by rfl, ?_⟩) ?_ ?_
                          rotate_left
                          ·intro w'
                           go_simp
                           with_reducible rfl
                          rotate_left
                          ·simp only [Act.put, sA, sB, sC, i64_w, i32_w]
                           rfl
                          refine pure_ (i := 7) (N := some 64) (v := ?_) (a' := ?_) (bb 45 247) rfl rfl (any_of HT_.out (by kernel_rfl)) (fun _ _ _ h => h) (Or.inl ⟨by rfl, ?_⟩) ?_ ?_
                          rotate_left
                          ·intro w'
                           go_simp
                           with_reducible rfl
                          rotate_left
                          ·simp only [Act.put, sA, sB, sC, i64_w, i32_w]
                           rfl
                          refine pure_ (i := 9) (N := some 66) (v := ?_) (a' := ?_) (bb 45 759) rfl rfl (any_of HT_.out (by kernel_rfl)) (fun _ _ _ h => h) (Or.inl ⟨by rfl, ?_⟩) ?_ ?_
                          rotate_left
                          ·intro w'
                           go_simp
                           with_reducible rfl
                          rotate_left
                          ·simp only [Act.put, sA, sB, sC, i64_w, i32_w]
                           rfl
                          refine pure_ (i := 10) (N := some 67) (v := ?_) (a' := ?_) (bb 45 1783) rfl rfl (any_of HT_.out (by kernel_rfl)) (fun _ _ _ h => h) (Or.inl ⟨by rfl, ?_⟩) ?_ ?_
                          rotate_left
                          ·intro w'
                           go_simp
                           with_reducible rfl
                          rotate_left
                          ·simp only [Act.put, sA, sB, sC, i64_w, i32_w]
                           rfl
                          refine pure_ (i := 11) (N := some 68) (v := ?_) (a' := ?_) (bb 45 3831) rfl rfl (any_of HT_.out (by kernel_rfl)) (fun _ _ _ h => h) (Or.inl ⟨by rfl, ?_⟩) ?_ ?_
                          rotate_left
                          ·intro w'
                           go_simp
                           with_reducible rfl
                          rotate_left
                          ·simp only [Act.put, sA, sB, sC, i64_w, i32_w]
                           rfl
                          refine pure_ (i := 14) (N := some 71) (v := ?_) (a' := ?_) (bb 45 20215) rfl rfl (any_of HT_.out (by kernel_rfl)) (fun _ _ _ h => h) (Or.inl ⟨by rfl, ?_⟩) ?_ ?_
                          rotate_left
                          ·intro w'
                           go_simp
                           with_reducible rfl
                          rotate_left
                          ·simp only [Act.put, sA, sB, sC, i64_w, i32_w]
                           rfl
                          refine pure_ (i := 15) (N := some 72) (v := ?_) (a' := ?_) (bb 45 52983) rfl rfl (any_of HT_.out (by kernel_rfl)) (fun _ _ _ h => h) (Or.inl ⟨by rfl, ?_⟩) ?_ ?_
                          rotate_left
                          ·intro w'
                           go_simp
                           with_reducible rfl
                          rotate_left
                          ·simp only [Act.put, sA, sB, sC, i64_w, i32_w]
                           rfl
                          refine pure_ (i := 16) (N := some 73) (v := ?_) (a' := ?_) (bb 45 118519) rfl rfl (any_of HT_.out (by kernel_rfl)) (fun _ _ _ h => h) (Or.inl ⟨by rfl, ?_⟩) ?_ ?_
                          rotate_left
                          ·intro w'
                           go_simp
                           with_reducible rfl
                          rotate_left
                          ·simp only [Act.put, sA, sB, sC, i64_w, i32_w]
                           rfl
                          refine pure_ (i := 17) (N := some 74) (v := ?_) (a' := ?_) (bb 45 249591) rfl rfl (any_of HT_.out (by kernel_rfl)) (fun _ _ _ h => h) (Or.inl ⟨by rfl, ?_⟩) ?_ ?_
                          rotate_left
                          ·intro w'
                           go_simp
                           with_reducible rfl
                          rotate_left
                          ·simp only [Act.put, sA, sB, sC, i64_w, i32_w]
                           rfl
                          refine pure_ (i := 19) (N := some 76) (v := ?_) (a' := ?_) (bb 45 773879) rfl rfl (any_of HT_.out (by kernel_rfl)) (fun _ _ _ h => h) (Or.inl ⟨by rfl, ?_⟩) ?_ ?_
                          rotate_left
                          ·intro w'
                           go_simp
                           with_reducible rfl
                          rotate_left
                          ·simp only [Act.put, sA, sB, sC, i64_w, i32_w]
                           rfl
                          refine pure_ (i := 20) (N := some 77) (v := ?_) (a' := ?_) (bb 45 1822455) rfl rfl (any_of HT_.out (by kernel_rfl)) (fun _ _ _ h => h) (Or.inl ⟨by rfl, ?_⟩) ?_ ?_
                          rotate_left
                          ·intro w'
                           go_simp
                           with_reducible rfl
                          rotate_left
                          ·simp only [Act.put, sA, sB, sC, i64_w, i32_w]
                           rfl
                          refine pure_ (i := 24) (N := some 81) (v := ?_) (a' := ?_) (bb 45 18599671) rfl rfl (any_of HT_.out (by kernel_rfl)) (fun _ _ _ h => h) (Or.inl ⟨by rfl, ?_⟩) ?_ ?_
                          rotate_left
                          ·intro w'
                           go_simp
                           with_reducible rfl
                          rotate_left
                          ·simp only [Act.put, sA, sB, sC, i64_w, i32_w]
                           rfl
                          refine pure_ (i := 25) (N := some 82) (v := ?_) (a' := ?_) (bb 45 52154103) rfl rfl (any_of HT_.out (by kernel_rfl)) (fun _ _ _ h => h) (Or.inl ⟨by rfl, ?_⟩) ?_ ?_
                          rotate_left
                          ·intro w'
                           go_simp
                           with_reducible rfl
                          rotate_left
                          ·simp only [Act.put, sA, sB, sC, i64_w, i32_w]
                           rfl
                          refine pure_ (i := 26) (N := some 83) (v := ?_) (a' := ?_) (bb 45 119262967) rfl rfl (any_of HT_.out (by kernel_rfl)) (fun _ _ _ h => h) (Or.inl ⟨by rfl, ?_⟩) ?_ ?_
                          rotate_left
                          ·intro w'
                           go_simp
                           with_reducible rfl
                          rotate_left
                          ·simp only [Act.put, sA, sB, sC, i64_w, i32_w]
                           rfl
                          refine pure_ (i := 27) (N := some 84) (v := ?_) (a' := ?_) (bb 45 253480695) rfl rfl (any_of HT_.out (by kernel_rfl)) (fun _ _ _ h => h) (Or.inl ⟨by rfl, ?_⟩) ?_ ?_
                          rotate_left
                          ·intro w'
                           go_simp
                           with_reducible rfl
                          rotate_left
                          ·simp only [Act.put, sA, sB, sC, i64_w, i32_w]
                           rfl
                          refine pure_ (i := 29) (N := some 86) (v := ?_) (a' := ?_) (bb 45 790351607) rfl rfl (any_of HT_.out (by kernel_rfl)) (fun _ _ _ h => h) (Or.inl ⟨by rfl, ?_⟩) ?_ ?_
                          rotate_left
                          ·intro w'
                           go_simp
                           with_reducible rfl
                          rotate_left
                          ·simp only [Act.put, sA, sB, sC, i64_w, i32_w]
                           rfl
                          refine pure_ (i := 33) (N := some 90) (v := ?_) (a' := ?_) (bb 45 9380286199) rfl rfl (any_of HT_.out (by kernel_rfl)) (fun _ _ _ h => h) (Or.inl ⟨by rfl, ?_⟩) ?_ ?_
                          rotate_left
                          ·intro w'
                           go_simp
                           with_reducible rfl
                          rotate_left
                          ·simp only [Act.put, sA, sB, sC, i64_w, i32_w]
                           rfl
                          refine pure_ (i := 34) (N := some 91) (v := ?_) (a' := ?_) (bb 45 26560155383) rfl rfl (any_of HT_.out (by kernel_rfl)) (fun _ _ _ h => h) (Or.inl ⟨by rfl, ?_⟩) ?_ ?_
                          rotate_left
                          ·intro w'
                           go_simp
                           with_reducible rfl
                          rotate_left
                          ·simp only [Act.put, sA, sB, sC, i64_w, i32_w]
                           rfl
                          refine pure_ (i := 35) (N := some 92) (v := ?_) (a' := ?_) (bb 45 60919893751) rfl rfl (any_of HT_.out (by kernel_rfl)) (fun _ _ _ h => h) (Or.inl ⟨by rfl, ?_⟩) ?_ ?_
                          rotate_left
                          ·intro w'
                           go_simp
                           with_reducible rfl
                          rotate_left
                          ·simp only [Act.put, sA, sB, sC, i64_w, i32_w]
                           rfl
                          refine pure_ (i := 37) (N := some 94) (v := ?_) (a' := ?_) (bb 45 198358847223) rfl rfl (any_of HT_.out (by kernel_rfl)) (fun _ _ _ h => h) (Or.inl ⟨by rfl, ?_⟩) ?_ ?_
                          rotate_left
                          ·intro w'
                           go_simp
                           with_reducible rfl
                          rotate_left
                          ·simp only [Act.put, sA, sB, sC, i64_w, i32_w]
                           rfl
                          refine pure_ (i := 38) (N := some 95) (v := ?_) (a' := ?_) (bb 45 473236754167) rfl rfl (any_of HT_.out (by kernel_rfl)) (fun _ _ _ h => h) (Or.inl ⟨by rfl, ?_⟩) ?_ ?_
                          rotate_left
                          ·intro w'
                           go_simp
                           with_reducible rfl
                          rotate_left
                          ·simp only [Act.put, sA, sB, sC, i64_w, i32_w]
                           rfl
                          refine take_ (i := 3) (N := some 60) (v := ?_) (a' := ?_) (bb 45 473236754175) rfl rfl (take_ofW HT_.out HW_.out (by kernel_rfl)) (fun _ _ _ h => h) (Or.inl ⟨by rfl, ?_⟩) hHeld ?_ ?_
                          rotate_left
                          ·rintro w' ⟨s0, s1, s2, s3, s4, s5, s6, s7, s8, s9, s10, s11⟩
                           go_simp
                           with_reducible rfl
                          rotate_left
                          ·simp only [Act.put, sA, sB, sC, i64_w, i32_w]
                           rfl
                          refine take_ (i := 8) (N := some 65) (v := ?_) (a' := ?_) (bb 45 473236754431) rfl rfl (take_ofW HT_.out HW_.out (by kernel_rfl)) (fun _ _ _ h => h) (Or.inl ⟨by rfl, ?_⟩) hHeld ?_ ?_
                          rotate_left
                          ·rintro w' ⟨s0, s1, s2, s3, s4, s5, s6, s7, s8, s9, s10, s11⟩
                           go_simp
                           with_reducible rfl
                          rotate_left
                          ·simp only [Act.put, sA, sB, sC, i64_w, i32_w]
                           rfl
                          refine take_ (i := 12) (N := some 69) (v := ?_) (a' := ?_) (bb 45 473236758527) rfl rfl (take_ofW HT_.out HW_.out (by kernel_rfl)) (fun _ _ _ h => h) (Or.inl ⟨by rfl, ?_⟩) hHeld ?_ ?_
                          rotate_left
                          ·rintro w' ⟨s0, s1, s2, s3, s4, s5, s6, s7, s8, s9, s10, s11⟩
                           go_simp
                           with_reducible rfl
                          rotate_left
                          ·simp only [Act.put, sA, sB, sC, i64_w, i32_w]
                           rfl
                          refine take_ (i := 18) (N := some 75) (v := ?_) (a' := ?_) (bb 45 473237020671) rfl rfl (take_ofW HT_.out HW_.out (by kernel_rfl)) (fun _ _ _ h => h) (Or.inl ⟨by rfl, ?_⟩) hHeld ?_ ?_
                          rotate_left
                          ·rintro w' ⟨s0, s1, s2, s3, s4, s5, s6, s7, s8, s9, s10, s11⟩
                           go_simp
                           with_reducible rfl
                          rotate_left
                          ·simp only [Act.put, sA, sB, sC, i64_w, i32_w]
                           rfl
                          refine pure_ (i := 21) (N := some 78) (v := ?_) (a' := ?_) (bb 45 473239117823) rfl rfl (any_of HT_.out (by kernel_rfl)) (fun _ _ _ h => h) (Or.inl ⟨by rfl, ?_⟩) ?_ ?_
                          rotate_left
                          ·intro w'
                           go_simp
                           with_reducible rfl
                          rotate_left
                          ·simp only [Act.put, sA, sB, sC, i64_w, i32_w]
                           rfl
                          refine take_ (i := 22) (N := some 79) (v := ?_) (a' := ?_) (bb 45 473243312127) rfl rfl (take_ofW HT_.out HW_.out (by kernel_rfl)) (fun _ _ _ h => h) (Or.inl ⟨by rfl, ?_⟩) hHeld ?_ ?_
                          rotate_left
                          ·rintro w' ⟨s0, s1, s2, s3, s4, s5, s6, s7, s8, s9, s10, s11⟩
                           go_simp
                           with_reducible rfl
                          rotate_left
                          ·simp only [Act.put, sA, sB, sC, i64_w, i32_w]
                           rfl
                          refine take_ (i := 28) (N := some 85) (v := ?_) (a' := ?_) (bb 45 473511747583) rfl rfl (take_ofW HT_.out HW_.out (by kernel_rfl)) (fun _ _ _ h => h) (Or.inl ⟨by rfl, ?_⟩) hHeld ?_ ?_
                          rotate_left
                          ·rintro w' ⟨s0, s1, s2, s3, s4, s5, s6, s7, s8, s9, s10, s11⟩
                           go_simp
                           with_reducible rfl
                          rotate_left
                          ·simp only [Act.put, sA, sB, sC, i64_w, i32_w]
                           rfl
                          refine pure_ (i := 30) (N := some 87) (v := ?_) (a' := ?_) (bb 45 474585489407) rfl rfl (any_of HT_.out (by kernel_rfl)) (fun _ _ _ h => h) (Or.inl ⟨by rfl, ?_⟩) ?_ ?_
                          rotate_left
                          ·intro w'
                           go_simp
                           with_reducible rfl
                          rotate_left
                          ·simp only [Act.put, sA, sB, sC, i64_w, i32_w]
                           rfl
                          refine take_ (i := 31) (N := some 88) (v := ?_) (a' := ?_) (bb 45 476732973055) rfl rfl (take_ofW HT_.out HW_.out (by kernel_rfl)) (fun _ _ _ h => h) (Or.inl ⟨by rfl, ?_⟩) hHeld ?_ ?_
                          rotate_left
                          ·rintro w' ⟨s0, s1, s2, s3, s4, s5, s6, s7, s8, s9, s10, s11⟩
                           go_simp
                           with_reducible rfl
                          rotate_left
                          ·simp only [Act.put, sA, sB, sC, i64_w, i32_w]
                           rfl
                          refine pure_ (i := 32) (N := some 89) (v := ?_) (a' := ?_) (bb 45 481027940351) rfl rfl (any_of HT_.out (by kernel_rfl)) (fun _ _ _ h => h) (Or.inl ⟨by rfl, ?_⟩) ?_ ?_
                          rotate_left
                          ·intro w'
                           go_simp
                           with_reducible rfl
                          rotate_left
                          ·simp only [Act.put, sA, sB, sC, i64_w, i32_w]
                           rfl
                          refine take_ (i := 36) (N := some 93) (v := ?_) (a' := ?_) (bb 45 549747417087) rfl rfl (take_ofW HT_.out HW_.out (by kernel_rfl)) (fun _ _ _ h => h) (Or.inl ⟨by rfl, ?_⟩) hHeld ?_ ?_
                          rotate_left
                          ·rintro w' ⟨s0, s1, s2, s3, s4, s5, s6, s7, s8, s9, s10, s11⟩
                           go_simp
                           with_reducible rfl
                          rotate_left
                          ·simp only [Act.put, sA, sB, sC, i64_w, i32_w]
                           rfl
                          refine pure_ (i := 39) (N := some 96) (v := ?_) (a' := ?_) (bb 45 1099503230975) rfl rfl (any_of HT_.out (by kernel_rfl)) (fun _ _ _ h => h) (Or.inl ⟨by rfl, ?_⟩) ?_ ?_
                          rotate_left
                          ·intro w'
                           go_simp
                           with_reducible rfl
                          rotate_left
                          ·simp only [Act.put, sA, sB, sC, i64_w, i32_w]
                           rfl
                          refine take_ (i := 40) (N := some 97) (v := ?_) (a' := ?_) (bb 45 2199014858751) rfl rfl (take_ofW HT_.out HW_.out (by kernel_rfl)) (fun _ _ _ h => h) (Or.inl ⟨by rfl, ?_⟩) hHeld ?_ ?_
                          rotate_left
                          ·rintro w' ⟨s0, s1, s2, s3, s4, s5, s6, s7, s8, s9, s10, s11⟩
                           go_simp
                           with_reducible rfl
                          rotate_left
                          ·simp only [Act.put, sA, sB, sC, i64_w, i32_w]
                           rfl
                          refine pure_ (i := 41) (N := some 98) (v := ?_) (a' := ?_) (bb 45 4398038114303) rfl rfl (any_of HT_.out (by kernel_rfl)) (fun _ _ _ h => h) (Or.inl ⟨by rfl, ?_⟩) ?_ ?_
                          rotate_left
                          ·intro w'
                           go_simp
                           with_reducible rfl
                          rotate_left
                          ·simp only [Act.put, sA, sB, sC, i64_w, i32_w]
                           rfl
                          refine one_ (i := 13) (N := some 70) (bb 45 4398038122495) rfl rfl (one_of HT_.out (by kernel_rfl)) (by decide) (fun K hK => ?_)
                          refine goes_ Try.func22 (by kernel_rfl) rfl #[.agg #[.int .i64 ((rd_T43 l0 x6_1).f0), .bool ((rd_T43 l0 x6_1).f1), .int .i64 ((rd_T43 l0 x6_1).f2)], .agg #[.int .i64 ((rd_T45 l1 x7_2).f0), .bool ((rd_T45 l1 x7_2).f1)]] (by rfl) rfl rfl (by (try simp only [List.map_toArray, List.map_cons, List.map_nil]); first | done | rfl | (simp only [List.length_drop, List.length_take]; rfl)) ?_
                          with_reducible refine (wageofficeref22_Cost.calls ((rd_T43 l0 x6_1).f0) ((rd_T43 l0 x6_1).f1) ((rd_T43 l0 x6_1).f2) ((rd_T45 l1 x7_2).f0) ((rd_T45 l1 x7_2).f1) t157 _ A27.out).mono ?_
                          rintro e w43 ⟨rfl, hb⟩
                          have HS0_ := (hb.cell (World.block_lt_of_cell? _ _ (hHeld.1))).trans (hHeld.1)
                          have HS6_ := (hb.cell (World.block_lt_of_cell? _ _ (hHeld.2.2.2.2.2.2.1))).trans (hHeld.2.2.2.2.2.2.1)
                          have HS7_ := (hb.cell (World.block_lt_of_cell? _ _ (hHeld.2.2.2.2.2.2.2.1))).trans (hHeld.2.2.2.2.2.2.2.1)
                          have HS8_ := (hb.cell (World.block_lt_of_cell? _ _ (hHeld.2.2.2.2.2.2.2.2.1))).trans (hHeld.2.2.2.2.2.2.2.2.1)
                          have HS9_ := (hb.cell (World.block_lt_of_cell? _ _ (hHeld.2.2.2.2.2.2.2.2.2.1))).trans (hHeld.2.2.2.2.2.2.2.2.2.1)
                          have HS10_ := (hb.cell (World.block_lt_of_cell? _ _ (hHeld.2.2.2.2.2.2.2.2.2.2.1))).trans (hHeld.2.2.2.2.2.2.2.2.2.2.1)
                          have HS11_ := (hb.cell (World.block_lt_of_cell? _ _ (hHeld.2.2.2.2.2.2.2.2.2.2.2))).trans (hHeld.2.2.2.2.2.2.2.2.2.2.2)
                          refine ⟨_, rfl, ?_⟩
                          have n0_ := Aside0.mk (Kd.S_below (by (with_reducible repeat (first | apply Kd.S_alloc | apply Kd.S_drewN | apply Kd.S_drew)); exact HO_5.out) hb)
                          have n1_ := Aside0.mk (Kd.R_below (by (with_reducible repeat (first | apply Kd.R_alloc | apply Kd.R_drewN | apply Kd.R_drew)); exact HL167.out) hb)
                          have n2_ := Aside0.mk (Kd.R_below (by (with_reducible repeat (first | apply Kd.R_alloc | apply Kd.R_drewN | apply Kd.R_drew)); exact HL154_0.out) hb)
                          have n3_ := Aside0.mk (Kd.R_below (by (with_reducible repeat (first | apply Kd.R_alloc | apply Kd.R_drewN | apply Kd.R_drew)); exact HL158_0.out) hb)
                          have n4_ := Aside0.mk (Kd.R_below (by (with_reducible repeat (first | apply Kd.R_alloc | apply Kd.R_drewN | apply Kd.R_drew)); exact HL160_0.out) hb)
                          have n5_ := Aside0.mk (Kd.R_below (by (with_reducible repeat (first | apply Kd.R_alloc | apply Kd.R_drewN | apply Kd.R_drew)); exact HL162_0.out) hb)
                          have n6_ := Aside0.mk (Kd.C_below (by repeat (first | (with_reducible exact HR154_0.out) | (with_reducible refine Kd.C_alloc ?_ _) | (with_reducible refine Kd.C_drewN ?_ _) | (with_reducible refine Kd.C_drew ?_) | exact HR154_0.out)) hb)
                          have n7_ := Aside0.mk (pw_cell_below hb HX154_0.out)
                          have n8_ := Aside0.mk (Kd.C_below (by repeat (first | (with_reducible exact HR158_0.out) | (with_reducible refine Kd.C_alloc ?_ _) | (with_reducible refine Kd.C_drewN ?_ _) | (with_reducible refine Kd.C_drew ?_) | exact HR158_0.out)) hb)
                          have n9_ := Aside0.mk (pw_cell_below hb HX158_0.out)
                          have n10_ := Aside0.mk (Kd.C_below (by repeat (first | (with_reducible exact HR160_0.out) | (with_reducible refine Kd.C_alloc ?_ _) | (with_reducible refine Kd.C_drewN ?_ _) | (with_reducible refine Kd.C_drew ?_) | exact HR160_0.out)) hb)
                          have n11_ := Aside0.mk (pw_cell_below hb HX160_0.out)
                          have n12_ := Aside0.mk (Kd.C_below (by repeat (first | (with_reducible exact HR162_0.out) | (with_reducible refine Kd.C_alloc ?_ _) | (with_reducible refine Kd.C_drewN ?_ _) | (with_reducible refine Kd.C_drew ?_) | exact HR162_0.out)) hb)
                          have n13_ := Aside0.mk (pw_cell_below hb HX162_0.out)
                          have n14_ := Aside0.mk (below_step (by repeat (first | (with_reducible first | exact HB.out | apply below_alloc | apply pw_below_drewN | apply below_drew1) | exact HB.out)) hb)
                          clear HO_5
                          clear HL167
                          clear HL154_0
                          clear HL158_0
                          clear HL160_0
                          clear HL162_0
                          clear HR154_0
                          clear HX154_0
                          clear HR158_0
                          clear HX158_0
                          clear HR160_0
                          clear HX160_0
                          clear HR162_0
                          clear HX162_0
                          clear HB
                          have HO_5 := n0_
                          have HL167 := n1_
                          have HL154_0 := n2_
                          have HL158_0 := n3_
                          have HL160_0 := n4_
                          have HL162_0 := n5_
                          have HR154_0 := n6_
                          have HX154_0 := n7_
                          have HR158_0 := n8_
                          have HX158_0 := n9_
                          have HR160_0 := n10_
                          have HX160_0 := n11_
                          have HR162_0 := n12_
                          have HX162_0 := n13_
                          have HB := n14_
                          clear n0_ n1_ n2_ n3_ n4_ n5_ n6_ n7_ n8_ n9_ n10_ n11_ n12_ n13_ n14_
                          (try clear hb)
                          (try clear hb2)
                          (try clear hk)
                          (try clear hi)
                          have p39 : 0 ≤ (x7_2 : Int) := of_decide_eq_true (by first | (with_reducible assumption) | assumption)
                          have q39 : (x7_2 : Int) < (((rd_L9 y153 x6_1).length : Int) : Int) := of_decide_eq_true (by first | (with_reducible assumption) | assumption)
                          obtain ⟨go39, co39, eo39, gb39, gl39, cl39, HG39⟩ := Kd.R_form HL154_0.out (by omega)
                          (first | cases eo39 | (injection eo39 with ea_ en_ ec_; (first | subst ea_ | (injection ea_ with ea_; subst ea_)); subst ec_; clear en_))
                          have GB39 := Aside0.mk gb39
                          have GG39 := Aside0.mk HG39
                          clear gb39 gl39 HG39
                          (first | simp only [add_plain] at hx163_0 | skip)
                          obtain ⟨hx39_0, hf39_0⟩ := Kd.R_celln 0 HL154_0.out (x7_2 : Int) p39 q39
                          replace p39 := eq_true p39
                          replace q39 := eq_true q39
                          have hq44 : (x6_1 : Int) < (y153.length : Int) := (by have h_ : (x6_1 : Int) < ((x5_2.length : Int) : Int) := of_decide_eq_true (by first | (with_reducible assumption) | assumption); first | exact h_ | (have e_ := (Kd.S_reads' HO_5.out).1; omega) | simpa only [Ny153.out, List.length_set] using h_)
                          obtain ⟨oki44, ce44, hcl44, hM44, hcc44, hok44, hbk44⟩ := Kd.S_borrow HO_5.out [] (x6_1 : Int) (of_decide_eq_true (by first | (with_reducible assumption) | assumption)) (by first | exact hq44 | (have h_ := hq44; rw [Ny153.out, List.length_set] at h_; exact h_))
                          obtain ⟨ve44_0, rfl, ge44_0⟩ := hM44
                          have hv44 := hcc44 0 _ rfl
                          rw [Nat.add_zero, show ((Kd.slice 3 (Kd.int .i64))).sz = 1 from rfl, Nat.mul_one] at hv44
                          replace hv44 := Option.some.inj (hv44.symm.trans HX154_0.out)
                          subst hv44
                          clear hcc44 hcl44
                          replace ge44_0 := (show Kd.R (Kd.int .i64) 3 _ _ _ _ (rd_L9 y153 x6_1) from ge44_0)
                          have HP44 := Kd.R_putg ge44_0 (x7_2 : Int) ji37
                          rw [← Ny164.out] at HP44
                          have HS44 := hbk44 HP44.2 (fun k_ e_ => by injection e_ with e_; subst e_; exact ge44_0.1 _ rfl) (x' := y164) (Kd.M_row HP44.1)
                          rw [← Ny166.out] at HS44
                          have HQ44 := Aside0.mk HS44
                          clear HP44 HS44 hbk44 hok44
                          refine hK.out _ _ ⟨HS0_, ((HB.out.cell (World.block_lt_of_cell? w _ hw155_0)).trans hw155_0), ((HB.out.cell (World.block_lt_of_cell? w _ hw155_1)).trans hw155_1), ((HB.out.cell (World.block_lt_of_cell? w _ hw155_2)).trans hw155_2), ((HB.out.cell (World.block_lt_of_cell? w _ hw156_0)).trans hw156_0), ((HB.out.cell (World.block_lt_of_cell? w _ hw156_1)).trans hw156_1), HS6_, HS7_, HS8_, HS9_, HS10_, HS11_⟩ (fun hHeld => ?_)
                          clear hK K
                          refine norm_ (a' := ?_) ?_ ?_
                          rotate_left
                          ·show Act.put _ (some 70) _ = _
                           simp only [Act.put, sA, sB, sC, i64_w, i32_w]
                           rfl
                          refine pure_ (i := 23) (N := some 80) (v := ?_) (a' := ?_) (bb 45 4398046511103) rfl rfl (any_of HT_.out (by kernel_rfl)) (fun _ _ _ h => h) (Or.inl ⟨by rfl, ?_⟩) ?_ ?_
                          rotate_left
                          ·intro w'
                           go_simp
                           with_reducible rfl
                          rotate_left
                          ·simp only [Act.put, sA, sB, sC, i64_w, i32_w]
                           rfl
                          refine pure_ (i := 42) (N := some 99) (v := ?_) (a' := ?_) (bb 45 8796093022207) rfl rfl (any_of HT_.out (by kernel_rfl)) (fun _ _ _ h => h) (Or.inl ⟨by rfl, ?_⟩) ?_ ?_
                          rotate_left
                          ·intro w'
                           go_simp
                           with_reducible rfl
                          rotate_left
                          ·simp only [Act.put, sA, sB, sC, i64_w, i32_w]
                           rfl
                          refine pure_ (i := 43) (N := some 100) (v := ?_) (a' := ?_) (bb 45 17592186044415) rfl rfl (any_of HT_.out (by kernel_rfl)) (fun _ _ _ h => h) (Or.inl ⟨by rfl, ?_⟩) ?_ ?_
                          rotate_left
                          ·intro w'
                           go_simp
                           with_reducible rfl
                          rotate_left
                          ·simp only [Act.put, sA, sB, sC, i64_w, i32_w]
                           rfl
                          refine last_ (i := 44) (N := none) (bb 45 35184372088831) rfl rfl (one_of HT_.out (by kernel_rfl)) (by decide) (fun K hK => ?_)
                          refine skip_ (w1 := ?_) (by rfl) rfl ?_ ?_
                          rotate_left
                          ·go_simp
                           rfl
                          refine hK.out _ _ ?_
                          clear hK K
                          refine done_ (done_of HT_.out (by kernel_rfl)) ?_
                          try go_wp2
                          (try simp only [← hl5_2])
                          go_roundg k2
                          case measure => have := HK1.out; have := HK2.out; omega
                          case rel => exact ⟨(y166), (wrap64 (x7_2 - 1)), (by first | rfl | (simp; done) | (simp [*]; done)), H', ⟨by have := HK1.out; have := HK2.out; omega⟩, ⟨by (try simp only [hl5_2]); (with_reducible repeat (first | apply Kd.S_alloc | apply Kd.S_drewN | apply Kd.S_drew)); exact HQ44.out⟩, ⟨by repeat (first | (with_reducible first | exact HB.out | apply below_alloc | apply pw_below_drewN | apply below_drew1 | refine below_set ?_ GB39.out) | exact HB.out)⟩⟩
                         ·rw [if_neg c38] at H
                          exact absurd H (by simp)
                        ·rw [if_neg c35] at H
                         exact absurd H (by simp)
                       ·rw [if_neg c34] at H
                        exact absurd H (by simp)
                      ·rw [if_neg c33] at H
                       exact absurd H (by simp)
                     ·rw [if_neg c32] at H
                      exact absurd H (by simp)
                    ·rw [if_neg c30] at H
                     exact absurd H (by simp)
                   ·rw [if_neg c29] at H
                    exact absurd H (by simp)
                  ·rw [if_neg c26] at H
                   have c26b0 : decide (x7_2 < (l1.length : Int)) = false := decide_eq_false c26
                   clear c26
                   have H' := Aside0.mk H
                   clear H
                   have p150 : 0 ≤ (x6_1 : Int) := of_decide_eq_true (by first | (with_reducible assumption) | assumption)
                   have q150 : x6_1 < (x5_2.length : Int) := of_decide_eq_true (by first | (with_reducible assumption) | assumption)
                   obtain ⟨ad150, A150_0, c150_0, e150, hx150_0, hl150_0, hi150_0⟩ := at_L9 (Kd.S_reads' HO_5.out).2.2 x6_1 p150 q150
                   obtain rfl : (⟨go14, 0, none⟩ : Addr) = ad150 := (by injection e150)
                   obtain ⟨ce150, hce150, hMe150, hcc150⟩ := Kd.S_get HO_5.out [] x6_1 p150 (by first | exact q150 | exact of_decide_eq_true (by first | (with_reducible assumption) | assumption) | (have e_ := (Kd.S_reads' HO_5.out).1; omega))
                   obtain ⟨ve150_0, rfl, ge150_0⟩ := hMe150
                   have hv150_0 := hcc150 0 _ rfl
                   rw [Nat.add_zero, show ((Kd.slice 3 (Kd.int .i64))).sz = 1 from rfl, Nat.mul_one] at hv150_0
                   replace hv150_0 := Option.some.inj (hv150_0.symm.trans hx150_0)
                   rw [hv150_0] at ge150_0
                   have HL150_0 := Aside0.mk (show Kd.R (Kd.int .i64) 3 _ _ _ _ (rd_L9 x5_2 x6_1) from ge150_0)
                   clear hv150_0 ge150_0
                   have HX150_0 := Aside0.mk hx150_0
                   clear hcc150 hce150
                   (first | simp only [add_plain] at hx150_0 | simp only [add_at] at hx150_0 | simp only [Addr.add, Nat.zero_add] at hx150_0 | skip)
                   have HR150_0 := Aside0.mk hi150_0
                   have HC150_0 := Aside0.mk hl150_0
                   clear hi150_0 hl150_0
                   replace p150 := eq_true p150
                   replace q150 := eq_true q150
                   have p24 : 0 ≤ (x7_2 : Int) := of_decide_eq_true (by first | (with_reducible assumption) | assumption)
                   have q24 : (x7_2 : Int) < (((rd_L9 x5_2 x6_1).length : Int) : Int) := of_decide_eq_true (by first | (with_reducible assumption) | assumption)
                   obtain ⟨go24, co24, eo24, gb24, gl24, cl24, HG24⟩ := Kd.R_form HL150_0.out (by omega)
                   (first | cases eo24 | (injection eo24 with ea_ en_ ec_; (first | subst ea_ | (injection ea_ with ea_; subst ea_)); subst ec_; clear en_))
                   have GB24 := Aside0.mk gb24
                   have GG24 := Aside0.mk HG24
                   clear gb24 gl24 HG24
                   obtain ⟨hx24_0, hf24_0⟩ := Kd.R_celln 0 HL150_0.out (x7_2 : Int) p24 q24
                   replace p24 := eq_true p24
                   replace q24 := eq_true q24
                   have hq46 : (x6_1 : Int) < (x5_2.length : Int) := (by have h_ : (x6_1 : Int) < ((x5_2.length : Int) : Int) := of_decide_eq_true (by first | (with_reducible assumption) | assumption); first | exact h_ | (have e_ := (Kd.S_reads' HO_5.out).1; omega) | simpa only [List.length_set, List.length_set] using h_)
                   obtain ⟨oki46, ce46, hcl46, hM46, hcc46, hok46, hbk46⟩ := Kd.S_borrow HO_5.out [] (x6_1 : Int) (of_decide_eq_true (by first | (with_reducible assumption) | assumption)) (by first | exact hq46 | (have h_ := hq46; rw [Ny153.out, List.length_set] at h_; exact h_))
                   obtain ⟨ve46_0, rfl, ge46_0⟩ := hM46
                   have hv46 := hcc46 0 _ rfl
                   rw [Nat.add_zero, show ((Kd.slice 3 (Kd.int .i64))).sz = 1 from rfl, Nat.mul_one] at hv46
                   replace hv46 := Option.some.inj (hv46.symm.trans HX150_0.out)
                   subst hv46
                   clear hcc46 hcl46
                   replace ge46_0 := (show Kd.R (Kd.int .i64) 3 _ _ _ _ (rd_L9 x5_2 x6_1) from ge46_0)
                   have HP46 := Kd.R_putg ge46_0 (x7_2 : Int) (wrap64 (120 * (wrap64 ((wrap64 ((wrap64 ((l0.length : Int) - x6_1)) + (l1.length : Int))) - x7_2))))
                   go_wp2_with (first | ((with_reducible refine gate_store (t := 3) (p := 46) rfl ?_); refine store_event (t := 3) (p := 46) (v := ?vo_w47) (w1 := (wr.setCell ⟨go24, (x7_2 : Int).toNat, none⟩ (.int .i64 (wrap64 (120 * (wrap64 ((wrap64 ((wrap64 ((l0.length : Int) - x6_1)) + (l1.length : Int))) - x7_2))))))) ?hg ?ho ?hn ?hr ?_; (case ho => rfl); (case hg => rfl); (case hn => rfl); (case hr => first | (go_simp; done) | (go_simp; rfl)); intro w47 hw; have hg : wr.grownBy w47 (some go24) := (by rw [hw]; exact HP46.2); have hz_ : Kd.R (Kd.int .i64) 3 w47 w.heap.size oki46 (.slice (some ⟨go24, 0, none⟩) (rd_L9 x5_2 x6_1).length c150_0) y151 := (by rw [hw, Ny151.out]; exact HP46.1); have hp_ : Kd.S (Kd.slice 3 (Kd.int .i64)) 30 w47 w.heap.size (fun _ => True) (.slice (some ⟨go14, 0, none⟩) x5_2.length co14) y153 := (by rw [Ny153.out]; exact hbk46 hg (fun k_ e_ => by injection e_ with e_; subst e_; exact ge46_0.1 _ rfl) (Kd.M_row hz_)); have hm_ := Kd.R_mono hz_ hok46; clear HP46 hbk46; have n0_ := Aside0.mk (hp_); have n1_ := Aside0.mk ((by rw [hw]; exact below_set (HB.out) GB24.out : Below w.heap.size w w47)); have n2_ := Aside0.mk (hm_); have n3_ := Aside0.mk ((Kd.R_reads' hm_).2.1); clear HO_5; clear HB; clear HL150_0; have HO_5 := n0_; have HB := n1_; have HL168 := n2_; have HC152 := n3_; clear n0_ n1_ n2_ n3_; clear hg hw hp_ hz_ hm_ hok46))
                   (try simp only [← hl5_2])
                   go_roundg k2
                   case measure => have := HK1.out; have := HK2.out; omega
                   case rel => exact ⟨(y153), (wrap64 (x7_2 - 1)), (by first | rfl | (simp; done) | (simp [*]; done)), H', ⟨by have := HK1.out; have := HK2.out; omega⟩, ⟨by (try simp only [hl5_2]); (with_reducible repeat (first | apply Kd.S_alloc | apply Kd.S_drewN | apply Kd.S_drew)); exact HO_5.out⟩, ⟨by repeat (first | (with_reducible first | exact HB.out | apply below_alloc | apply pw_below_drewN | apply below_drew1) | exact HB.out)⟩⟩
                 ·rw [if_neg c25] at H
                  have c25b0 : decide (x6_1 < (l0.length : Int)) = false := decide_eq_false c25
                  clear c25
                  have H' := Aside0.mk H
                  clear H
                  have p150 : 0 ≤ (x6_1 : Int) := of_decide_eq_true (by first | (with_reducible assumption) | assumption)
                  have q150 : x6_1 < (x5_2.length : Int) := of_decide_eq_true (by first | (with_reducible assumption) | assumption)
                  obtain ⟨ad150, A150_0, c150_0, e150, hx150_0, hl150_0, hi150_0⟩ := at_L9 (Kd.S_reads' HO_5.out).2.2 x6_1 p150 q150
                  obtain rfl : (⟨go14, 0, none⟩ : Addr) = ad150 := (by injection e150)
                  obtain ⟨ce150, hce150, hMe150, hcc150⟩ := Kd.S_get HO_5.out [] x6_1 p150 (by first | exact q150 | exact of_decide_eq_true (by first | (with_reducible assumption) | assumption) | (have e_ := (Kd.S_reads' HO_5.out).1; omega))
                  obtain ⟨ve150_0, rfl, ge150_0⟩ := hMe150
                  have hv150_0 := hcc150 0 _ rfl
                  rw [Nat.add_zero, show ((Kd.slice 3 (Kd.int .i64))).sz = 1 from rfl, Nat.mul_one] at hv150_0
                  replace hv150_0 := Option.some.inj (hv150_0.symm.trans hx150_0)
                  rw [hv150_0] at ge150_0
                  have HL150_0 := Aside0.mk (show Kd.R (Kd.int .i64) 3 _ _ _ _ (rd_L9 x5_2 x6_1) from ge150_0)
                  clear hv150_0 ge150_0
                  have HX150_0 := Aside0.mk hx150_0
                  clear hcc150 hce150
                  (first | simp only [add_plain] at hx150_0 | simp only [add_at] at hx150_0 | simp only [Addr.add, Nat.zero_add] at hx150_0 | skip)
                  have HR150_0 := Aside0.mk hi150_0
                  have HC150_0 := Aside0.mk hl150_0
                  clear hi150_0 hl150_0
                  replace p150 := eq_true p150
                  replace q150 := eq_true q150
                  have p24 : 0 ≤ (x7_2 : Int) := of_decide_eq_true (by first | (with_reducible assumption) | assumption)
                  have q24 : (x7_2 : Int) < (((rd_L9 x5_2 x6_1).length : Int) : Int) := of_decide_eq_true (by first | (with_reducible assumption) | assumption)
                  obtain ⟨go24, co24, eo24, gb24, gl24, cl24, HG24⟩ := Kd.R_form HL150_0.out (by omega)
                  (first | cases eo24 | (injection eo24 with ea_ en_ ec_; (first | subst ea_ | (injection ea_ with ea_; subst ea_)); subst ec_; clear en_))
                  have GB24 := Aside0.mk gb24
                  have GG24 := Aside0.mk HG24
                  clear gb24 gl24 HG24
                  obtain ⟨hx24_0, hf24_0⟩ := Kd.R_celln 0 HL150_0.out (x7_2 : Int) p24 q24
                  replace p24 := eq_true p24
                  replace q24 := eq_true q24
                  have hq48 : (x6_1 : Int) < (x5_2.length : Int) := (by have h_ : (x6_1 : Int) < ((x5_2.length : Int) : Int) := of_decide_eq_true (by first | (with_reducible assumption) | assumption); first | exact h_ | (have e_ := (Kd.S_reads' HO_5.out).1; omega) | simpa only [List.length_set, List.length_set] using h_)
                  obtain ⟨oki48, ce48, hcl48, hM48, hcc48, hok48, hbk48⟩ := Kd.S_borrow HO_5.out [] (x6_1 : Int) (of_decide_eq_true (by first | (with_reducible assumption) | assumption)) (by first | exact hq48 | (have h_ := hq48; rw [Ny153.out, List.length_set] at h_; exact h_))
                  obtain ⟨ve48_0, rfl, ge48_0⟩ := hM48
                  have hv48 := hcc48 0 _ rfl
                  rw [Nat.add_zero, show ((Kd.slice 3 (Kd.int .i64))).sz = 1 from rfl, Nat.mul_one] at hv48
                  replace hv48 := Option.some.inj (hv48.symm.trans HX150_0.out)
                  subst hv48
                  clear hcc48 hcl48
                  replace ge48_0 := (show Kd.R (Kd.int .i64) 3 _ _ _ _ (rd_L9 x5_2 x6_1) from ge48_0)
                  have HP48 := Kd.R_putg ge48_0 (x7_2 : Int) (wrap64 (120 * (wrap64 ((wrap64 ((wrap64 ((l0.length : Int) - x6_1)) + (l1.length : Int))) - x7_2))))
                  go_wp2_with (first | ((with_reducible refine gate_store (t := 3) (p := 46) rfl ?_); refine store_event (t := 3) (p := 46) (v := ?vo_w49) (w1 := (wr.setCell ⟨go24, (x7_2 : Int).toNat, none⟩ (.int .i64 (wrap64 (120 * (wrap64 ((wrap64 ((wrap64 ((l0.length : Int) - x6_1)) + (l1.length : Int))) - x7_2))))))) ?hg ?ho ?hn ?hr ?_; (case ho => rfl); (case hg => rfl); (case hn => rfl); (case hr => first | (go_simp; done) | (go_simp; rfl)); intro w49 hw; have hg : wr.grownBy w49 (some go24) := (by rw [hw]; exact HP48.2); have hz_ : Kd.R (Kd.int .i64) 3 w49 w.heap.size oki48 (.slice (some ⟨go24, 0, none⟩) (rd_L9 x5_2 x6_1).length c150_0) y151 := (by rw [hw, Ny151.out]; exact HP48.1); have hp_ : Kd.S (Kd.slice 3 (Kd.int .i64)) 30 w49 w.heap.size (fun _ => True) (.slice (some ⟨go14, 0, none⟩) x5_2.length co14) y153 := (by rw [Ny153.out]; exact hbk48 hg (fun k_ e_ => by injection e_ with e_; subst e_; exact ge48_0.1 _ rfl) (Kd.M_row hz_)); have hm_ := Kd.R_mono hz_ hok48; clear HP48 hbk48; have n0_ := Aside0.mk (hp_); have n1_ := Aside0.mk ((by rw [hw]; exact below_set (HB.out) GB24.out : Below w.heap.size w w49)); have n2_ := Aside0.mk (hm_); have n3_ := Aside0.mk ((Kd.R_reads' hm_).2.1); clear HO_5; clear HB; clear HL150_0; have HO_5 := n0_; have HB := n1_; have HL169 := n2_; have HC152 := n3_; clear n0_ n1_ n2_ n3_; clear hg hw hp_ hz_ hm_ hok48))
                  (try simp only [← hl5_2])
                  go_roundg k2
                  case measure => have := HK1.out; have := HK2.out; omega
                  case rel => exact ⟨(y153), (wrap64 (x7_2 - 1)), (by first | rfl | (simp; done) | (simp [*]; done)), H', ⟨by have := HK1.out; have := HK2.out; omega⟩, ⟨by (try simp only [hl5_2]); (with_reducible repeat (first | apply Kd.S_alloc | apply Kd.S_drewN | apply Kd.S_drew)); exact HO_5.out⟩, ⟨by repeat (first | (with_reducible first | exact HB.out | apply below_alloc | apply pw_below_drewN | apply below_drew1) | exact HB.out)⟩⟩
                ·rw [if_neg c23] at H
                 exact absurd H (by simp)
               ·rw [if_neg c22] at H
                exact absurd H (by simp)
              ·rw [if_neg c21] at H
               exact absurd H (by simp)
             ·rw [if_neg c20] at H
              exact absurd H (by simp)
            ·rw [if_neg c19] at H
             have c19b0 : decide (0 ≤ x7_2) = false := decide_eq_false c19
             clear c19
             have H' := Aside0.mk H
             clear H
             go_wp2
             (try simp only [← hl5_2])
             go_roundg k2
             case measure => have := HK1.out; have := HK2.out; omega
             case rel => exact ⟨(x5_2), (wrap64 (x6_1 - 1)), (by first | rfl | (simp; done) | (simp [*]; done)), H', ⟨by have := HK1.out; have := HK2.out; omega⟩, ⟨by (try simp only [hl5_2]); (with_reducible repeat (first | apply Kd.S_alloc | apply Kd.S_drewN | apply Kd.S_drew)); exact HO_5.out⟩, ⟨by repeat (first | (with_reducible first | exact HB.out | apply below_alloc | apply pw_below_drewN | apply below_drew1) | exact HB.out)⟩⟩
         ·rw [if_neg c13] at H
          exact absurd H (by simp)
        ·rw [if_neg c12] at H
         exact absurd H (by simp)
       ·rw [if_neg c11] at H
        exact absurd H (by simp)
      ·rw [if_neg c10] at H
       exact absurd H (by simp)
     ·rw [if_neg c8] at H
      have c8b0 : decide (0 ≤ x6_1) = false := decide_eq_false c8
      clear c8
      obtain rfl := Option.some.inj H
      go_wp2
      go_ret
      exact ⟨_, by first | rfl | (simp [errW_none, errW_some] <;> rfl) | (simp only [← hji3]; first | rfl | (simp [errW_none, errW_some] <;> rfl)) | (simp [*, errW_none, errW_some] <;> rfl), by (with_reducible repeat (first | apply Kd.S_alloc | apply Kd.S_drewN | apply Kd.S_drew)); exact HO_5.out, by repeat (first | (with_reducible first | exact HB.out | apply below_alloc | apply pw_below_drewN | apply below_drew1) | exact HB.out)⟩
  ·rw [if_neg c5] at H
   exact absurd H (by simp)
 ·rw [if_neg c4] at H
  exact absurd H (by simp)

end Go.Proofs.Ytpbamfoaoeicgaa.PAll

-- Printed by a program (the kit's print, with functions given by hand) out of the translation: machine-written for this claim.
import Derived.Test.YtpbamfoaoeicgaaPAllx0
import Derived.Test.YtpbamfoaoeicgaaPAllx3
import Derived.Test.YtpbamfoaoeicgaaPAllx4
import Derived.Test.YtpbamfoaoeicgaaPAllx5
import Derived.Test.YtpbamfoaoeicgaaPAllx8
namespace Go.Proofs.Ytpbamfoaoeicgaa.PAll
open Go.RowKit Go.Proofs.YtpbamfoaoeicgaaW.PrintWords Go.Proofs.YtpbamfoaoeicgaaW.PrintLast Go.Proofs.YtpbamfoaoeicgaaW.PrintMore
attribute [local go_sem] max2_int min2_int max_two min_two max_three min_three max_four min_four   -- for this text's walks alone
set_option linter.unusedVariables false
set_option linter.unusedSimpArgs false

/-! ### wageofficelaw22_moved: function 23 -/
mutual
def wageofficelaw22_moved.l0 : Nat → List (S45) → Int → List (S48) → List (S48) → Int → Int → Option ((List (S48)) × (List (S45)))
  | 0, _, _, _, _, _, _ => none
  | k + 1, x1, x2, x8, x14, x15, x16 => if x16 < x15 then (if 0 ≤ x16 then (if x16 < (x14.length : Int) then (if x8.length < 5864062014805 then (wageofficelaw22_moved.l0 k x1 x2 (x8 ++ [(⟨wrap64 (((rd_T48 x14 x16).f0) + x2), wrap64 (((rd_T48 x14 x16).f1) + x2), (rd_T48 x14 x16).f2⟩ : S48)]) x14 x15 (wrap64 (x16 + 1))) else (none)) else (none)) else (none)) else (wageofficelaw22_moved.l1 k x2 x8 ([] : List (S45)) x1 (x1.length : Int) 0)
def wageofficelaw22_moved.l1 : Nat → Int → List (S48) → List (S45) → List (S45) → Int → Int → Option ((List (S48)) × (List (S45)))
  | 0, _, _, _, _, _, _ => none
  | k + 1, x2, x8, x9, x35, x36, x37 => if x37 < x36 then (if 0 ≤ x37 then (if x37 < (x35.length : Int) then (if x9.length < 8796093022208 then (wageofficelaw22_moved.l1 k x2 x8 (x9 ++ [(⟨wrap64 (((rd_T45 x35 x37).f0) + x2), (rd_T45 x35 x37).f1⟩ : S45)]) x35 x36 (wrap64 (x37 + 1))) else (none)) else (none)) else (none)) else (some (x8, x9))
end
def wageofficelaw22_moved.f (k : Nat) (l0 : List (S48)) (l1 : List (S45)) (a2 : Int) : Option ((List (S48)) × (List (S45))) := wageofficelaw22_moved.l0 k l1 a2 ([] : List (S48)) l0 (l0.length : Int) 0
theorem wageofficelaw22_moved.mono_l : ∀ k, (∀ y0 y1 y2 y3 y4 y5, LeO (wageofficelaw22_moved.l0 k y0 y1 y2 y3 y4 y5) (wageofficelaw22_moved.l0 (k + 1) y0 y1 y2 y3 y4 y5)) ∧ (∀ y0 y1 y2 y3 y4 y5, LeO (wageofficelaw22_moved.l1 k y0 y1 y2 y3 y4 y5) (wageofficelaw22_moved.l1 (k + 1) y0 y1 y2 y3 y4 y5))
  | 0 => ⟨fun _ _ _ _ _ _ r h => by simp [wageofficelaw22_moved.l0] at h, fun _ _ _ _ _ _ r h => by simp [wageofficelaw22_moved.l1] at h⟩
  | k + 1 => by
    obtain ⟨ih0, ih1⟩ := wageofficelaw22_moved.mono_l k
    refine ⟨?_, ?_⟩
    · intro y0 y1 y2 y3 y4 y5
      unfold wageofficelaw22_moved.l0
      repeat' first
      | (with_reducible exact ih0 _ _ _ _ _ _)
      | (with_reducible exact ih1 _ _ _ _ _ _)
      | (with_reducible exact LeO.refl _)
      | (with_reducible exact LeO.none _)
      | (with_reducible refine LeO.ite ?_ ?_)
      | (with_reducible refine LeO.bind ?_ (fun _ => ?_))
      | exact ih0 _ _ _ _ _ _
      | exact ih1 _ _ _ _ _ _
      | exact LeO.none _
      | refine LeO.ite ?_ ?_
      | refine LeO.bind ?_ (fun _ => ?_)
    · intro y0 y1 y2 y3 y4 y5
      unfold wageofficelaw22_moved.l1
      repeat' first
      | (with_reducible exact ih0 _ _ _ _ _ _)
      | (with_reducible exact ih1 _ _ _ _ _ _)
      | (with_reducible exact LeO.refl _)
      | (with_reducible exact LeO.none _)
      | (with_reducible refine LeO.ite ?_ ?_)
      | (with_reducible refine LeO.bind ?_ (fun _ => ?_))
      | exact ih0 _ _ _ _ _ _
      | exact ih1 _ _ _ _ _ _
      | exact LeO.none _
      | refine LeO.ite ?_ ?_
      | refine LeO.bind ?_ (fun _ => ?_)
theorem wageofficelaw22_moved.mono : ∀ a0 a1 a2 k, LeO (wageofficelaw22_moved.f k a0 a1 a2) (wageofficelaw22_moved.f (k + 1) a0 a1 a2) := by
  intro a0 a1 a2 k
  obtain ⟨ih0, ih1⟩ := wageofficelaw22_moved.mono_l k
  unfold wageofficelaw22_moved.f
  repeat' first
      | (with_reducible exact ih0 _ _ _ _ _ _)
      | (with_reducible exact ih1 _ _ _ _ _ _)
      | (with_reducible exact LeO.refl _)
      | (with_reducible exact LeO.none _)
      | (with_reducible refine LeO.ite ?_ ?_)
      | (with_reducible refine LeO.bind ?_ (fun _ => ?_))
      | exact ih0 _ _ _ _ _ _
      | exact ih1 _ _ _ _ _ _
      | exact LeO.none _
      | refine LeO.ite ?_ ?_
      | refine LeO.bind ?_ (fun _ => ?_)
set_option maxHeartbeats 8000000 in
set_option maxRecDepth 100000 in
theorem wageofficelaw22_moved.calls (k : Nat) (A0 : Option Addr) (c0 : Nat) (l0 : List (S48)) (A1 : Option Addr) (c1 : Nat) (l1 : List (S45)) (a2 : Int) (r1 : List (S48)) (r2 : List (S45)) (w : World) (hr0 : Kd.C k48 w A0 l0.length l0) (hc0 : l0.length ≤ c0) (hr1 : Kd.C k45 w A1 l1.length l1) (hc1 : l1.length ≤ c1) (h : wageofficelaw22_moved.f k l0 l1 a2 = some (r1, r2)) :
    Calls Try.prog 23 #[.slice A0 l0.length c0, .slice A1 l1.length c1, .int .i64 a2] w fun e w' => ∃ v0_ v1_ : Value, e = .returned (.tuple #[v0_, v1_]) ∧ Kd.R k48 48 w' w.heap.size (fun _ => True) v0_ r1 ∧ Kd.R k45 45 w' w.heap.size (fun _ => True) v1_ r2 ∧ Below w.heap.size w w' := by
  have hu48 := Try.underlying48
  have hu45 := Try.underlying45
  have HR0 := Aside0.mk hr0
  have HC0 := Aside0.mk hc0
  clear hr0 hc0
  have HR1 := Aside0.mk hr1
  have HC1 := Aside0.mk hc1
  clear hr1 hc1
  have HB := Aside0.mk (Below.refl w.heap.size w)
  have H : (wageofficelaw22_moved.l0 k l1 a2 ([] : List (S48)) l0 (l0.length : Int) 0) = some (r1, r2) := h
  clear h
  have H' := Aside0.mk H
  clear H
  go_enter Try.func23, Try.ntmps23
  go_wp2
  go_loopg [8, 16] k (fun kq v8 v16 w' => ∃ (x8_1 : List (S48)) (x16_1 : Int), v16 = .int .i64 x16_1 ∧ Aside0 (wageofficelaw22_moved.l0 kq l1 a2 x8_1 l0 (l0.length : Int) x16_1 = some (r1, r2)) ∧ Aside0 (kq ≤ k) ∧ Aside0 (Kd.R k48 48 w' w.heap.size (fun _ => True) v8 x8_1) ∧ Aside0 (Below w.heap.size w w'))
  case atStart => exact ⟨(([] : List (S48))), (0), (by first | rfl | (simp; done) | (simp [*]; done)), H', ⟨Nat.le_refl _⟩, ⟨by first | exact Kd.R_nil _ _ _ _ _ | exact Kd.N_nil _ _ _ _ _ | exact Kd.V_nil _ _ _ _ _ | exact Kd.Q_nil _ _ _ _ _ | exact Kd.S_nil _ _ _ _ _⟩, ⟨by repeat (first | (with_reducible first | exact HB.out | apply below_alloc | apply pw_below_drewN | apply below_drew1) | exact HB.out)⟩⟩
  case round =>
    clear H'
    try clear c1
    try clear c2
    try clear p2
    obtain ⟨x8_1, x16_1, rfl, HA, HK1, HO_8, HB⟩ := hrel
    cases gk with
    | zero => exact absurd HA.out (by simp [wageofficelaw22_moved.l0])
    | succ k1 =>
      have H := HA.out
      clear HA
      simp only [wageofficelaw22_moved.l0] at H
      by_cases c4 : x16_1 < (l0.length : Int)
      · rw [if_pos c4] at H
        have c4b0 : decide (x16_1 < (l0.length : Int)) = true := decide_eq_true c4
        clear c4
        by_cases c5 : 0 ≤ x16_1
        · rw [if_pos c5] at H
          have c5b0 : decide (0 ≤ x16_1) = true := decide_eq_true c5
          clear c5
          by_cases c6 : x16_1 < (l0.length : Int)
          · rw [if_pos c6] at H
            have c6b0 : decide (x16_1 < (l0.length : Int)) = true := decide_eq_true c6
            clear c6
            by_cases c7 : x8_1.length < 5864062014805
            · rw [if_pos c7] at H
              have LMc7 := Aside0.mk c7
              clear c7
              obtain ⟨y243, hy243⟩ : ∃ y_ : List (S48), y_ = (x8_1 ++ [(⟨wrap64 (((rd_T48 l0 x16_1).f0) + a2), wrap64 (((rd_T48 l0 x16_1).f1) + a2), (rd_T48 l0 x16_1).f2⟩ : S48)]) := ⟨_, rfl⟩
              replace H : (wageofficelaw22_moved.l0 k1 l1 a2 y243 l0 (l0.length : Int) (wrap64 (x16_1 + 1))) = some (r1, r2) := by first | (rw [hy243]; with_reducible exact H) | (have H2_ := (Option.bind_some _ _).symm.trans H; rw [hy243]; with_reducible exact H2_) | (have H2_ := (Option.bind_some _ _).symm.trans H; with_reducible exact H2_) | with_reducible exact H | (rw [hy243]; exact H) | exact H
              have Ny243 := Aside0.mk hy243
              clear hy243
              have H' := Aside0.mk H
              clear H
              have p241 : 0 ≤ (x16_1 : Int) := of_decide_eq_true (by first | (with_reducible assumption) | assumption)
              have q241 : x16_1 < (l0.length : Int) := of_decide_eq_true (by first | (with_reducible assumption) | assumption)
              obtain ⟨ad241, e241, hx241_0, hx241_1, hx241_2⟩ := at_T48 HR0.out x16_1 p241 q241
              cases e241
              replace hx241_0 := (HB.out.cell (World.block_lt_of_cell? w _ hx241_0)).trans hx241_0
              replace hx241_1 := (HB.out.cell (World.block_lt_of_cell? w _ hx241_1)).trans hx241_1
              replace hx241_2 := (HB.out.cell (World.block_lt_of_cell? w _ hx241_2)).trans hx241_2
              replace p241 := eq_true p241
              replace q241 := eq_true q241
              go_wp2_with (first | ((with_reducible refine gate_dst (N := 11) rfl ?_); refine box_event ?hg (N := 11) ?hd (cs := #[.int .i64 0, .int .i64 0, .int .i64 0]) (t := 48) ?hr ?_; (case hd => rfl); (case hg => rfl); (case hr => first | (go_simp; done) | (go_simp; rfl)); intro gb242 hg w8 hbox hb; have n0_ := Aside0.mk (Kd.R_below (Kd.R_elderB (by (with_reducible repeat (first | apply Kd.R_alloc | apply Kd.R_drewN | apply Kd.R_drew)); exact HO_8.out) gb242 (Nat.le_of_eq hg.symm)) hb); have n1_ := Aside0.mk (below_step (by repeat (first | (with_reducible first | exact HB.out | apply below_alloc | apply pw_below_drewN | apply below_drew1) | exact HB.out)) hb); have n2_ := Aside0.mk (hbox); have n3_ := Aside0.mk ((by rw [hg]; exact (below_size (by repeat (first | (with_reducible first | exact HB.out | apply below_alloc | apply pw_below_drewN | apply below_drew1) | exact HB.out))) : w.heap.size ≤ gb242)); have n4_ := Aside0.mk ((by rw [hg]; exact (below_size (by repeat (first | (with_reducible first | exact HB.out | apply below_alloc | apply pw_below_drewN | apply below_drew1) | exact HB.out))) : w.heap.size ≤ gb242)); clear HO_8; clear HB; have HO_8 := n0_; have HB := n1_; have BK242 := n2_; have GW242 := n3_; have GE242 := n4_; clear n0_ n1_ n2_ n3_ n4_; clear hb hbox hg; have hcz9_0 : w8.cell? ⟨gb242, 0, none⟩ = some (.int .i64 0) := (blk_cell BK242.out 0).trans rfl; have hcz9_1 : w8.cell? ⟨gb242, 1, none⟩ = some (.int .i64 0) := (blk_cell BK242.out 1).trans rfl; have hcz9_2 : w8.cell? ⟨gb242, 2, none⟩ = some (.int .i64 0) := (blk_cell BK242.out 2).trans rfl; have hfz9_0 := blk_frozen BK242.out 0; have hfz9_1 := blk_frozen BK242.out 1; have hfz9_2 := blk_frozen BK242.out 2) | ((with_reducible refine gate_builtin (b := .append) (xs := #[.tmp 20, .tmp 32]) rfl ?_); at_builtin; refine Kd.R_append k48 (w0 := w) w.heap.size rfl (.tmp 20) (.tmp 32) 22 48 (.agg #[(.int .i64 0), (.int .i64 0), (.int .i64 0)]) 24 rfl Try.underlying22 info48 rfl (by decide) (by omega) u8 x8_1 (⟨wrap64 (((rd_T48 l0 x16_1).f0) + a2), wrap64 (((rd_T48 l0 x16_1).f1) + a2), (rd_T48 l0 x16_1).f2⟩ : S48) [.int .i64 (wrap64 (((rd_T48 l0 x16_1).f0) + a2)), .int .i64 (wrap64 (((rd_T48 l0 x16_1).f1) + a2)), .int .i64 ((rd_T48 l0 x16_1).f2)] (fun k_ => k_ ≠ gb242) (fun _ => False) rfl (by first | (go_simp; done) | (go_simp; rfl)) ?aP (fun _ hk => hk.elim) ?aF ?aO ?aB ?aS ?aL ?_; (case aP => exact k48_mkM _ _ _ (⟨wrap64 (((rd_T48 l0 x16_1).f0) + a2), wrap64 (((rd_T48 l0 x16_1).f1) + a2), (rd_T48 l0 x16_1).f2⟩ : S48)); (case aB => exact (by repeat (first | (with_reducible first | exact HB.out | apply below_alloc | apply pw_below_drewN | apply below_drew1 | refine below_set ?_ GE242.out) | exact HB.out))); (case aF => exact (fun k_ hk => Kd.freshB (g := gb242) (o := .cells #[.int .i64 ((rd_T48 l0 x16_1).f0), .int .i64 ((rd_T48 l0 x16_1).f1), .int .i64 ((rd_T48 l0 x16_1).f2)] 48 (0, 0)) (by (with_reducible repeat (first | refine blk_drewN ?_ _ | refine blk_drew ?_ | refine blk_alloc ?_ _)); refine blk_put (cs := #[.int .i64 ((rd_T48 l0 x16_1).f0), .int .i64 ((rd_T48 l0 x16_1).f1), .int .i64 0]) ?_ 2 _ rfl; (with_reducible repeat (first | refine blk_drewN ?_ _ | refine blk_drew ?_ | refine blk_alloc ?_ _)); refine blk_put (cs := #[.int .i64 ((rd_T48 l0 x16_1).f0), .int .i64 0, .int .i64 0]) ?_ 1 _ rfl; (with_reducible repeat (first | refine blk_drewN ?_ _ | refine blk_drew ?_ | refine blk_alloc ?_ _)); refine blk_put (cs := #[.int .i64 0, .int .i64 0, .int .i64 0]) ?_ 0 _ rfl; (with_reducible repeat (first | refine blk_drewN ?_ _ | refine blk_drew ?_ | refine blk_alloc ?_ _)); exact BK242.out) k_ hk)); (case aO => exact (by (with_reducible repeat (first | apply Kd.R_alloc | apply Kd.R_drewN | apply Kd.R_drew)); exact Kd.R_mono (Kd.R_far (p := ⟨gb242, 2, none⟩) (Kd.R_far (p := ⟨gb242, 1, none⟩) (Kd.R_far (p := ⟨gb242, 0, none⟩) (Kd.R_mono HO_8.out (fun k_ hk => (⟨hk, hk.2⟩ : _ ∧ k_ ≠ gb242))) (fun _ hk => hk.2) (.int .i64 ((rd_T48 l0 x16_1).f0))) (fun _ hk => hk.2) (.int .i64 ((rd_T48 l0 x16_1).f1))) (fun _ hk => hk.2) (.int .i64 ((rd_T48 l0 x16_1).f2))) (fun _ hk => hk.1.2))); (case aS => exact (below_size (by repeat (first | (with_reducible first | exact HB.out | apply below_alloc | apply pw_below_drewN | apply below_drew1 | refine below_set ?_ GE242.out) | exact HB.out)))); (case aL => have := LMc7.out; omega); intro v244 w10 ho hb hg hat; rw [← Ny243.out] at ho; have n0_ := Aside0.mk (blk_grown (g := gb242) (o := .cells #[.int .i64 ((rd_T48 l0 x16_1).f0), .int .i64 ((rd_T48 l0 x16_1).f1), .int .i64 ((rd_T48 l0 x16_1).f2)] 48 (0, 0)) (by (with_reducible repeat (first | refine blk_drewN ?_ _ | refine blk_drew ?_ | refine blk_alloc ?_ _)); refine blk_put (cs := #[.int .i64 ((rd_T48 l0 x16_1).f0), .int .i64 ((rd_T48 l0 x16_1).f1), .int .i64 0]) ?_ 2 _ rfl; (with_reducible repeat (first | refine blk_drewN ?_ _ | refine blk_drew ?_ | refine blk_alloc ?_ _)); refine blk_put (cs := #[.int .i64 ((rd_T48 l0 x16_1).f0), .int .i64 0, .int .i64 0]) ?_ 1 _ rfl; (with_reducible repeat (first | refine blk_drewN ?_ _ | refine blk_drew ?_ | refine blk_alloc ?_ _)); refine blk_put (cs := #[.int .i64 0, .int .i64 0, .int .i64 0]) ?_ 0 _ rfl; (with_reducible repeat (first | refine blk_drewN ?_ _ | refine blk_drew ?_ | refine blk_alloc ?_ _)); exact BK242.out) hg (Kd.R_away HO_8.out (fun _ hk => hk.2))); have n1_ := Aside0.mk (hb); have n2_ := Aside0.mk (ho); clear BK242; clear HB; clear HO_8; have BK242 := n0_; have HB := n1_; have HO245 := n2_; clear n0_ n1_ n2_; clear ho hb hg hat))
              go_roundg k1
              case measure => have := HK1.out; omega
              case rel => exact ⟨(y243), (wrap64 (x16_1 + 1)), (by first | rfl | (simp; done) | (simp [*]; done)), H', ⟨by have := HK1.out; omega⟩, ⟨by (with_reducible repeat (first | apply Kd.R_alloc | apply Kd.R_drewN | apply Kd.R_drew)); exact Kd.R_mono HO245.out (fun _ hk => trivial)⟩, ⟨by repeat (first | (with_reducible first | exact HB.out | apply below_alloc | apply pw_below_drewN | apply below_drew1 | refine below_set ?_ GE242.out) | exact HB.out)⟩⟩
            · rw [if_neg c7] at H
              exact absurd H (by simp)
          · rw [if_neg c6] at H
            exact absurd H (by simp)
        · rw [if_neg c5] at H
          exact absurd H (by simp)
      · rw [if_neg c4] at H
        have c4b0 : decide (x16_1 < (l0.length : Int)) = false := decide_eq_false c4
        clear c4
        have H' := Aside0.mk H
        clear H
        go_wp2
        go_loopg [9, 37] k1 (fun kq v9 v37 w' => ∃ (x9_2 : List (S45)) (x37_2 : Int), v37 = .int .i64 x37_2 ∧ Aside0 (wageofficelaw22_moved.l1 kq a2 x8_1 x9_2 l1 (l1.length : Int) x37_2 = some (r1, r2)) ∧ Aside0 (kq ≤ k1) ∧ Aside0 (Kd.R k48 48 w' w.heap.size (fun _ => True) u8 x8_1) ∧ Aside0 (Kd.R k45 45 w' w.heap.size (fun _ => True) v9 x9_2) ∧ Aside0 (Below w.heap.size w w'))
        case atStart => exact ⟨(([] : List (S45))), (0), (by first | rfl | (simp; done) | (simp [*]; done)), H', ⟨Nat.le_refl _⟩, ⟨by (with_reducible repeat (first | apply Kd.R_alloc | apply Kd.R_drewN | apply Kd.R_drew)); exact HO_8.out⟩, ⟨by first | exact Kd.R_nil _ _ _ _ _ | exact Kd.N_nil _ _ _ _ _ | exact Kd.V_nil _ _ _ _ _ | exact Kd.Q_nil _ _ _ _ _ | exact Kd.S_nil _ _ _ _ _⟩, ⟨by repeat (first | (with_reducible first | exact HB.out | apply below_alloc | apply pw_below_drewN | apply below_drew1) | exact HB.out)⟩⟩
        case round =>
          clear H'
          try clear c1
          try clear c2
          try clear p2
          try clear q2
          try clear hx2
          try clear c4
          try clear c4b0
          try clear c5
          try clear c5b0
          try clear c6
          try clear c6b0
          try clear p6
          try clear c7
          try clear hcz9_0
          try clear hcz9_1
          try clear hcz9_2
          try clear hfz9_0
          try clear hfz9_1
          try clear hfz9_2
          try clear hx241_0
          try clear hx241_1
          try clear hx241_2
          try clear p2
          try clear p241
          try clear q241
          obtain ⟨x9_2, x37_2, rfl, HA, HK2, HO_8, HO_9, HB⟩ := hrel
          cases gk with
          | zero => exact absurd HA.out (by simp [wageofficelaw22_moved.l1])
          | succ k2 =>
            have H := HA.out
            clear HA
            simp only [wageofficelaw22_moved.l1] at H
            by_cases c11 : x37_2 < (l1.length : Int)
            · rw [if_pos c11] at H
              have c11b0 : decide (x37_2 < (l1.length : Int)) = true := decide_eq_true c11
              clear c11
              by_cases c12 : 0 ≤ x37_2
              · rw [if_pos c12] at H
                have c12b0 : decide (0 ≤ x37_2) = true := decide_eq_true c12
                clear c12
                by_cases c13 : x37_2 < (l1.length : Int)
                · rw [if_pos c13] at H
                  have c13b0 : decide (x37_2 < (l1.length : Int)) = true := decide_eq_true c13
                  clear c13
                  by_cases c14 : x9_2.length < 8796093022208
                  · rw [if_pos c14] at H
                    have LMc14 := Aside0.mk c14
                    clear c14
                    obtain ⟨y248, hy248⟩ : ∃ y_ : List (S45), y_ = (x9_2 ++ [(⟨wrap64 (((rd_T45 l1 x37_2).f0) + a2), (rd_T45 l1 x37_2).f1⟩ : S45)]) := ⟨_, rfl⟩
                    replace H : (wageofficelaw22_moved.l1 k2 a2 x8_1 y248 l1 (l1.length : Int) (wrap64 (x37_2 + 1))) = some (r1, r2) := by first | (rw [hy248]; with_reducible exact H) | (have H2_ := (Option.bind_some _ _).symm.trans H; rw [hy248]; with_reducible exact H2_) | (have H2_ := (Option.bind_some _ _).symm.trans H; with_reducible exact H2_) | with_reducible exact H | (rw [hy248]; exact H) | exact H
                    have Ny248 := Aside0.mk hy248
                    clear hy248
                    have H' := Aside0.mk H
                    clear H
                    have p246 : 0 ≤ (x37_2 : Int) := of_decide_eq_true (by first | (with_reducible assumption) | assumption)
                    have q246 : x37_2 < (l1.length : Int) := of_decide_eq_true (by first | (with_reducible assumption) | assumption)
                    obtain ⟨ad246, e246, hx246_0, hx246_1⟩ := at_T45 HR1.out x37_2 p246 q246
                    cases e246
                    replace hx246_0 := (HB.out.cell (World.block_lt_of_cell? w _ hx246_0)).trans hx246_0
                    replace hx246_1 := (HB.out.cell (World.block_lt_of_cell? w _ hx246_1)).trans hx246_1
                    replace p246 := eq_true p246
                    replace q246 := eq_true q246
                    go_wp2_with (first | ((with_reducible refine gate_dst (N := 13) rfl ?_); refine box_event ?hg (N := 13) ?hd (cs := #[.int .i64 0, .bool false]) (t := 45) ?hr ?_; (case hd => rfl); (case hg => rfl); (case hr => first | (go_simp; done) | (go_simp; rfl)); intro gb247 hg w15 hbox hb; have n0_ := Aside0.mk (Kd.R_below (by (with_reducible repeat (first | apply Kd.R_alloc | apply Kd.R_drewN | apply Kd.R_drew)); exact HO_8.out) hb); have n1_ := Aside0.mk (Kd.R_below (Kd.R_elderB (by (with_reducible repeat (first | apply Kd.R_alloc | apply Kd.R_drewN | apply Kd.R_drew)); exact HO_9.out) gb247 (Nat.le_of_eq hg.symm)) hb); have n2_ := Aside0.mk (below_step (by repeat (first | (with_reducible first | exact HB.out | apply below_alloc | apply pw_below_drewN | apply below_drew1) | exact HB.out)) hb); have n3_ := Aside0.mk (hbox); have n4_ := Aside0.mk ((by rw [hg]; exact (below_size (by repeat (first | (with_reducible first | exact HB.out | apply below_alloc | apply pw_below_drewN | apply below_drew1) | exact HB.out))) : w.heap.size ≤ gb247)); have n5_ := Aside0.mk ((by rw [hg]; exact (below_size (by repeat (first | (with_reducible first | exact HB.out | apply below_alloc | apply pw_below_drewN | apply below_drew1) | exact HB.out))) : w.heap.size ≤ gb247)); clear HO_8; clear HO_9; clear HB; have HO_8 := n0_; have HO_9 := n1_; have HB := n2_; have BK247 := n3_; have GW247 := n4_; have GE247 := n5_; clear n0_ n1_ n2_ n3_ n4_ n5_; clear hb hbox hg; have hcz16_0 : w15.cell? ⟨gb247, 0, none⟩ = some (.int .i64 0) := (blk_cell BK247.out 0).trans rfl; have hcz16_1 : w15.cell? ⟨gb247, 1, none⟩ = some (.bool false) := (blk_cell BK247.out 1).trans rfl; have hfz16_0 := blk_frozen BK247.out 0; have hfz16_1 := blk_frozen BK247.out 1) | ((with_reducible refine gate_builtin (b := .append) (xs := #[.tmp 41, .tmp 49]) rfl ?_); at_builtin; refine Kd.R_append k45 (w0 := w) w.heap.size rfl (.tmp 41) (.tmp 49) 23 45 (.agg #[(.int .i64 0), (.bool false)]) 16 rfl Try.underlying23 info45 rfl (by decide) (by omega) u9 x9_2 (⟨wrap64 (((rd_T45 l1 x37_2).f0) + a2), (rd_T45 l1 x37_2).f1⟩ : S45) [.int .i64 (wrap64 (((rd_T45 l1 x37_2).f0) + a2)), .bool ((rd_T45 l1 x37_2).f1)] (fun k_ => k_ ≠ gb247) (fun _ => False) rfl (by first | (go_simp; done) | (go_simp; rfl)) ?aP (fun _ hk => hk.elim) ?aF ?aO ?aB ?aS ?aL ?_; (case aP => exact k45_mkM _ _ _ (⟨wrap64 (((rd_T45 l1 x37_2).f0) + a2), (rd_T45 l1 x37_2).f1⟩ : S45)); (case aB => exact (by repeat (first | (with_reducible first | exact HB.out | apply below_alloc | apply pw_below_drewN | apply below_drew1 | refine below_set ?_ GE247.out) | exact HB.out))); (case aF => exact (fun k_ hk => Kd.freshB (g := gb247) (o := .cells #[.int .i64 ((rd_T45 l1 x37_2).f0), .bool ((rd_T45 l1 x37_2).f1)] 45 (0, 0)) (by (with_reducible repeat (first | refine blk_drewN ?_ _ | refine blk_drew ?_ | refine blk_alloc ?_ _)); refine blk_put (cs := #[.int .i64 ((rd_T45 l1 x37_2).f0), .bool false]) ?_ 1 _ rfl; (with_reducible repeat (first | refine blk_drewN ?_ _ | refine blk_drew ?_ | refine blk_alloc ?_ _)); refine blk_put (cs := #[.int .i64 0, .bool false]) ?_ 0 _ rfl; (with_reducible repeat (first | refine blk_drewN ?_ _ | refine blk_drew ?_ | refine blk_alloc ?_ _)); exact BK247.out) k_ hk)); (case aO => exact (by (with_reducible repeat (first | apply Kd.R_alloc | apply Kd.R_drewN | apply Kd.R_drew)); exact Kd.R_mono (Kd.R_far (p := ⟨gb247, 1, none⟩) (Kd.R_far (p := ⟨gb247, 0, none⟩) (Kd.R_mono HO_9.out (fun k_ hk => (⟨hk, hk.2⟩ : _ ∧ k_ ≠ gb247))) (fun _ hk => hk.2) (.int .i64 ((rd_T45 l1 x37_2).f0))) (fun _ hk => hk.2) (.bool ((rd_T45 l1 x37_2).f1))) (fun _ hk => hk.1.2))); (case aS => exact (below_size (by repeat (first | (with_reducible first | exact HB.out | apply below_alloc | apply pw_below_drewN | apply below_drew1 | refine below_set ?_ GE247.out) | exact HB.out)))); (case aL => have := LMc14.out; omega); intro v249 w17 ho hb hg hat; rw [← Ny248.out] at ho; have n0_ := Aside0.mk (Kd.R_over' (by (with_reducible repeat (first | apply Kd.R_alloc | apply Kd.R_drewN | apply Kd.R_drew)); exact (Kd.R_mono (Kd.R_far (p := ⟨gb247, 1, none⟩) (Kd.R_far (p := ⟨gb247, 0, none⟩) (Kd.R_types HO_8.out BK247.out (by decide)) (fun _ hk => hk.2) (.int .i64 ((rd_T45 l1 x37_2).f0))) (fun _ hk => hk.2) (.bool ((rd_T45 l1 x37_2).f1))) (fun _ h_ => h_.1))) (Kd.R_typed (by (with_reducible repeat (first | apply Kd.R_alloc | apply Kd.R_drewN | apply Kd.R_drew)); exact (Kd.R_mono (Kd.R_far (p := ⟨gb247, 1, none⟩) (Kd.R_far (p := ⟨gb247, 0, none⟩) (Kd.R_mono HO_9.out (fun k_ hk => (⟨hk, hk.2⟩ : _ ∧ k_ ≠ gb247))) (fun _ hk => hk.2) (.int .i64 ((rd_T45 l1 x37_2).f0))) (fun _ hk => hk.2) (.bool ((rd_T45 l1 x37_2).f1))) (fun _ h_ => h_.1)))) (by decide) hg); have n1_ := Aside0.mk (blk_grown (g := gb247) (o := .cells #[.int .i64 ((rd_T45 l1 x37_2).f0), .bool ((rd_T45 l1 x37_2).f1)] 45 (0, 0)) (by (with_reducible repeat (first | refine blk_drewN ?_ _ | refine blk_drew ?_ | refine blk_alloc ?_ _)); refine blk_put (cs := #[.int .i64 ((rd_T45 l1 x37_2).f0), .bool false]) ?_ 1 _ rfl; (with_reducible repeat (first | refine blk_drewN ?_ _ | refine blk_drew ?_ | refine blk_alloc ?_ _)); refine blk_put (cs := #[.int .i64 0, .bool false]) ?_ 0 _ rfl; (with_reducible repeat (first | refine blk_drewN ?_ _ | refine blk_drew ?_ | refine blk_alloc ?_ _)); exact BK247.out) hg (Kd.R_away HO_9.out (fun _ hk => hk.2))); have n2_ := Aside0.mk (hb); have n3_ := Aside0.mk (ho); clear HO_8; clear BK247; clear HB; clear HO_9; have HO_8 := n0_; have BK247 := n1_; have HB := n2_; have HO250 := n3_; clear n0_ n1_ n2_ n3_; clear ho hb hg hat))
                    go_roundg k2
                    case measure => have := HK1.out; have := HK2.out; omega
                    case rel => exact ⟨(y248), (wrap64 (x37_2 + 1)), (by first | rfl | (simp; done) | (simp [*]; done)), H', ⟨by have := HK1.out; have := HK2.out; omega⟩, ⟨by (with_reducible repeat (first | apply Kd.R_alloc | apply Kd.R_drewN | apply Kd.R_drew)); exact HO_8.out⟩, ⟨by (with_reducible repeat (first | apply Kd.R_alloc | apply Kd.R_drewN | apply Kd.R_drew)); exact Kd.R_mono HO250.out (fun _ hk => trivial)⟩, ⟨by repeat (first | (with_reducible first | exact HB.out | apply below_alloc | apply pw_below_drewN | apply below_drew1 | refine below_set ?_ GE247.out) | exact HB.out)⟩⟩
                  · rw [if_neg c14] at H
                    exact absurd H (by simp)
                · rw [if_neg c13] at H
                  exact absurd H (by simp)
              · rw [if_neg c12] at H
                exact absurd H (by simp)
            · rw [if_neg c11] at H
              have c11b0 : decide (x37_2 < (l1.length : Int)) = false := decide_eq_false c11
              clear c11
              simp only [Option.some.injEq, Prod.mk.injEq] at H
              obtain ⟨rfl, rfl⟩ := H
              go_wp2
              go_ret2
              exact ⟨_, _, by first | rfl | (simp [errW_none, errW_some] <;> rfl) | (simp [*, errW_none, errW_some] <;> rfl), by (with_reducible repeat (first | apply Kd.R_alloc | apply Kd.R_drewN | apply Kd.R_drew)); exact HO_8.out, by (with_reducible repeat (first | apply Kd.R_alloc | apply Kd.R_drewN | apply Kd.R_drew)); exact HO_9.out, by repeat (first | (with_reducible first | exact HB.out | apply below_alloc | apply pw_below_drewN | apply below_drew1) | exact HB.out)⟩

/-! ### wageofficelaw22_PunchesShift: function 7 -/
def wageofficelaw22_PunchesShift.j0 : Nat → List (S48) → List (S45) → Int → Bool → Bool → Option (Bool)
  | 0, _, _, _, _, _ => none
  | k + 1, x0, x1, x2, x7, x32 => if x32 = true then (some x7) else ((wageofficelaw22_moved.f k x0 x1 x2).bind fun bt253 => ((wageofficelaw22_usable.f k bt253.1 bt253.2).bind fun t259 => (if t259 = true then ((punches_Pair.f x0 x1).bind fun bt260 => ((punches_Pair.f bt253.1 bt253.2).bind fun bt265 => ((punches_Worked.f x0 x1 bt260.1).bind fun bt270 => ((punches_Worked.f bt253.1 bt253.2 bt265.1).bind fun bt274 => (if x7 = true then (if bt260.2.2 = 0 then (if bt265.2.2 = 0 then (if bt260.2.1 = bt265.2.1 then ((wageofficeref22_Same.f k bt260.1 bt265.1).bind fun t278 => (if t278 = true then (if bt270.2 = 0 then (if bt274.2 = 0 then ((wageofficeref22_SameInts.f k bt270.1 bt274.1).bind fun t279 => (some t279)) else (some false)) else (some false)) else (some false))) else (some false)) else (some false)) else (some false)) else (some false)))))) else (some x7))))
def wageofficelaw22_PunchesShift.f (k : Nat) (l0 : List (S48)) (l1 : List (S45)) (a2 : Int) : Option (Bool) := (wageofficelaw22_head.f).bind fun t251 => ((wageofficelaw22_usable.f k l0 l1).bind fun t252 => (if t252 = true then (if a2 < (-52595999) then (wageofficelaw22_PunchesShift.j0 k l0 l1 a2 t251 true) else (wageofficelaw22_PunchesShift.j0 k l0 l1 a2 t251 (decide (a2 > 52595999)))) else (wageofficelaw22_PunchesShift.j0 k l0 l1 a2 t251 true)))
theorem wageofficelaw22_PunchesShift.mono_l : ∀ k, (∀ y0 y1 y2 y3 y4, LeO (wageofficelaw22_PunchesShift.j0 k y0 y1 y2 y3 y4) (wageofficelaw22_PunchesShift.j0 (k + 1) y0 y1 y2 y3 y4))
  | 0 => fun _ _ _ _ _ r h => by simp [wageofficelaw22_PunchesShift.j0] at h
  | k + 1 => by
    have ih0 := wageofficelaw22_PunchesShift.mono_l k
    · intro y0 y1 y2 y3 y4
      unfold wageofficelaw22_PunchesShift.j0
      repeat' first
      | (with_reducible exact ih0 _ _ _ _ _)
      | (with_reducible exact wageofficelaw22_moved.mono _ _ _ _)
      | (with_reducible exact wageofficelaw22_usable.mono _ _ _)
      | (with_reducible exact wageofficeref22_Same.mono _ _ _)
      | (with_reducible exact wageofficeref22_SameInts.mono _ _ _)
      | (with_reducible exact LeO.refl _)
      | (with_reducible exact LeO.none _)
      | (with_reducible refine LeO.ite ?_ ?_)
      | (with_reducible refine LeO.bind ?_ (fun _ => ?_))
      | exact ih0 _ _ _ _ _
      | exact wageofficelaw22_moved.mono _ _ _ _
      | exact wageofficelaw22_usable.mono _ _ _
      | exact wageofficeref22_Same.mono _ _ _
      | exact wageofficeref22_SameInts.mono _ _ _
      | exact LeO.none _
      | refine LeO.ite ?_ ?_
      | refine LeO.bind ?_ (fun _ => ?_)
theorem wageofficelaw22_PunchesShift.mono : ∀ a0 a1 a2 k, LeO (wageofficelaw22_PunchesShift.f k a0 a1 a2) (wageofficelaw22_PunchesShift.f (k + 1) a0 a1 a2) := by
  intro a0 a1 a2 k
  have ih0 := wageofficelaw22_PunchesShift.mono_l k
  unfold wageofficelaw22_PunchesShift.f
  repeat' first
      | (with_reducible exact ih0 _ _ _ _ _)
      | (with_reducible exact wageofficelaw22_moved.mono _ _ _ _)
      | (with_reducible exact wageofficelaw22_usable.mono _ _ _)
      | (with_reducible exact wageofficeref22_Same.mono _ _ _)
      | (with_reducible exact wageofficeref22_SameInts.mono _ _ _)
      | (with_reducible exact LeO.refl _)
      | (with_reducible exact LeO.none _)
      | (with_reducible refine LeO.ite ?_ ?_)
      | (with_reducible refine LeO.bind ?_ (fun _ => ?_))
      | exact ih0 _ _ _ _ _
      | exact wageofficelaw22_moved.mono _ _ _ _
      | exact wageofficelaw22_usable.mono _ _ _
      | exact wageofficeref22_Same.mono _ _ _
      | exact wageofficeref22_SameInts.mono _ _ _
      | exact LeO.none _
      | refine LeO.ite ?_ ?_
      | refine LeO.bind ?_ (fun _ => ?_)
set_option maxHeartbeats 8000000 in
set_option maxRecDepth 100000 in
theorem wageofficelaw22_PunchesShift.calls (k : Nat) (A0 : Option Addr) (c0 : Nat) (l0 : List (S48)) (A1 : Option Addr) (c1 : Nat) (l1 : List (S45)) (a2 : Int) (r : Bool) (w : World) (hr0 : Kd.C k48 w A0 l0.length l0) (hc0 : l0.length ≤ c0) (hr1 : Kd.C k45 w A1 l1.length l1) (hc1 : l1.length ≤ c1) (hr : r = true) (h : wageofficelaw22_PunchesShift.f k l0 l1 a2 = some r) :
    Calls Try.prog 7 #[.slice A0 l0.length c0, .slice A1 l1.length c1, .int .i64 a2] w fun e w' => e = .returned (.bool r) ∧ Below w.heap.size w w' := by
  have HR0 := Aside0.mk hr0
  have HC0 := Aside0.mk hc0
  clear hr0 hc0
  have HR1 := Aside0.mk hr1
  have HC1 := Aside0.mk hc1
  clear hr1 hc1
  have HB := Aside0.mk (Below.refl w.heap.size w)
  have PR := Aside0.mk hr
  clear hr
  have H : ((wageofficelaw22_head.f).bind fun t251 => ((wageofficelaw22_usable.f k l0 l1).bind fun t252 => (if t252 = true then (if a2 < (-52595999) then (wageofficelaw22_PunchesShift.j0 k l0 l1 a2 t251 true) else (wageofficelaw22_PunchesShift.j0 k l0 l1 a2 t251 (decide (a2 > 52595999)))) else (wageofficelaw22_PunchesShift.j0 k l0 l1 a2 t251 true)))) = some r := h
  clear h
  replace H := Option.bind_eq_some_iff.mp H
  obtain ⟨t251, A40, H⟩ := H
  replace H : ((wageofficelaw22_usable.f k l0 l1).bind fun t252 => (if t252 = true then (if a2 < (-52595999) then (wageofficelaw22_PunchesShift.j0 k l0 l1 a2 t251 true) else (wageofficelaw22_PunchesShift.j0 k l0 l1 a2 t251 (decide (a2 > 52595999)))) else (wageofficelaw22_PunchesShift.j0 k l0 l1 a2 t251 true))) = some r := H
  have A4 := Aside0.mk A40
  clear A40
  have HC5 := Aside0.mk H
  clear H
  go_enter Try.func7, Try.ntmps7
  go_upto_region 2 with (first | ((with_reducible refine gate_callee (f := 11) rfl ?_); refine goesL_ (some 20) rfl rfl Try.func11 (by kernel_rfl) rfl #[] rfl (by (try simp only [List.map_toArray, List.map_cons, List.map_nil]); first | done | rfl | (simp only [List.length_drop, List.length_take]; rfl)) ?_; (with_reducible refine (wageofficelaw22_head.calls  t251 _ A4.out).mono ?_); rintro e w6 ⟨rfl, hb⟩; refine ⟨_, rfl, ?_⟩; have n0_ := Aside0.mk (below_step (by repeat (first | (with_reducible first | exact HB.out | apply below_alloc | apply pw_below_drewN | apply below_drew1) | exact HB.out)) hb); clear HB; have HB := n0_; clear n0_; (try clear hb); (try clear hb2); (try clear hk); (try clear hi)))
  (try simp only [Act.put, List.setIfInBounds_toArray, List.set_cons_zero, List.set_cons_succ])
  go_cut [32] (fun v32 wc => ∃ (kq : Nat) (x32_4 : Bool), v32 = .bool x32_4 ∧ Aside0 (wageofficelaw22_PunchesShift.j0 kq l0 l1 a2 t251 x32_4 = some r) ∧ Aside0 (kq ≤ k) ∧ Aside0 (Below w.heap.size w wc))
  case first =>
    have H := HC5.out
    clear HC5
    replace H := Option.bind_eq_some_iff.mp H
    obtain ⟨t252, A70, H⟩ := H
    replace H : (if t252 = true then (if a2 < (-52595999) then (wageofficelaw22_PunchesShift.j0 k l0 l1 a2 t251 true) else (wageofficelaw22_PunchesShift.j0 k l0 l1 a2 t251 (decide (a2 > 52595999)))) else (wageofficelaw22_PunchesShift.j0 k l0 l1 a2 t251 true)) = some r := H
    have A7 := Aside0.mk A70
    clear A70
    by_cases c8 : t252 = true
    · subst c8
      have H1 : (if a2 < (-52595999) then (wageofficelaw22_PunchesShift.j0 k l0 l1 a2 t251 true) else (wageofficelaw22_PunchesShift.j0 k l0 l1 a2 t251 (decide (a2 > 52595999)))) = some r := by rw [if_pos rfl] at H; exact H
      clear H
      have H := H1
      clear H1
      by_cases c9 : a2 < (-52595999)
      · rw [if_pos c9] at H
        have c9b0 : decide (a2 < (-52595999)) = true := decide_eq_true c9
        clear c9
        (first | rw [c9b0] | (simp only [i64_w, i32_w]; rw [c9b0]) | skip)
        have H' := Aside0.mk H
        clear H
        go_wp2_with (first | ((with_reducible refine gate_callee (f := 19) rfl ?_); refine goesL_ (some 23) rfl rfl Try.func19 (by kernel_rfl) rfl #[.slice A0 l0.length c0, .slice A1 l1.length c1] rfl (by (try simp only [List.map_toArray, List.map_cons, List.map_nil]); first | done | rfl | (simp only [List.length_drop, List.length_take]; rfl)) ?_; (with_reducible refine (wageofficelaw22_usable.calls k _ _ l0 _ _ l1 true _ ?side1 ?side2 ?side3 ?side4 A7.out).mono ?_); (case side1 => repeat (first | exact (Kd.C_below HR0.out HB.out) | (with_reducible refine Kd.C_alloc ?_ _) | (with_reducible refine Kd.C_drewN ?_ _) | (with_reducible refine Kd.C_drew ?_))); (case side2 => exact HC0.out); (case side3 => repeat (first | exact (Kd.C_below HR1.out HB.out) | (with_reducible refine Kd.C_alloc ?_ _) | (with_reducible refine Kd.C_drewN ?_ _) | (with_reducible refine Kd.C_drew ?_))); (case side4 => exact HC1.out); rintro e w10 ⟨rfl, hb⟩; refine ⟨_, rfl, ?_⟩; have n0_ := Aside0.mk (below_step (by repeat (first | (with_reducible first | exact HB.out | apply below_alloc | apply pw_below_drewN | apply below_drew1) | exact HB.out)) hb); clear HB; have HB := n0_; clear n0_; (try clear hb); (try clear hb2); (try clear hk); (try clear hi)))
        go_meet
        case rel => exact ⟨_, (true), (by first | rfl | (simp; done) | (simp [*]; done)), H', ⟨by first | omega | exact Nat.le_refl _⟩, ⟨by repeat (first | (with_reducible first | exact HB.out | apply below_alloc | apply pw_below_drewN | apply below_drew1) | exact HB.out)⟩⟩
      · rw [if_neg c9] at H
        have c9b0 : decide (a2 < (-52595999)) = false := decide_eq_false c9
        clear c9
        (first | rw [c9b0] | (simp only [i64_w, i32_w]; rw [c9b0]) | skip)
        have H' := Aside0.mk H
        clear H
        go_wp2_with (first | ((with_reducible refine gate_callee (f := 19) rfl ?_); refine goesL_ (some 23) rfl rfl Try.func19 (by kernel_rfl) rfl #[.slice A0 l0.length c0, .slice A1 l1.length c1] rfl (by (try simp only [List.map_toArray, List.map_cons, List.map_nil]); first | done | rfl | (simp only [List.length_drop, List.length_take]; rfl)) ?_; (with_reducible refine (wageofficelaw22_usable.calls k _ _ l0 _ _ l1 true _ ?side1 ?side2 ?side3 ?side4 A7.out).mono ?_); (case side1 => repeat (first | exact (Kd.C_below HR0.out HB.out) | (with_reducible refine Kd.C_alloc ?_ _) | (with_reducible refine Kd.C_drewN ?_ _) | (with_reducible refine Kd.C_drew ?_))); (case side2 => exact HC0.out); (case side3 => repeat (first | exact (Kd.C_below HR1.out HB.out) | (with_reducible refine Kd.C_alloc ?_ _) | (with_reducible refine Kd.C_drewN ?_ _) | (with_reducible refine Kd.C_drew ?_))); (case side4 => exact HC1.out); rintro e w11 ⟨rfl, hb⟩; refine ⟨_, rfl, ?_⟩; have n0_ := Aside0.mk (below_step (by repeat (first | (with_reducible first | exact HB.out | apply below_alloc | apply pw_below_drewN | apply below_drew1) | exact HB.out)) hb); clear HB; have HB := n0_; clear n0_; (try clear hb); (try clear hb2); (try clear hk); (try clear hi)))
        go_meet
        case rel => exact ⟨_, (decide (a2 > 52595999)), (by first | rfl | (simp; done) | (simp [*]; done)), H', ⟨by first | omega | exact Nat.le_refl _⟩, ⟨by repeat (first | (with_reducible first | exact HB.out | apply below_alloc | apply pw_below_drewN | apply below_drew1) | exact HB.out)⟩⟩
    · replace c8 := Bool.eq_false_iff.mpr c8
      subst c8
      have H1 : (wageofficelaw22_PunchesShift.j0 k l0 l1 a2 t251 true) = some r := by rw [if_neg (show ¬ (false = true) by decide)] at H; exact H
      clear H
      have H := H1
      clear H1
      have H' := Aside0.mk H
      clear H
      go_wp2_with (first | ((with_reducible refine gate_callee (f := 19) rfl ?_); refine goesL_ (some 23) rfl rfl Try.func19 (by kernel_rfl) rfl #[.slice A0 l0.length c0, .slice A1 l1.length c1] rfl (by (try simp only [List.map_toArray, List.map_cons, List.map_nil]); first | done | rfl | (simp only [List.length_drop, List.length_take]; rfl)) ?_; (with_reducible refine (wageofficelaw22_usable.calls k _ _ l0 _ _ l1 false _ ?side1 ?side2 ?side3 ?side4 A7.out).mono ?_); (case side1 => repeat (first | exact (Kd.C_below HR0.out HB.out) | (with_reducible refine Kd.C_alloc ?_ _) | (with_reducible refine Kd.C_drewN ?_ _) | (with_reducible refine Kd.C_drew ?_))); (case side2 => exact HC0.out); (case side3 => repeat (first | exact (Kd.C_below HR1.out HB.out) | (with_reducible refine Kd.C_alloc ?_ _) | (with_reducible refine Kd.C_drewN ?_ _) | (with_reducible refine Kd.C_drew ?_))); (case side4 => exact HC1.out); rintro e w12 ⟨rfl, hb⟩; refine ⟨_, rfl, ?_⟩; have n0_ := Aside0.mk (below_step (by repeat (first | (with_reducible first | exact HB.out | apply below_alloc | apply pw_below_drewN | apply below_drew1) | exact HB.out)) hb); clear HB; have HB := n0_; clear n0_; (try clear hb); (try clear hb2); (try clear hk); (try clear hi)))
      go_meet
      case rel => exact ⟨_, (true), (by first | rfl | (simp; done) | (simp [*]; done)), H', ⟨by first | omega | exact Nat.le_refl _⟩, ⟨by repeat (first | (with_reducible first | exact HB.out | apply below_alloc | apply pw_below_drewN | apply below_drew1) | exact HB.out)⟩⟩
  case rest =>
    clear HC5
    try clear c1
    try clear p2
    try clear c7
    try clear c8
    try clear c9
    try clear c9b0
    try clear c11
    obtain ⟨kq, x32_4, rfl, HA, HJ4, HB⟩ := hcut
    cases kq with
    | zero => exact absurd HA.out (by simp [wageofficelaw22_PunchesShift.j0])
    | succ kj4 =>
      have H := HA.out
      clear HA
      simp only [wageofficelaw22_PunchesShift.j0] at H
      by_cases c13 : x32_4 = true
      · subst c13
        have H1 : (some t251) = some r := by rw [if_pos rfl] at H; exact H
        clear H
        have H := H1
        clear H1
        obtain rfl := Option.some.inj H
        go_wp2
        go_ret
        exact ⟨by first | rfl | (simp [errW_none, errW_some] <;> rfl) | (simp [*, errW_none, errW_some] <;> rfl), by repeat (first | (with_reducible first | exact HB.out | apply below_alloc | apply pw_below_drewN | apply below_drew1) | exact HB.out)⟩
      · replace c13 := Bool.eq_false_iff.mpr c13
        subst c13
        have H1 : ((wageofficelaw22_moved.f kj4 l0 l1 a2).bind fun bt253 => ((wageofficelaw22_usable.f kj4 bt253.1 bt253.2).bind fun t259 => (if t259 = true then ((punches_Pair.f l0 l1).bind fun bt260 => ((punches_Pair.f bt253.1 bt253.2).bind fun bt265 => ((punches_Worked.f l0 l1 bt260.1).bind fun bt270 => ((punches_Worked.f bt253.1 bt253.2 bt265.1).bind fun bt274 => (if t251 = true then (if bt260.2.2 = 0 then (if bt265.2.2 = 0 then (if bt260.2.1 = bt265.2.1 then ((wageofficeref22_Same.f kj4 bt260.1 bt265.1).bind fun t278 => (if t278 = true then (if bt270.2 = 0 then (if bt274.2 = 0 then ((wageofficeref22_SameInts.f kj4 bt270.1 bt274.1).bind fun t279 => (some t279)) else (some false)) else (some false)) else (some false))) else (some false)) else (some false)) else (some false)) else (some false)))))) else (some t251)))) = some r := by rw [if_neg (show ¬ (false = true) by decide)] at H; exact H
        clear H
        have H := H1
        clear H1
        replace H := Option.bind_eq_some_iff.mp H
        obtain ⟨⟨t253, t254⟩, A140, H⟩ := H
        replace H : ((wageofficelaw22_usable.f kj4 t253 t254).bind fun t259 => (if t259 = true then ((punches_Pair.f l0 l1).bind fun bt260 => ((punches_Pair.f t253 t254).bind fun bt265 => ((punches_Worked.f l0 l1 bt260.1).bind fun bt270 => ((punches_Worked.f t253 t254 bt265.1).bind fun bt274 => (if t251 = true then (if bt260.2.2 = 0 then (if bt265.2.2 = 0 then (if bt260.2.1 = bt265.2.1 then ((wageofficeref22_Same.f kj4 bt260.1 bt265.1).bind fun t278 => (if t278 = true then (if bt270.2 = 0 then (if bt274.2 = 0 then ((wageofficeref22_SameInts.f kj4 bt270.1 bt274.1).bind fun t279 => (some t279)) else (some false)) else (some false)) else (some false))) else (some false)) else (some false)) else (some false)) else (some false)))))) else (some t251))) = some r := H
        have A14 := Aside0.mk A140
        clear A140
        replace H := Option.bind_eq_some_iff.mp H
        obtain ⟨t259, A150, H⟩ := H
        replace H : (if t259 = true then ((punches_Pair.f l0 l1).bind fun bt260 => ((punches_Pair.f t253 t254).bind fun bt265 => ((punches_Worked.f l0 l1 bt260.1).bind fun bt270 => ((punches_Worked.f t253 t254 bt265.1).bind fun bt274 => (if t251 = true then (if bt260.2.2 = 0 then (if bt265.2.2 = 0 then (if bt260.2.1 = bt265.2.1 then ((wageofficeref22_Same.f kj4 bt260.1 bt265.1).bind fun t278 => (if t278 = true then (if bt270.2 = 0 then (if bt274.2 = 0 then ((wageofficeref22_SameInts.f kj4 bt270.1 bt274.1).bind fun t279 => (some t279)) else (some false)) else (some false)) else (some false))) else (some false)) else (some false)) else (some false)) else (some false)))))) else (some t251)) = some r := H
        have A15 := Aside0.mk A150
        clear A150
        by_cases c16 : t259 = true
        · subst c16
          have H1 : ((punches_Pair.f l0 l1).bind fun bt260 => ((punches_Pair.f t253 t254).bind fun bt265 => ((punches_Worked.f l0 l1 bt260.1).bind fun bt270 => ((punches_Worked.f t253 t254 bt265.1).bind fun bt274 => (if t251 = true then (if bt260.2.2 = 0 then (if bt265.2.2 = 0 then (if bt260.2.1 = bt265.2.1 then ((wageofficeref22_Same.f kj4 bt260.1 bt265.1).bind fun t278 => (if t278 = true then (if bt270.2 = 0 then (if bt274.2 = 0 then ((wageofficeref22_SameInts.f kj4 bt270.1 bt274.1).bind fun t279 => (some t279)) else (some false)) else (some false)) else (some false))) else (some false)) else (some false)) else (some false)) else (some false)))))) = some r := by rw [if_pos rfl] at H; exact H
          clear H
          have H := H1
          clear H1
          replace H := Option.bind_eq_some_iff.mp H
          obtain ⟨⟨t260, t261, t262⟩, A170, H⟩ := H
          replace H : ((punches_Pair.f t253 t254).bind fun bt265 => ((punches_Worked.f l0 l1 t260).bind fun bt270 => ((punches_Worked.f t253 t254 bt265.1).bind fun bt274 => (if t251 = true then (if t262 = 0 then (if bt265.2.2 = 0 then (if t261 = bt265.2.1 then ((wageofficeref22_Same.f kj4 t260 bt265.1).bind fun t278 => (if t278 = true then (if bt270.2 = 0 then (if bt274.2 = 0 then ((wageofficeref22_SameInts.f kj4 bt270.1 bt274.1).bind fun t279 => (some t279)) else (some false)) else (some false)) else (some false))) else (some false)) else (some false)) else (some false)) else (some false))))) = some r := H
          have A17 := Aside0.mk A170
          clear A170
          replace H := Option.bind_eq_some_iff.mp H
          obtain ⟨⟨t265, t266, t267⟩, A180, H⟩ := H
          replace H : ((punches_Worked.f l0 l1 t260).bind fun bt270 => ((punches_Worked.f t253 t254 t265).bind fun bt274 => (if t251 = true then (if t262 = 0 then (if t267 = 0 then (if t261 = t266 then ((wageofficeref22_Same.f kj4 t260 t265).bind fun t278 => (if t278 = true then (if bt270.2 = 0 then (if bt274.2 = 0 then ((wageofficeref22_SameInts.f kj4 bt270.1 bt274.1).bind fun t279 => (some t279)) else (some false)) else (some false)) else (some false))) else (some false)) else (some false)) else (some false)) else (some false)))) = some r := H
          have A18 := Aside0.mk A180
          clear A180
          replace H := Option.bind_eq_some_iff.mp H
          obtain ⟨⟨t270, t271⟩, A190, H⟩ := H
          replace H : ((punches_Worked.f t253 t254 t265).bind fun bt274 => (if t251 = true then (if t262 = 0 then (if t267 = 0 then (if t261 = t266 then ((wageofficeref22_Same.f kj4 t260 t265).bind fun t278 => (if t278 = true then (if t271 = 0 then (if bt274.2 = 0 then ((wageofficeref22_SameInts.f kj4 t270 bt274.1).bind fun t279 => (some t279)) else (some false)) else (some false)) else (some false))) else (some false)) else (some false)) else (some false)) else (some false))) = some r := H
          have A19 := Aside0.mk A190
          clear A190
          replace H := Option.bind_eq_some_iff.mp H
          obtain ⟨⟨t274, t275⟩, A200, H⟩ := H
          replace H : (if t251 = true then (if t262 = 0 then (if t267 = 0 then (if t261 = t266 then ((wageofficeref22_Same.f kj4 t260 t265).bind fun t278 => (if t278 = true then (if t271 = 0 then (if t275 = 0 then ((wageofficeref22_SameInts.f kj4 t270 t274).bind fun t279 => (some t279)) else (some false)) else (some false)) else (some false))) else (some false)) else (some false)) else (some false)) else (some false)) = some r := H
          have A20 := Aside0.mk A200
          clear A200
          by_cases c21 : t251 = true
          · subst c21
            have H1 : (if t262 = 0 then (if t267 = 0 then (if t261 = t266 then ((wageofficeref22_Same.f kj4 t260 t265).bind fun t278 => (if t278 = true then (if t271 = 0 then (if t275 = 0 then ((wageofficeref22_SameInts.f kj4 t270 t274).bind fun t279 => (some t279)) else (some false)) else (some false)) else (some false))) else (some false)) else (some false)) else (some false)) = some r := by rw [if_pos rfl] at H; exact H
            clear H
            have H := H1
            clear H1
            by_cases c22 : t262 = 0
            · rw [if_pos c22] at H
              have c22b0 : (t262 == 0) = true := beq_iff_eq.mpr c22
              have c22b1 : (t262 != 0) = false := bne_eq_false_iff_eq.mpr c22
              clear c22
              by_cases c23 : t267 = 0
              · rw [if_pos c23] at H
                have c23b0 : (t267 == 0) = true := beq_iff_eq.mpr c23
                have c23b1 : (t267 != 0) = false := bne_eq_false_iff_eq.mpr c23
                clear c23
                by_cases c24 : t261 = t266
                · rw [if_pos c24] at H
                  have c24b0 : (t261 == t266) = true := beq_iff_eq.mpr c24
                  have c24b1 : (t261 != t266) = false := bne_eq_false_iff_eq.mpr c24
                  clear c24
                  replace H := Option.bind_eq_some_iff.mp H
                  obtain ⟨t278, A250, H⟩ := H
                  replace H : (if t278 = true then (if t271 = 0 then (if t275 = 0 then ((wageofficeref22_SameInts.f kj4 t270 t274).bind fun t279 => (some t279)) else (some false)) else (some false)) else (some false)) = some r := H
                  have A25 := Aside0.mk A250
                  clear A250
                  by_cases c26 : t278 = true
                  · subst c26
                    have H1 : (if t271 = 0 then (if t275 = 0 then ((wageofficeref22_SameInts.f kj4 t270 t274).bind fun t279 => (some t279)) else (some false)) else (some false)) = some r := by rw [if_pos rfl] at H; exact H
                    clear H
                    have H := H1
                    clear H1
                    by_cases c27 : t271 = 0
                    · rw [if_pos c27] at H
                      have c27b0 : (t271 == 0) = true := beq_iff_eq.mpr c27
                      have c27b1 : (t271 != 0) = false := bne_eq_false_iff_eq.mpr c27
                      clear c27
                      by_cases c28 : t275 = 0
                      · rw [if_pos c28] at H
                        have c28b0 : (t275 == 0) = true := beq_iff_eq.mpr c28
                        have c28b1 : (t275 != 0) = false := bne_eq_false_iff_eq.mpr c28
                        clear c28
                        replace H := Option.bind_eq_some_iff.mp H
                        obtain ⟨t279, A290, H⟩ := H
                        replace H : (some t279) = some r := H
                        have A29 := Aside0.mk A290
                        clear A290
                        obtain rfl := Option.some.inj H
                        go_wp2_with (first | ((with_reducible refine gate_callee (f := 23) rfl ?_); refine goesL_ (some 38) rfl rfl Try.func23 (by kernel_rfl) rfl #[.slice A0 l0.length c0, .slice A1 l1.length c1, .int .i64 a2] rfl (by (try simp only [List.map_toArray, List.map_cons, List.map_nil]); first | done | rfl | (simp only [List.length_drop, List.length_take]; rfl)) ?_; (with_reducible refine (wageofficelaw22_moved.calls kj4 _ _ l0 _ _ l1 a2 t253 t254 _ ?side1 ?side2 ?side3 ?side4 A14.out).mono ?_); (case side1 => repeat (first | exact (Kd.C_below HR0.out HB.out) | (with_reducible refine Kd.C_alloc ?_ _) | (with_reducible refine Kd.C_drewN ?_ _) | (with_reducible refine Kd.C_drew ?_))); (case side2 => exact HC0.out); (case side3 => repeat (first | exact (Kd.C_below HR1.out HB.out) | (with_reducible refine Kd.C_alloc ?_ _) | (with_reducible refine Kd.C_drewN ?_ _) | (with_reducible refine Kd.C_drew ?_))); (case side4 => exact HC1.out); rintro e w30 ⟨v255, v257, rfl, ho0, ho1, hb⟩; refine ⟨_, rfl, ?_⟩; have n0_ := Aside0.mk (Kd.R_lower ho0 (below_size (by repeat (first | (with_reducible first | exact HB.out | apply below_alloc | apply pw_below_drewN | apply below_drew1) | exact HB.out)))); have n1_ := Aside0.mk (Kd.R_lower ho1 (below_size (by repeat (first | (with_reducible first | exact HB.out | apply below_alloc | apply pw_below_drewN | apply below_drew1) | exact HB.out)))); have n2_ := Aside0.mk (below_step (by repeat (first | (with_reducible first | exact HB.out | apply below_alloc | apply pw_below_drewN | apply below_drew1) | exact HB.out)) hb); clear HB; have HO256 := n0_; have HO258 := n1_; have HB := n2_; clear n0_ n1_ n2_; (try clear hb); (try clear hb2); (try clear hk); (try clear hi); (try clear ho0); (try clear ho1); obtain ⟨Ao31, co31, eo31⟩ := Kd.R_slice HO256.out; subst eo31; obtain ⟨Ao32, co32, eo32⟩ := Kd.R_slice HO258.out; subst eo32) | ((with_reducible refine gate_callee (f := 19) rfl ?_); refine goesL_ (some 43) rfl rfl Try.func19 (by kernel_rfl) rfl #[.slice Ao31 t253.length co31, .slice Ao32 t254.length co32] rfl (by (try simp only [List.map_toArray, List.map_cons, List.map_nil]); first | done | rfl | (simp only [List.length_drop, List.length_take]; rfl)) ?_; (with_reducible refine (wageofficelaw22_usable.calls kj4 _ _ t253 _ _ t254 true _ ?side1 ?side2 ?side3 ?side4 A15.out).mono ?_); (case side1 => repeat (first | exact (Kd.R_reads' HO256.out).2.2 | (with_reducible refine Kd.C_alloc ?_ _) | (with_reducible refine Kd.C_drewN ?_ _) | (with_reducible refine Kd.C_drew ?_))); (case side2 => exact (Kd.R_reads' HO256.out).2.1); (case side3 => repeat (first | exact (Kd.R_reads' HO258.out).2.2 | (with_reducible refine Kd.C_alloc ?_ _) | (with_reducible refine Kd.C_drewN ?_ _) | (with_reducible refine Kd.C_drew ?_))); (case side4 => exact (Kd.R_reads' HO258.out).2.1); rintro e w33 ⟨rfl, hb⟩; refine ⟨_, rfl, ?_⟩; have n0_ := Aside0.mk (Kd.R_below (by (with_reducible repeat (first | apply Kd.R_alloc | apply Kd.R_drewN | apply Kd.R_drew)); exact HO256.out) hb); have n1_ := Aside0.mk (Kd.R_below (by (with_reducible repeat (first | apply Kd.R_alloc | apply Kd.R_drewN | apply Kd.R_drew)); exact HO258.out) hb); have n2_ := Aside0.mk (below_step (by repeat (first | (with_reducible first | exact HB.out | apply below_alloc | apply pw_below_drewN | apply below_drew1) | exact HB.out)) hb); clear HO256; clear HO258; clear HB; have HO256 := n0_; have HO258 := n1_; have HB := n2_; clear n0_ n1_ n2_; (try clear hb); (try clear hb2); (try clear hk); (try clear hi)) | ((with_reducible refine gate_callee (f := 13) rfl ?_); refine goesL_ (some 49) rfl rfl Try.func13 (by kernel_rfl) rfl #[.slice A0 l0.length c0, .slice A1 l1.length c1] rfl (by (try simp only [List.map_toArray, List.map_cons, List.map_nil]); first | done | rfl | (simp only [List.length_drop, List.length_take]; rfl)) ?_; (with_reducible refine (punches_Pair.calls _ _ l0 _ _ l1 t260 t261 t262 _ ?side1 ?side2 ?side3 ?side4 A17.out).mono ?_); (case side1 => repeat (first | exact (Kd.C_below HR0.out HB.out) | (with_reducible refine Kd.C_alloc ?_ _) | (with_reducible refine Kd.C_drewN ?_ _) | (with_reducible refine Kd.C_drew ?_))); (case side2 => exact HC0.out); (case side3 => repeat (first | exact (Kd.C_below HR1.out HB.out) | (with_reducible refine Kd.C_alloc ?_ _) | (with_reducible refine Kd.C_drewN ?_ _) | (with_reducible refine Kd.C_drew ?_))); (case side4 => exact HC1.out); rintro e w34 ⟨v263, rfl, ho0, hb⟩; refine ⟨_, rfl, ?_⟩; have n0_ := Aside0.mk (Kd.R_below (by (with_reducible repeat (first | apply Kd.R_alloc | apply Kd.R_drewN | apply Kd.R_drew)); exact HO256.out) hb); have n1_ := Aside0.mk (Kd.R_below (by (with_reducible repeat (first | apply Kd.R_alloc | apply Kd.R_drewN | apply Kd.R_drew)); exact HO258.out) hb); have n2_ := Aside0.mk (Kd.R_lower ho0 (below_size (by repeat (first | (with_reducible first | exact HB.out | apply below_alloc | apply pw_below_drewN | apply below_drew1) | exact HB.out)))); have n3_ := Aside0.mk (below_step (by repeat (first | (with_reducible first | exact HB.out | apply below_alloc | apply pw_below_drewN | apply below_drew1) | exact HB.out)) hb); clear HO256; clear HO258; clear HB; have HO256 := n0_; have HO258 := n1_; have HO264 := n2_; have HB := n3_; clear n0_ n1_ n2_ n3_; (try clear hb); (try clear hb2); (try clear hk); (try clear hi); (try clear ho0)) | ((with_reducible refine gate_callee (f := 13) rfl ?_); refine goesL_ (some 56) rfl rfl Try.func13 (by kernel_rfl) rfl #[.slice Ao31 t253.length co31, .slice Ao32 t254.length co32] rfl (by (try simp only [List.map_toArray, List.map_cons, List.map_nil]); first | done | rfl | (simp only [List.length_drop, List.length_take]; rfl)) ?_; (with_reducible refine (punches_Pair.calls _ _ t253 _ _ t254 t265 t266 t267 _ ?side1 ?side2 ?side3 ?side4 A18.out).mono ?_); (case side1 => repeat (first | exact (Kd.R_reads' HO256.out).2.2 | (with_reducible refine Kd.C_alloc ?_ _) | (with_reducible refine Kd.C_drewN ?_ _) | (with_reducible refine Kd.C_drew ?_))); (case side2 => exact (Kd.R_reads' HO256.out).2.1); (case side3 => repeat (first | exact (Kd.R_reads' HO258.out).2.2 | (with_reducible refine Kd.C_alloc ?_ _) | (with_reducible refine Kd.C_drewN ?_ _) | (with_reducible refine Kd.C_drew ?_))); (case side4 => exact (Kd.R_reads' HO258.out).2.1); rintro e w35 ⟨v268, rfl, ho0, hb⟩; refine ⟨_, rfl, ?_⟩; have n0_ := Aside0.mk (Kd.R_below (by (with_reducible repeat (first | apply Kd.R_alloc | apply Kd.R_drewN | apply Kd.R_drew)); exact HO256.out) hb); have n1_ := Aside0.mk (Kd.R_below (by (with_reducible repeat (first | apply Kd.R_alloc | apply Kd.R_drewN | apply Kd.R_drew)); exact HO258.out) hb); have n2_ := Aside0.mk (Kd.R_elder' (by (with_reducible repeat (first | apply Kd.R_alloc | apply Kd.R_drewN | apply Kd.R_drew)); exact HO264.out) (Kd.R_base ho0) hb); have n3_ := Aside0.mk (Kd.R_lower (Kd.R_new' ho0 (Kd.R_lt (by (with_reducible repeat (first | apply Kd.R_alloc | apply Kd.R_drewN | apply Kd.R_drew)); exact HO264.out))) (below_size (by repeat (first | (with_reducible first | exact HB.out | apply below_alloc | apply pw_below_drewN | apply below_drew1) | exact HB.out)))); have n4_ := Aside0.mk (below_step (by repeat (first | (with_reducible first | exact HB.out | apply below_alloc | apply pw_below_drewN | apply below_drew1) | exact HB.out)) hb); clear HO256; clear HO258; clear HO264; clear HB; have HO256 := n0_; have HO258 := n1_; have HO264 := n2_; have HO269 := n3_; have HB := n4_; clear n0_ n1_ n2_ n3_ n4_; (try clear hb); (try clear hb2); (try clear hk); (try clear hi); (try clear ho0); obtain ⟨Ao36, co36, eo36⟩ := Kd.R_slice HO264.out; subst eo36) | ((with_reducible refine gate_callee (f := 15) rfl ?_); refine goesL_ (some 64) rfl rfl Try.func15 (by kernel_rfl) rfl #[.slice A0 l0.length c0, .slice A1 l1.length c1, .slice Ao36 t260.length co36] rfl (by (try simp only [List.map_toArray, List.map_cons, List.map_nil]); first | done | rfl | (simp only [List.length_drop, List.length_take]; rfl)) ?_; (with_reducible refine (punches_Worked.calls _ _ l0 _ _ l1 _ _ t260 t270 t271 _ ?side1 ?side2 ?side3 ?side4 ?side5 ?side6 A19.out).mono ?_); (case side1 => repeat (first | exact (Kd.C_below HR0.out HB.out) | (with_reducible refine Kd.C_alloc ?_ _) | (with_reducible refine Kd.C_drewN ?_ _) | (with_reducible refine Kd.C_drew ?_))); (case side2 => exact HC0.out); (case side3 => repeat (first | exact (Kd.C_below HR1.out HB.out) | (with_reducible refine Kd.C_alloc ?_ _) | (with_reducible refine Kd.C_drewN ?_ _) | (with_reducible refine Kd.C_drew ?_))); (case side4 => exact HC1.out); (case side5 => repeat (first | exact (Kd.R_reads' HO264.out).2.2 | (with_reducible refine Kd.C_alloc ?_ _) | (with_reducible refine Kd.C_drewN ?_ _) | (with_reducible refine Kd.C_drew ?_))); (case side6 => exact (Kd.R_reads' HO264.out).2.1); rintro e w37 ⟨v272, rfl, ho0, hb⟩; refine ⟨_, rfl, ?_⟩; have n0_ := Aside0.mk (Kd.R_below (by (with_reducible repeat (first | apply Kd.R_alloc | apply Kd.R_drewN | apply Kd.R_drew)); exact HO256.out) hb); have n1_ := Aside0.mk (Kd.R_below (by (with_reducible repeat (first | apply Kd.R_alloc | apply Kd.R_drewN | apply Kd.R_drew)); exact HO258.out) hb); have n2_ := Aside0.mk (Kd.R_below (by (with_reducible repeat (first | apply Kd.R_alloc | apply Kd.R_drewN | apply Kd.R_drew)); exact HO264.out) hb); have n3_ := Aside0.mk (Kd.R_below (by (with_reducible repeat (first | apply Kd.R_alloc | apply Kd.R_drewN | apply Kd.R_drew)); exact HO269.out) hb); have n4_ := Aside0.mk (Kd.R_lower ho0 (below_size (by repeat (first | (with_reducible first | exact HB.out | apply below_alloc | apply pw_below_drewN | apply below_drew1) | exact HB.out)))); have n5_ := Aside0.mk (below_step (by repeat (first | (with_reducible first | exact HB.out | apply below_alloc | apply pw_below_drewN | apply below_drew1) | exact HB.out)) hb); clear HO256; clear HO258; clear HO264; clear HO269; clear HB; have HO256 := n0_; have HO258 := n1_; have HO264 := n2_; have HO269 := n3_; have HO273 := n4_; have HB := n5_; clear n0_ n1_ n2_ n3_ n4_ n5_; (try clear hb); (try clear hb2); (try clear hk); (try clear hi); (try clear ho0); obtain ⟨Ao38, co38, eo38⟩ := Kd.R_slice HO269.out; subst eo38) | ((with_reducible refine gate_callee (f := 15) rfl ?_); refine goesL_ (some 71) rfl rfl Try.func15 (by kernel_rfl) rfl #[.slice Ao31 t253.length co31, .slice Ao32 t254.length co32, .slice Ao38 t265.length co38] rfl (by (try simp only [List.map_toArray, List.map_cons, List.map_nil]); first | done | rfl | (simp only [List.length_drop, List.length_take]; rfl)) ?_; (with_reducible refine (punches_Worked.calls _ _ t253 _ _ t254 _ _ t265 t274 t275 _ ?side1 ?side2 ?side3 ?side4 ?side5 ?side6 A20.out).mono ?_); (case side1 => repeat (first | exact (Kd.R_reads' HO256.out).2.2 | (with_reducible refine Kd.C_alloc ?_ _) | (with_reducible refine Kd.C_drewN ?_ _) | (with_reducible refine Kd.C_drew ?_))); (case side2 => exact (Kd.R_reads' HO256.out).2.1); (case side3 => repeat (first | exact (Kd.R_reads' HO258.out).2.2 | (with_reducible refine Kd.C_alloc ?_ _) | (with_reducible refine Kd.C_drewN ?_ _) | (with_reducible refine Kd.C_drew ?_))); (case side4 => exact (Kd.R_reads' HO258.out).2.1); (case side5 => repeat (first | exact (Kd.R_reads' HO269.out).2.2 | (with_reducible refine Kd.C_alloc ?_ _) | (with_reducible refine Kd.C_drewN ?_ _) | (with_reducible refine Kd.C_drew ?_))); (case side6 => exact (Kd.R_reads' HO269.out).2.1); rintro e w39 ⟨v276, rfl, ho0, hb⟩; refine ⟨_, rfl, ?_⟩; have n0_ := Aside0.mk (Kd.R_below (by (with_reducible repeat (first | apply Kd.R_alloc | apply Kd.R_drewN | apply Kd.R_drew)); exact HO256.out) hb); have n1_ := Aside0.mk (Kd.R_below (by (with_reducible repeat (first | apply Kd.R_alloc | apply Kd.R_drewN | apply Kd.R_drew)); exact HO258.out) hb); have n2_ := Aside0.mk (Kd.R_below (by (with_reducible repeat (first | apply Kd.R_alloc | apply Kd.R_drewN | apply Kd.R_drew)); exact HO264.out) hb); have n3_ := Aside0.mk (Kd.R_below (by (with_reducible repeat (first | apply Kd.R_alloc | apply Kd.R_drewN | apply Kd.R_drew)); exact HO269.out) hb); have n4_ := Aside0.mk (Kd.R_elder' (by (with_reducible repeat (first | apply Kd.R_alloc | apply Kd.R_drewN | apply Kd.R_drew)); exact HO273.out) (Kd.R_base ho0) hb); have n5_ := Aside0.mk (Kd.R_lower (Kd.R_new' ho0 (Kd.R_lt (by (with_reducible repeat (first | apply Kd.R_alloc | apply Kd.R_drewN | apply Kd.R_drew)); exact HO273.out))) (below_size (by repeat (first | (with_reducible first | exact HB.out | apply below_alloc | apply pw_below_drewN | apply below_drew1) | exact HB.out)))); have n6_ := Aside0.mk (below_step (by repeat (first | (with_reducible first | exact HB.out | apply below_alloc | apply pw_below_drewN | apply below_drew1) | exact HB.out)) hb); clear HO256; clear HO258; clear HO264; clear HO269; clear HO273; clear HB; have HO256 := n0_; have HO258 := n1_; have HO264 := n2_; have HO269 := n3_; have HO273 := n4_; have HO277 := n5_; have HB := n6_; clear n0_ n1_ n2_ n3_ n4_ n5_ n6_; (try clear hb); (try clear hb2); (try clear hk); (try clear hi); (try clear ho0)) | (go_at_call 17; (with_reducible refine (wageofficeref22_Same.calls kj4 _ _ t260 _ _ t265 true _ ?side1 ?side2 ?side3 ?side4 A25.out).mono ?_); (case side1 => repeat (first | exact (Kd.R_reads' HO264.out).2.2 | (with_reducible refine Kd.C_alloc ?_ _) | (with_reducible refine Kd.C_drewN ?_ _) | (with_reducible refine Kd.C_drew ?_))); (case side2 => exact (Kd.R_reads' HO264.out).2.1); (case side3 => repeat (first | exact (Kd.R_reads' HO269.out).2.2 | (with_reducible refine Kd.C_alloc ?_ _) | (with_reducible refine Kd.C_drewN ?_ _) | (with_reducible refine Kd.C_drew ?_))); (case side4 => exact (Kd.R_reads' HO269.out).2.1); rintro e w' ⟨rfl, ⟨nd, rfl⟩⟩; obtain ⟨Ao40, co40, eo40⟩ := Kd.R_slice HO273.out; subst eo40; obtain ⟨Ao41, co41, eo41⟩ := Kd.R_slice HO277.out; subst eo41) | (go_at_call 18; (with_reducible refine (wageofficeref22_SameInts.calls kj4 _ _ t270 _ _ t274 t279 _ ?side1 ?side2 ?side3 ?side4 A29.out).mono ?_); (case side1 => repeat (first | exact (Kd.R_reads' HO273.out).2.2 | (with_reducible refine Kd.C_alloc ?_ _) | (with_reducible refine Kd.C_drewN ?_ _) | (with_reducible refine Kd.C_drew ?_))); (case side2 => exact (Kd.R_reads' HO273.out).2.1); (case side3 => repeat (first | exact (Kd.R_reads' HO277.out).2.2 | (with_reducible refine Kd.C_alloc ?_ _) | (with_reducible refine Kd.C_drewN ?_ _) | (with_reducible refine Kd.C_drew ?_))); (case side4 => exact (Kd.R_reads' HO277.out).2.1); rintro e w' ⟨rfl, ⟨nd, rfl⟩⟩))
                        go_ret
                        exact ⟨by first | rfl | (simp [errW_none, errW_some] <;> rfl) | (simp [*, errW_none, errW_some] <;> rfl), by repeat (first | (with_reducible first | exact HB.out | apply below_alloc | apply pw_below_drewN | apply below_drew1) | exact HB.out)⟩
                      · rw [if_neg c28] at H
                        have c28b0 : (t275 == 0) = false := beq_eq_false_iff_ne.mpr c28
                        have c28b1 : (t275 != 0) = true := bne_iff_ne.mpr c28
                        exact absurd ((Option.some.inj H).trans PR.out) (by decide)
                    · rw [if_neg c27] at H
                      have c27b0 : (t271 == 0) = false := beq_eq_false_iff_ne.mpr c27
                      have c27b1 : (t271 != 0) = true := bne_iff_ne.mpr c27
                      exact absurd ((Option.some.inj H).trans PR.out) (by decide)
                  · replace c26 := Bool.eq_false_iff.mpr c26
                    subst c26
                    have H1 : (some false) = some r := by rw [if_neg (show ¬ (false = true) by decide)] at H; exact H
                    clear H
                    have H := H1
                    clear H1
                    exact absurd ((Option.some.inj H).trans PR.out) (by decide)
                · rw [if_neg c24] at H
                  have c24b0 : (t261 == t266) = false := beq_eq_false_iff_ne.mpr c24
                  have c24b1 : (t261 != t266) = true := bne_iff_ne.mpr c24
                  exact absurd ((Option.some.inj H).trans PR.out) (by decide)
              · rw [if_neg c23] at H
                have c23b0 : (t267 == 0) = false := beq_eq_false_iff_ne.mpr c23
                have c23b1 : (t267 != 0) = true := bne_iff_ne.mpr c23
                exact absurd ((Option.some.inj H).trans PR.out) (by decide)
            · rw [if_neg c22] at H
              have c22b0 : (t262 == 0) = false := beq_eq_false_iff_ne.mpr c22
              have c22b1 : (t262 != 0) = true := bne_iff_ne.mpr c22
              exact absurd ((Option.some.inj H).trans PR.out) (by decide)
          · replace c21 := Bool.eq_false_iff.mpr c21
            subst c21
            have H1 : (some false) = some r := by rw [if_neg (show ¬ (false = true) by decide)] at H; exact H
            clear H
            have H := H1
            clear H1
            exact absurd ((Option.some.inj H).trans PR.out) (by decide)
        · replace c16 := Bool.eq_false_iff.mpr c16
          subst c16
          have H1 : (some t251) = some r := by rw [if_neg (show ¬ (false = true) by decide)] at H; exact H
          clear H
          have H := H1
          clear H1
          obtain rfl := Option.some.inj H
          go_wp2_with (first | ((with_reducible refine gate_callee (f := 23) rfl ?_); refine goesL_ (some 38) rfl rfl Try.func23 (by kernel_rfl) rfl #[.slice A0 l0.length c0, .slice A1 l1.length c1, .int .i64 a2] rfl (by (try simp only [List.map_toArray, List.map_cons, List.map_nil]); first | done | rfl | (simp only [List.length_drop, List.length_take]; rfl)) ?_; (with_reducible refine (wageofficelaw22_moved.calls kj4 _ _ l0 _ _ l1 a2 t253 t254 _ ?side1 ?side2 ?side3 ?side4 A14.out).mono ?_); (case side1 => repeat (first | exact (Kd.C_below HR0.out HB.out) | (with_reducible refine Kd.C_alloc ?_ _) | (with_reducible refine Kd.C_drewN ?_ _) | (with_reducible refine Kd.C_drew ?_))); (case side2 => exact HC0.out); (case side3 => repeat (first | exact (Kd.C_below HR1.out HB.out) | (with_reducible refine Kd.C_alloc ?_ _) | (with_reducible refine Kd.C_drewN ?_ _) | (with_reducible refine Kd.C_drew ?_))); (case side4 => exact HC1.out); rintro e w42 ⟨v255, v257, rfl, ho0, ho1, hb⟩; refine ⟨_, rfl, ?_⟩; have n0_ := Aside0.mk (Kd.R_lower ho0 (below_size (by repeat (first | (with_reducible first | exact HB.out | apply below_alloc | apply pw_below_drewN | apply below_drew1) | exact HB.out)))); have n1_ := Aside0.mk (Kd.R_lower ho1 (below_size (by repeat (first | (with_reducible first | exact HB.out | apply below_alloc | apply pw_below_drewN | apply below_drew1) | exact HB.out)))); have n2_ := Aside0.mk (below_step (by repeat (first | (with_reducible first | exact HB.out | apply below_alloc | apply pw_below_drewN | apply below_drew1) | exact HB.out)) hb); clear HB; have HO256 := n0_; have HO258 := n1_; have HB := n2_; clear n0_ n1_ n2_; (try clear hb); (try clear hb2); (try clear hk); (try clear hi); (try clear ho0); (try clear ho1); obtain ⟨Ao43, co43, eo43⟩ := Kd.R_slice HO256.out; subst eo43; obtain ⟨Ao44, co44, eo44⟩ := Kd.R_slice HO258.out; subst eo44) | ((with_reducible refine gate_callee (f := 19) rfl ?_); refine goesL_ (some 43) rfl rfl Try.func19 (by kernel_rfl) rfl #[.slice Ao43 t253.length co43, .slice Ao44 t254.length co44] rfl (by (try simp only [List.map_toArray, List.map_cons, List.map_nil]); first | done | rfl | (simp only [List.length_drop, List.length_take]; rfl)) ?_; (with_reducible refine (wageofficelaw22_usable.calls kj4 _ _ t253 _ _ t254 false _ ?side1 ?side2 ?side3 ?side4 A15.out).mono ?_); (case side1 => repeat (first | exact (Kd.R_reads' HO256.out).2.2 | (with_reducible refine Kd.C_alloc ?_ _) | (with_reducible refine Kd.C_drewN ?_ _) | (with_reducible refine Kd.C_drew ?_))); (case side2 => exact (Kd.R_reads' HO256.out).2.1); (case side3 => repeat (first | exact (Kd.R_reads' HO258.out).2.2 | (with_reducible refine Kd.C_alloc ?_ _) | (with_reducible refine Kd.C_drewN ?_ _) | (with_reducible refine Kd.C_drew ?_))); (case side4 => exact (Kd.R_reads' HO258.out).2.1); rintro e w45 ⟨rfl, hb⟩; refine ⟨_, rfl, ?_⟩; have n0_ := Aside0.mk (Kd.R_below (by (with_reducible repeat (first | apply Kd.R_alloc | apply Kd.R_drewN | apply Kd.R_drew)); exact HO256.out) hb); have n1_ := Aside0.mk (Kd.R_below (by (with_reducible repeat (first | apply Kd.R_alloc | apply Kd.R_drewN | apply Kd.R_drew)); exact HO258.out) hb); have n2_ := Aside0.mk (below_step (by repeat (first | (with_reducible first | exact HB.out | apply below_alloc | apply pw_below_drewN | apply below_drew1) | exact HB.out)) hb); clear HO256; clear HO258; clear HB; have HO256 := n0_; have HO258 := n1_; have HB := n2_; clear n0_ n1_ n2_; (try clear hb); (try clear hb2); (try clear hk); (try clear hi)))
          go_ret
          exact ⟨by first | rfl | (simp [errW_none, errW_some] <;> rfl) | (simp [*, errW_none, errW_some] <;> rfl), by repeat (first | (with_reducible first | exact HB.out | apply below_alloc | apply pw_below_drewN | apply below_drew1) | exact HB.out)⟩

end Go.Proofs.Ytpbamfoaoeicgaa.PAll

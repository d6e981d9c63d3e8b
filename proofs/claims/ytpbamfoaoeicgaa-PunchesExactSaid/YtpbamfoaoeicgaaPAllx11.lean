-- Printed by a program (the kit's print, with functions given by hand) out of the translation: machine-written for this claim.
import Derived.Test.YtpbamfoaoeicgaaPAllx0
import Derived.Test.YtpbamfoaoeicgaaPAllx3
import Derived.Test.YtpbamfoaoeicgaaPAllx4
import Derived.Test.YtpbamfoaoeicgaaPAllx5
import Derived.Test.YtpbamfoaoeicgaaPAllx8
namespace Go.Proofs.Ytpbamfoaoeicgaa.PAll
open Go.RowKit Go.Proofs.YtpbamfoaoeicgaaW.PrintWords Go.Proofs.YtpbamfoaoeicgaaW.PrintLast Go.Proofs.YtpbamfoaoeicgaaW.PrintMore
attribute [local go_sem] max2_int min2_int max_two min_two max_three min_three max_four min_four   -- for this text's walks alone
set_option linter.unusedVariables false
set_option linter.unusedSimpArgs false

/-! ### wageofficelaw22_PunchesExact: function 5 -/
def wageofficelaw22_PunchesExact.l0 : Nat → List (S48) → Bool → List (S45) → List Int → List Int → List (S48) → Int → Int → Option (Bool)
  | 0, _, _, _, _, _, _, _, _ => none
  | k + 1, x0, x3, x4, x5, x6, x24, x25, x26 => if x26 < x25 then (if 0 ≤ x26 then (if x26 < (x24.length : Int) then ((some (([(⟨(rd_T48 x24 x26).f0, true⟩ : S45), (⟨(rd_T48 x24 x26).f1, false⟩ : S45)] : List (S45)) : List (S45))).bind fun y165 => (if x4.length + y165.length < 8796093022208 then (if x5.length < 17592186044416 then (if x6.length < 17592186044416 then (wageofficelaw22_PunchesExact.l0 k x0 x3 (x4 ++ y165) (x5 ++ [wrap64 (((rd_T48 x24 x26).f1) - ((rd_T48 x24 x26).f0))]) (x6 ++ [0]) x24 x25 (wrap64 (x26 + 1))) else (none)) else (none)) else (none))) else (none)) else (none)) else ((punches_Pair.f x0 x4).bind fun bt177 => ((punches_Worked.f x0 x4 bt177.1).bind fun bt182 => ((punches_Pair.f x0 ([] : List (S45))).bind fun bt186 => ((punches_Worked.f x0 ([] : List (S45)) bt186.1).bind fun bt191 => (if x3 = true then (if bt177.2.2 = 0 then (if bt182.2 = 0 then (if bt186.2.2 = 0 then (if bt191.2 = 0 then (if bt177.2.1 = 0 then ((wageofficeref22_SameInts.f k bt182.1 x5).bind fun t195 => (if t195 = true then (if bt186.2.1 = (wrap64 (240 * (x0.length : Int))) then ((wageofficeref22_SameInts.f k bt191.1 x6).bind fun t196 => (some t196)) else (some false)) else (some false))) else (some false)) else (some false)) else (some false)) else (some false)) else (some false)) else (some false))))))
def wageofficelaw22_PunchesExact.f (k : Nat) (l0 : List (S48)) : Option (Bool) := (wageofficelaw22_head.f).bind fun t161 => ((wageofficelaw22_usable.f k l0 ([] : List (S45))).bind fun t162 => (if t162 = true then (wageofficelaw22_PunchesExact.l0 k l0 t161 ([] : List (S45)) ([] : List Int) ([] : List Int) l0 (l0.length : Int) 0) else (some t161)))
theorem wageofficelaw22_PunchesExact.mono_l : ∀ k, (∀ y0 y1 y2 y3 y4 y5 y6 y7, LeO (wageofficelaw22_PunchesExact.l0 k y0 y1 y2 y3 y4 y5 y6 y7) (wageofficelaw22_PunchesExact.l0 (k + 1) y0 y1 y2 y3 y4 y5 y6 y7))
  | 0 => fun _ _ _ _ _ _ _ _ r h => by simp [wageofficelaw22_PunchesExact.l0] at h
  | k + 1 => by
    have ih0 := wageofficelaw22_PunchesExact.mono_l k
    · intro y0 y1 y2 y3 y4 y5 y6 y7
      unfold wageofficelaw22_PunchesExact.l0
      repeat' first
      | (with_reducible exact ih0 _ _ _ _ _ _ _ _)
      | (with_reducible exact wageofficelaw22_usable.mono _ _ _)
      | (with_reducible exact wageofficeref22_SameInts.mono _ _ _)
      | (with_reducible exact LeO.refl _)
      | (with_reducible exact LeO.none _)
      | (with_reducible refine LeO.ite ?_ ?_)
      | (with_reducible refine LeO.bind ?_ (fun _ => ?_))
      | exact ih0 _ _ _ _ _ _ _ _
      | exact wageofficelaw22_usable.mono _ _ _
      | exact wageofficeref22_SameInts.mono _ _ _
      | exact LeO.none _
      | refine LeO.ite ?_ ?_
      | refine LeO.bind ?_ (fun _ => ?_)
theorem wageofficelaw22_PunchesExact.mono : ∀ a0 k, LeO (wageofficelaw22_PunchesExact.f k a0) (wageofficelaw22_PunchesExact.f (k + 1) a0) := by
  intro a0 k
  have ih0 := wageofficelaw22_PunchesExact.mono_l k
  unfold wageofficelaw22_PunchesExact.f
  repeat' first
      | (with_reducible exact ih0 _ _ _ _ _ _ _ _)
      | (with_reducible exact wageofficelaw22_usable.mono _ _ _)
      | (with_reducible exact wageofficeref22_SameInts.mono _ _ _)
      | (with_reducible exact LeO.refl _)
      | (with_reducible exact LeO.none _)
      | (with_reducible refine LeO.ite ?_ ?_)
      | (with_reducible refine LeO.bind ?_ (fun _ => ?_))
      | exact ih0 _ _ _ _ _ _ _ _
      | exact wageofficelaw22_usable.mono _ _ _
      | exact wageofficeref22_SameInts.mono _ _ _
      | exact LeO.none _
      | refine LeO.ite ?_ ?_
      | refine LeO.bind ?_ (fun _ => ?_)
set_option maxHeartbeats 8000000 in
set_option maxRecDepth 100000 in
theorem wageofficelaw22_PunchesExact.calls (k : Nat) (A0 : Option Addr) (c0 : Nat) (l0 : List (S48)) (r : Bool) (w : World) (hr0 : Kd.C k48 w A0 l0.length l0) (hc0 : l0.length ≤ c0) (hr : r = true) (h : wageofficelaw22_PunchesExact.f k l0 = some r) :
    Calls Try.prog 5 #[.slice A0 l0.length c0] w fun e w' => e = .returned (.bool r) ∧ Below w.heap.size w w' := by
  have hu48 := Try.underlying48
  have hu45 := Try.underlying45
  have HR0 := Aside0.mk hr0
  have HC0 := Aside0.mk hc0
  clear hr0 hc0
  have HB := Aside0.mk (Below.refl w.heap.size w)
  have PR := Aside0.mk hr
  clear hr
  have H : ((wageofficelaw22_head.f).bind fun t161 => ((wageofficelaw22_usable.f k l0 ([] : List (S45))).bind fun t162 => (if t162 = true then (wageofficelaw22_PunchesExact.l0 k l0 t161 ([] : List (S45)) ([] : List Int) ([] : List Int) l0 (l0.length : Int) 0) else (some t161)))) = some r := h
  clear h
  replace H := Option.bind_eq_some_iff.mp H
  obtain ⟨t161, A20, H⟩ := H
  replace H : ((wageofficelaw22_usable.f k l0 ([] : List (S45))).bind fun t162 => (if t162 = true then (wageofficelaw22_PunchesExact.l0 k l0 t161 ([] : List (S45)) ([] : List Int) ([] : List Int) l0 (l0.length : Int) 0) else (some t161))) = some r := H
  have A2 := Aside0.mk A20
  clear A20
  replace H := Option.bind_eq_some_iff.mp H
  obtain ⟨t162, A30, H⟩ := H
  replace H : (if t162 = true then (wageofficelaw22_PunchesExact.l0 k l0 t161 ([] : List (S45)) ([] : List Int) ([] : List Int) l0 (l0.length : Int) 0) else (some t161)) = some r := H
  have A3 := Aside0.mk A30
  clear A30
  by_cases c4 : t162 = true
  · subst c4
    have H1 : (wageofficelaw22_PunchesExact.l0 k l0 t161 ([] : List (S45)) ([] : List Int) ([] : List Int) l0 (l0.length : Int) 0) = some r := by rw [if_pos rfl] at H; exact H
    clear H
    have H := H1
    clear H1
    have H' := Aside0.mk H
    clear H
    go_enter Try.func5, Try.ntmps5
    go_wp2_with (first | ((with_reducible refine gate_callee (f := 11) rfl ?_); refine goesL_ (some 19) rfl rfl Try.func11 (by kernel_rfl) rfl #[] rfl (by (try simp only [List.map_toArray, List.map_cons, List.map_nil]); first | done | rfl | (simp only [List.length_drop, List.length_take]; rfl)) ?_; (with_reducible refine (wageofficelaw22_head.calls  t161 _ A2.out).mono ?_); rintro e w5 ⟨rfl, hb⟩; refine ⟨_, rfl, ?_⟩; have n0_ := Aside0.mk (below_step (by repeat (first | (with_reducible first | exact HB.out | apply below_alloc | apply pw_below_drewN | apply below_drew1) | exact HB.out)) hb); clear HB; have HB := n0_; clear n0_; (try clear hb); (try clear hb2); (try clear hk); (try clear hi)) | ((with_reducible refine gate_callee (f := 19) rfl ?_); refine goesL_ (some 21) rfl rfl Try.func19 (by kernel_rfl) rfl #[.slice A0 l0.length c0, .slice none 0 0] rfl (by (try simp only [List.map_toArray, List.map_cons, List.map_nil]); first | done | rfl | (simp only [List.length_drop, List.length_take]; rfl)) ?_; (refine (wageofficelaw22_usable.calls k _ _ l0 _ _ ([] : List (S45)) true _ ?side1 ?side2 ?side3 ?side4 A3.out).mono ?_); (case side1 => repeat (first | exact (Kd.C_below HR0.out HB.out) | (with_reducible refine Kd.C_alloc ?_ _) | (with_reducible refine Kd.C_drewN ?_ _) | (with_reducible refine Kd.C_drew ?_))); (case side2 => exact HC0.out); (case side3 => exact Kd.C_nil _ _); (case side4 => exact Nat.le_refl _); rintro e w6 ⟨rfl, hb⟩; refine ⟨_, rfl, ?_⟩; have n0_ := Aside0.mk (below_step (by repeat (first | (with_reducible first | exact HB.out | apply below_alloc | apply pw_below_drewN | apply below_drew1) | exact HB.out)) hb); clear HB; have HB := n0_; clear n0_; (try clear hb); (try clear hb2); (try clear hk); (try clear hi)))
    go_loopg [4, 5, 6, 26] k (fun kq v4 v5 v6 v26 w' => ∃ (x4_1 : List (S45)) (x5_1 : List Int) (x6_1 : List Int) (x26_1 : Int), v26 = .int .i64 x26_1 ∧ Aside0 (wageofficelaw22_PunchesExact.l0 kq l0 t161 x4_1 x5_1 x6_1 l0 (l0.length : Int) x26_1 = some r) ∧ Aside0 (kq ≤ k) ∧ Aside0 (Kd.R k45 45 w' w.heap.size (fun _ => True) v4 x4_1) ∧ Aside0 (Kd.R (Kd.int .i64) 3 w' w.heap.size (fun k_ => some k_ ≠ (v6 : Value).ownBlock) v5 x5_1) ∧ Aside0 (Kd.R (Kd.int .i64) 3 w' w.heap.size (fun k_ => some k_ ≠ (v5 : Value).ownBlock) v6 x6_1) ∧ Aside0 (Below w.heap.size w w'))
    case atStart => exact ⟨(([] : List (S45))), (([] : List Int)), (([] : List Int)), (0), (by first | rfl | (simp; done) | (simp [*]; done)), H', ⟨Nat.le_refl _⟩, ⟨by first | exact Kd.R_nil _ _ _ _ _ | exact Kd.N_nil _ _ _ _ _ | exact Kd.V_nil _ _ _ _ _ | exact Kd.Q_nil _ _ _ _ _ | exact Kd.S_nil _ _ _ _ _⟩, ⟨by first | exact Kd.R_nil _ _ _ _ _ | exact Kd.N_nil _ _ _ _ _ | exact Kd.V_nil _ _ _ _ _ | exact Kd.Q_nil _ _ _ _ _ | exact Kd.S_nil _ _ _ _ _⟩, ⟨by first | exact Kd.R_nil _ _ _ _ _ | exact Kd.N_nil _ _ _ _ _ | exact Kd.V_nil _ _ _ _ _ | exact Kd.Q_nil _ _ _ _ _ | exact Kd.S_nil _ _ _ _ _⟩, ⟨by repeat (first | (with_reducible first | exact HB.out | apply below_alloc | apply pw_below_drewN | apply below_drew1) | exact HB.out)⟩⟩
    case round =>
      clear H'
      try clear c1
      try clear p2
      try clear c4
      try clear c5
      obtain ⟨x4_1, x5_1, x6_1, x26_1, rfl, HA, HK1, HO_4, HO_5, HO_6, HB⟩ := hrel
      cases gk with
      | zero => exact absurd HA.out (by simp [wageofficelaw22_PunchesExact.l0])
      | succ k1 =>
        have H := HA.out
        clear HA
        simp only [wageofficelaw22_PunchesExact.l0] at H
        by_cases c7 : x26_1 < (l0.length : Int)
        · rw [if_pos c7] at H
          have c7b0 : decide (x26_1 < (l0.length : Int)) = true := decide_eq_true c7
          clear c7
          by_cases c8 : 0 ≤ x26_1
          · rw [if_pos c8] at H
            have c8b0 : decide (0 ≤ x26_1) = true := decide_eq_true c8
            clear c8
            by_cases c9 : x26_1 < (l0.length : Int)
            · rw [if_pos c9] at H
              have c9b0 : decide (x26_1 < (l0.length : Int)) = true := decide_eq_true c9
              clear c9
              obtain ⟨y165, hy165⟩ : ∃ y_ : List (S45), y_ = (([(⟨(rd_T48 l0 x26_1).f0, true⟩ : S45), (⟨(rd_T48 l0 x26_1).f1, false⟩ : S45)] : List (S45))) := ⟨_, rfl⟩
              replace H : (if x4_1.length + y165.length < 8796093022208 then (if x5_1.length < 17592186044416 then (if x6_1.length < 17592186044416 then (wageofficelaw22_PunchesExact.l0 k1 l0 t161 (x4_1 ++ y165) (x5_1 ++ [wrap64 (((rd_T48 l0 x26_1).f1) - ((rd_T48 l0 x26_1).f0))]) (x6_1 ++ [0]) l0 (l0.length : Int) (wrap64 (x26_1 + 1))) else (none)) else (none)) else (none)) = some r := by first | (rw [hy165]; with_reducible exact H) | (have H2_ := (Option.bind_some _ _).symm.trans H; rw [hy165]; with_reducible exact H2_) | (have H2_ := (Option.bind_some _ _).symm.trans H; with_reducible exact H2_) | with_reducible exact H | (rw [hy165]; exact H) | exact H
              have Ny165 := Aside0.mk hy165
              clear hy165
              by_cases c10 : x4_1.length + y165.length < 8796093022208
              · rw [if_pos c10] at H
                have LMc10 := Aside0.mk c10
                clear c10
                obtain ⟨y168, hy168⟩ : ∃ y_ : List (S45), y_ = (x4_1 ++ y165) := ⟨_, rfl⟩
                replace H : (if x5_1.length < 17592186044416 then (if x6_1.length < 17592186044416 then (wageofficelaw22_PunchesExact.l0 k1 l0 t161 y168 (x5_1 ++ [wrap64 (((rd_T48 l0 x26_1).f1) - ((rd_T48 l0 x26_1).f0))]) (x6_1 ++ [0]) l0 (l0.length : Int) (wrap64 (x26_1 + 1))) else (none)) else (none)) = some r := by first | (rw [hy168]; with_reducible exact H) | (have H2_ := (Option.bind_some _ _).symm.trans H; rw [hy168]; with_reducible exact H2_) | (have H2_ := (Option.bind_some _ _).symm.trans H; with_reducible exact H2_) | with_reducible exact H | (rw [hy168]; exact H) | exact H
                have Ny168 := Aside0.mk hy168
                clear hy168
                by_cases c11 : x5_1.length < 17592186044416
                · rw [if_pos c11] at H
                  have LMc11 := Aside0.mk c11
                  clear c11
                  obtain ⟨y171, hy171⟩ : ∃ y_ : List Int, y_ = (x5_1 ++ [wrap64 (((rd_T48 l0 x26_1).f1) - ((rd_T48 l0 x26_1).f0))]) := ⟨_, rfl⟩
                  replace H : (if x6_1.length < 17592186044416 then (wageofficelaw22_PunchesExact.l0 k1 l0 t161 y168 y171 (x6_1 ++ [0]) l0 (l0.length : Int) (wrap64 (x26_1 + 1))) else (none)) = some r := by first | (rw [hy171]; with_reducible exact H) | (have H2_ := (Option.bind_some _ _).symm.trans H; rw [hy171]; with_reducible exact H2_) | (have H2_ := (Option.bind_some _ _).symm.trans H; with_reducible exact H2_) | with_reducible exact H | (rw [hy171]; exact H) | exact H
                  have Ny171 := Aside0.mk hy171
                  clear hy171
                  by_cases c12 : x6_1.length < 17592186044416
                  · rw [if_pos c12] at H
                    have LMc12 := Aside0.mk c12
                    clear c12
                    obtain ⟨y174, hy174⟩ : ∃ y_ : List Int, y_ = (x6_1 ++ [0]) := ⟨_, rfl⟩
                    replace H : (wageofficelaw22_PunchesExact.l0 k1 l0 t161 y168 y171 y174 l0 (l0.length : Int) (wrap64 (x26_1 + 1))) = some r := by first | (rw [hy174]; with_reducible exact H) | (have H2_ := (Option.bind_some _ _).symm.trans H; rw [hy174]; with_reducible exact H2_) | (have H2_ := (Option.bind_some _ _).symm.trans H; with_reducible exact H2_) | with_reducible exact H | (rw [hy174]; exact H) | exact H
                    have Ny174 := Aside0.mk hy174
                    clear hy174
                    have H' := Aside0.mk H
                    clear H
                    have p163 : 0 ≤ (x26_1 : Int) := of_decide_eq_true (by first | (with_reducible assumption) | assumption)
                    have q163 : x26_1 < (l0.length : Int) := of_decide_eq_true (by first | (with_reducible assumption) | assumption)
                    obtain ⟨ad163, e163, hx163_0, hx163_1, hx163_2⟩ := at_T48 HR0.out x26_1 p163 q163
                    cases e163
                    replace hx163_0 := (HB.out.cell (World.block_lt_of_cell? w _ hx163_0)).trans hx163_0
                    replace hx163_1 := (HB.out.cell (World.block_lt_of_cell? w _ hx163_1)).trans hx163_1
                    replace hx163_2 := (HB.out.cell (World.block_lt_of_cell? w _ hx163_2)).trans hx163_2
                    replace p163 := eq_true p163
                    replace q163 := eq_true q163
                    go_wp2_with (first | ((with_reducible refine gate_dst (N := 8) rfl ?_); (try (refine gate_guard (by rfl) ?_; dsimp only)); refine box_event ?hg (N := 8) ?hd (cs := #[.int .i64 0, .int .i64 0, .int .i64 0]) (t := 48) ?hr ?_; (case hd => rfl); (case hg => rfl); (case hr => first | (go_simp; done) | (go_simp; rfl)); intro gb164 hg w13 hbox hb; have n0_ := Aside0.mk (Kd.R_below (by (with_reducible repeat (first | apply Kd.R_alloc | apply Kd.R_drewN | apply Kd.R_drew)); exact HO_4.out) hb); have n1_ := Aside0.mk (Kd.R_below (by (with_reducible repeat (first | apply Kd.R_alloc | apply Kd.R_drewN | apply Kd.R_drew)); exact HO_5.out) hb); have n2_ := Aside0.mk (Kd.R_below (by (with_reducible repeat (first | apply Kd.R_alloc | apply Kd.R_drewN | apply Kd.R_drew)); exact HO_6.out) hb); have n3_ := Aside0.mk (below_step (by repeat (first | (with_reducible first | exact HB.out | apply below_alloc | apply pw_below_drewN | apply below_drew1) | exact HB.out)) hb); have n4_ := Aside0.mk (hbox); have n5_ := Aside0.mk ((by rw [hg]; exact (below_size (by repeat (first | (with_reducible first | exact HB.out | apply below_alloc | apply pw_below_drewN | apply below_drew1) | exact HB.out))) : w.heap.size ≤ gb164)); have n6_ := Aside0.mk ((by rw [hg]; exact (below_size (by repeat (first | (with_reducible first | exact HB.out | apply below_alloc | apply pw_below_drewN | apply below_drew1) | exact HB.out))) : w.heap.size ≤ gb164)); clear HO_4; clear HO_5; clear HO_6; clear HB; have HO_4 := n0_; have HO_5 := n1_; have HO_6 := n2_; have HB := n3_; have BK164 := n4_; have GW164 := n5_; have GE164 := n6_; clear n0_ n1_ n2_ n3_ n4_ n5_ n6_; clear hb hbox hg; have hcz14_0 : w13.cell? ⟨gb164, 0, none⟩ = some (.int .i64 0) := (blk_cell BK164.out 0).trans rfl; have hcz14_1 : w13.cell? ⟨gb164, 1, none⟩ = some (.int .i64 0) := (blk_cell BK164.out 1).trans rfl; have hcz14_2 : w13.cell? ⟨gb164, 2, none⟩ = some (.int .i64 0) := (blk_cell BK164.out 2).trans rfl; have hfz14_0 := blk_frozen BK164.out 0; have hfz14_1 := blk_frozen BK164.out 1; have hfz14_2 := blk_frozen BK164.out 2) | ((with_reducible refine gate_dst (N := 37) rfl ?_); (try (refine gate_guard (by rfl) ?_; dsimp only)); refine Kd.R_lit k45 _ 45 ?hg (N := 37) ?hd (xs := ([(⟨(rd_T48 l0 x26_1).f0, true⟩ : S45), (⟨(rd_T48 l0 x26_1).f1, false⟩ : S45)] : List (S45))) (inner := [.int .i64 ((rd_T48 l0 x26_1).f0), .bool true, .int .i64 ((rd_T48 l0 x26_1).f1), .bool false]) (ok := fun _ => True) (okp := fun _ => True) ?hr ?hp (fun _ hk => hk) trivial (Below.refl _ _) (Nat.le_refl _) (by simp) ?_; (case hd => rfl); (case hg => rfl); (case hr => first | (go_simp; done) | (go_simp; rfl)); (case hp => exact (Reps.c2 (show Kd.M k45 _ _ _ (⟨(rd_T48 l0 x26_1).f0, true⟩ : S45) [.int .i64 ((rd_T48 l0 x26_1).f0), .bool true] from (k45_mkM _ _ _ (⟨(rd_T48 l0 x26_1).f0, true⟩ : S45) )) (Reps.c2 (show Kd.M k45 _ _ _ (⟨(rd_T48 l0 x26_1).f1, false⟩ : S45) [.int .i64 ((rd_T48 l0 x26_1).f1), .bool false] from (k45_mkM _ _ _ (⟨(rd_T48 l0 x26_1).f1, false⟩ : S45) )) (Reps.none _ _)))); intro v166 w15 ho16 hb hg_ hnew_; clear hg_ hnew_; (first | rw [← Ny165.out] at ho16 | (simp only [Int.reduceToNat] at ho16; rw [← Ny165.out] at ho16)); have n0_ := Aside0.mk (Kd.R_elder' (by (with_reducible repeat (first | apply Kd.R_alloc | apply Kd.R_drewN | apply Kd.R_drew)); exact (Kd.R_mono (Kd.R_far (p := ⟨gb164, 2, none⟩) (Kd.R_far (p := ⟨gb164, 1, none⟩) (Kd.R_far (p := ⟨gb164, 0, none⟩) (Kd.R_types HO_4.out BK164.out (by decide)) (fun _ hk => hk.2) (.int .i64 ((rd_T48 l0 x26_1).f0))) (fun _ hk => hk.2) (.int .i64 ((rd_T48 l0 x26_1).f1))) (fun _ hk => hk.2) (.int .i64 ((rd_T48 l0 x26_1).f2))) (fun _ h_ => h_.1))) (Kd.R_base ho16) hb); have n1_ := Aside0.mk (Kd.R_below (by (with_reducible repeat (first | apply Kd.R_alloc | apply Kd.R_drewN | apply Kd.R_drew)); exact (Kd.R_mono (Kd.R_far (p := ⟨gb164, 2, none⟩) (Kd.R_far (p := ⟨gb164, 1, none⟩) (Kd.R_far (p := ⟨gb164, 0, none⟩) (Kd.R_types HO_5.out BK164.out (by decide)) (fun _ hk => hk.2) (.int .i64 ((rd_T48 l0 x26_1).f0))) (fun _ hk => hk.2) (.int .i64 ((rd_T48 l0 x26_1).f1))) (fun _ hk => hk.2) (.int .i64 ((rd_T48 l0 x26_1).f2))) (fun _ h_ => h_.1))) hb); have n2_ := Aside0.mk (Kd.R_below (by (with_reducible repeat (first | apply Kd.R_alloc | apply Kd.R_drewN | apply Kd.R_drew)); exact (Kd.R_mono (Kd.R_far (p := ⟨gb164, 2, none⟩) (Kd.R_far (p := ⟨gb164, 1, none⟩) (Kd.R_far (p := ⟨gb164, 0, none⟩) (Kd.R_types HO_6.out BK164.out (by decide)) (fun _ hk => hk.2) (.int .i64 ((rd_T48 l0 x26_1).f0))) (fun _ hk => hk.2) (.int .i64 ((rd_T48 l0 x26_1).f1))) (fun _ hk => hk.2) (.int .i64 ((rd_T48 l0 x26_1).f2))) (fun _ h_ => h_.1))) hb); have n3_ := Aside0.mk (Kd.R_lower (Kd.R_new' ho16 (Kd.R_lt (by (with_reducible repeat (first | apply Kd.R_alloc | apply Kd.R_drewN | apply Kd.R_drew)); exact (Kd.R_mono (Kd.R_far (p := ⟨gb164, 2, none⟩) (Kd.R_far (p := ⟨gb164, 1, none⟩) (Kd.R_far (p := ⟨gb164, 0, none⟩) (Kd.R_types HO_4.out BK164.out (by decide)) (fun _ hk => hk.2) (.int .i64 ((rd_T48 l0 x26_1).f0))) (fun _ hk => hk.2) (.int .i64 ((rd_T48 l0 x26_1).f1))) (fun _ hk => hk.2) (.int .i64 ((rd_T48 l0 x26_1).f2))) (fun _ h_ => h_.1))))) (below_size (by repeat (first | (with_reducible first | exact HB.out | apply below_alloc | apply pw_below_drewN | apply below_drew1 | refine below_set ?_ GE164.out) | exact HB.out)))); have n4_ := Aside0.mk (blk_below (g := gb164) (o := .cells #[.int .i64 ((rd_T48 l0 x26_1).f0), .int .i64 ((rd_T48 l0 x26_1).f1), .int .i64 ((rd_T48 l0 x26_1).f2)] 48 (0, 0)) (by (with_reducible repeat (first | refine blk_drewN ?_ _ | refine blk_drew ?_ | refine blk_alloc ?_ _)); refine blk_put (cs := #[.int .i64 ((rd_T48 l0 x26_1).f0), .int .i64 ((rd_T48 l0 x26_1).f1), .int .i64 0]) ?_ 2 _ rfl; (with_reducible repeat (first | refine blk_drewN ?_ _ | refine blk_drew ?_ | refine blk_alloc ?_ _)); refine blk_put (cs := #[.int .i64 ((rd_T48 l0 x26_1).f0), .int .i64 0, .int .i64 0]) ?_ 1 _ rfl; (with_reducible repeat (first | refine blk_drewN ?_ _ | refine blk_drew ?_ | refine blk_alloc ?_ _)); refine blk_put (cs := #[.int .i64 0, .int .i64 0, .int .i64 0]) ?_ 0 _ rfl; (with_reducible repeat (first | refine blk_drewN ?_ _ | refine blk_drew ?_ | refine blk_alloc ?_ _)); exact BK164.out) hb); have n5_ := Aside0.mk (below_step (by repeat (first | (with_reducible first | exact HB.out | apply below_alloc | apply pw_below_drewN | apply below_drew1 | refine below_set ?_ GE164.out) | exact HB.out)) hb); clear HO_4; clear HO_5; clear HO_6; clear BK164; clear HB; have HO_4 := n0_; have HO_5 := n1_; have HO_6 := n2_; have HO167 := n3_; have BK164 := n4_; have HB := n5_; clear n0_ n1_ n2_ n3_ n4_ n5_; clear hb ho16; obtain ⟨Ao18, co18, eo18⟩ := Kd.R_slice HO167.out; subst eo18) | ((with_reducible refine gate_builtin (b := .append) (xs := #[.tmp 30, .tmp 37]) rfl ?_); (try (refine gate_guard (by rfl) ?_; dsimp only)); at_builtin; refine Kd.R_append_rows k45 (w0 := w) w.heap.size rfl (.tmp 30) (.tmp 37) 23 45 (.agg #[(.int .i64 0), (.bool false)]) 16 rfl Try.underlying23 info45 rfl (by decide) (by omega) u4 x4_1 y165 _ _ _ (fun k_ => some k_ ≠ (.slice Ao18 y165.length co18 : Value).ownBlock) (fun _ => False) rfl rfl ?aO ?aR (fun _ _ h => h) (fun _ h => h.elim) ?aF ?aB ?aS ?aL ?_; (case aR => repeat (first | exact (Kd.R_reads' HO167.out).2.2 | (with_reducible refine Kd.C_alloc ?_ _) | (with_reducible refine Kd.C_drewN ?_ _) | (with_reducible refine Kd.C_drew ?_))); (case aB => exact (by repeat (first | (with_reducible first | exact HB.out | apply below_alloc | apply pw_below_drewN | apply below_drew1 | refine below_set ?_ GE164.out) | exact HB.out))); (case aF => exact (fun k_ hk => Kd.fresh' (Kd.R_lt (by (with_reducible repeat (first | apply Kd.R_alloc | apply Kd.R_drewN | apply Kd.R_drew)); exact HO167.out)) k_ hk)); (case aO => exact (by (with_reducible repeat (first | apply Kd.R_alloc | apply Kd.R_drewN | apply Kd.R_drew)); exact Kd.R_mono HO_4.out (fun _ hk => hk.2))); (case aS => exact (below_size (by repeat (first | (with_reducible first | exact HB.out | apply below_alloc | apply pw_below_drewN | apply below_drew1 | refine below_set ?_ GE164.out) | exact HB.out)))); (case aL => have := LMc10.out; omega); intro v169 w17 ho hb hg hat; rw [← Ny168.out] at ho; have n0_ := Aside0.mk (Kd.R_over' (by (with_reducible repeat (first | apply Kd.R_alloc | apply Kd.R_drewN | apply Kd.R_drew)); exact HO_5.out) (Kd.R_typed (by (with_reducible repeat (first | apply Kd.R_alloc | apply Kd.R_drewN | apply Kd.R_drew)); exact HO_4.out)) (by decide) hg); have n1_ := Aside0.mk (Kd.R_over' (by (with_reducible repeat (first | apply Kd.R_alloc | apply Kd.R_drewN | apply Kd.R_drew)); exact HO_6.out) (Kd.R_typed (by (with_reducible repeat (first | apply Kd.R_alloc | apply Kd.R_drewN | apply Kd.R_drew)); exact HO_4.out)) (by decide) hg); have n2_ := Aside0.mk (blk_grown (g := gb164) (o := .cells #[.int .i64 ((rd_T48 l0 x26_1).f0), .int .i64 ((rd_T48 l0 x26_1).f1), .int .i64 ((rd_T48 l0 x26_1).f2)] 48 (0, 0)) (by (with_reducible repeat (first | refine blk_drewN ?_ _ | refine blk_drew ?_ | refine blk_alloc ?_ _)); exact BK164.out) hg (Kd.R_ne HO_4.out BK164.out (by decide))); have n3_ := Aside0.mk (Kd.R_after (ok := (fun _ => True)) (by (with_reducible repeat (first | apply Kd.R_alloc | apply Kd.R_drewN | apply Kd.R_drew)); exact HO167.out) hg hat); have n4_ := Aside0.mk (hb); have n5_ := Aside0.mk (ho); clear HO_5; clear HO_6; clear BK164; clear HO167; clear HB; clear HO_4; have HO_5 := n0_; have HO_6 := n1_; have BK164 := n2_; have HO167 := n3_; have HB := n4_; have HO170 := n5_; clear n0_ n1_ n2_ n3_ n4_ n5_; clear ho hb hg hat; have hcz19_0 : w17.cell? ⟨gb164, 0, none⟩ = some (.int .i64 ((rd_T48 l0 x26_1).f0)) := (blk_cell BK164.out 0).trans rfl; have hcz19_1 : w17.cell? ⟨gb164, 1, none⟩ = some (.int .i64 ((rd_T48 l0 x26_1).f1)) := (blk_cell BK164.out 1).trans rfl; have hcz19_2 : w17.cell? ⟨gb164, 2, none⟩ = some (.int .i64 ((rd_T48 l0 x26_1).f2)) := (blk_cell BK164.out 2).trans rfl; have hfz19_0 := blk_frozen BK164.out 0; have hfz19_1 := blk_frozen BK164.out 1; have hfz19_2 := blk_frozen BK164.out 2) | ((with_reducible refine gate_builtin (b := .append) (xs := #[.tmp 39, .tmp 45]) rfl ?_); (try (refine gate_guard (by rfl) ?_; dsimp only)); at_builtin; refine Kd.R_append (Kd.int .i64) (w0 := w) w.heap.size rfl (.tmp 39) (.tmp 45) 30 3 (.int .i64 0) 8 rfl Try.underlying30 info3 rfl (by decide) (by omega) u5 x5_1 (wrap64 (((rd_T48 l0 x26_1).f1) - ((rd_T48 l0 x26_1).f0))) [.int .i64 (wrap64 (((rd_T48 l0 x26_1).f1) - ((rd_T48 l0 x26_1).f0)))] (fun k_ => some k_ ≠ (u6 : Value).ownBlock) (fun _ => False) rfl rfl ?aP (fun _ hk => hk.elim) ?aF ?aO ?aB ?aS ?aL ?_; (case aP => exact rfl); (case aB => exact (by repeat (first | (with_reducible first | exact HB.out | apply below_alloc | apply pw_below_drewN | apply below_drew1 | refine below_set ?_ GE164.out) | exact HB.out))); (case aF => exact (fun k_ hk => Kd.fresh' (Kd.R_lt (by (with_reducible repeat (first | apply Kd.R_alloc | apply Kd.R_drewN | apply Kd.R_drew)); exact HO_6.out)) k_ hk)); (case aO => exact (by (with_reducible repeat (first | apply Kd.R_alloc | apply Kd.R_drewN | apply Kd.R_drew)); exact HO_5.out)); (case aS => exact (below_size (by repeat (first | (with_reducible first | exact HB.out | apply below_alloc | apply pw_below_drewN | apply below_drew1 | refine below_set ?_ GE164.out) | exact HB.out)))); (case aL => have := LMc11.out; omega); intro v172 w20 ho hb hg hat; rw [← Ny171.out] at ho; have n0_ := Aside0.mk (Kd.R_after (ok := (fun _ => True)) (by (with_reducible repeat (first | apply Kd.R_alloc | apply Kd.R_drewN | apply Kd.R_drew)); exact Kd.R_mono HO_6.out (fun _ hk => ⟨trivial, hk⟩)) hg hat); have n1_ := Aside0.mk (blk_grown (g := gb164) (o := .cells #[.int .i64 ((rd_T48 l0 x26_1).f0), .int .i64 ((rd_T48 l0 x26_1).f1), .int .i64 ((rd_T48 l0 x26_1).f2)] 48 (0, 0)) (by (with_reducible repeat (first | refine blk_drewN ?_ _ | refine blk_drew ?_ | refine blk_alloc ?_ _)); exact BK164.out) hg (Kd.R_ne HO_5.out BK164.out (by decide))); have n2_ := Aside0.mk (Kd.R_over' (by (with_reducible repeat (first | apply Kd.R_alloc | apply Kd.R_drewN | apply Kd.R_drew)); exact HO167.out) (Kd.R_typed (by (with_reducible repeat (first | apply Kd.R_alloc | apply Kd.R_drewN | apply Kd.R_drew)); exact HO_5.out)) (by decide) hg); have n3_ := Aside0.mk (Kd.R_over' (by (with_reducible repeat (first | apply Kd.R_alloc | apply Kd.R_drewN | apply Kd.R_drew)); exact HO170.out) (Kd.R_typed (by (with_reducible repeat (first | apply Kd.R_alloc | apply Kd.R_drewN | apply Kd.R_drew)); exact HO_5.out)) (by decide) hg); have n4_ := Aside0.mk (hb); have n5_ := Aside0.mk (ho); clear HO_6; clear BK164; clear HO167; clear HO170; clear HB; clear HO_5; have HO_6 := n0_; have BK164 := n1_; have HO167 := n2_; have HO170 := n3_; have HB := n4_; have HO173 := n5_; clear n0_ n1_ n2_ n3_ n4_ n5_; clear ho hb hg hat) | ((with_reducible refine gate_builtin (b := .append) (xs := #[.tmp 47, .tmp 48]) rfl ?_); (try (refine gate_guard (by rfl) ?_; dsimp only)); at_builtin; refine Kd.R_append (Kd.int .i64) (w0 := w) w.heap.size rfl (.tmp 47) (.tmp 48) 30 3 (.int .i64 0) 8 rfl Try.underlying30 info3 rfl (by decide) (by omega) u6 x6_1 0 [.int .i64 0] (fun k_ => some k_ ≠ (v172 : Value).ownBlock) (fun _ => False) rfl rfl ?aP (fun _ hk => hk.elim) ?aF ?aO ?aB ?aS ?aL ?_; (case aP => exact rfl); (case aB => exact (by repeat (first | (with_reducible first | exact HB.out | apply below_alloc | apply pw_below_drewN | apply below_drew1 | refine below_set ?_ GE164.out) | exact HB.out))); (case aF => exact (fun k_ hk => Kd.fresh' (Kd.R_lt (by (with_reducible repeat (first | apply Kd.R_alloc | apply Kd.R_drewN | apply Kd.R_drew)); exact HO173.out)) k_ hk)); (case aO => exact (by (with_reducible repeat (first | apply Kd.R_alloc | apply Kd.R_drewN | apply Kd.R_drew)); exact Kd.R_mono HO_6.out (fun _ hk => hk.2))); (case aS => exact (below_size (by repeat (first | (with_reducible first | exact HB.out | apply below_alloc | apply pw_below_drewN | apply below_drew1 | refine below_set ?_ GE164.out) | exact HB.out)))); (case aL => have := LMc12.out; omega); intro v175 w21 ho hb hg hat; rw [← Ny174.out] at ho; have n0_ := Aside0.mk (blk_grown (g := gb164) (o := .cells #[.int .i64 ((rd_T48 l0 x26_1).f0), .int .i64 ((rd_T48 l0 x26_1).f1), .int .i64 ((rd_T48 l0 x26_1).f2)] 48 (0, 0)) (by (with_reducible repeat (first | refine blk_drewN ?_ _ | refine blk_drew ?_ | refine blk_alloc ?_ _)); exact BK164.out) hg (Kd.R_ne HO_6.out BK164.out (by decide))); have n1_ := Aside0.mk (Kd.R_over' (by (with_reducible repeat (first | apply Kd.R_alloc | apply Kd.R_drewN | apply Kd.R_drew)); exact HO167.out) (Kd.R_typed (by (with_reducible repeat (first | apply Kd.R_alloc | apply Kd.R_drewN | apply Kd.R_drew)); exact HO_6.out)) (by decide) hg); have n2_ := Aside0.mk (Kd.R_over' (by (with_reducible repeat (first | apply Kd.R_alloc | apply Kd.R_drewN | apply Kd.R_drew)); exact HO170.out) (Kd.R_typed (by (with_reducible repeat (first | apply Kd.R_alloc | apply Kd.R_drewN | apply Kd.R_drew)); exact HO_6.out)) (by decide) hg); have n3_ := Aside0.mk (Kd.R_after (ok := (fun _ => True)) (by (with_reducible repeat (first | apply Kd.R_alloc | apply Kd.R_drewN | apply Kd.R_drew)); exact Kd.R_mono HO173.out (fun _ hk => ⟨trivial, hk⟩)) hg hat); have n4_ := Aside0.mk (hb); have n5_ := Aside0.mk (ho); clear BK164; clear HO167; clear HO170; clear HO173; clear HB; clear HO_6; have BK164 := n0_; have HO167 := n1_; have HO170 := n2_; have HO173 := n3_; have HB := n4_; have HO176 := n5_; clear n0_ n1_ n2_ n3_ n4_ n5_; clear ho hb hg hat))
                    go_roundg k1
                    case measure => have := HK1.out; omega
                    case rel => exact ⟨(y168), (y171), (y174), (wrap64 (x26_1 + 1)), (by first | rfl | (simp; done) | (simp [*]; done)), H', ⟨by have := HK1.out; omega⟩, ⟨by (with_reducible repeat (first | apply Kd.R_alloc | apply Kd.R_drewN | apply Kd.R_drew)); exact Kd.R_mono HO170.out (fun _ hk => trivial)⟩, ⟨by (with_reducible repeat (first | apply Kd.R_alloc | apply Kd.R_drewN | apply Kd.R_drew)); exact Kd.R_mono HO173.out (fun _ hk => hk.2)⟩, ⟨by (with_reducible repeat (first | apply Kd.R_alloc | apply Kd.R_drewN | apply Kd.R_drew)); exact HO176.out⟩, ⟨by repeat (first | (with_reducible first | exact HB.out | apply below_alloc | apply pw_below_drewN | apply below_drew1 | refine below_set ?_ GE164.out) | exact HB.out)⟩⟩
                  · rw [if_neg c12] at H
                    exact absurd H (by simp)
                · rw [if_neg c11] at H
                  exact absurd H (by simp)
              · rw [if_neg c10] at H
                exact absurd H (by simp)
            · rw [if_neg c9] at H
              exact absurd H (by simp)
          · rw [if_neg c8] at H
            exact absurd H (by simp)
        · rw [if_neg c7] at H
          have c7b0 : decide (x26_1 < (l0.length : Int)) = false := decide_eq_false c7
          clear c7
          replace H := Option.bind_eq_some_iff.mp H
          obtain ⟨⟨t177, t178, t179⟩, A220, H⟩ := H
          replace H : ((punches_Worked.f l0 x4_1 t177).bind fun bt182 => ((punches_Pair.f l0 ([] : List (S45))).bind fun bt186 => ((punches_Worked.f l0 ([] : List (S45)) bt186.1).bind fun bt191 => (if t161 = true then (if t179 = 0 then (if bt182.2 = 0 then (if bt186.2.2 = 0 then (if bt191.2 = 0 then (if t178 = 0 then ((wageofficeref22_SameInts.f k1 bt182.1 x5_1).bind fun t195 => (if t195 = true then (if bt186.2.1 = (wrap64 (240 * (l0.length : Int))) then ((wageofficeref22_SameInts.f k1 bt191.1 x6_1).bind fun t196 => (some t196)) else (some false)) else (some false))) else (some false)) else (some false)) else (some false)) else (some false)) else (some false)) else (some false))))) = some r := H
          have A22 := Aside0.mk A220
          clear A220
          replace H := Option.bind_eq_some_iff.mp H
          obtain ⟨⟨t182, t183⟩, A230, H⟩ := H
          replace H : ((punches_Pair.f l0 ([] : List (S45))).bind fun bt186 => ((punches_Worked.f l0 ([] : List (S45)) bt186.1).bind fun bt191 => (if t161 = true then (if t179 = 0 then (if t183 = 0 then (if bt186.2.2 = 0 then (if bt191.2 = 0 then (if t178 = 0 then ((wageofficeref22_SameInts.f k1 t182 x5_1).bind fun t195 => (if t195 = true then (if bt186.2.1 = (wrap64 (240 * (l0.length : Int))) then ((wageofficeref22_SameInts.f k1 bt191.1 x6_1).bind fun t196 => (some t196)) else (some false)) else (some false))) else (some false)) else (some false)) else (some false)) else (some false)) else (some false)) else (some false)))) = some r := H
          have A23 := Aside0.mk A230
          clear A230
          replace H := Option.bind_eq_some_iff.mp H
          obtain ⟨⟨t186, t187, t188⟩, A240, H⟩ := H
          replace H : ((punches_Worked.f l0 ([] : List (S45)) t186).bind fun bt191 => (if t161 = true then (if t179 = 0 then (if t183 = 0 then (if t188 = 0 then (if bt191.2 = 0 then (if t178 = 0 then ((wageofficeref22_SameInts.f k1 t182 x5_1).bind fun t195 => (if t195 = true then (if t187 = (wrap64 (240 * (l0.length : Int))) then ((wageofficeref22_SameInts.f k1 bt191.1 x6_1).bind fun t196 => (some t196)) else (some false)) else (some false))) else (some false)) else (some false)) else (some false)) else (some false)) else (some false)) else (some false))) = some r := H
          have A24 := Aside0.mk A240
          clear A240
          replace H := Option.bind_eq_some_iff.mp H
          obtain ⟨⟨t191, t192⟩, A250, H⟩ := H
          replace H : (if t161 = true then (if t179 = 0 then (if t183 = 0 then (if t188 = 0 then (if t192 = 0 then (if t178 = 0 then ((wageofficeref22_SameInts.f k1 t182 x5_1).bind fun t195 => (if t195 = true then (if t187 = (wrap64 (240 * (l0.length : Int))) then ((wageofficeref22_SameInts.f k1 t191 x6_1).bind fun t196 => (some t196)) else (some false)) else (some false))) else (some false)) else (some false)) else (some false)) else (some false)) else (some false)) else (some false)) = some r := H
          have A25 := Aside0.mk A250
          clear A250
          by_cases c26 : t161 = true
          · subst c26
            have H1 : (if t179 = 0 then (if t183 = 0 then (if t188 = 0 then (if t192 = 0 then (if t178 = 0 then ((wageofficeref22_SameInts.f k1 t182 x5_1).bind fun t195 => (if t195 = true then (if t187 = (wrap64 (240 * (l0.length : Int))) then ((wageofficeref22_SameInts.f k1 t191 x6_1).bind fun t196 => (some t196)) else (some false)) else (some false))) else (some false)) else (some false)) else (some false)) else (some false)) else (some false)) = some r := by rw [if_pos rfl] at H; exact H
            clear H
            have H := H1
            clear H1
            by_cases c27 : t179 = 0
            · rw [if_pos c27] at H
              have c27b0 : (t179 == 0) = true := beq_iff_eq.mpr c27
              have c27b1 : (t179 != 0) = false := bne_eq_false_iff_eq.mpr c27
              clear c27
              by_cases c28 : t183 = 0
              · rw [if_pos c28] at H
                have c28b0 : (t183 == 0) = true := beq_iff_eq.mpr c28
                have c28b1 : (t183 != 0) = false := bne_eq_false_iff_eq.mpr c28
                clear c28
                by_cases c29 : t188 = 0
                · rw [if_pos c29] at H
                  have c29b0 : (t188 == 0) = true := beq_iff_eq.mpr c29
                  have c29b1 : (t188 != 0) = false := bne_eq_false_iff_eq.mpr c29
                  clear c29
                  by_cases c30 : t192 = 0
                  · rw [if_pos c30] at H
                    have c30b0 : (t192 == 0) = true := beq_iff_eq.mpr c30
                    have c30b1 : (t192 != 0) = false := bne_eq_false_iff_eq.mpr c30
                    clear c30
                    by_cases c31 : t178 = 0
                    · rw [if_pos c31] at H
                      have c31b0 : (t178 == 0) = true := beq_iff_eq.mpr c31
                      have c31b1 : (t178 != 0) = false := bne_eq_false_iff_eq.mpr c31
                      clear c31
                      replace H := Option.bind_eq_some_iff.mp H
                      obtain ⟨t195, A320, H⟩ := H
                      replace H : (if t195 = true then (if t187 = (wrap64 (240 * (l0.length : Int))) then ((wageofficeref22_SameInts.f k1 t191 x6_1).bind fun t196 => (some t196)) else (some false)) else (some false)) = some r := H
                      have A32 := Aside0.mk A320
                      clear A320
                      by_cases c33 : t195 = true
                      · subst c33
                        have H1 : (if t187 = (wrap64 (240 * (l0.length : Int))) then ((wageofficeref22_SameInts.f k1 t191 x6_1).bind fun t196 => (some t196)) else (some false)) = some r := by rw [if_pos rfl] at H; exact H
                        clear H
                        have H := H1
                        clear H1
                        by_cases c34 : t187 = (wrap64 (240 * (l0.length : Int)))
                        · rw [if_pos c34] at H
                          have c34b0 : (t187 == (wrap64 (240 * (l0.length : Int)))) = true := beq_iff_eq.mpr c34
                          have c34b1 : (t187 != (wrap64 (240 * (l0.length : Int)))) = false := bne_eq_false_iff_eq.mpr c34
                          clear c34
                          replace H := Option.bind_eq_some_iff.mp H
                          obtain ⟨t196, A350, H⟩ := H
                          replace H : (some t196) = some r := H
                          have A35 := Aside0.mk A350
                          clear A350
                          obtain rfl := Option.some.inj H
                          obtain ⟨Ao36, co36, eo36⟩ := Kd.R_slice HO_4.out
                          subst eo36
                          go_wp2_with (first | ((with_reducible refine gate_callee (f := 13) rfl ?_); refine goesL_ (some 54) rfl rfl Try.func13 (by kernel_rfl) rfl #[.slice A0 l0.length c0, .slice Ao36 x4_1.length co36] rfl (by (try simp only [List.map_toArray, List.map_cons, List.map_nil]); first | done | rfl | (simp only [List.length_drop, List.length_take]; rfl)) ?_; (with_reducible refine (punches_Pair.calls _ _ l0 _ _ x4_1 t177 t178 t179 _ ?side1 ?side2 ?side3 ?side4 A22.out).mono ?_); (case side1 => repeat (first | exact (Kd.C_below HR0.out HB.out) | (with_reducible refine Kd.C_alloc ?_ _) | (with_reducible refine Kd.C_drewN ?_ _) | (with_reducible refine Kd.C_drew ?_))); (case side2 => exact HC0.out); (case side3 => repeat (first | exact (Kd.R_reads' HO_4.out).2.2 | (with_reducible refine Kd.C_alloc ?_ _) | (with_reducible refine Kd.C_drewN ?_ _) | (with_reducible refine Kd.C_drew ?_))); (case side4 => exact (Kd.R_reads' HO_4.out).2.1); rintro e w37 ⟨v180, rfl, ho0, hb⟩; refine ⟨_, rfl, ?_⟩; have n0_ := Aside0.mk (Kd.R_below (by (with_reducible repeat (first | apply Kd.R_alloc | apply Kd.R_drewN | apply Kd.R_drew)); exact HO_4.out) hb); have n1_ := Aside0.mk (Kd.R_below (by (with_reducible repeat (first | apply Kd.R_alloc | apply Kd.R_drewN | apply Kd.R_drew)); exact HO_5.out) hb); have n2_ := Aside0.mk (Kd.R_below (by (with_reducible repeat (first | apply Kd.R_alloc | apply Kd.R_drewN | apply Kd.R_drew)); exact HO_6.out) hb); have n3_ := Aside0.mk (Kd.R_lower ho0 (below_size (by repeat (first | (with_reducible first | exact HB.out | apply below_alloc | apply pw_below_drewN | apply below_drew1) | exact HB.out)))); have n4_ := Aside0.mk (below_step (by repeat (first | (with_reducible first | exact HB.out | apply below_alloc | apply pw_below_drewN | apply below_drew1) | exact HB.out)) hb); clear HO_4; clear HO_5; clear HO_6; clear HB; have HO_4 := n0_; have HO_5 := n1_; have HO_6 := n2_; have HO181 := n3_; have HB := n4_; clear n0_ n1_ n2_ n3_ n4_; (try clear hb); (try clear hb2); (try clear hk); (try clear hi); (try clear ho0); obtain ⟨Ao38, co38, eo38⟩ := Kd.R_slice HO181.out; subst eo38) | ((with_reducible refine gate_callee (f := 15) rfl ?_); refine goesL_ (some 62) rfl rfl Try.func15 (by kernel_rfl) rfl #[.slice A0 l0.length c0, .slice Ao36 x4_1.length co36, .slice Ao38 t177.length co38] rfl (by (try simp only [List.map_toArray, List.map_cons, List.map_nil]); first | done | rfl | (simp only [List.length_drop, List.length_take]; rfl)) ?_; (with_reducible refine (punches_Worked.calls _ _ l0 _ _ x4_1 _ _ t177 t182 t183 _ ?side1 ?side2 ?side3 ?side4 ?side5 ?side6 A23.out).mono ?_); (case side1 => repeat (first | exact (Kd.C_below HR0.out HB.out) | (with_reducible refine Kd.C_alloc ?_ _) | (with_reducible refine Kd.C_drewN ?_ _) | (with_reducible refine Kd.C_drew ?_))); (case side2 => exact HC0.out); (case side3 => repeat (first | exact (Kd.R_reads' HO_4.out).2.2 | (with_reducible refine Kd.C_alloc ?_ _) | (with_reducible refine Kd.C_drewN ?_ _) | (with_reducible refine Kd.C_drew ?_))); (case side4 => exact (Kd.R_reads' HO_4.out).2.1); (case side5 => repeat (first | exact (Kd.R_reads' HO181.out).2.2 | (with_reducible refine Kd.C_alloc ?_ _) | (with_reducible refine Kd.C_drewN ?_ _) | (with_reducible refine Kd.C_drew ?_))); (case side6 => exact (Kd.R_reads' HO181.out).2.1); rintro e w39 ⟨v184, rfl, ho0, hb⟩; refine ⟨_, rfl, ?_⟩; have n0_ := Aside0.mk (Kd.R_below (by (with_reducible repeat (first | apply Kd.R_alloc | apply Kd.R_drewN | apply Kd.R_drew)); exact HO_4.out) hb); have n1_ := Aside0.mk (Kd.R_elder' (by (with_reducible repeat (first | apply Kd.R_alloc | apply Kd.R_drewN | apply Kd.R_drew)); exact HO_5.out) (Kd.R_base ho0) hb); have n2_ := Aside0.mk (Kd.R_elder' (by (with_reducible repeat (first | apply Kd.R_alloc | apply Kd.R_drewN | apply Kd.R_drew)); exact HO_6.out) (Kd.R_base ho0) hb); have n3_ := Aside0.mk (Kd.R_below (by (with_reducible repeat (first | apply Kd.R_alloc | apply Kd.R_drewN | apply Kd.R_drew)); exact HO181.out) hb); have n4_ := Aside0.mk (Kd.R_lower (Kd.R_new' (Kd.R_new' ho0 (Kd.R_lt (by (with_reducible repeat (first | apply Kd.R_alloc | apply Kd.R_drewN | apply Kd.R_drew)); exact HO_5.out))) (Kd.R_lt (by (with_reducible repeat (first | apply Kd.R_alloc | apply Kd.R_drewN | apply Kd.R_drew)); exact HO_6.out))) (below_size (by repeat (first | (with_reducible first | exact HB.out | apply below_alloc | apply pw_below_drewN | apply below_drew1) | exact HB.out)))); have n5_ := Aside0.mk (below_step (by repeat (first | (with_reducible first | exact HB.out | apply below_alloc | apply pw_below_drewN | apply below_drew1) | exact HB.out)) hb); clear HO_4; clear HO_5; clear HO_6; clear HO181; clear HB; have HO_4 := n0_; have HO_5 := n1_; have HO_6 := n2_; have HO181 := n3_; have HO185 := n4_; have HB := n5_; clear n0_ n1_ n2_ n3_ n4_ n5_; (try clear hb); (try clear hb2); (try clear hk); (try clear hi); (try clear ho0)) | ((with_reducible refine gate_callee (f := 13) rfl ?_); refine goesL_ (some 67) rfl rfl Try.func13 (by kernel_rfl) rfl #[.slice A0 l0.length c0, .slice none 0 0] rfl (by (try simp only [List.map_toArray, List.map_cons, List.map_nil]); first | done | rfl | (simp only [List.length_drop, List.length_take]; rfl)) ?_; (refine (punches_Pair.calls _ _ l0 _ _ ([] : List (S45)) t186 t187 t188 _ ?side1 ?side2 ?side3 ?side4 A24.out).mono ?_); (case side1 => repeat (first | exact (Kd.C_below HR0.out HB.out) | (with_reducible refine Kd.C_alloc ?_ _) | (with_reducible refine Kd.C_drewN ?_ _) | (with_reducible refine Kd.C_drew ?_))); (case side2 => exact HC0.out); (case side3 => exact Kd.C_nil _ _); (case side4 => exact Nat.le_refl _); rintro e w40 ⟨v189, rfl, ho0, hb⟩; refine ⟨_, rfl, ?_⟩; have n0_ := Aside0.mk (Kd.R_below (by (with_reducible repeat (first | apply Kd.R_alloc | apply Kd.R_drewN | apply Kd.R_drew)); exact HO_4.out) hb); have n1_ := Aside0.mk (Kd.R_below (by (with_reducible repeat (first | apply Kd.R_alloc | apply Kd.R_drewN | apply Kd.R_drew)); exact HO_5.out) hb); have n2_ := Aside0.mk (Kd.R_below (by (with_reducible repeat (first | apply Kd.R_alloc | apply Kd.R_drewN | apply Kd.R_drew)); exact HO_6.out) hb); have n3_ := Aside0.mk (Kd.R_elder' (by (with_reducible repeat (first | apply Kd.R_alloc | apply Kd.R_drewN | apply Kd.R_drew)); exact HO181.out) (Kd.R_base ho0) hb); have n4_ := Aside0.mk (Kd.R_below (by (with_reducible repeat (first | apply Kd.R_alloc | apply Kd.R_drewN | apply Kd.R_drew)); exact HO185.out) hb); have n5_ := Aside0.mk (Kd.R_lower (Kd.R_new' ho0 (Kd.R_lt (by (with_reducible repeat (first | apply Kd.R_alloc | apply Kd.R_drewN | apply Kd.R_drew)); exact HO181.out))) (below_size (by repeat (first | (with_reducible first | exact HB.out | apply below_alloc | apply pw_below_drewN | apply below_drew1) | exact HB.out)))); have n6_ := Aside0.mk (below_step (by repeat (first | (with_reducible first | exact HB.out | apply below_alloc | apply pw_below_drewN | apply below_drew1) | exact HB.out)) hb); clear HO_4; clear HO_5; clear HO_6; clear HO181; clear HO185; clear HB; have HO_4 := n0_; have HO_5 := n1_; have HO_6 := n2_; have HO181 := n3_; have HO185 := n4_; have HO190 := n5_; have HB := n6_; clear n0_ n1_ n2_ n3_ n4_ n5_ n6_; (try clear hb); (try clear hb2); (try clear hk); (try clear hi); (try clear ho0); obtain ⟨Ao41, co41, eo41⟩ := Kd.R_slice HO190.out; subst eo41) | ((with_reducible refine gate_callee (f := 15) rfl ?_); refine goesL_ (some 74) rfl rfl Try.func15 (by kernel_rfl) rfl #[.slice A0 l0.length c0, .slice none 0 0, .slice Ao41 t186.length co41] rfl (by (try simp only [List.map_toArray, List.map_cons, List.map_nil]); first | done | rfl | (simp only [List.length_drop, List.length_take]; rfl)) ?_; (refine (punches_Worked.calls _ _ l0 _ _ ([] : List (S45)) _ _ t186 t191 t192 _ ?side1 ?side2 ?side3 ?side4 ?side5 ?side6 A25.out).mono ?_); (case side1 => repeat (first | exact (Kd.C_below HR0.out HB.out) | (with_reducible refine Kd.C_alloc ?_ _) | (with_reducible refine Kd.C_drewN ?_ _) | (with_reducible refine Kd.C_drew ?_))); (case side2 => exact HC0.out); (case side3 => exact Kd.C_nil _ _); (case side4 => exact Nat.le_refl _); (case side5 => repeat (first | exact (Kd.R_reads' HO190.out).2.2 | (with_reducible refine Kd.C_alloc ?_ _) | (with_reducible refine Kd.C_drewN ?_ _) | (with_reducible refine Kd.C_drew ?_))); (case side6 => exact (Kd.R_reads' HO190.out).2.1); rintro e w42 ⟨v193, rfl, ho0, hb⟩; refine ⟨_, rfl, ?_⟩; have n0_ := Aside0.mk (Kd.R_below (by (with_reducible repeat (first | apply Kd.R_alloc | apply Kd.R_drewN | apply Kd.R_drew)); exact HO_4.out) hb); have n1_ := Aside0.mk (Kd.R_elder' (by (with_reducible repeat (first | apply Kd.R_alloc | apply Kd.R_drewN | apply Kd.R_drew)); exact HO_5.out) (Kd.R_base ho0) hb); have n2_ := Aside0.mk (Kd.R_elder' (by (with_reducible repeat (first | apply Kd.R_alloc | apply Kd.R_drewN | apply Kd.R_drew)); exact HO_6.out) (Kd.R_base ho0) hb); have n3_ := Aside0.mk (Kd.R_below (by (with_reducible repeat (first | apply Kd.R_alloc | apply Kd.R_drewN | apply Kd.R_drew)); exact HO181.out) hb); have n4_ := Aside0.mk (Kd.R_elder' (by (with_reducible repeat (first | apply Kd.R_alloc | apply Kd.R_drewN | apply Kd.R_drew)); exact HO185.out) (Kd.R_base ho0) hb); have n5_ := Aside0.mk (Kd.R_below (by (with_reducible repeat (first | apply Kd.R_alloc | apply Kd.R_drewN | apply Kd.R_drew)); exact HO190.out) hb); have n6_ := Aside0.mk (Kd.R_lower (Kd.R_new' (Kd.R_new' (Kd.R_new' ho0 (Kd.R_lt (by (with_reducible repeat (first | apply Kd.R_alloc | apply Kd.R_drewN | apply Kd.R_drew)); exact HO_5.out))) (Kd.R_lt (by (with_reducible repeat (first | apply Kd.R_alloc | apply Kd.R_drewN | apply Kd.R_drew)); exact HO_6.out))) (Kd.R_lt (by (with_reducible repeat (first | apply Kd.R_alloc | apply Kd.R_drewN | apply Kd.R_drew)); exact HO185.out))) (below_size (by repeat (first | (with_reducible first | exact HB.out | apply below_alloc | apply pw_below_drewN | apply below_drew1) | exact HB.out)))); have n7_ := Aside0.mk (below_step (by repeat (first | (with_reducible first | exact HB.out | apply below_alloc | apply pw_below_drewN | apply below_drew1) | exact HB.out)) hb); clear HO_4; clear HO_5; clear HO_6; clear HO181; clear HO185; clear HO190; clear HB; have HO_4 := n0_; have HO_5 := n1_; have HO_6 := n2_; have HO181 := n3_; have HO185 := n4_; have HO190 := n5_; have HO194 := n6_; have HB := n7_; clear n0_ n1_ n2_ n3_ n4_ n5_ n6_ n7_; (try clear hb); (try clear hb2); (try clear hk); (try clear hi); (try clear ho0); obtain ⟨Ao43, co43, eo43⟩ := Kd.R_slice HO185.out; subst eo43; obtain ⟨Ao44, co44, eo44⟩ := Kd.R_slice HO_5.out; subst eo44) | (go_at_call 18; (with_reducible refine (wageofficeref22_SameInts.calls k1 _ _ t182 _ _ x5_1 true _ ?side1 ?side2 ?side3 ?side4 A32.out).mono ?_); (case side1 => repeat (first | exact (Kd.R_reads' HO185.out).2.2 | (with_reducible refine Kd.C_alloc ?_ _) | (with_reducible refine Kd.C_drewN ?_ _) | (with_reducible refine Kd.C_drew ?_))); (case side2 => exact (Kd.R_reads' HO185.out).2.1); (case side3 => repeat (first | exact (Kd.R_reads' HO_5.out).2.2 | (with_reducible refine Kd.C_alloc ?_ _) | (with_reducible refine Kd.C_drewN ?_ _) | (with_reducible refine Kd.C_drew ?_))); (case side4 => exact (Kd.R_reads' HO_5.out).2.1); rintro e w' ⟨rfl, ⟨nd, rfl⟩⟩; obtain ⟨Ao45, co45, eo45⟩ := Kd.R_slice HO194.out; subst eo45; obtain ⟨Ao46, co46, eo46⟩ := Kd.R_slice HO_6.out; subst eo46) | (go_at_call 18; (with_reducible refine (wageofficeref22_SameInts.calls k1 _ _ t191 _ _ x6_1 t196 _ ?side1 ?side2 ?side3 ?side4 A35.out).mono ?_); (case side1 => repeat (first | exact (Kd.R_reads' HO194.out).2.2 | (with_reducible refine Kd.C_alloc ?_ _) | (with_reducible refine Kd.C_drewN ?_ _) | (with_reducible refine Kd.C_drew ?_))); (case side2 => exact (Kd.R_reads' HO194.out).2.1); (case side3 => repeat (first | exact (Kd.R_reads' HO_6.out).2.2 | (with_reducible refine Kd.C_alloc ?_ _) | (with_reducible refine Kd.C_drewN ?_ _) | (with_reducible refine Kd.C_drew ?_))); (case side4 => exact (Kd.R_reads' HO_6.out).2.1); rintro e w' ⟨rfl, ⟨nd, rfl⟩⟩))
                          go_ret
                          exact ⟨by first | rfl | (simp [errW_none, errW_some] <;> rfl) | (simp [*, errW_none, errW_some] <;> rfl), by repeat (first | (with_reducible first | exact HB.out | apply below_alloc | apply pw_below_drewN | apply below_drew1) | exact HB.out)⟩
                        · rw [if_neg c34] at H
                          have c34b0 : (t187 == (wrap64 (240 * (l0.length : Int)))) = false := beq_eq_false_iff_ne.mpr c34
                          have c34b1 : (t187 != (wrap64 (240 * (l0.length : Int)))) = true := bne_iff_ne.mpr c34
                          exact absurd ((Option.some.inj H).trans PR.out) (by decide)
                      · replace c33 := Bool.eq_false_iff.mpr c33
                        subst c33
                        have H1 : (some false) = some r := by rw [if_neg (show ¬ (false = true) by decide)] at H; exact H
                        clear H
                        have H := H1
                        clear H1
                        exact absurd ((Option.some.inj H).trans PR.out) (by decide)
                    · rw [if_neg c31] at H
                      have c31b0 : (t178 == 0) = false := beq_eq_false_iff_ne.mpr c31
                      have c31b1 : (t178 != 0) = true := bne_iff_ne.mpr c31
                      exact absurd ((Option.some.inj H).trans PR.out) (by decide)
                  · rw [if_neg c30] at H
                    have c30b0 : (t192 == 0) = false := beq_eq_false_iff_ne.mpr c30
                    have c30b1 : (t192 != 0) = true := bne_iff_ne.mpr c30
                    exact absurd ((Option.some.inj H).trans PR.out) (by decide)
                · rw [if_neg c29] at H
                  have c29b0 : (t188 == 0) = false := beq_eq_false_iff_ne.mpr c29
                  have c29b1 : (t188 != 0) = true := bne_iff_ne.mpr c29
                  exact absurd ((Option.some.inj H).trans PR.out) (by decide)
              · rw [if_neg c28] at H
                have c28b0 : (t183 == 0) = false := beq_eq_false_iff_ne.mpr c28
                have c28b1 : (t183 != 0) = true := bne_iff_ne.mpr c28
                exact absurd ((Option.some.inj H).trans PR.out) (by decide)
            · rw [if_neg c27] at H
              have c27b0 : (t179 == 0) = false := beq_eq_false_iff_ne.mpr c27
              have c27b1 : (t179 != 0) = true := bne_iff_ne.mpr c27
              exact absurd ((Option.some.inj H).trans PR.out) (by decide)
          · replace c26 := Bool.eq_false_iff.mpr c26
            subst c26
            have H1 : (some false) = some r := by rw [if_neg (show ¬ (false = true) by decide)] at H; exact H
            clear H
            have H := H1
            clear H1
            exact absurd ((Option.some.inj H).trans PR.out) (by decide)
  · replace c4 := Bool.eq_false_iff.mpr c4
    subst c4
    have H1 : (some t161) = some r := by rw [if_neg (show ¬ (false = true) by decide)] at H; exact H
    clear H
    have H := H1
    clear H1
    obtain rfl := Option.some.inj H
    go_enter Try.func5, Try.ntmps5
    go_wp2_with (first | ((with_reducible refine gate_callee (f := 11) rfl ?_); refine goesL_ (some 19) rfl rfl Try.func11 (by kernel_rfl) rfl #[] rfl (by (try simp only [List.map_toArray, List.map_cons, List.map_nil]); first | done | rfl | (simp only [List.length_drop, List.length_take]; rfl)) ?_; (with_reducible refine (wageofficelaw22_head.calls  t161 _ A2.out).mono ?_); rintro e w47 ⟨rfl, hb⟩; refine ⟨_, rfl, ?_⟩; have n0_ := Aside0.mk (below_step (by repeat (first | (with_reducible first | exact HB.out | apply below_alloc | apply pw_below_drewN | apply below_drew1) | exact HB.out)) hb); clear HB; have HB := n0_; clear n0_; (try clear hb); (try clear hb2); (try clear hk); (try clear hi)) | ((with_reducible refine gate_callee (f := 19) rfl ?_); refine goesL_ (some 21) rfl rfl Try.func19 (by kernel_rfl) rfl #[.slice A0 l0.length c0, .slice none 0 0] rfl (by (try simp only [List.map_toArray, List.map_cons, List.map_nil]); first | done | rfl | (simp only [List.length_drop, List.length_take]; rfl)) ?_; (refine (wageofficelaw22_usable.calls k _ _ l0 _ _ ([] : List (S45)) false _ ?side1 ?side2 ?side3 ?side4 A3.out).mono ?_); (case side1 => repeat (first | exact (Kd.C_below HR0.out HB.out) | (with_reducible refine Kd.C_alloc ?_ _) | (with_reducible refine Kd.C_drewN ?_ _) | (with_reducible refine Kd.C_drew ?_))); (case side2 => exact HC0.out); (case side3 => exact Kd.C_nil _ _); (case side4 => exact Nat.le_refl _); rintro e w48 ⟨rfl, hb⟩; refine ⟨_, rfl, ?_⟩; have n0_ := Aside0.mk (below_step (by repeat (first | (with_reducible first | exact HB.out | apply below_alloc | apply pw_below_drewN | apply below_drew1) | exact HB.out)) hb); clear HB; have HB := n0_; clear n0_; (try clear hb); (try clear hb2); (try clear hk); (try clear hi)))
    go_ret
    exact ⟨by first | rfl | (simp [errW_none, errW_some] <;> rfl) | (simp [*, errW_none, errW_some] <;> rfl), by repeat (first | (with_reducible first | exact HB.out | apply below_alloc | apply pw_below_drewN | apply below_drew1) | exact HB.out)⟩

end Go.Proofs.Ytpbamfoaoeicgaa.PAll

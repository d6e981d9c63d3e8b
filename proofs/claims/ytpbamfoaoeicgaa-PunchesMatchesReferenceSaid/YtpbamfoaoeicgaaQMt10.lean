-- Printed by a program (the kit's print, with functions given by hand) out of the translation: machine-written for this claim.
import Derived.Test.YtpbamfoaoeicgaaQPAllx0
import Derived.Test.YtpbamfoaoeicgaaQPAllx8
import Derived.Test.YtpbamfoaoeicgaaQMt10a
namespace Go.Proofs.Ytpbamfoaoeicgaa.PAll
open Go.RowKit Go.Proofs.YtpbamfoaoeicgaaW.PrintWords Go.Proofs.YtpbamfoaoeicgaaW.PrintLast Go.Proofs.YtpbamfoaoeicgaaW.PrintMore
attribute [local go_sem] max2_int min2_int max_two min_two max_three min_three max_four min_four   -- for this text's walks alone
set_option linter.unusedVariables false
set_option linter.unusedSimpArgs false

def rAl.T11 : Bool × List (List Nat × List Nat) := (true, [([], []), ([0], [0]), ([1], [1]), ([2], [2]), ([3], [3]), ([3], [3]), ([5, 3], [3, 5]), ([4, 6, 3], [3, 4, 6]), ([7, 3, 3], [3, 7]), ([8], [8]), ([9, 8], [8, 9]), ([8], [8]), ([8], [8]), ([11, 12, 8], [8, 11, 12]), ([13, 8], [8, 13]), ([14, 8], [8, 14]), ([10, 15, 8], [8, 10, 15]), ([8, 16, 3], [3, 8, 16]), ([17, 8, 3], [3, 17]), ([18], [18]), ([19, 18], [18, 19]), ([18], [18]), ([18], [18]), ([21, 22, 18], [18, 21, 22]), ([23, 18], [18, 23]), ([24, 18], [18, 24]), ([20, 25, 18], [18, 20, 25]), ([18, 26, 3], [3, 18, 26]), ([3, 27], [3, 27]), ([28, 18], [28]), ([29], [29]), ([30, 29], [29, 30]), ([31, 29], [29, 31]), ([32, 29, 29], [29, 32]), ([33], [33]), ([34, 33], [33, 34]), ([33], [33]), ([35, 36, 33], [33, 35, 36]), ([33, 37, 29], [29, 33, 37]), ([29, 38], [29, 38])])
def rAl.B11 : List Nat := [0, 1, 3, 7, 15, 15, 47, 127, 255, 511, 1023, 511, 511, 6655, 14847, 31231, 65535, 131071, 262143, 524287, 1048575, 524287, 524287, 6815743, 15204351, 31981567, 67108863, 134217727, 268435455, 536870911, 1073741823, 2147483647, 4294967295, 8589934591, 17179869183, 34359738367, 17179869183, 137438953471, 274877906943, 549755813887]
theorem rAl.tab11 : rtab .any (opsOf Try.f20 11) = rAl.T11 := by kernel_rfl
theorem rAl.bits11 : waitsOk rAl.T11.2 rAl.B11 = true := by kernel_rfl
def rAl.T16 : Bool × List (List Nat × List Nat) := (true, [([], []), ([], []), ([], []), ([1, 2], [1, 2]), ([3], [3]), ([], []), ([], []), ([5, 6], [5, 6]), ([7], [7]), ([4, 8], [4, 8]), ([0, 9], [0, 9]), ([10, 9, 0, 1, 2, 3, 4, 5, 6, 7, 8, 9, 10], [0, 10])])
def rAl.B16 : List Nat := [0, 0, 0, 6, 14, 0, 0, 96, 224, 510, 1023, 2047]
theorem rAl.tab16 : rtab .any (opsOf Try.f20 16) = rAl.T16 := by kernel_rfl
theorem rAl.bits16 : waitsOk rAl.T16.2 rAl.B16 = true := by kernel_rfl
set_option maxHeartbeats 8000000 in
set_option maxRecDepth 100000 in
theorem rAl.calls (k : Nat) (A0 : Option Addr) (c0 : Nat) (l0 : List (S48)) (A1 : Option Addr) (c1 : Nat) (l1 : List (S45)) (A2 : Option Addr) (c2 : Nat) (l2 : List (S57)) (r1 : Int) (r2 : Bool) (w : World) (hr0 : Kd.C k48 w A0 l0.length l0) (hc0 : l0.length ≤ c0) (hr1 : Kd.C k45 w A1 l1.length l1) (hc1 : l1.length ≤ c1) (hr2 : Kd.C k57 w A2 l2.length l2) (hc2 : l2.length ≤ c2) (h : rAl.f k l0 l1 l2 = some (r1, r2)) :
  Calls Try.prog 20 #[.slice A0 l0.length c0, .slice A1 l1.length c1, .slice A2 l2.length c2] w fun e w' => e = .returned (.tuple #[.int .i64 r1, .bool r2]) ∧ Below w.heap.size w w' := by
 have hu57 := Try.underlying57
 have hu43 := Try.underlying43
 have hu45 := Try.underlying45
 have HR0 := Aside0.mk hr0
 have HC0 := Aside0.mk hc0
 clear hr0 hc0
 have HR1 := Aside0.mk hr1
 have HC1 := Aside0.mk hc1
 clear hr1 hc1
 have HR2 := Aside0.mk hr2
 have HC2 := Aside0.mk hc2
 clear hr2 hc2
 have HB := Aside0.mk (Below.refl w.heap.size w)
 have H : ((wageofficeref22_Marks.f k l0).bind fun t206 => (rAl.l0 k l1 l2 t206 0 0 0 0)) = some (r1, r2) := h
 clear h
 replace H := Option.bind_eq_some_iff.mp H
 obtain ⟨t206, A40, H⟩ := H
 replace H : (rAl.l0 k l1 l2 t206 0 0 0 0) = some (r1, r2) := H
 have A4 := Aside0.mk A40
 clear A40
 have H' := Aside0.mk H
 clear H
 go_enter Try.func20, Try.ntmps20
 go_wp2_with (first | ((with_reducible refine gate_callee (f := 21) rfl ?_); refine goesL_ (some 15) rfl rfl Try.func21 (by kernel_rfl) rfl #[.slice A0 l0.length c0] rfl (by (try simp only [List.map_toArray, List.map_cons, List.map_nil]); first | done | rfl | (simp only [List.length_drop, List.length_take]; rfl)) ?_; (with_reducible refine (wageofficeref22_Marks.calls k _ _ l0 t206 _ ?side1 ?side2 A4.out).mono ?_); (case side1 => repeat (first | exact HR0.out | (with_reducible refine Kd.C_alloc ?_ _) | (with_reducible refine Kd.C_drewN ?_ _) | (with_reducible refine Kd.C_drew ?_))); (case side2 => exact HC0.out); rintro e w5 ⟨v207, rfl, ho0, hb⟩; refine ⟨_, rfl, ?_⟩; have n0_ := Aside0.mk (Kd.R_lower ho0 (below_size (by repeat (first | (with_reducible first | exact HB.out | apply below_alloc | apply pw_below_drewN | apply below_drew1) | exact HB.out)))); have n1_ := Aside0.mk (below_step (by repeat (first | (with_reducible first | exact HB.out | apply below_alloc | apply pw_below_drewN | apply below_drew1) | exact HB.out)) hb); clear HB; have HO208 := n0_; have HB := n1_; clear n0_ n1_; (try clear hb); (try clear hb2); (try clear hk); (try clear hi); (try clear ho0)))
 go_loopg [9, 10, 11, 12] k (fun kq v9 v10 v11 v12 w' => ∃ (x9_1 : Int) (x10_1 : Int) (x11_1 : Int) (x12_1 : Int), v9 = .int .i64 x9_1 ∧ v10 = .int .i64 x10_1 ∧ v11 = .int .i64 x11_1 ∧ v12 = .int .i64 x12_1 ∧ Aside0 (rAl.l0 kq l1 l2 t206 x9_1 x10_1 x11_1 x12_1 = some (r1, r2)) ∧ Aside0 (kq ≤ k) ∧ Aside0 (Kd.R k43 43 w' w.heap.size (fun _ => True) v207 t206) ∧ Aside0 (Below w.heap.size w w'))
 case atStart => exact ⟨(0), (0), (0), (0), (by first | rfl | (simp; done) | (simp [*]; done)), (by first | rfl | (simp; done) | (simp [*]; done)), (by first | rfl | (simp; done) | (simp [*]; done)), (by first | rfl | (simp; done) | (simp [*]; done)), H', ⟨Nat.le_refl _⟩, ⟨by (with_reducible repeat (first | apply Kd.R_alloc | apply Kd.R_drewN | apply Kd.R_drew)); exact HO208.out⟩, ⟨by repeat (first | (with_reducible first | exact HB.out | apply below_alloc | apply pw_below_drewN | apply below_drew1) | exact HB.out)⟩⟩
 case round =>
  clear H'
  try clear c1
  try clear c2
  try clear p2
  obtain ⟨x9_1, x10_1, x11_1, x12_1, rfl, rfl, rfl, rfl, HA, HK1, HO_8, HB⟩ := hrel
  cases gk with
  | zero => exact absurd HA.out (by simp [rAl.l0])
  | succ k1 =>
   have H := HA.out
   clear HA
   simp only [rAl.l0] at H
   by_cases c6 : x12_1 < (l2.length : Int)
   ·rw [if_pos c6] at H
    have c6b0 : decide (x12_1 < (l2.length : Int)) = true := decide_eq_true c6
    clear c6
    by_cases c7 : 0 ≤ x12_1
    ·rw [if_pos c7] at H
     have c7b0 : decide (0 ≤ x12_1) = true := decide_eq_true c7
     clear c7
     have HC8 := Aside0.mk H
     clear H
     have p209 : 0 ≤ (x12_1 : Int) := of_decide_eq_true (by first | (with_reducible assumption) | assumption)
     have q209 : x12_1 < (l2.length : Int) := of_decide_eq_true (by first | (with_reducible assumption) | assumption)
     obtain ⟨ad209, e209, hx209_0, hx209_1, hx209_2⟩ := at_T57 HR2.out x12_1 p209 q209
     cases e209
     replace hx209_0 := (HB.out.cell (World.block_lt_of_cell? w _ hx209_0)).trans hx209_0
     replace hx209_1 := (HB.out.cell (World.block_lt_of_cell? w _ hx209_1)).trans hx209_1
     replace hx209_2 := (HB.out.cell (World.block_lt_of_cell? w _ hx209_2)).trans hx209_2
     replace p209 := eq_true p209
     replace q209 := eq_true q209
     go_upto_region 9 with (first | ((with_reducible refine gate_dst (N := 13) rfl ?_); (try (refine gate_guard (by rfl) ?_; dsimp only)); refine box_event ?hg (N := 13) ?hd (cs := #[.int .i64 0, .bool false, .int .i64 0]) (t := 57) ?hr ?_; (case hd => rfl); (case hg => rfl); (case hr => first | (go_simp; done) | (go_simp; rfl)); intro gb210 hg w9 hbox hb; have n0_ := Aside0.mk (Kd.R_below (by (with_reducible repeat (first | apply Kd.R_alloc | apply Kd.R_drewN | apply Kd.R_drew)); exact HO_8.out) hb); have n1_ := Aside0.mk (below_step (by repeat (first | (with_reducible first | exact HB.out | apply below_alloc | apply pw_below_drewN | apply below_drew1) | exact HB.out)) hb); have n2_ := Aside0.mk (hbox); have n3_ := Aside0.mk ((by rw [hg]; exact (below_size (by repeat (first | (with_reducible first | exact HB.out | apply below_alloc | apply pw_below_drewN | apply below_drew1) | exact HB.out))) : w.heap.size ≤ gb210)); have n4_ := Aside0.mk ((by rw [hg]; exact (below_size (by repeat (first | (with_reducible first | exact HB.out | apply below_alloc | apply pw_below_drewN | apply below_drew1) | exact HB.out))) : w.heap.size ≤ gb210)); clear HO_8; clear HB; have HO_8 := n0_; have HB := n1_; have BK210 := n2_; have GW210 := n3_; have GE210 := n4_; clear n0_ n1_ n2_ n3_ n4_; clear hb hbox hg; have hcz10_0 : w9.cell? ⟨gb210, 0, none⟩ = some (.int .i64 0) := (blk_cell BK210.out 0).trans rfl; have hcz10_1 : w9.cell? ⟨gb210, 1, none⟩ = some (.bool false) := (blk_cell BK210.out 1).trans rfl; have hcz10_2 : w9.cell? ⟨gb210, 2, none⟩ = some (.int .i64 0) := (blk_cell BK210.out 2).trans rfl; have hfz10_0 := blk_frozen BK210.out 0; have hfz10_1 := blk_frozen BK210.out 1; have hfz10_2 := blk_frozen BK210.out 2))
     (try simp only [Act.put, List.setIfInBounds_toArray, List.set_cons_zero, List.set_cons_succ])
     go_cut [52] (fun v52 wc => ∃ (kq : Nat) (x52_7 : Bool), v52 = .bool x52_7 ∧ Aside0 (rAl.j1 kq l1 l2 t206 x9_1 x10_1 x11_1 x12_1 x52_7 ((rd_T57 l2 x12_1).f0) ((rd_T57 l2 x12_1).f1) ((rd_T57 l2 x12_1).f2) = some (r1, r2)) ∧ Aside0 (kq ≤ k1) ∧ Aside0 (Kd.R k43 43 wc w.heap.size (fun _ => True) v207 t206) ∧ Aside0 (wc.heap[gb210]? = some (.cells #[.int .i64 ((rd_T57 l2 x12_1).f0), .bool ((rd_T57 l2 x12_1).f1), .int .i64 ((rd_T57 l2 x12_1).f2)] 57 (0, 0))) ∧ Aside0 (Below w.heap.size w wc))
     case first =>
      have H := HC8.out
      clear HC8
      by_cases c11 : ((rd_T57 l2 x12_1).f0) < 0
      ·rw [if_pos c11] at H
       have c11b0 : decide (((rd_T57 l2 x12_1).f0) < 0) = true := decide_eq_true c11
       clear c11
       (first | rw [c11b0] | (simp only [i64_w, i32_w]; rw [c11b0]) | skip)
       by_cases c12 : ((rd_T57 l2 x12_1).f2) < 0
       ·rw [if_pos c12] at H
        have c12b0 : decide (((rd_T57 l2 x12_1).f2) < 0) = true := decide_eq_true c12
        clear c12
        have H' := Aside0.mk H
        clear H
        have hcz13_0 : w9.cell? ⟨gb210, 0, none⟩ = some (.int .i64 0) := (blk_cell BK210.out 0).trans rfl
        have hcz13_1 : w9.cell? ⟨gb210, 1, none⟩ = some (.bool false) := (blk_cell BK210.out 1).trans rfl
        have hcz13_2 : w9.cell? ⟨gb210, 2, none⟩ = some (.int .i64 0) := (blk_cell BK210.out 2).trans rfl
        have hfz13_0 := blk_frozen BK210.out 0
        have hfz13_1 := blk_frozen BK210.out 1
        have hfz13_2 := blk_frozen BK210.out 2
        go_wp2
        go_meet
        case rel => exact ⟨_, (true), (by first | rfl | (simp; done) | (simp [*]; done)), H', ⟨by have := HK1.out; first | omega | exact Nat.le_refl _⟩, ⟨by (with_reducible repeat (first | apply Kd.R_alloc | apply Kd.R_drewN | apply Kd.R_drew)); exact Kd.R_mono (Kd.R_far (p := ⟨gb210, 2, none⟩) (Kd.R_far (p := ⟨gb210, 1, none⟩) (Kd.R_far (p := ⟨gb210, 0, none⟩) (Kd.R_types HO_8.out BK210.out (by decide)) (fun _ hk => hk.2) (.int .i64 ((rd_T57 l2 x12_1).f0))) (fun _ hk => hk.2) (.bool ((rd_T57 l2 x12_1).f1))) (fun _ hk => hk.2) (.int .i64 ((rd_T57 l2 x12_1).f2))) (fun _ hk => trivial)⟩, ⟨by (with_reducible repeat (first | refine blk_drewN ?_ _ | refine blk_drew ?_ | refine blk_alloc ?_ _)); refine blk_put (cs := #[.int .i64 ((rd_T57 l2 x12_1).f0), .bool ((rd_T57 l2 x12_1).f1), .int .i64 0]) ?_ 2 _ rfl; (with_reducible repeat (first | refine blk_drewN ?_ _ | refine blk_drew ?_ | refine blk_alloc ?_ _)); refine blk_put (cs := #[.int .i64 ((rd_T57 l2 x12_1).f0), .bool false, .int .i64 0]) ?_ 1 _ rfl; (with_reducible repeat (first | refine blk_drewN ?_ _ | refine blk_drew ?_ | refine blk_alloc ?_ _)); refine blk_put (cs := #[.int .i64 0, .bool false, .int .i64 0]) ?_ 0 _ rfl; (with_reducible repeat (first | refine blk_drewN ?_ _ | refine blk_drew ?_ | refine blk_alloc ?_ _)); exact BK210.out⟩, ⟨by repeat (first | (with_reducible first | exact HB.out | apply below_alloc | apply pw_below_drewN | apply below_drew1 | refine below_set ?_ GE210.out) | exact HB.out)⟩⟩
       ·rw [if_neg c12] at H
        have c12b0 : decide (((rd_T57 l2 x12_1).f2) < 0) = false := decide_eq_false c12
        clear c12
        by_cases c14 : ((rd_T57 l2 x12_1).f0) < (-1)
        ·rw [if_pos c14] at H
         have c14b0 : decide (((rd_T57 l2 x12_1).f0) < (-1)) = true := decide_eq_true c14
         clear c14
         have H' := Aside0.mk H
         clear H
         have hcz15_0 : w9.cell? ⟨gb210, 0, none⟩ = some (.int .i64 0) := (blk_cell BK210.out 0).trans rfl
         have hcz15_1 : w9.cell? ⟨gb210, 1, none⟩ = some (.bool false) := (blk_cell BK210.out 1).trans rfl
         have hcz15_2 : w9.cell? ⟨gb210, 2, none⟩ = some (.int .i64 0) := (blk_cell BK210.out 2).trans rfl
         have hfz15_0 := blk_frozen BK210.out 0
         have hfz15_1 := blk_frozen BK210.out 1
         have hfz15_2 := blk_frozen BK210.out 2
         go_wp2
         go_meet
         case rel => exact ⟨_, (true), (by first | rfl | (simp; done) | (simp [*]; done)), H', ⟨by have := HK1.out; first | omega | exact Nat.le_refl _⟩, ⟨by (with_reducible repeat (first | apply Kd.R_alloc | apply Kd.R_drewN | apply Kd.R_drew)); exact Kd.R_mono (Kd.R_far (p := ⟨gb210, 2, none⟩) (Kd.R_far (p := ⟨gb210, 1, none⟩) (Kd.R_far (p := ⟨gb210, 0, none⟩) (Kd.R_types HO_8.out BK210.out (by decide)) (fun _ hk => hk.2) (.int .i64 ((rd_T57 l2 x12_1).f0))) (fun _ hk => hk.2) (.bool ((rd_T57 l2 x12_1).f1))) (fun _ hk => hk.2) (.int .i64 ((rd_T57 l2 x12_1).f2))) (fun _ hk => trivial)⟩, ⟨by (with_reducible repeat (first | refine blk_drewN ?_ _ | refine blk_drew ?_ | refine blk_alloc ?_ _)); refine blk_put (cs := #[.int .i64 ((rd_T57 l2 x12_1).f0), .bool ((rd_T57 l2 x12_1).f1), .int .i64 0]) ?_ 2 _ rfl; (with_reducible repeat (first | refine blk_drewN ?_ _ | refine blk_drew ?_ | refine blk_alloc ?_ _)); refine blk_put (cs := #[.int .i64 ((rd_T57 l2 x12_1).f0), .bool false, .int .i64 0]) ?_ 1 _ rfl; (with_reducible repeat (first | refine blk_drewN ?_ _ | refine blk_drew ?_ | refine blk_alloc ?_ _)); refine blk_put (cs := #[.int .i64 0, .bool false, .int .i64 0]) ?_ 0 _ rfl; (with_reducible repeat (first | refine blk_drewN ?_ _ | refine blk_drew ?_ | refine blk_alloc ?_ _)); exact BK210.out⟩, ⟨by repeat (first | (with_reducible first | exact HB.out | apply below_alloc | apply pw_below_drewN | apply below_drew1 | refine below_set ?_ GE210.out) | exact HB.out)⟩⟩
        ·rw [if_neg c14] at H
         have c14b0 : decide (((rd_T57 l2 x12_1).f0) < (-1)) = false := decide_eq_false c14
         clear c14
         by_cases c16 : ((rd_T57 l2 x12_1).f2) < (-1)
         ·rw [if_pos c16] at H
          have c16b0 : decide (((rd_T57 l2 x12_1).f2) < (-1)) = true := decide_eq_true c16
          clear c16
          have H' := Aside0.mk H
          clear H
          have hcz17_0 : w9.cell? ⟨gb210, 0, none⟩ = some (.int .i64 0) := (blk_cell BK210.out 0).trans rfl
          have hcz17_1 : w9.cell? ⟨gb210, 1, none⟩ = some (.bool false) := (blk_cell BK210.out 1).trans rfl
          have hcz17_2 : w9.cell? ⟨gb210, 2, none⟩ = some (.int .i64 0) := (blk_cell BK210.out 2).trans rfl
          have hfz17_0 := blk_frozen BK210.out 0
          have hfz17_1 := blk_frozen BK210.out 1
          have hfz17_2 := blk_frozen BK210.out 2
          go_wp2
          go_meet
          case rel => exact ⟨_, (true), (by first | rfl | (simp; done) | (simp [*]; done)), H', ⟨by have := HK1.out; first | omega | exact Nat.le_refl _⟩, ⟨by (with_reducible repeat (first | apply Kd.R_alloc | apply Kd.R_drewN | apply Kd.R_drew)); exact Kd.R_mono (Kd.R_far (p := ⟨gb210, 2, none⟩) (Kd.R_far (p := ⟨gb210, 1, none⟩) (Kd.R_far (p := ⟨gb210, 0, none⟩) (Kd.R_types HO_8.out BK210.out (by decide)) (fun _ hk => hk.2) (.int .i64 ((rd_T57 l2 x12_1).f0))) (fun _ hk => hk.2) (.bool ((rd_T57 l2 x12_1).f1))) (fun _ hk => hk.2) (.int .i64 ((rd_T57 l2 x12_1).f2))) (fun _ hk => trivial)⟩, ⟨by (with_reducible repeat (first | refine blk_drewN ?_ _ | refine blk_drew ?_ | refine blk_alloc ?_ _)); refine blk_put (cs := #[.int .i64 ((rd_T57 l2 x12_1).f0), .bool ((rd_T57 l2 x12_1).f1), .int .i64 0]) ?_ 2 _ rfl; (with_reducible repeat (first | refine blk_drewN ?_ _ | refine blk_drew ?_ | refine blk_alloc ?_ _)); refine blk_put (cs := #[.int .i64 ((rd_T57 l2 x12_1).f0), .bool false, .int .i64 0]) ?_ 1 _ rfl; (with_reducible repeat (first | refine blk_drewN ?_ _ | refine blk_drew ?_ | refine blk_alloc ?_ _)); refine blk_put (cs := #[.int .i64 0, .bool false, .int .i64 0]) ?_ 0 _ rfl; (with_reducible repeat (first | refine blk_drewN ?_ _ | refine blk_drew ?_ | refine blk_alloc ?_ _)); exact BK210.out⟩, ⟨by repeat (first | (with_reducible first | exact HB.out | apply below_alloc | apply pw_below_drewN | apply below_drew1 | refine below_set ?_ GE210.out) | exact HB.out)⟩⟩
         ·rw [if_neg c16] at H
          have c16b0 : decide (((rd_T57 l2 x12_1).f2) < (-1)) = false := decide_eq_false c16
          clear c16
          by_cases c18 : ((rd_T57 l2 x12_1).f0) = (-1)
          ·rw [if_pos c18] at H
           have c18b0 : (((rd_T57 l2 x12_1).f0) == (-1)) = true := beq_iff_eq.mpr c18
           have c18b1 : (((rd_T57 l2 x12_1).f0) != (-1)) = false := bne_eq_false_iff_eq.mpr c18
           clear c18
           have H' := Aside0.mk H
           clear H
           have hcz19_0 : w9.cell? ⟨gb210, 0, none⟩ = some (.int .i64 0) := (blk_cell BK210.out 0).trans rfl
           have hcz19_1 : w9.cell? ⟨gb210, 1, none⟩ = some (.bool false) := (blk_cell BK210.out 1).trans rfl
           have hcz19_2 : w9.cell? ⟨gb210, 2, none⟩ = some (.int .i64 0) := (blk_cell BK210.out 2).trans rfl
           have hfz19_0 := blk_frozen BK210.out 0
           have hfz19_1 := blk_frozen BK210.out 1
           have hfz19_2 := blk_frozen BK210.out 2
           go_wp2
           go_meet
           case rel => exact ⟨_, ((rd_T57 l2 x12_1).f1), (by first | rfl | (simp; done) | (simp [*]; done)), H', ⟨by have := HK1.out; first | omega | exact Nat.le_refl _⟩, ⟨by (with_reducible repeat (first | apply Kd.R_alloc | apply Kd.R_drewN | apply Kd.R_drew)); exact Kd.R_mono (Kd.R_far (p := ⟨gb210, 2, none⟩) (Kd.R_far (p := ⟨gb210, 1, none⟩) (Kd.R_far (p := ⟨gb210, 0, none⟩) (Kd.R_types HO_8.out BK210.out (by decide)) (fun _ hk => hk.2) (.int .i64 ((rd_T57 l2 x12_1).f0))) (fun _ hk => hk.2) (.bool ((rd_T57 l2 x12_1).f1))) (fun _ hk => hk.2) (.int .i64 ((rd_T57 l2 x12_1).f2))) (fun _ hk => trivial)⟩, ⟨by (with_reducible repeat (first | refine blk_drewN ?_ _ | refine blk_drew ?_ | refine blk_alloc ?_ _)); refine blk_put (cs := #[.int .i64 ((rd_T57 l2 x12_1).f0), .bool ((rd_T57 l2 x12_1).f1), .int .i64 0]) ?_ 2 _ rfl; (with_reducible repeat (first | refine blk_drewN ?_ _ | refine blk_drew ?_ | refine blk_alloc ?_ _)); refine blk_put (cs := #[.int .i64 ((rd_T57 l2 x12_1).f0), .bool false, .int .i64 0]) ?_ 1 _ rfl; (with_reducible repeat (first | refine blk_drewN ?_ _ | refine blk_drew ?_ | refine blk_alloc ?_ _)); refine blk_put (cs := #[.int .i64 0, .bool false, .int .i64 0]) ?_ 0 _ rfl; (with_reducible repeat (first | refine blk_drewN ?_ _ | refine blk_drew ?_ | refine blk_alloc ?_ _)); exact BK210.out⟩, ⟨by repeat (first | (with_reducible first | exact HB.out | apply below_alloc | apply pw_below_drewN | apply below_drew1 | refine below_set ?_ GE210.out) | exact HB.out)⟩⟩
          ·rw [if_neg c18] at H
           have c18b0 : (((rd_T57 l2 x12_1).f0) == (-1)) = false := beq_eq_false_iff_ne.mpr c18
           have c18b1 : (((rd_T57 l2 x12_1).f0) != (-1)) = true := bne_iff_ne.mpr c18
           have H' := Aside0.mk H
           clear H
           have hcz20_0 : w9.cell? ⟨gb210, 0, none⟩ = some (.int .i64 0) := (blk_cell BK210.out 0).trans rfl
           have hcz20_1 : w9.cell? ⟨gb210, 1, none⟩ = some (.bool false) := (blk_cell BK210.out 1).trans rfl
           have hcz20_2 : w9.cell? ⟨gb210, 2, none⟩ = some (.int .i64 0) := (blk_cell BK210.out 2).trans rfl
           have hfz20_0 := blk_frozen BK210.out 0
           have hfz20_1 := blk_frozen BK210.out 1
           have hfz20_2 := blk_frozen BK210.out 2
           go_wp2
           go_meet
           case rel => exact ⟨_, (false), (by first | rfl | (simp; done) | (simp [*]; done)), H', ⟨by have := HK1.out; first | omega | exact Nat.le_refl _⟩, ⟨by (with_reducible repeat (first | apply Kd.R_alloc | apply Kd.R_drewN | apply Kd.R_drew)); exact Kd.R_mono (Kd.R_far (p := ⟨gb210, 2, none⟩) (Kd.R_far (p := ⟨gb210, 1, none⟩) (Kd.R_far (p := ⟨gb210, 0, none⟩) (Kd.R_types HO_8.out BK210.out (by decide)) (fun _ hk => hk.2) (.int .i64 ((rd_T57 l2 x12_1).f0))) (fun _ hk => hk.2) (.bool ((rd_T57 l2 x12_1).f1))) (fun _ hk => hk.2) (.int .i64 ((rd_T57 l2 x12_1).f2))) (fun _ hk => trivial)⟩, ⟨by (with_reducible repeat (first | refine blk_drewN ?_ _ | refine blk_drew ?_ | refine blk_alloc ?_ _)); refine blk_put (cs := #[.int .i64 ((rd_T57 l2 x12_1).f0), .bool ((rd_T57 l2 x12_1).f1), .int .i64 0]) ?_ 2 _ rfl; (with_reducible repeat (first | refine blk_drewN ?_ _ | refine blk_drew ?_ | refine blk_alloc ?_ _)); refine blk_put (cs := #[.int .i64 ((rd_T57 l2 x12_1).f0), .bool false, .int .i64 0]) ?_ 1 _ rfl; (with_reducible repeat (first | refine blk_drewN ?_ _ | refine blk_drew ?_ | refine blk_alloc ?_ _)); refine blk_put (cs := #[.int .i64 0, .bool false, .int .i64 0]) ?_ 0 _ rfl; (with_reducible repeat (first | refine blk_drewN ?_ _ | refine blk_drew ?_ | refine blk_alloc ?_ _)); exact BK210.out⟩, ⟨by repeat (first | (with_reducible first | exact HB.out | apply below_alloc | apply pw_below_drewN | apply below_drew1 | refine below_set ?_ GE210.out) | exact HB.out)⟩⟩
      ·rw [if_neg c11] at H
       have c11b0 : decide (((rd_T57 l2 x12_1).f0) < 0) = false := decide_eq_false c11
       clear c11
       (first | rw [c11b0] | (simp only [i64_w, i32_w]; rw [c11b0]) | skip)
       by_cases c21 : ((rd_T57 l2 x12_1).f0) < (-1)
       ·rw [if_pos c21] at H
        have c21b0 : decide (((rd_T57 l2 x12_1).f0) < (-1)) = true := decide_eq_true c21
        clear c21
        have H' := Aside0.mk H
        clear H
        have hcz22_0 : w9.cell? ⟨gb210, 0, none⟩ = some (.int .i64 0) := (blk_cell BK210.out 0).trans rfl
        have hcz22_1 : w9.cell? ⟨gb210, 1, none⟩ = some (.bool false) := (blk_cell BK210.out 1).trans rfl
        have hcz22_2 : w9.cell? ⟨gb210, 2, none⟩ = some (.int .i64 0) := (blk_cell BK210.out 2).trans rfl
        have hfz22_0 := blk_frozen BK210.out 0
        have hfz22_1 := blk_frozen BK210.out 1
        have hfz22_2 := blk_frozen BK210.out 2
        go_wp2
        go_meet
        case rel => exact ⟨_, (true), (by first | rfl | (simp; done) | (simp [*]; done)), H', ⟨by have := HK1.out; first | omega | exact Nat.le_refl _⟩, ⟨by (with_reducible repeat (first | apply Kd.R_alloc | apply Kd.R_drewN | apply Kd.R_drew)); exact Kd.R_mono (Kd.R_far (p := ⟨gb210, 2, none⟩) (Kd.R_far (p := ⟨gb210, 1, none⟩) (Kd.R_far (p := ⟨gb210, 0, none⟩) (Kd.R_types HO_8.out BK210.out (by decide)) (fun _ hk => hk.2) (.int .i64 ((rd_T57 l2 x12_1).f0))) (fun _ hk => hk.2) (.bool ((rd_T57 l2 x12_1).f1))) (fun _ hk => hk.2) (.int .i64 ((rd_T57 l2 x12_1).f2))) (fun _ hk => trivial)⟩, ⟨by (with_reducible repeat (first | refine blk_drewN ?_ _ | refine blk_drew ?_ | refine blk_alloc ?_ _)); refine blk_put (cs := #[.int .i64 ((rd_T57 l2 x12_1).f0), .bool ((rd_T57 l2 x12_1).f1), .int .i64 0]) ?_ 2 _ rfl; (with_reducible repeat (first | refine blk_drewN ?_ _ | refine blk_drew ?_ | refine blk_alloc ?_ _)); refine blk_put (cs := #[.int .i64 ((rd_T57 l2 x12_1).f0), .bool false, .int .i64 0]) ?_ 1 _ rfl; (with_reducible repeat (first | refine blk_drewN ?_ _ | refine blk_drew ?_ | refine blk_alloc ?_ _)); refine blk_put (cs := #[.int .i64 0, .bool false, .int .i64 0]) ?_ 0 _ rfl; (with_reducible repeat (first | refine blk_drewN ?_ _ | refine blk_drew ?_ | refine blk_alloc ?_ _)); exact BK210.out⟩, ⟨by repeat (first | (with_reducible first | exact HB.out | apply below_alloc | apply pw_below_drewN | apply below_drew1 | refine below_set ?_ GE210.out) | exact HB.out)⟩⟩
       ·rw [if_neg c21] at H
        have c21b0 : decide (((rd_T57 l2 x12_1).f0) < (-1)) = false := decide_eq_false c21
        clear c21
        by_cases c23 : ((rd_T57 l2 x12_1).f2) < (-1)
        ·rw [if_pos c23] at H
         have c23b0 : decide (((rd_T57 l2 x12_1).f2) < (-1)) = true := decide_eq_true c23
         clear c23
         have H' := Aside0.mk H
         clear H
         have hcz24_0 : w9.cell? ⟨gb210, 0, none⟩ = some (.int .i64 0) := (blk_cell BK210.out 0).trans rfl
         have hcz24_1 : w9.cell? ⟨gb210, 1, none⟩ = some (.bool false) := (blk_cell BK210.out 1).trans rfl
         have hcz24_2 : w9.cell? ⟨gb210, 2, none⟩ = some (.int .i64 0) := (blk_cell BK210.out 2).trans rfl
         have hfz24_0 := blk_frozen BK210.out 0
         have hfz24_1 := blk_frozen BK210.out 1
         have hfz24_2 := blk_frozen BK210.out 2
         go_wp2
         go_meet
         case rel => exact ⟨_, (true), (by first | rfl | (simp; done) | (simp [*]; done)), H', ⟨by have := HK1.out; first | omega | exact Nat.le_refl _⟩, ⟨by (with_reducible repeat (first | apply Kd.R_alloc | apply Kd.R_drewN | apply Kd.R_drew)); exact Kd.R_mono (Kd.R_far (p := ⟨gb210, 2, none⟩) (Kd.R_far (p := ⟨gb210, 1, none⟩) (Kd.R_far (p := ⟨gb210, 0, none⟩) (Kd.R_types HO_8.out BK210.out (by decide)) (fun _ hk => hk.2) (.int .i64 ((rd_T57 l2 x12_1).f0))) (fun _ hk => hk.2) (.bool ((rd_T57 l2 x12_1).f1))) (fun _ hk => hk.2) (.int .i64 ((rd_T57 l2 x12_1).f2))) (fun _ hk => trivial)⟩, ⟨by (with_reducible repeat (first | refine blk_drewN ?_ _ | refine blk_drew ?_ | refine blk_alloc ?_ _)); refine blk_put (cs := #[.int .i64 ((rd_T57 l2 x12_1).f0), .bool ((rd_T57 l2 x12_1).f1), .int .i64 0]) ?_ 2 _ rfl; (with_reducible repeat (first | refine blk_drewN ?_ _ | refine blk_drew ?_ | refine blk_alloc ?_ _)); refine blk_put (cs := #[.int .i64 ((rd_T57 l2 x12_1).f0), .bool false, .int .i64 0]) ?_ 1 _ rfl; (with_reducible repeat (first | refine blk_drewN ?_ _ | refine blk_drew ?_ | refine blk_alloc ?_ _)); refine blk_put (cs := #[.int .i64 0, .bool false, .int .i64 0]) ?_ 0 _ rfl; (with_reducible repeat (first | refine blk_drewN ?_ _ | refine blk_drew ?_ | refine blk_alloc ?_ _)); exact BK210.out⟩, ⟨by repeat (first | (with_reducible first | exact HB.out | apply below_alloc | apply pw_below_drewN | apply below_drew1 | refine below_set ?_ GE210.out) | exact HB.out)⟩⟩
        ·rw [if_neg c23] at H
         have c23b0 : decide (((rd_T57 l2 x12_1).f2) < (-1)) = false := decide_eq_false c23
         clear c23
         by_cases c25 : ((rd_T57 l2 x12_1).f0) = (-1)
         ·rw [if_pos c25] at H
          have c25b0 : (((rd_T57 l2 x12_1).f0) == (-1)) = true := beq_iff_eq.mpr c25
          have c25b1 : (((rd_T57 l2 x12_1).f0) != (-1)) = false := bne_eq_false_iff_eq.mpr c25
          clear c25
          have H' := Aside0.mk H
          clear H
          have hcz26_0 : w9.cell? ⟨gb210, 0, none⟩ = some (.int .i64 0) := (blk_cell BK210.out 0).trans rfl
          have hcz26_1 : w9.cell? ⟨gb210, 1, none⟩ = some (.bool false) := (blk_cell BK210.out 1).trans rfl
          have hcz26_2 : w9.cell? ⟨gb210, 2, none⟩ = some (.int .i64 0) := (blk_cell BK210.out 2).trans rfl
          have hfz26_0 := blk_frozen BK210.out 0
          have hfz26_1 := blk_frozen BK210.out 1
          have hfz26_2 := blk_frozen BK210.out 2
          go_wp2
          go_meet
          case rel => exact ⟨_, ((rd_T57 l2 x12_1).f1), (by first | rfl | (simp; done) | (simp [*]; done)), H', ⟨by have := HK1.out; first | omega | exact Nat.le_refl _⟩, ⟨by (with_reducible repeat (first | apply Kd.R_alloc | apply Kd.R_drewN | apply Kd.R_drew)); exact Kd.R_mono (Kd.R_far (p := ⟨gb210, 2, none⟩) (Kd.R_far (p := ⟨gb210, 1, none⟩) (Kd.R_far (p := ⟨gb210, 0, none⟩) (Kd.R_types HO_8.out BK210.out (by decide)) (fun _ hk => hk.2) (.int .i64 ((rd_T57 l2 x12_1).f0))) (fun _ hk => hk.2) (.bool ((rd_T57 l2 x12_1).f1))) (fun _ hk => hk.2) (.int .i64 ((rd_T57 l2 x12_1).f2))) (fun _ hk => trivial)⟩, ⟨by (with_reducible repeat (first | refine blk_drewN ?_ _ | refine blk_drew ?_ | refine blk_alloc ?_ _)); refine blk_put (cs := #[.int .i64 ((rd_T57 l2 x12_1).f0), .bool ((rd_T57 l2 x12_1).f1), .int .i64 0]) ?_ 2 _ rfl; (with_reducible repeat (first | refine blk_drewN ?_ _ | refine blk_drew ?_ | refine blk_alloc ?_ _)); refine blk_put (cs := #[.int .i64 ((rd_T57 l2 x12_1).f0), .bool false, .int .i64 0]) ?_ 1 _ rfl; (with_reducible repeat (first | refine blk_drewN ?_ _ | refine blk_drew ?_ | refine blk_alloc ?_ _)); refine blk_put (cs := #[.int .i64 0, .bool false, .int .i64 0]) ?_ 0 _ rfl; (with_reducible repeat (first | refine blk_drewN ?_ _ | refine blk_drew ?_ | refine blk_alloc ?_ _)); exact BK210.out⟩, ⟨by repeat (first | (with_reducible first | exact HB.out | apply below_alloc | apply pw_below_drewN | apply below_drew1 | refine below_set ?_ GE210.out) | exact HB.out)⟩⟩
         ·rw [if_neg c25] at H
          have c25b0 : (((rd_T57 l2 x12_1).f0) == (-1)) = false := beq_eq_false_iff_ne.mpr c25
          have c25b1 : (((rd_T57 l2 x12_1).f0) != (-1)) = true := bne_iff_ne.mpr c25
          have H' := Aside0.mk H
          clear H
          have hcz27_0 : w9.cell? ⟨gb210, 0, none⟩ = some (.int .i64 0) := (blk_cell BK210.out 0).trans rfl
          have hcz27_1 : w9.cell? ⟨gb210, 1, none⟩ = some (.bool false) := (blk_cell BK210.out 1).trans rfl
          have hcz27_2 : w9.cell? ⟨gb210, 2, none⟩ = some (.int .i64 0) := (blk_cell BK210.out 2).trans rfl
          have hfz27_0 := blk_frozen BK210.out 0
          have hfz27_1 := blk_frozen BK210.out 1
          have hfz27_2 := blk_frozen BK210.out 2
          go_wp2
          go_meet
          case rel => exact ⟨_, (false), (by first | rfl | (simp; done) | (simp [*]; done)), H', ⟨by have := HK1.out; first | omega | exact Nat.le_refl _⟩, ⟨by (with_reducible repeat (first | apply Kd.R_alloc | apply Kd.R_drewN | apply Kd.R_drew)); exact Kd.R_mono (Kd.R_far (p := ⟨gb210, 2, none⟩) (Kd.R_far (p := ⟨gb210, 1, none⟩) (Kd.R_far (p := ⟨gb210, 0, none⟩) (Kd.R_types HO_8.out BK210.out (by decide)) (fun _ hk => hk.2) (.int .i64 ((rd_T57 l2 x12_1).f0))) (fun _ hk => hk.2) (.bool ((rd_T57 l2 x12_1).f1))) (fun _ hk => hk.2) (.int .i64 ((rd_T57 l2 x12_1).f2))) (fun _ hk => trivial)⟩, ⟨by (with_reducible repeat (first | refine blk_drewN ?_ _ | refine blk_drew ?_ | refine blk_alloc ?_ _)); refine blk_put (cs := #[.int .i64 ((rd_T57 l2 x12_1).f0), .bool ((rd_T57 l2 x12_1).f1), .int .i64 0]) ?_ 2 _ rfl; (with_reducible repeat (first | refine blk_drewN ?_ _ | refine blk_drew ?_ | refine blk_alloc ?_ _)); refine blk_put (cs := #[.int .i64 ((rd_T57 l2 x12_1).f0), .bool false, .int .i64 0]) ?_ 1 _ rfl; (with_reducible repeat (first | refine blk_drewN ?_ _ | refine blk_drew ?_ | refine blk_alloc ?_ _)); refine blk_put (cs := #[.int .i64 0, .bool false, .int .i64 0]) ?_ 0 _ rfl; (with_reducible repeat (first | refine blk_drewN ?_ _ | refine blk_drew ?_ | refine blk_alloc ?_ _)); exact BK210.out⟩, ⟨by repeat (first | (with_reducible first | exact HB.out | apply below_alloc | apply pw_below_drewN | apply below_drew1 | refine below_set ?_ GE210.out) | exact HB.out)⟩⟩
     case rest =>
      clear HC8
      try clear c1
      try clear c2
      try clear p2
      try clear q2
      try clear hx2
      try clear c6
      try clear c6b0
      try clear c7
      try clear c7b0
      try clear c11
      try clear c11b0
      try clear c12
      try clear c12b0
      try clear c14
      try clear c14b0
      try clear c16
      try clear c16b0
      try clear c18
      try clear c18b0
      try clear c18b1
      try clear c20
      try clear p20
      try clear q20
      try clear hx20
      try clear c21
      try clear c21b0
      try clear c23
      try clear c23b0
      try clear c25
      try clear c25b0
      try clear c25b1
      try clear hcz10_0
      try clear hcz10_1
      try clear hcz10_2
      try clear hcz13_0
      try clear hcz13_1
      try clear hcz13_2
      try clear hcz15_0
      try clear hcz15_1
      try clear hcz15_2
      try clear hcz17_0
      try clear hcz17_1
      try clear hcz17_2
      try clear hcz19_0
      try clear hcz19_1
      try clear hcz19_2
      try clear hcz20_0
      try clear hcz20_1
      try clear hcz20_2
      try clear hcz22_0
      try clear hcz22_1
      try clear hcz22_2
      try clear hcz24_0
      try clear hcz24_1
      try clear hcz24_2
      try clear hcz26_0
      try clear hcz26_1
      try clear hcz26_2
      try clear hcz27_0
      try clear hcz27_1
      try clear hcz27_2
      try clear hfz10_0
      try clear hfz10_1
      try clear hfz10_2
      try clear hfz13_0
      try clear hfz13_1
      try clear hfz13_2
      try clear hfz15_0
      try clear hfz15_1
      try clear hfz15_2
      try clear hfz17_0
      try clear hfz17_1
      try clear hfz17_2
      try clear hfz19_0
      try clear hfz19_1
      try clear hfz19_2
      try clear hfz20_0
      try clear hfz20_1
      try clear hfz20_2
      try clear hfz22_0
      try clear hfz22_1
      try clear hfz22_2
      try clear hfz24_0
      try clear hfz24_1
      try clear hfz24_2
      try clear hfz26_0
      try clear hfz26_1
      try clear hfz26_2
      try clear hfz27_0
      try clear hfz27_1
      try clear hfz27_2
      try clear hx209_0
      try clear hx209_1
      try clear hx209_2
      try clear p2
      try clear p209
      try clear q209
      obtain ⟨kq, x52_7, rfl, HA, HJ7, HO_8, BK210, HB⟩ := hcut
      cases kq with
      | zero => exact absurd HA.out (by simp [rAl.j1])
      | succ kj7 =>
       have H := HA.out
       clear HA
       simp only [rAl.j1] at H
       by_cases c28 : x52_7 = true
       ·subst c28
        have H1 : (some (0, false)) = some (r1, r2) := by rw [if_pos rfl] at H; exact H
        clear H
        have H := H1
        clear H1
        simp only [Option.some.injEq, Prod.mk.injEq] at H
        obtain ⟨rfl, rfl⟩ := H
        go_wp2
        go_ret2
        exact ⟨by first | rfl | (simp [errW_none, errW_some] <;> rfl) | (simp [*, errW_none, errW_some] <;> rfl), by repeat (first | (with_reducible first | exact HB.out | apply below_alloc | apply pw_below_drewN | apply below_drew1 | refine below_set ?_ GE210.out) | exact HB.out)⟩
       ·replace c28 := Bool.eq_false_iff.mpr c28
        subst c28
        have H1 : (if ((rd_T57 l2 x12_1).f0) ≥ 0 then (if x9_1 ≥ (t206.length : Int) then (rAl.j2 kj7 l1 l2 t206 x9_1 x10_1 x11_1 x12_1 true ((rd_T57 l2 x12_1).f0) ((rd_T57 l2 x12_1).f1) ((rd_T57 l2 x12_1).f2)) else (if 0 ≤ x9_1 then (if x9_1 < (t206.length : Int) then (if ((rd_T57 l2 x12_1).f0) = ((rd_T43 t206 x9_1).f0) then (if (((rd_T57 l2 x12_1).f1) != ((rd_T43 t206 x9_1).f1)) = true then (rAl.j2 kj7 l1 l2 t206 x9_1 x10_1 x11_1 x12_1 true ((rd_T57 l2 x12_1).f0) ((rd_T57 l2 x12_1).f1) ((rd_T57 l2 x12_1).f2)) else (if ((rd_T57 l2 x12_1).f2) ≥ 0 then (rAl.j2 kj7 l1 l2 t206 x9_1 x10_1 x11_1 x12_1 (((rd_T57 l2 x12_1).f2) != x10_1) ((rd_T57 l2 x12_1).f0) ((rd_T57 l2 x12_1).f1) ((rd_T57 l2 x12_1).f2)) else (rAl.j2 kj7 l1 l2 t206 x9_1 x10_1 x11_1 x12_1 false ((rd_T57 l2 x12_1).f0) ((rd_T57 l2 x12_1).f1) ((rd_T57 l2 x12_1).f2)))) else (rAl.j2 kj7 l1 l2 t206 x9_1 x10_1 x11_1 x12_1 true ((rd_T57 l2 x12_1).f0) ((rd_T57 l2 x12_1).f1) ((rd_T57 l2 x12_1).f2))) else (none)) else (none))) else (if ((rd_T57 l2 x12_1).f2) ≥ 0 then (rAl.j2 kj7 l1 l2 t206 x9_1 x10_1 x11_1 x12_1 (((rd_T57 l2 x12_1).f2) != x10_1) ((rd_T57 l2 x12_1).f0) ((rd_T57 l2 x12_1).f1) ((rd_T57 l2 x12_1).f2)) else (rAl.j2 kj7 l1 l2 t206 x9_1 x10_1 x11_1 x12_1 false ((rd_T57 l2 x12_1).f0) ((rd_T57 l2 x12_1).f1) ((rd_T57 l2 x12_1).f2)))) = some (r1, r2) := by rw [if_neg (show ¬ (false = true) by decide)] at H; exact H
        clear H
        have H := H1
        clear H1
        have HC29 := Aside0.mk H
        clear H
        go_upto_region 11 with (fail)
        go_cut [92] (fun v92 wc => ∃ (kq : Nat) (x92_28 : Bool), v92 = .bool x92_28 ∧ Aside0 (rAl.j2 kq l1 l2 t206 x9_1 x10_1 x11_1 x12_1 x92_28 ((rd_T57 l2 x12_1).f0) ((rd_T57 l2 x12_1).f1) ((rd_T57 l2 x12_1).f2) = some (r1, r2)) ∧ Aside0 (kq ≤ kj7) ∧ Aside0 (Kd.R k43 43 wc w.heap.size (fun _ => True) v207 t206) ∧ Aside0 (wc.heap[gb210]? = some (.cells #[.int .i64 ((rd_T57 l2 x12_1).f0), .bool ((rd_T57 l2 x12_1).f1), .int .i64 ((rd_T57 l2 x12_1).f2)] 57 (0, 0))) ∧ Aside0 (Below w.heap.size w wc))
        case first =>
         have H := HC29.out
         clear HC29
         by_cases c30 : ((rd_T57 l2 x12_1).f0) ≥ 0
         ·rw [if_pos c30] at H
          have c30b0 : decide (0 ≤ ((rd_T57 l2 x12_1).f0)) = true := decide_eq_true c30
          clear c30
          (first | rw [c30b0] | (simp only [i64_w, i32_w]; rw [c30b0]) | skip)
          by_cases c31 : x9_1 ≥ (t206.length : Int)
          ·rw [if_pos c31] at H
           have c31b0 : decide ((t206.length : Int) ≤ x9_1) = true := decide_eq_true c31
           clear c31
           have H' := Aside0.mk H
           clear H
           try go_wp2
           have n0_ := Aside0.mk (Kd.R_drew HO_8.out)
           have n1_ := Aside0.mk (blk_drew BK210.out)
           have n2_ := Aside0.mk (below_drew1 HB.out)
           clear HO_8
           clear BK210
           clear HB
           have HO_8 := n0_
           have BK210 := n1_
           have HB := n2_
           clear n0_ n1_ n2_
           obtain ⟨Ao33, co33, eo33⟩ := Kd.R_slice HO_8.out
           (first | subst eo33 | (injection eo33 with f1_ f2_ f3_; have f4_ := f1_.symm; have f5_ := f3_.symm; clear f1_ f2_ f3_; subst f4_; subst f5_))
           refine start_ (n := 40) (S := fun w' => w'.cell? ⟨gb210, 0, none⟩ = some (.int .i64 ((rd_T57 l2 x12_1).f0)) ∧ w'.cell? ⟨gb210, 1, none⟩ = some (.bool ((rd_T57 l2 x12_1).f1)) ∧ w'.cell? ⟨gb210, 2, none⟩ = some (.int .i64 ((rd_T57 l2 x12_1).f2))) (ds := []) (bb 40 0) (by kernel_rfl) rfl rfl ⟨(blk_cell BK210.out 0).trans rfl, (blk_cell BK210.out 1).trans rfl, (blk_cell BK210.out 2).trans rfl⟩ (fun hHeld => ?_); refine with_tabW rAl.tab11 rAl.bits11 (fun HT_ HW_ => ?_)
           generalize wc.drew = w32 at HO_8 BK210 HB hHeld ⊢
           refine pure_ (i := 0) (N := some 53) (v := ?_) (a' := ?_) (bb 40 1) rfl rfl (any_of HT_.out (by kernel_rfl)) (fun _ _ _ h => h) (Or.inl ⟨by rfl, ?_⟩) ?_ ?_
           rotate_left
           ·intro w'
            go_simp
            with_reducible rfl
           rotate_left
           ·simp only [Act.put, sA, sB, sC, i64_w, i32_w]
            rfl
           refine take_ (i := 1) (N := some 54) (v := ?_) (a' := ?_) (bb 40 3) rfl rfl (take_ofW HT_.out HW_.out (by kernel_rfl)) (fun _ _ _ h => h) (Or.inl ⟨by rfl, ?_⟩) hHeld ?_ ?_
           rotate_left
           ·rintro w' ⟨s0, s1, s2⟩
            go_simp
            with_reducible rfl
           rotate_left
           ·simp only [Act.put, sA, sB, sC, i64_w, i32_w]
            rfl
           refine pure_ (i := 2) (N := some 55) (v := ?_) (a' := ?_) (bb 40 7) rfl rfl (any_of HT_.out (by kernel_rfl)) (fun _ _ _ h => h) (Or.inl ⟨by rfl, ?_⟩) ?_ ?_
           rotate_left
           ·intro w'
            go_simp
            with_reducible rfl
           rotate_left
           ·simp only [Act.put, sA, sB, sC, i64_w, i32_w]
            rfl
           refine pure_ (i := 3) (N := some 56) (v := ?_) (a' := ?_) (bb 40 15) rfl rfl (any_of HT_.out (by kernel_rfl)) (fun _ _ _ h => h) (Or.inl ⟨by rfl, ?_⟩) ?_ ?_
           rotate_left
           ·intro w'
            go_simp
            with_reducible rfl
           rotate_left
           ·simp only [Act.put, sA, sB, sC, i64_w, i32_w]
            rfl
           refine pure_ (i := 4) (N := some 57) (v := ?_) (a' := ?_) (bb 40 31) rfl rfl (any_of HT_.out (by kernel_rfl)) (fun _ _ _ h => h) (Or.inl ⟨by rfl, ?_⟩) ?_ ?_
           rotate_left
           ·intro w'
            go_simp
            with_reducible rfl
           rotate_left
           ·simp only [Act.put, sA, sB, sC, i64_w, i32_w]
            rfl
           refine pure_ (i := 5) (N := some 58) (v := ?_) (a' := ?_) (bb 40 63) rfl rfl (any_of HT_.out (by kernel_rfl)) (fun _ _ _ h => h) (Or.inl ⟨by rfl, ?_⟩) ?_ ?_
           rotate_left
           ·intro w'
            go_simp
            with_reducible rfl
           rotate_left
           ·simp only [Act.put, sA, sB, sC, i64_w, i32_w]
            rfl
           refine pure_ (i := 6) (N := some 59) (v := ?_) (a' := ?_) (bb 40 127) rfl rfl (any_of HT_.out (by kernel_rfl)) (fun _ _ _ h => h) (Or.inl ⟨by rfl, ?_⟩) ?_ ?_
           rotate_left
           ·intro w'
            go_simp
            with_reducible rfl
           rotate_left
           ·simp only [Act.put, sA, sB, sC, i64_w, i32_w]
            rfl
           refine pure_ (i := 7) (N := some 60) (v := ?_) (a' := ?_) (bb 40 255) rfl rfl (any_of HT_.out (by kernel_rfl)) (fun _ _ _ h => h) (Or.inl ⟨by rfl, ?_⟩) ?_ ?_
           rotate_left
           ·intro w'
            go_simp
            with_reducible rfl
           rotate_left
           ·simp only [Act.put, sA, sB, sC, i64_w, i32_w]
            rfl
           refine pure_ (i := 8) (N := some 61) (v := ?_) (a' := ?_) (bb 40 511) rfl rfl (any_of HT_.out (by kernel_rfl)) (fun _ _ _ h => h) (Or.inl ⟨by rfl, ?_⟩) ?_ ?_
           rotate_left
           ·intro w'
            go_simp
            with_reducible rfl
           rotate_left
           ·simp only [Act.put, sA, sB, sC, i64_w, i32_w]
            rfl
           refine pure_ (i := 9) (N := some 62) (v := undef) (a' := ?_) (bb 40 1023) rfl rfl (any_of HT_.out (by kernel_rfl)) (fun _ _ _ h => h) (Or.inr ⟨by rfl, rfl⟩) ?_ ?_
           rotate_left
           ·simp only [Act.put, sA, sB, sC, i64_w, i32_w]
            rfl
           refine pure_ (i := 10) (N := some 63) (v := undef) (a' := ?_) (bb 40 2047) rfl rfl (any_of HT_.out (by kernel_rfl)) (fun _ _ _ h => h) (Or.inr ⟨by rfl, rfl⟩) ?_ ?_
           rotate_left
           ·simp only [Act.put, sA, sB, sC, i64_w, i32_w]
            rfl
           refine pure_ (i := 11) (N := some 64) (v := undef) (a' := ?_) (bb 40 4095) rfl rfl (any_of HT_.out (by kernel_rfl)) (fun _ _ _ h => h) (Or.inr ⟨by rfl, rfl⟩) ?_ ?_
           rotate_left
           ·simp only [Act.put, sA, sB, sC, i64_w, i32_w]
            rfl
           refine pure_ (i := 12) (N := some 65) (v := undef) (a' := ?_) (bb 40 8191) rfl rfl (any_of HT_.out (by kernel_rfl)) (fun _ _ _ h => h) (Or.inr ⟨by rfl, rfl⟩) ?_ ?_
           rotate_left
           ·simp only [Act.put, sA, sB, sC, i64_w, i32_w]
            rfl
           refine pure_ (i := 13) (N := some 66) (v := undef) (a' := ?_) (bb 40 16383) rfl rfl (any_of HT_.out (by kernel_rfl)) (fun _ _ _ h => h) (Or.inr ⟨by rfl, rfl⟩) ?_ ?_
           rotate_left
           ·simp only [Act.put, sA, sB, sC, i64_w, i32_w]
            rfl
           refine pure_ (i := 14) (N := some 67) (v := undef) (a' := ?_) (bb 40 32767) rfl rfl (any_of HT_.out (by kernel_rfl)) (fun _ _ _ h => h) (Or.inr ⟨by rfl, rfl⟩) ?_ ?_
           rotate_left
           ·simp only [Act.put, sA, sB, sC, i64_w, i32_w]
            rfl
           refine pure_ (i := 15) (N := some 68) (v := undef) (a' := ?_) (bb 40 65535) rfl rfl (any_of HT_.out (by kernel_rfl)) (fun _ _ _ h => h) (Or.inr ⟨by rfl, rfl⟩) ?_ ?_
           rotate_left
           ·simp only [Act.put, sA, sB, sC, i64_w, i32_w]
            rfl
           refine pure_ (i := 16) (N := some 69) (v := undef) (a' := ?_) (bb 40 131071) rfl rfl (any_of HT_.out (by kernel_rfl)) (fun _ _ _ h => h) (Or.inr ⟨by rfl, rfl⟩) ?_ ?_
           rotate_left
           ·simp only [Act.put, sA, sB, sC, i64_w, i32_w]
            rfl
           refine pure_ (i := 17) (N := some 70) (v := ?_) (a' := ?_) (bb 40 262143) rfl rfl (any_of HT_.out (by kernel_rfl)) (fun _ _ _ h => h) (Or.inl ⟨by rfl, ?_⟩) ?_ ?_
           rotate_left
           ·intro w'
            go_simp
            with_reducible rfl
           rotate_left
           ·simp only [Act.put, sA, sB, sC, i64_w, i32_w]
            rfl
           refine pure_ (i := 18) (N := some 71) (v := ?_) (a' := ?_) (bb 40 524287) rfl rfl (any_of HT_.out (by kernel_rfl)) (fun _ _ _ h => h) (Or.inl ⟨by rfl, ?_⟩) ?_ ?_
           rotate_left
           ·intro w'
            go_simp
            with_reducible rfl
           rotate_left
           ·simp only [Act.put, sA, sB, sC, i64_w, i32_w]
            rfl
           refine pure_ (i := 19) (N := some 72) (v := undef) (a' := ?_) (bb 40 1048575) rfl rfl (any_of HT_.out (by kernel_rfl)) (fun _ _ _ h => h) (Or.inr ⟨by rfl, rfl⟩) ?_ ?_
           rotate_left
           ·simp only [Act.put, sA, sB, sC, i64_w, i32_w]
            rfl
           refine pure_ (i := 20) (N := some 73) (v := undef) (a' := ?_) (bb 40 2097151) rfl rfl (any_of HT_.out (by kernel_rfl)) (fun _ _ _ h => h) (Or.inr ⟨by rfl, rfl⟩) ?_ ?_
           rotate_left
           ·simp only [Act.put, sA, sB, sC, i64_w, i32_w]
            rfl
           refine pure_ (i := 21) (N := some 74) (v := undef) (a' := ?_) (bb 40 4194303) rfl rfl (any_of HT_.out (by kernel_rfl)) (fun _ _ _ h => h) (Or.inr ⟨by rfl, rfl⟩) ?_ ?_
           rotate_left
           ·simp only [Act.put, sA, sB, sC, i64_w, i32_w]
            rfl
           refine pure_ (i := 22) (N := some 75) (v := undef) (a' := ?_) (bb 40 8388607) rfl rfl (any_of HT_.out (by kernel_rfl)) (fun _ _ _ h => h) (Or.inr ⟨by rfl, rfl⟩) ?_ ?_
           rotate_left
           ·simp only [Act.put, sA, sB, sC, i64_w, i32_w]
            rfl
           refine pure_ (i := 23) (N := some 76) (v := undef) (a' := ?_) (bb 40 16777215) rfl rfl (any_of HT_.out (by kernel_rfl)) (fun _ _ _ h => h) (Or.inr ⟨by rfl, rfl⟩) ?_ ?_
           rotate_left
           ·simp only [Act.put, sA, sB, sC, i64_w, i32_w]
            rfl
           refine pure_ (i := 24) (N := some 77) (v := undef) (a' := ?_) (bb 40 33554431) rfl rfl (any_of HT_.out (by kernel_rfl)) (fun _ _ _ h => h) (Or.inr ⟨by rfl, rfl⟩) ?_ ?_
           rotate_left
           ·simp only [Act.put, sA, sB, sC, i64_w, i32_w]
            rfl
           refine pure_ (i := 25) (N := some 78) (v := undef) (a' := ?_) (bb 40 67108863) rfl rfl (any_of HT_.out (by kernel_rfl)) (fun _ _ _ h => h) (Or.inr ⟨by rfl, rfl⟩) ?_ ?_
           rotate_left
           ·simp only [Act.put, sA, sB, sC, i64_w, i32_w]
            rfl
           refine pure_ (i := 26) (N := some 79) (v := undef) (a' := ?_) (bb 40 134217727) rfl rfl (any_of HT_.out (by kernel_rfl)) (fun _ _ _ h => h) (Or.inr ⟨by rfl, rfl⟩) ?_ ?_
           rotate_left
           ·simp only [Act.put, sA, sB, sC, i64_w, i32_w]
            rfl
           refine pure_ (i := 27) (N := some 80) (v := ?_) (a' := ?_) (bb 40 268435455) rfl rfl (any_of HT_.out (by kernel_rfl)) (fun _ _ _ h => h) (Or.inl ⟨by rfl, ?_⟩) ?_ ?_
           rotate_left
           ·intro w'
            go_simp
            with_reducible rfl
           rotate_left
           ·simp only [Act.put, sA, sB, sC, i64_w, i32_w]
            rfl
           refine pure_ (i := 28) (N := some 81) (v := ?_) (a' := ?_) (bb 40 536870911) rfl rfl (any_of HT_.out (by kernel_rfl)) (fun _ _ _ h => h) (Or.inl ⟨by rfl, ?_⟩) ?_ ?_
           rotate_left
           ·intro w'
            go_simp
            with_reducible rfl
           rotate_left
           ·simp only [Act.put, sA, sB, sC, i64_w, i32_w]
            rfl
           refine pure_ (i := 29) (N := some 82) (v := ?_) (a' := ?_) (bb 40 1073741823) rfl rfl (any_of HT_.out (by kernel_rfl)) (fun _ _ _ h => h) (Or.inl ⟨by rfl, ?_⟩) ?_ ?_
           rotate_left
           ·intro w'
            go_simp
            with_reducible rfl
           rotate_left
           ·simp only [Act.put, sA, sB, sC, i64_w, i32_w]
            rfl
           refine pure_ (i := 30) (N := some 83) (v := undef) (a' := ?_) (bb 40 2147483647) rfl rfl (any_of HT_.out (by kernel_rfl)) (fun _ _ _ h => h) (Or.inr ⟨by rfl, rfl⟩) ?_ ?_
           rotate_left
           ·simp only [Act.put, sA, sB, sC, i64_w, i32_w]
            rfl
           refine pure_ (i := 31) (N := some 84) (v := undef) (a' := ?_) (bb 40 4294967295) rfl rfl (any_of HT_.out (by kernel_rfl)) (fun _ _ _ h => h) (Or.inr ⟨by rfl, rfl⟩) ?_ ?_
           rotate_left
           ·simp only [Act.put, sA, sB, sC, i64_w, i32_w]
            rfl
           refine pure_ (i := 32) (N := some 85) (v := undef) (a' := ?_) (bb 40 8589934591) rfl rfl (any_of HT_.out (by kernel_rfl)) (fun _ _ _ h => h) (Or.inr ⟨by rfl, rfl⟩) ?_ ?_
           rotate_left
           ·simp only [Act.put, sA, sB, sC, i64_w, i32_w]
            rfl
           refine pure_ (i := 33) (N := some 86) (v := undef) (a' := ?_) (bb 40 17179869183) rfl rfl (any_of HT_.out (by kernel_rfl)) (fun _ _ _ h => h) (Or.inr ⟨by rfl, rfl⟩) ?_ ?_
           rotate_left
           ·simp only [Act.put, sA, sB, sC, i64_w, i32_w]
            rfl
           refine pure_ (i := 34) (N := some 87) (v := undef) (a' := ?_) (bb 40 34359738367) rfl rfl (any_of HT_.out (by kernel_rfl)) (fun _ _ _ h => h) (Or.inr ⟨by rfl, rfl⟩) ?_ ?_
           rotate_left
           ·simp only [Act.put, sA, sB, sC, i64_w, i32_w]
            rfl
           refine pure_ (i := 35) (N := some 88) (v := undef) (a' := ?_) (bb 40 68719476735) rfl rfl (any_of HT_.out (by kernel_rfl)) (fun _ _ _ h => h) (Or.inr ⟨by rfl, rfl⟩) ?_ ?_
           rotate_left
           ·simp only [Act.put, sA, sB, sC, i64_w, i32_w]
            rfl
           refine pure_ (i := 36) (N := some 89) (v := undef) (a' := ?_) (bb 40 137438953471) rfl rfl (any_of HT_.out (by kernel_rfl)) (fun _ _ _ h => h) (Or.inr ⟨by rfl, rfl⟩) ?_ ?_
           rotate_left
           ·simp only [Act.put, sA, sB, sC, i64_w, i32_w]
            rfl
           refine pure_ (i := 37) (N := some 90) (v := undef) (a' := ?_) (bb 40 274877906943) rfl rfl (any_of HT_.out (by kernel_rfl)) (fun _ _ _ h => h) (Or.inr ⟨by rfl, rfl⟩) ?_ ?_
           rotate_left
           ·simp only [Act.put, sA, sB, sC, i64_w, i32_w]
            rfl
           refine pure_ (i := 38) (N := some 91) (v := undef) (a' := ?_) (bb 40 549755813887) rfl rfl (any_of HT_.out (by kernel_rfl)) (fun _ _ _ h => h) (Or.inr ⟨by rfl, rfl⟩) ?_ ?_
           rotate_left
           ·simp only [Act.put, sA, sB, sC, i64_w, i32_w]
            rfl
           refine pure_ (i := 39) (N := some 92) (v := ?_) (a' := ?_) (bb 40 1099511627775) rfl rfl (any_of HT_.out (by kernel_rfl)) (fun _ _ _ h => h) (Or.inl ⟨by rfl, ?_⟩) ?_ ?_
           rotate_left
           ·intro w'
            go_simp
            with_reducible rfl
           rotate_left
           ·simp only [Act.put, sA, sB, sC, i64_w, i32_w]
            rfl
           refine done_ (done_of HT_.out (by kernel_rfl)) ?_
           try go_wp2
           go_meet
           case rel => exact ⟨_, (true), (by first | rfl | (simp; done) | (simp [*]; done)), H', ⟨by have := HK1.out; have := HJ7.out; first | omega | exact Nat.le_refl _⟩, ⟨by (with_reducible repeat (first | apply Kd.R_alloc | apply Kd.R_drewN | apply Kd.R_drew)); exact HO_8.out⟩, ⟨by (with_reducible repeat (first | refine blk_drewN ?_ _ | refine blk_drew ?_ | refine blk_alloc ?_ _)); exact BK210.out⟩, ⟨by repeat (first | (with_reducible first | exact HB.out | apply below_alloc | apply pw_below_drewN | apply below_drew1 | refine below_set ?_ GE210.out) | exact HB.out)⟩⟩
          ·rw [if_neg c31] at H
           have c31b0 : decide ((t206.length : Int) ≤ x9_1) = false := decide_eq_false c31
           clear c31
           by_cases c34 : 0 ≤ x9_1
           ·rw [if_pos c34] at H
            have c34b0 : decide (0 ≤ x9_1) = true := decide_eq_true c34
            clear c34
            by_cases c35 : x9_1 < (t206.length : Int)
            ·rw [if_pos c35] at H
             have c35b0 : decide (x9_1 < (t206.length : Int)) = true := decide_eq_true c35
             clear c35
             by_cases c36 : ((rd_T57 l2 x12_1).f0) = ((rd_T43 t206 x9_1).f0)
             ·rw [if_pos c36] at H
              have c36b0 : (((rd_T57 l2 x12_1).f0) == ((rd_T43 t206 x9_1).f0)) = true := beq_iff_eq.mpr c36
              have c36b1 : (((rd_T57 l2 x12_1).f0) != ((rd_T43 t206 x9_1).f0)) = false := bne_eq_false_iff_eq.mpr c36
              clear c36
              by_cases c37 : (((rd_T57 l2 x12_1).f1) != ((rd_T43 t206 x9_1).f1)) = true
              ·rw [if_pos c37] at H
               have c37b0 : (((rd_T57 l2 x12_1).f1) != ((rd_T43 t206 x9_1).f1)) = true := c37
               (try (have c37b1 : decide (((rd_T57 l2 x12_1).f1) = ((rd_T43 t206 x9_1).f1)) = false := by simpa using c37))
               (try (have c37b2 : (((rd_T57 l2 x12_1).f1) == ((rd_T43 t206 x9_1).f1)) = false := by simpa using c37))
               (try (have c37b3 : ¬ (((rd_T57 l2 x12_1).f1) = ((rd_T43 t206 x9_1).f1)) := by simpa using c37))
               clear c37
               have H' := Aside0.mk H
               clear H
               try go_wp2
               have n0_ := Aside0.mk (Kd.R_drew HO_8.out)
               have n1_ := Aside0.mk (blk_drew BK210.out)
               have n2_ := Aside0.mk (below_drew1 HB.out)
               clear HO_8
               clear BK210
               clear HB
               have HO_8 := n0_
               have BK210 := n1_
               have HB := n2_
               clear n0_ n1_ n2_
               obtain ⟨Ao39, co39, eo39⟩ := Kd.R_slice HO_8.out
               (first | subst eo39 | (injection eo39 with f1_ f2_ f3_; have f4_ := f1_.symm; have f5_ := f3_.symm; clear f1_ f2_ f3_; subst f4_; subst f5_))
               have p211 : 0 ≤ (x9_1 : Int) := of_decide_eq_true (by first | (with_reducible assumption) | assumption)
               have q211 : x9_1 < (t206.length : Int) := of_decide_eq_true (by first | (with_reducible assumption) | assumption)
               obtain ⟨ad211, e211, hx211_0, hx211_1, hx211_2⟩ := at_T43 (Kd.R_reads' HO_8.out).2.2 x9_1 p211 q211
               cases e211
               replace p211 := eq_true p211
               replace q211 := eq_true q211
               have p212 : 0 ≤ (x9_1 : Int) := of_decide_eq_true (by first | (with_reducible assumption) | assumption)
               have q212 : x9_1 < (t206.length : Int) := of_decide_eq_true (by first | (with_reducible assumption) | assumption)
               obtain ⟨ad212, e212, hx212_0, hx212_1, hx212_2⟩ := at_T43 (Kd.R_reads' HO_8.out).2.2 x9_1 p212 q212
               obtain rfl : ad211 = ad212 := (by injection e212)
               replace p212 := eq_true p212
               replace q212 := eq_true q212
               refine start_ (n := 40) (S := fun w' => w'.cell? ⟨gb210, 0, none⟩ = some (.int .i64 ((rd_T57 l2 x12_1).f0)) ∧ w'.cell? ⟨gb210, 1, none⟩ = some (.bool ((rd_T57 l2 x12_1).f1)) ∧ w'.cell? ⟨gb210, 2, none⟩ = some (.int .i64 ((rd_T57 l2 x12_1).f2)) ∧ w'.cell? (ad211.add ((x9_1).toNat * 3)) = some (.int .i64 ((rd_T43 t206 x9_1).f0)) ∧ w'.cell? ⟨(ad211.add ((x9_1).toNat * 3)).block, (ad211.add ((x9_1).toNat * 3)).off + 1, none⟩ = some (.bool ((rd_T43 t206 x9_1).f1)) ∧ w'.cell? ⟨(ad211.add ((x9_1).toNat * 3)).block, (ad211.add ((x9_1).toNat * 3)).off + 2, none⟩ = some (.int .i64 ((rd_T43 t206 x9_1).f2)) ∧ w'.cell? (ad211.add ((x9_1).toNat * 3)) = some (.int .i64 ((rd_T43 t206 x9_1).f0)) ∧ w'.cell? ⟨(ad211.add ((x9_1).toNat * 3)).block, (ad211.add ((x9_1).toNat * 3)).off + 1, none⟩ = some (.bool ((rd_T43 t206 x9_1).f1)) ∧ w'.cell? ⟨(ad211.add ((x9_1).toNat * 3)).block, (ad211.add ((x9_1).toNat * 3)).off + 2, none⟩ = some (.int .i64 ((rd_T43 t206 x9_1).f2))) (ds := []) (bb 40 0) (by kernel_rfl) rfl rfl ⟨(blk_cell BK210.out 0).trans rfl, (blk_cell BK210.out 1).trans rfl, (blk_cell BK210.out 2).trans rfl, hx211_0, hx211_1, hx211_2, hx212_0, hx212_1, hx212_2⟩ (fun hHeld => ?_); refine with_tabW rAl.tab11 rAl.bits11 (fun HT_ HW_ => ?_)
               generalize wc.drew = w38 at HO_8 BK210 HB hx211_0 hx211_1 hx211_2 hx212_0 hx212_1 hx212_2 hHeld ⊢
               refine pure_ (i := 0) (N := some 53) (v := ?_) (a' := ?_) (bb 40 1) rfl rfl (any_of HT_.out (by kernel_rfl)) (fun _ _ _ h => h) (Or.inl ⟨by rfl, ?_⟩) ?_ ?_
               rotate_left
               ·intro w'
                go_simp
                with_reducible rfl
               rotate_left
               ·simp only [Act.put, sA, sB, sC, i64_w, i32_w]
                rfl
               refine take_ (i := 1) (N := some 54) (v := ?_) (a' := ?_) (bb 40 3) rfl rfl (take_ofW HT_.out HW_.out (by kernel_rfl)) (fun _ _ _ h => h) (Or.inl ⟨by rfl, ?_⟩) hHeld ?_ ?_
               rotate_left
               ·rintro w' ⟨s0, s1, s2, s3, s4, s5, s6, s7, s8⟩
                go_simp
                with_reducible rfl
               rotate_left
               ·simp only [Act.put, sA, sB, sC, i64_w, i32_w]
                rfl
               refine pure_ (i := 2) (N := some 55) (v := ?_) (a' := ?_) (bb 40 7) rfl rfl (any_of HT_.out (by kernel_rfl)) (fun _ _ _ h => h) (Or.inl ⟨by rfl, ?_⟩) ?_ ?_
               rotate_left
               ·intro w'
                go_simp
                with_reducible rfl
               rotate_left
               ·simp only [Act.put, sA, sB, sC, i64_w, i32_w]
                rfl
               refine pure_ (i := 3) (N := some 56) (v := ?_) (a' := ?_) (bb 40 15) rfl rfl (any_of HT_.out (by kernel_rfl)) (fun _ _ _ h => h) (Or.inl ⟨by rfl, ?_⟩) ?_ ?_
               rotate_left
               ·intro w'
                go_simp
                with_reducible rfl
               rotate_left
               ·simp only [Act.put, sA, sB, sC, i64_w, i32_w]
                rfl
               refine pure_ (i := 4) (N := some 57) (v := ?_) (a' := ?_) (bb 40 31) rfl rfl (any_of HT_.out (by kernel_rfl)) (fun _ _ _ h => h) (Or.inl ⟨by rfl, ?_⟩) ?_ ?_
               rotate_left
               ·intro w'
                go_simp
                with_reducible rfl
               rotate_left
               ·simp only [Act.put, sA, sB, sC, i64_w, i32_w]
                rfl
               refine pure_ (i := 5) (N := some 58) (v := ?_) (a' := ?_) (bb 40 63) rfl rfl (any_of HT_.out (by kernel_rfl)) (fun _ _ _ h => h) (Or.inl ⟨by rfl, ?_⟩) ?_ ?_
               rotate_left
               ·intro w'
                go_simp
                with_reducible rfl
               rotate_left
               ·simp only [Act.put, sA, sB, sC, i64_w, i32_w]
                rfl
               refine pure_ (i := 6) (N := some 59) (v := ?_) (a' := ?_) (bb 40 127) rfl rfl (any_of HT_.out (by kernel_rfl)) (fun _ _ _ h => h) (Or.inl ⟨by rfl, ?_⟩) ?_ ?_
               rotate_left
               ·intro w'
                go_simp
                with_reducible rfl
               rotate_left
               ·simp only [Act.put, sA, sB, sC, i64_w, i32_w]
                rfl
               refine pure_ (i := 7) (N := some 60) (v := ?_) (a' := ?_) (bb 40 255) rfl rfl (any_of HT_.out (by kernel_rfl)) (fun _ _ _ h => h) (Or.inl ⟨by rfl, ?_⟩) ?_ ?_
               rotate_left
               ·intro w'
                go_simp
                with_reducible rfl
               rotate_left
               ·simp only [Act.put, sA, sB, sC, i64_w, i32_w]
                rfl
               refine pure_ (i := 8) (N := some 61) (v := ?_) (a' := ?_) (bb 40 511) rfl rfl (any_of HT_.out (by kernel_rfl)) (fun _ _ _ h => h) (Or.inl ⟨by rfl, ?_⟩) ?_ ?_
               rotate_left
               ·intro w'
                go_simp
                with_reducible rfl
               rotate_left
               ·simp only [Act.put, sA, sB, sC, i64_w, i32_w]
                rfl
               refine pure_ (i := 9) (N := some 62) (v := ?_) (a' := ?_) (bb 40 1023) rfl rfl (any_of HT_.out (by kernel_rfl)) (fun _ _ _ h => h) (Or.inl ⟨by rfl, ?_⟩) ?_ ?_
               rotate_left
               ·intro w'
                go_simp
                with_reducible rfl
               rotate_left
               ·simp only [Act.put, sA, sB, sC, i64_w, i32_w]
                rfl
               refine pure_ (i := 11) (N := some 64) (v := ?_) (a' := ?_) (bb 40 3071) rfl rfl (any_of HT_.out (by kernel_rfl)) (fun _ _ _ h => h) (Or.inl ⟨by rfl, ?_⟩) ?_ ?_
               rotate_left
               ·intro w'
                go_simp
                with_reducible rfl
               rotate_left
               ·simp only [Act.put, sA, sB, sC, i64_w, i32_w]
                rfl
               refine pure_ (i := 12) (N := some 65) (v := ?_) (a' := ?_) (bb 40 7167) rfl rfl (any_of HT_.out (by kernel_rfl)) (fun _ _ _ h => h) (Or.inl ⟨by rfl, ?_⟩) ?_ ?_
               rotate_left
               ·intro w'
                go_simp
                with_reducible rfl
               rotate_left
               ·simp only [Act.put, sA, sB, sC, i64_w, i32_w]
                rfl
               refine pure_ (i := 13) (N := some 66) (v := ?_) (a' := ?_) (bb 40 15359) rfl rfl (any_of HT_.out (by kernel_rfl)) (fun _ _ _ h => h) (Or.inl ⟨by rfl, ?_⟩) ?_ ?_
               rotate_left
               ·intro w'
                go_simp
                with_reducible rfl
               rotate_left
               ·simp only [Act.put, sA, sB, sC, i64_w, i32_w]
                rfl
               refine pure_ (i := 14) (N := some 67) (v := ?_) (a' := ?_) (bb 40 31743) rfl rfl (any_of HT_.out (by kernel_rfl)) (fun _ _ _ h => h) (Or.inl ⟨by rfl, ?_⟩) ?_ ?_
               rotate_left
               ·intro w'
                go_simp
                with_reducible rfl
               rotate_left
               ·simp only [Act.put, sA, sB, sC, i64_w, i32_w]
                rfl
               refine take_ (i := 10) (N := some 63) (v := ?_) (a' := ?_) (bb 40 32767) rfl rfl (take_ofW HT_.out HW_.out (by kernel_rfl)) (fun _ _ _ h => h) (Or.inl ⟨by rfl, ?_⟩) hHeld ?_ ?_
               rotate_left
               ·rintro w' ⟨s0, s1, s2, s3, s4, s5, s6, s7, s8⟩
                go_simp
                with_reducible rfl
               rotate_left
               ·simp only [Act.put, sA, sB, sC, i64_w, i32_w]
                rfl
               refine take_ (i := 15) (N := some 68) (v := ?_) (a' := ?_) (bb 40 65535) rfl rfl (take_ofW HT_.out HW_.out (by kernel_rfl)) (fun _ _ _ h => h) (Or.inl ⟨by rfl, ?_⟩) hHeld ?_ ?_
               rotate_left
               ·rintro w' ⟨s0, s1, s2, s3, s4, s5, s6, s7, s8⟩
                go_simp
                with_reducible rfl
               rotate_left
               ·simp only [Act.put, sA, sB, sC, i64_w, i32_w]
                rfl
               refine pure_ (i := 16) (N := some 69) (v := ?_) (a' := ?_) (bb 40 131071) rfl rfl (any_of HT_.out (by kernel_rfl)) (fun _ _ _ h => h) (Or.inl ⟨by rfl, ?_⟩) ?_ ?_
               rotate_left
               ·intro w'
                go_simp
                with_reducible rfl
               rotate_left
               ·simp only [Act.put, sA, sB, sC, i64_w, i32_w]
                rfl
               refine pure_ (i := 17) (N := some 70) (v := ?_) (a' := ?_) (bb 40 262143) rfl rfl (any_of HT_.out (by kernel_rfl)) (fun _ _ _ h => h) (Or.inl ⟨by rfl, ?_⟩) ?_ ?_
               rotate_left
               ·intro w'
                go_simp
                with_reducible rfl
               rotate_left
               ·simp only [Act.put, sA, sB, sC, i64_w, i32_w]
                rfl
               refine pure_ (i := 18) (N := some 71) (v := ?_) (a' := ?_) (bb 40 524287) rfl rfl (any_of HT_.out (by kernel_rfl)) (fun _ _ _ h => h) (Or.inl ⟨by rfl, ?_⟩) ?_ ?_
               rotate_left
               ·intro w'
                go_simp
                with_reducible rfl
               rotate_left
               ·simp only [Act.put, sA, sB, sC, i64_w, i32_w]
                rfl
               refine pure_ (i := 19) (N := some 72) (v := ?_) (a' := ?_) (bb 40 1048575) rfl rfl (any_of HT_.out (by kernel_rfl)) (fun _ _ _ h => h) (Or.inl ⟨by rfl, ?_⟩) ?_ ?_
               rotate_left
               ·intro w'
                go_simp
                with_reducible rfl
               rotate_left
               ·simp only [Act.put, sA, sB, sC, i64_w, i32_w]
                rfl
               refine pure_ (i := 21) (N := some 74) (v := ?_) (a' := ?_) (bb 40 3145727) rfl rfl (any_of HT_.out (by kernel_rfl)) (fun _ _ _ h => h) (Or.inl ⟨by rfl, ?_⟩) ?_ ?_
               rotate_left
               ·intro w'
                go_simp
                with_reducible rfl
               rotate_left
               ·simp only [Act.put, sA, sB, sC, i64_w, i32_w]
                rfl
               refine pure_ (i := 22) (N := some 75) (v := ?_) (a' := ?_) (bb 40 7340031) rfl rfl (any_of HT_.out (by kernel_rfl)) (fun _ _ _ h => h) (Or.inl ⟨by rfl, ?_⟩) ?_ ?_
               rotate_left
               ·intro w'
                go_simp
                with_reducible rfl
               rotate_left
               ·simp only [Act.put, sA, sB, sC, i64_w, i32_w]
                rfl
               refine pure_ (i := 23) (N := some 76) (v := ?_) (a' := ?_) (bb 40 15728639) rfl rfl (any_of HT_.out (by kernel_rfl)) (fun _ _ _ h => h) (Or.inl ⟨by rfl, ?_⟩) ?_ ?_
               rotate_left
               ·intro w'
                go_simp
                with_reducible rfl
               rotate_left
               ·simp only [Act.put, sA, sB, sC, i64_w, i32_w]
                rfl
               refine pure_ (i := 24) (N := some 77) (v := ?_) (a' := ?_) (bb 40 32505855) rfl rfl (any_of HT_.out (by kernel_rfl)) (fun _ _ _ h => h) (Or.inl ⟨by rfl, ?_⟩) ?_ ?_
               rotate_left
               ·intro w'
                go_simp
                with_reducible rfl
               rotate_left
               ·simp only [Act.put, sA, sB, sC, i64_w, i32_w]
                rfl
               refine take_ (i := 20) (N := some 73) (v := ?_) (a' := ?_) (bb 40 33554431) rfl rfl (take_ofW HT_.out HW_.out (by kernel_rfl)) (fun _ _ _ h => h) (Or.inl ⟨by rfl, ?_⟩) hHeld ?_ ?_
               rotate_left
               ·rintro w' ⟨s0, s1, s2, s3, s4, s5, s6, s7, s8⟩
                go_simp
                with_reducible rfl
               rotate_left
               ·simp only [Act.put, sA, sB, sC, i64_w, i32_w]
                rfl
               refine take_ (i := 25) (N := some 78) (v := ?_) (a' := ?_) (bb 40 67108863) rfl rfl (take_ofW HT_.out HW_.out (by kernel_rfl)) (fun _ _ _ h => h) (Or.inl ⟨by rfl, ?_⟩) hHeld ?_ ?_
               rotate_left
               ·rintro w' ⟨s0, s1, s2, s3, s4, s5, s6, s7, s8⟩
                go_simp
                with_reducible rfl
               rotate_left
               ·simp only [Act.put, sA, sB, sC, i64_w, i32_w]
                rfl
               refine pure_ (i := 26) (N := some 79) (v := ?_) (a' := ?_) (bb 40 134217727) rfl rfl (any_of HT_.out (by kernel_rfl)) (fun _ _ _ h => h) (Or.inl ⟨by rfl, ?_⟩) ?_ ?_
               rotate_left
               ·intro w'
                go_simp
                with_reducible rfl
               rotate_left
               ·simp only [Act.put, sA, sB, sC, i64_w, i32_w]
                rfl
               refine pure_ (i := 27) (N := some 80) (v := ?_) (a' := ?_) (bb 40 268435455) rfl rfl (any_of HT_.out (by kernel_rfl)) (fun _ _ _ h => h) (Or.inl ⟨by rfl, ?_⟩) ?_ ?_
               rotate_left
               ·intro w'
                go_simp
                with_reducible rfl
               rotate_left
               ·simp only [Act.put, sA, sB, sC, i64_w, i32_w]
                rfl
               refine pure_ (i := 28) (N := some 81) (v := ?_) (a' := ?_) (bb 40 536870911) rfl rfl (any_of HT_.out (by kernel_rfl)) (fun _ _ _ h => h) (Or.inl ⟨by rfl, ?_⟩) ?_ ?_
               rotate_left
               ·intro w'
                go_simp
                with_reducible rfl
               rotate_left
               ·simp only [Act.put, sA, sB, sC, i64_w, i32_w]
                rfl
               refine pure_ (i := 29) (N := some 82) (v := ?_) (a' := ?_) (bb 40 1073741823) rfl rfl (any_of HT_.out (by kernel_rfl)) (fun _ _ _ h => h) (Or.inl ⟨by rfl, ?_⟩) ?_ ?_
               rotate_left
               ·intro w'
                go_simp
                with_reducible rfl
               rotate_left
               ·simp only [Act.put, sA, sB, sC, i64_w, i32_w]
                rfl
               refine pure_ (i := 30) (N := some 83) (v := undef) (a' := ?_) (bb 40 2147483647) rfl rfl (any_of HT_.out (by kernel_rfl)) (fun _ _ _ h => h) (Or.inr ⟨by rfl, rfl⟩) ?_ ?_
               rotate_left
               ·simp only [Act.put, sA, sB, sC, i64_w, i32_w]
                rfl
               refine pure_ (i := 31) (N := some 84) (v := undef) (a' := ?_) (bb 40 4294967295) rfl rfl (any_of HT_.out (by kernel_rfl)) (fun _ _ _ h => h) (Or.inr ⟨by rfl, rfl⟩) ?_ ?_
               rotate_left
               ·simp only [Act.put, sA, sB, sC, i64_w, i32_w]
                rfl
               refine pure_ (i := 32) (N := some 85) (v := undef) (a' := ?_) (bb 40 8589934591) rfl rfl (any_of HT_.out (by kernel_rfl)) (fun _ _ _ h => h) (Or.inr ⟨by rfl, rfl⟩) ?_ ?_
               rotate_left
               ·simp only [Act.put, sA, sB, sC, i64_w, i32_w]
                rfl
               refine pure_ (i := 33) (N := some 86) (v := undef) (a' := ?_) (bb 40 17179869183) rfl rfl (any_of HT_.out (by kernel_rfl)) (fun _ _ _ h => h) (Or.inr ⟨by rfl, rfl⟩) ?_ ?_
               rotate_left
               ·simp only [Act.put, sA, sB, sC, i64_w, i32_w]
                rfl
               refine pure_ (i := 34) (N := some 87) (v := undef) (a' := ?_) (bb 40 34359738367) rfl rfl (any_of HT_.out (by kernel_rfl)) (fun _ _ _ h => h) (Or.inr ⟨by rfl, rfl⟩) ?_ ?_
               rotate_left
               ·simp only [Act.put, sA, sB, sC, i64_w, i32_w]
                rfl
               refine pure_ (i := 35) (N := some 88) (v := undef) (a' := ?_) (bb 40 68719476735) rfl rfl (any_of HT_.out (by kernel_rfl)) (fun _ _ _ h => h) (Or.inr ⟨by rfl, rfl⟩) ?_ ?_
               rotate_left
               ·simp only [Act.put, sA, sB, sC, i64_w, i32_w]
                rfl
               refine pure_ (i := 36) (N := some 89) (v := undef) (a' := ?_) (bb 40 137438953471) rfl rfl (any_of HT_.out (by kernel_rfl)) (fun _ _ _ h => h) (Or.inr ⟨by rfl, rfl⟩) ?_ ?_
               rotate_left
               ·simp only [Act.put, sA, sB, sC, i64_w, i32_w]
                rfl
               refine pure_ (i := 37) (N := some 90) (v := undef) (a' := ?_) (bb 40 274877906943) rfl rfl (any_of HT_.out (by kernel_rfl)) (fun _ _ _ h => h) (Or.inr ⟨by rfl, rfl⟩) ?_ ?_
               rotate_left
               ·simp only [Act.put, sA, sB, sC, i64_w, i32_w]
                rfl
               refine pure_ (i := 38) (N := some 91) (v := undef) (a' := ?_) (bb 40 549755813887) rfl rfl (any_of HT_.out (by kernel_rfl)) (fun _ _ _ h => h) (Or.inr ⟨by rfl, rfl⟩) ?_ ?_
               rotate_left
               ·simp only [Act.put, sA, sB, sC, i64_w, i32_w]
                rfl
               refine pure_ (i := 39) (N := some 92) (v := ?_) (a' := ?_) (bb 40 1099511627775) rfl rfl (any_of HT_.out (by kernel_rfl)) (fun _ _ _ h => h) (Or.inl ⟨by rfl, ?_⟩) ?_ ?_
               rotate_left
               ·intro w'
                go_simp
                with_reducible rfl
               rotate_left
               ·simp only [Act.put, sA, sB, sC, i64_w, i32_w]
                rfl
               refine done_ (done_of HT_.out (by kernel_rfl)) ?_
               try go_wp2
               go_meet
               case rel => exact ⟨_, (true), (by first | rfl | (simp; done) | (simp [*]; done)), H', ⟨by have := HK1.out; have := HJ7.out; first | omega | exact Nat.le_refl _⟩, ⟨by (with_reducible repeat (first | apply Kd.R_alloc | apply Kd.R_drewN | apply Kd.R_drew)); exact HO_8.out⟩, ⟨by (with_reducible repeat (first | refine blk_drewN ?_ _ | refine blk_drew ?_ | refine blk_alloc ?_ _)); exact BK210.out⟩, ⟨by repeat (first | (with_reducible first | exact HB.out | apply below_alloc | apply pw_below_drewN | apply below_drew1 | refine below_set ?_ GE210.out) | exact HB.out)⟩⟩
              ·rw [if_neg c37] at H
               have c37b0 : (((rd_T57 l2 x12_1).f1) != ((rd_T43 t206 x9_1).f1)) = false := by simpa using c37
               (try (have c37b1 : decide (((rd_T57 l2 x12_1).f1) = ((rd_T43 t206 x9_1).f1)) = true := by simpa using c37))
               (try (have c37b2 : (((rd_T57 l2 x12_1).f1) == ((rd_T43 t206 x9_1).f1)) = true := by simpa using c37))
               clear c37
               by_cases c40 : ((rd_T57 l2 x12_1).f2) ≥ 0
               ·rw [if_pos c40] at H
                have c40b0 : decide (0 ≤ ((rd_T57 l2 x12_1).f2)) = true := decide_eq_true c40
                clear c40
                have H' := Aside0.mk H
                clear H
                try go_wp2
                have n0_ := Aside0.mk (Kd.R_drew HO_8.out)
                have n1_ := Aside0.mk (blk_drew BK210.out)
                have n2_ := Aside0.mk (below_drew1 HB.out)
                clear HO_8
                clear BK210
                clear HB
                have HO_8 := n0_
                have BK210 := n1_
                have HB := n2_
                clear n0_ n1_ n2_
                obtain ⟨Ao42, co42, eo42⟩ := Kd.R_slice HO_8.out
                (first | subst eo42 | (injection eo42 with f1_ f2_ f3_; have f4_ := f1_.symm; have f5_ := f3_.symm; clear f1_ f2_ f3_; subst f4_; subst f5_))
                have p211 : 0 ≤ (x9_1 : Int) := of_decide_eq_true (by first | (with_reducible assumption) | assumption)
                have q211 : x9_1 < (t206.length : Int) := of_decide_eq_true (by first | (with_reducible assumption) | assumption)
                obtain ⟨ad211, e211, hx211_0, hx211_1, hx211_2⟩ := at_T43 (Kd.R_reads' HO_8.out).2.2 x9_1 p211 q211
                cases e211
                replace p211 := eq_true p211
                replace q211 := eq_true q211
                have p212 : 0 ≤ (x9_1 : Int) := of_decide_eq_true (by first | (with_reducible assumption) | assumption)
                have q212 : x9_1 < (t206.length : Int) := of_decide_eq_true (by first | (with_reducible assumption) | assumption)
                obtain ⟨ad212, e212, hx212_0, hx212_1, hx212_2⟩ := at_T43 (Kd.R_reads' HO_8.out).2.2 x9_1 p212 q212
                obtain rfl : ad211 = ad212 := (by injection e212)
                replace p212 := eq_true p212
                replace q212 := eq_true q212
                refine start_ (n := 40) (S := fun w' => w'.cell? ⟨gb210, 0, none⟩ = some (.int .i64 ((rd_T57 l2 x12_1).f0)) ∧ w'.cell? ⟨gb210, 1, none⟩ = some (.bool ((rd_T57 l2 x12_1).f1)) ∧ w'.cell? ⟨gb210, 2, none⟩ = some (.int .i64 ((rd_T57 l2 x12_1).f2)) ∧ w'.cell? (ad211.add ((x9_1).toNat * 3)) = some (.int .i64 ((rd_T43 t206 x9_1).f0)) ∧ w'.cell? ⟨(ad211.add ((x9_1).toNat * 3)).block, (ad211.add ((x9_1).toNat * 3)).off + 1, none⟩ = some (.bool ((rd_T43 t206 x9_1).f1)) ∧ w'.cell? ⟨(ad211.add ((x9_1).toNat * 3)).block, (ad211.add ((x9_1).toNat * 3)).off + 2, none⟩ = some (.int .i64 ((rd_T43 t206 x9_1).f2)) ∧ w'.cell? (ad211.add ((x9_1).toNat * 3)) = some (.int .i64 ((rd_T43 t206 x9_1).f0)) ∧ w'.cell? ⟨(ad211.add ((x9_1).toNat * 3)).block, (ad211.add ((x9_1).toNat * 3)).off + 1, none⟩ = some (.bool ((rd_T43 t206 x9_1).f1)) ∧ w'.cell? ⟨(ad211.add ((x9_1).toNat * 3)).block, (ad211.add ((x9_1).toNat * 3)).off + 2, none⟩ = some (.int .i64 ((rd_T43 t206 x9_1).f2))) (ds := []) (bb 40 0) (by kernel_rfl) rfl rfl ⟨(blk_cell BK210.out 0).trans rfl, (blk_cell BK210.out 1).trans rfl, (blk_cell BK210.out 2).trans rfl, hx211_0, hx211_1, hx211_2, hx212_0, hx212_1, hx212_2⟩ (fun hHeld => ?_); refine with_tabW rAl.tab11 rAl.bits11 (fun HT_ HW_ => ?_)
                generalize wc.drew = w41 at HO_8 BK210 HB hx211_0 hx211_1 hx211_2 hx212_0 hx212_1 hx212_2 hHeld ⊢
                refine pure_ (i := 0) (N := some 53) (v := ?_) (a' := ?_) (bb 40 1) rfl rfl (any_of HT_.out (by kernel_rfl)) (fun _ _ _ h => h) (Or.inl ⟨by rfl, ?_⟩) ?_ ?_
                rotate_left
                ·intro w'
                 go_simp
                 with_reducible rfl
                rotate_left
                ·simp only [Act.put, sA, sB, sC, i64_w, i32_w]
                 rfl
                refine take_ (i := 1) (N := some 54) (v := ?_) (a' := ?_) (bb 40 3) rfl rfl (take_ofW HT_.out HW_.out (by kernel_rfl)) (fun _ _ _ h => h) (Or.inl ⟨by rfl, ?_⟩) hHeld ?_ ?_
                rotate_left
                ·rintro w' ⟨s0, s1, s2, s3, s4, s5, s6, s7, s8⟩
                 go_simp
                 with_reducible rfl
                rotate_left
                ·simp only [Act.put, sA, sB, sC, i64_w, i32_w]
                 rfl
                refine pure_ (i := 2) (N := some 55) (v := ?_) (a' := ?_) (bb 40 7) rfl rfl (any_of HT_.out (by kernel_rfl)) (fun _ _ _ h => h) (Or.inl ⟨by rfl, ?_⟩) ?_ ?_
                rotate_left
                ·intro w'
                 go_simp
                 with_reducible rfl
                rotate_left
                ·simp only [Act.put, sA, sB, sC, i64_w, i32_w]
                 rfl
                refine pure_ (i := 3) (N := some 56) (v := ?_) (a' := ?_) (bb 40 15) rfl rfl (any_of HT_.out (by kernel_rfl)) (fun _ _ _ h => h) (Or.inl ⟨by rfl, ?_⟩) ?_ ?_
                rotate_left
                ·intro w'
                 go_simp
                 with_reducible rfl
                rotate_left
                ·simp only [Act.put, sA, sB, sC, i64_w, i32_w]
                 rfl
                refine pure_ (i := 4) (N := some 57) (v := ?_) (a' := ?_) (bb 40 31) rfl rfl (any_of HT_.out (by kernel_rfl)) (fun _ _ _ h => h) (Or.inl ⟨by rfl, ?_⟩) ?_ ?_
                rotate_left
                ·intro w'
                 go_simp
                 with_reducible rfl
                rotate_left
                ·simp only [Act.put, sA, sB, sC, i64_w, i32_w]
                 rfl
                refine pure_ (i := 5) (N := some 58) (v := ?_) (a' := ?_) (bb 40 63) rfl rfl (any_of HT_.out (by kernel_rfl)) (fun _ _ _ h => h) (Or.inl ⟨by rfl, ?_⟩) ?_ ?_
                rotate_left
                ·intro w'
                 go_simp
                 with_reducible rfl
                rotate_left
                ·simp only [Act.put, sA, sB, sC, i64_w, i32_w]
                 rfl
                refine pure_ (i := 6) (N := some 59) (v := ?_) (a' := ?_) (bb 40 127) rfl rfl (any_of HT_.out (by kernel_rfl)) (fun _ _ _ h => h) (Or.inl ⟨by rfl, ?_⟩) ?_ ?_
                rotate_left
                ·intro w'
                 go_simp
                 with_reducible rfl
                rotate_left
                ·simp only [Act.put, sA, sB, sC, i64_w, i32_w]
                 rfl
                refine pure_ (i := 7) (N := some 60) (v := ?_) (a' := ?_) (bb 40 255) rfl rfl (any_of HT_.out (by kernel_rfl)) (fun _ _ _ h => h) (Or.inl ⟨by rfl, ?_⟩) ?_ ?_
                rotate_left
                ·intro w'
                 go_simp
                 with_reducible rfl
                rotate_left
                ·simp only [Act.put, sA, sB, sC, i64_w, i32_w]
                 rfl
                refine pure_ (i := 8) (N := some 61) (v := ?_) (a' := ?_) (bb 40 511) rfl rfl (any_of HT_.out (by kernel_rfl)) (fun _ _ _ h => h) (Or.inl ⟨by rfl, ?_⟩) ?_ ?_
                rotate_left
                ·intro w'
                 go_simp
                 with_reducible rfl
                rotate_left
                ·simp only [Act.put, sA, sB, sC, i64_w, i32_w]
                 rfl
                refine pure_ (i := 9) (N := some 62) (v := ?_) (a' := ?_) (bb 40 1023) rfl rfl (any_of HT_.out (by kernel_rfl)) (fun _ _ _ h => h) (Or.inl ⟨by rfl, ?_⟩) ?_ ?_
                rotate_left
                ·intro w'
                 go_simp
                 with_reducible rfl
                rotate_left
                ·simp only [Act.put, sA, sB, sC, i64_w, i32_w]
                 rfl
                refine pure_ (i := 11) (N := some 64) (v := ?_) (a' := ?_) (bb 40 3071) rfl rfl (any_of HT_.out (by kernel_rfl)) (fun _ _ _ h => h) (Or.inl ⟨by rfl, ?_⟩) ?_ ?_
                rotate_left
                ·intro w'
                 go_simp
                 with_reducible rfl
                rotate_left
                ·simp only [Act.put, sA, sB, sC, i64_w, i32_w]
                 rfl
                refine pure_ (i := 12) (N := some 65) (v := ?_) (a' := ?_) (bb 40 7167) rfl rfl (any_of HT_.out (by kernel_rfl)) (fun _ _ _ h => h) (Or.inl ⟨by rfl, ?_⟩) ?_ ?_
                rotate_left
                ·intro w'
                 go_simp
                 with_reducible rfl
                rotate_left
                ·simp only [Act.put, sA, sB, sC, i64_w, i32_w]
                 rfl
                refine pure_ (i := 13) (N := some 66) (v := ?_) (a' := ?_) (bb 40 15359) rfl rfl (any_of HT_.out (by kernel_rfl)) (fun _ _ _ h => h) (Or.inl ⟨by rfl, ?_⟩) ?_ ?_
                rotate_left
                ·intro w'
                 go_simp
                 with_reducible rfl
                rotate_left
                ·simp only [Act.put, sA, sB, sC, i64_w, i32_w]
                 rfl
                refine pure_ (i := 14) (N := some 67) (v := ?_) (a' := ?_) (bb 40 31743) rfl rfl (any_of HT_.out (by kernel_rfl)) (fun _ _ _ h => h) (Or.inl ⟨by rfl, ?_⟩) ?_ ?_
                rotate_left
                ·intro w'
                 go_simp
                 with_reducible rfl
                rotate_left
                ·simp only [Act.put, sA, sB, sC, i64_w, i32_w]
                 rfl
                refine take_ (i := 10) (N := some 63) (v := ?_) (a' := ?_) (bb 40 32767) rfl rfl (take_ofW HT_.out HW_.out (by kernel_rfl)) (fun _ _ _ h => h) (Or.inl ⟨by rfl, ?_⟩) hHeld ?_ ?_
                rotate_left
                ·rintro w' ⟨s0, s1, s2, s3, s4, s5, s6, s7, s8⟩
                 go_simp
                 with_reducible rfl
                rotate_left
                ·simp only [Act.put, sA, sB, sC, i64_w, i32_w]
                 rfl
                refine take_ (i := 15) (N := some 68) (v := ?_) (a' := ?_) (bb 40 65535) rfl rfl (take_ofW HT_.out HW_.out (by kernel_rfl)) (fun _ _ _ h => h) (Or.inl ⟨by rfl, ?_⟩) hHeld ?_ ?_
                rotate_left
                ·rintro w' ⟨s0, s1, s2, s3, s4, s5, s6, s7, s8⟩
                 go_simp
                 with_reducible rfl
                rotate_left
                ·simp only [Act.put, sA, sB, sC, i64_w, i32_w]
                 rfl
                refine pure_ (i := 16) (N := some 69) (v := ?_) (a' := ?_) (bb 40 131071) rfl rfl (any_of HT_.out (by kernel_rfl)) (fun _ _ _ h => h) (Or.inl ⟨by rfl, ?_⟩) ?_ ?_
                rotate_left
                ·intro w'
                 go_simp
                 with_reducible rfl
                rotate_left
                ·simp only [Act.put, sA, sB, sC, i64_w, i32_w]
                 rfl
                refine pure_ (i := 17) (N := some 70) (v := ?_) (a' := ?_) (bb 40 262143) rfl rfl (any_of HT_.out (by kernel_rfl)) (fun _ _ _ h => h) (Or.inl ⟨by rfl, ?_⟩) ?_ ?_
                rotate_left
                ·intro w'
                 go_simp
                 with_reducible rfl
                rotate_left
                ·simp only [Act.put, sA, sB, sC, i64_w, i32_w]
                 rfl
                refine pure_ (i := 18) (N := some 71) (v := ?_) (a' := ?_) (bb 40 524287) rfl rfl (any_of HT_.out (by kernel_rfl)) (fun _ _ _ h => h) (Or.inl ⟨by rfl, ?_⟩) ?_ ?_
                rotate_left
                ·intro w'
                 go_simp
                 with_reducible rfl
                rotate_left
                ·simp only [Act.put, sA, sB, sC, i64_w, i32_w]
                 rfl
                refine pure_ (i := 19) (N := some 72) (v := ?_) (a' := ?_) (bb 40 1048575) rfl rfl (any_of HT_.out (by kernel_rfl)) (fun _ _ _ h => h) (Or.inl ⟨by rfl, ?_⟩) ?_ ?_
                rotate_left
                ·intro w'
                 go_simp
                 with_reducible rfl
                rotate_left
                ·simp only [Act.put, sA, sB, sC, i64_w, i32_w]
                 rfl
                refine pure_ (i := 21) (N := some 74) (v := ?_) (a' := ?_) (bb 40 3145727) rfl rfl (any_of HT_.out (by kernel_rfl)) (fun _ _ _ h => h) (Or.inl ⟨by rfl, ?_⟩) ?_ ?_
                rotate_left
                ·intro w'
                 go_simp
                 with_reducible rfl
                rotate_left
                ·simp only [Act.put, sA, sB, sC, i64_w, i32_w]
                 rfl
                refine pure_ (i := 22) (N := some 75) (v := ?_) (a' := ?_) (bb 40 7340031) rfl rfl (any_of HT_.out (by kernel_rfl)) (fun _ _ _ h => h) (Or.inl ⟨by rfl, ?_⟩) ?_ ?_
                rotate_left
                ·intro w'
                 go_simp
                 with_reducible rfl
                rotate_left
                ·simp only [Act.put, sA, sB, sC, i64_w, i32_w]
                 rfl
                refine pure_ (i := 23) (N := some 76) (v := ?_) (a' := ?_) (bb 40 15728639) rfl rfl (any_of HT_.out (by kernel_rfl)) (fun _ _ _ h => h) (Or.inl ⟨by rfl, ?_⟩) ?_ ?_
                rotate_left
                ·intro w'
                 go_simp
                 with_reducible rfl
                rotate_left
                ·simp only [Act.put, sA, sB, sC, i64_w, i32_w]
                 rfl
                refine pure_ (i := 24) (N := some 77) (v := ?_) (a' := ?_) (bb 40 32505855) rfl rfl (any_of HT_.out (by kernel_rfl)) (fun _ _ _ h => h) (Or.inl ⟨by rfl, ?_⟩) ?_ ?_
                rotate_left
                ·intro w'
                 go_simp
                 with_reducible rfl
                rotate_left
                ·simp only [Act.put, sA, sB, sC, i64_w, i32_w]
                 rfl
                refine take_ (i := 20) (N := some 73) (v := ?_) (a' := ?_) (bb 40 33554431) rfl rfl (take_ofW HT_.out HW_.out (by kernel_rfl)) (fun _ _ _ h => h) (Or.inl ⟨by rfl, ?_⟩) hHeld ?_ ?_
                rotate_left
                ·rintro w' ⟨s0, s1, s2, s3, s4, s5, s6, s7, s8⟩
                 go_simp
                 with_reducible rfl
                rotate_left
                ·simp only [Act.put, sA, sB, sC, i64_w, i32_w]
                 rfl
                refine take_ (i := 25) (N := some 78) (v := ?_) (a' := ?_) (bb 40 67108863) rfl rfl (take_ofW HT_.out HW_.out (by kernel_rfl)) (fun _ _ _ h => h) (Or.inl ⟨by rfl, ?_⟩) hHeld ?_ ?_
                rotate_left
                ·rintro w' ⟨s0, s1, s2, s3, s4, s5, s6, s7, s8⟩
                 go_simp
                 with_reducible rfl
                rotate_left
                ·simp only [Act.put, sA, sB, sC, i64_w, i32_w]
                 rfl
                refine pure_ (i := 26) (N := some 79) (v := ?_) (a' := ?_) (bb 40 134217727) rfl rfl (any_of HT_.out (by kernel_rfl)) (fun _ _ _ h => h) (Or.inl ⟨by rfl, ?_⟩) ?_ ?_
                rotate_left
                ·intro w'
                 go_simp
                 with_reducible rfl
                rotate_left
                ·simp only [Act.put, sA, sB, sC, i64_w, i32_w]
                 rfl
                refine pure_ (i := 27) (N := some 80) (v := ?_) (a' := ?_) (bb 40 268435455) rfl rfl (any_of HT_.out (by kernel_rfl)) (fun _ _ _ h => h) (Or.inl ⟨by rfl, ?_⟩) ?_ ?_
                rotate_left
                ·intro w'
                 go_simp
                 with_reducible rfl
                rotate_left
                ·simp only [Act.put, sA, sB, sC, i64_w, i32_w]
                 rfl
                refine pure_ (i := 28) (N := some 81) (v := ?_) (a' := ?_) (bb 40 536870911) rfl rfl (any_of HT_.out (by kernel_rfl)) (fun _ _ _ h => h) (Or.inl ⟨by rfl, ?_⟩) ?_ ?_
                rotate_left
                ·intro w'
                 go_simp
                 with_reducible rfl
                rotate_left
                ·simp only [Act.put, sA, sB, sC, i64_w, i32_w]
                 rfl
                refine pure_ (i := 29) (N := some 82) (v := ?_) (a' := ?_) (bb 40 1073741823) rfl rfl (any_of HT_.out (by kernel_rfl)) (fun _ _ _ h => h) (Or.inl ⟨by rfl, ?_⟩) ?_ ?_
                rotate_left
                ·intro w'
                 go_simp
                 with_reducible rfl
                rotate_left
                ·simp only [Act.put, sA, sB, sC, i64_w, i32_w]
                 rfl
                refine pure_ (i := 30) (N := some 83) (v := ?_) (a' := ?_) (bb 40 2147483647) rfl rfl (any_of HT_.out (by kernel_rfl)) (fun _ _ _ h => h) (Or.inl ⟨by rfl, ?_⟩) ?_ ?_
                rotate_left
                ·intro w'
                 go_simp
                 with_reducible rfl
                rotate_left
                ·simp only [Act.put, sA, sB, sC, i64_w, i32_w]
                 rfl
                refine take_ (i := 31) (N := some 84) (v := ?_) (a' := ?_) (bb 40 4294967295) rfl rfl (take_ofW HT_.out HW_.out (by kernel_rfl)) (fun _ _ _ h => h) (Or.inl ⟨by rfl, ?_⟩) hHeld ?_ ?_
                rotate_left
                ·rintro w' ⟨s0, s1, s2, s3, s4, s5, s6, s7, s8⟩
                 go_simp
                 with_reducible rfl
                rotate_left
                ·simp only [Act.put, sA, sB, sC, i64_w, i32_w]
                 rfl
                refine pure_ (i := 32) (N := some 85) (v := ?_) (a' := ?_) (bb 40 8589934591) rfl rfl (any_of HT_.out (by kernel_rfl)) (fun _ _ _ h => h) (Or.inl ⟨by rfl, ?_⟩) ?_ ?_
                rotate_left
                ·intro w'
                 go_simp
                 with_reducible rfl
                rotate_left
                ·simp only [Act.put, sA, sB, sC, i64_w, i32_w]
                 rfl
                refine pure_ (i := 33) (N := some 86) (v := ?_) (a' := ?_) (bb 40 17179869183) rfl rfl (any_of HT_.out (by kernel_rfl)) (fun _ _ _ h => h) (Or.inl ⟨by rfl, ?_⟩) ?_ ?_
                rotate_left
                ·intro w'
                 go_simp
                 with_reducible rfl
                rotate_left
                ·simp only [Act.put, sA, sB, sC, i64_w, i32_w]
                 rfl
                refine pure_ (i := 34) (N := some 87) (v := ?_) (a' := ?_) (bb 40 34359738367) rfl rfl (any_of HT_.out (by kernel_rfl)) (fun _ _ _ h => h) (Or.inl ⟨by rfl, ?_⟩) ?_ ?_
                rotate_left
                ·intro w'
                 go_simp
                 with_reducible rfl
                rotate_left
                ·simp only [Act.put, sA, sB, sC, i64_w, i32_w]
                 rfl
                refine pure_ (i := 36) (N := some 89) (v := ?_) (a' := ?_) (bb 40 103079215103) rfl rfl (any_of HT_.out (by kernel_rfl)) (fun _ _ _ h => h) (Or.inl ⟨by rfl, ?_⟩) ?_ ?_
                rotate_left
                ·intro w'
                 go_simp
                 with_reducible rfl
                rotate_left
                ·simp only [Act.put, sA, sB, sC, i64_w, i32_w]
                 rfl
                refine take_ (i := 35) (N := some 88) (v := ?_) (a' := ?_) (bb 40 137438953471) rfl rfl (take_ofW HT_.out HW_.out (by kernel_rfl)) (fun _ _ _ h => h) (Or.inl ⟨by rfl, ?_⟩) hHeld ?_ ?_
                rotate_left
                ·rintro w' ⟨s0, s1, s2, s3, s4, s5, s6, s7, s8⟩
                 go_simp
                 with_reducible rfl
                rotate_left
                ·simp only [Act.put, sA, sB, sC, i64_w, i32_w]
                 rfl
                refine pure_ (i := 37) (N := some 90) (v := ?_) (a' := ?_) (bb 40 274877906943) rfl rfl (any_of HT_.out (by kernel_rfl)) (fun _ _ _ h => h) (Or.inl ⟨by rfl, ?_⟩) ?_ ?_
                rotate_left
                ·intro w'
                 go_simp
                 with_reducible rfl
                rotate_left
                ·simp only [Act.put, sA, sB, sC, i64_w, i32_w]
                 rfl
                refine pure_ (i := 38) (N := some 91) (v := ?_) (a' := ?_) (bb 40 549755813887) rfl rfl (any_of HT_.out (by kernel_rfl)) (fun _ _ _ h => h) (Or.inl ⟨by rfl, ?_⟩) ?_ ?_
                rotate_left
                ·intro w'
                 go_simp
                 with_reducible rfl
                rotate_left
                ·simp only [Act.put, sA, sB, sC, i64_w, i32_w]
                 rfl
                refine pure_ (i := 39) (N := some 92) (v := ?_) (a' := ?_) (bb 40 1099511627775) rfl rfl (any_of HT_.out (by kernel_rfl)) (fun _ _ _ h => h) (Or.inl ⟨by rfl, ?_⟩) ?_ ?_
                rotate_left
                ·intro w'
                 go_simp
                 with_reducible rfl
                rotate_left
                ·simp only [Act.put, sA, sB, sC, i64_w, i32_w]
                 rfl
                refine done_ (done_of HT_.out (by kernel_rfl)) ?_
                try go_wp2
                go_meet
                case rel => exact ⟨_, ((((rd_T57 l2 x12_1).f2) != x10_1)), (by first | rfl | (simp; done) | (simp [*]; done)), H', ⟨by have := HK1.out; have := HJ7.out; first | omega | exact Nat.le_refl _⟩, ⟨by (with_reducible repeat (first | apply Kd.R_alloc | apply Kd.R_drewN | apply Kd.R_drew)); exact HO_8.out⟩, ⟨by (with_reducible repeat (first | refine blk_drewN ?_ _ | refine blk_drew ?_ | refine blk_alloc ?_ _)); exact BK210.out⟩, ⟨by repeat (first | (with_reducible first | exact HB.out | apply below_alloc | apply pw_below_drewN | apply below_drew1 | refine below_set ?_ GE210.out) | exact HB.out)⟩⟩
               ·rw [if_neg c40] at H
                have c40b0 : decide (0 ≤ ((rd_T57 l2 x12_1).f2)) = false := decide_eq_false c40
                clear c40
                have H' := Aside0.mk H
                clear H
                try go_wp2
                have n0_ := Aside0.mk (Kd.R_drew HO_8.out)
                have n1_ := Aside0.mk (blk_drew BK210.out)
                have n2_ := Aside0.mk (below_drew1 HB.out)
                clear HO_8
                clear BK210
                clear HB
                have HO_8 := n0_
                have BK210 := n1_
                have HB := n2_
                clear n0_ n1_ n2_
                obtain ⟨Ao44, co44, eo44⟩ := Kd.R_slice HO_8.out
                (first | subst eo44 | (injection eo44 with f1_ f2_ f3_; have f4_ := f1_.symm; have f5_ := f3_.symm; clear f1_ f2_ f3_; subst f4_; subst f5_))
                have p211 : 0 ≤ (x9_1 : Int) := of_decide_eq_true (by first | (with_reducible assumption) | assumption)
                have q211 : x9_1 < (t206.length : Int) := of_decide_eq_true (by first | (with_reducible assumption) | assumption)
                obtain ⟨ad211, e211, hx211_0, hx211_1, hx211_2⟩ := at_T43 (Kd.R_reads' HO_8.out).2.2 x9_1 p211 q211
                cases e211
                replace p211 := eq_true p211
                replace q211 := eq_true q211
                have p212 : 0 ≤ (x9_1 : Int) := of_decide_eq_true (by first | (with_reducible assumption) | assumption)
                have q212 : x9_1 < (t206.length : Int) := of_decide_eq_true (by first | (with_reducible assumption) | assumption)
                obtain ⟨ad212, e212, hx212_0, hx212_1, hx212_2⟩ := at_T43 (Kd.R_reads' HO_8.out).2.2 x9_1 p212 q212
                obtain rfl : ad211 = ad212 := (by injection e212)
                replace p212 := eq_true p212
                replace q212 := eq_true q212
                refine start_ (n := 40) (S := fun w' => w'.cell? ⟨gb210, 0, none⟩ = some (.int .i64 ((rd_T57 l2 x12_1).f0)) ∧ w'.cell? ⟨gb210, 1, none⟩ = some (.bool ((rd_T57 l2 x12_1).f1)) ∧ w'.cell? ⟨gb210, 2, none⟩ = some (.int .i64 ((rd_T57 l2 x12_1).f2)) ∧ w'.cell? (ad211.add ((x9_1).toNat * 3)) = some (.int .i64 ((rd_T43 t206 x9_1).f0)) ∧ w'.cell? ⟨(ad211.add ((x9_1).toNat * 3)).block, (ad211.add ((x9_1).toNat * 3)).off + 1, none⟩ = some (.bool ((rd_T43 t206 x9_1).f1)) ∧ w'.cell? ⟨(ad211.add ((x9_1).toNat * 3)).block, (ad211.add ((x9_1).toNat * 3)).off + 2, none⟩ = some (.int .i64 ((rd_T43 t206 x9_1).f2)) ∧ w'.cell? (ad211.add ((x9_1).toNat * 3)) = some (.int .i64 ((rd_T43 t206 x9_1).f0)) ∧ w'.cell? ⟨(ad211.add ((x9_1).toNat * 3)).block, (ad211.add ((x9_1).toNat * 3)).off + 1, none⟩ = some (.bool ((rd_T43 t206 x9_1).f1)) ∧ w'.cell? ⟨(ad211.add ((x9_1).toNat * 3)).block, (ad211.add ((x9_1).toNat * 3)).off + 2, none⟩ = some (.int .i64 ((rd_T43 t206 x9_1).f2))) (ds := []) (bb 40 0) (by kernel_rfl) rfl rfl ⟨(blk_cell BK210.out 0).trans rfl, (blk_cell BK210.out 1).trans rfl, (blk_cell BK210.out 2).trans rfl, hx211_0, hx211_1, hx211_2, hx212_0, hx212_1, hx212_2⟩ (fun hHeld => ?_); refine with_tabW rAl.tab11 rAl.bits11 (fun HT_ HW_ => ?_)
                generalize wc.drew = w43 at HO_8 BK210 HB hx211_0 hx211_1 hx211_2 hx212_0 hx212_1 hx212_2 hHeld ⊢
                refine pure_ (i := 0) (N := some 53) (v := ?_) (a' := ?_) (bb 40 1) rfl rfl (any_of HT_.out (by kernel_rfl)) (fun _ _ _ h => h) (Or.inl ⟨by rfl, ?_⟩) ?_ ?_
                rotate_left
                ·intro w'
                 go_simp
                 with_reducible rfl
                rotate_left
                ·simp only [Act.put, sA, sB, sC, i64_w, i32_w]
                 rfl
                refine take_ (i := 1) (N := some 54) (v := ?_) (a' := ?_) (bb 40 3) rfl rfl (take_ofW HT_.out HW_.out (by kernel_rfl)) (fun _ _ _ h => h) (Or.inl ⟨by rfl, ?_⟩) hHeld ?_ ?_
                rotate_left
                ·rintro w' ⟨s0, s1, s2, s3, s4, s5, s6, s7, s8⟩
                 go_simp
                 with_reducible rfl
                rotate_left
                ·simp only [Act.put, sA, sB, sC, i64_w, i32_w]
                 rfl
                refine pure_ (i := 2) (N := some 55) (v := ?_) (a' := ?_) (bb 40 7) rfl rfl (any_of HT_.out (by kernel_rfl)) (fun _ _ _ h => h) (Or.inl ⟨by rfl, ?_⟩) ?_ ?_
                rotate_left
                ·intro w'
                 go_simp
                 with_reducible rfl
                rotate_left
                ·simp only [Act.put, sA, sB, sC, i64_w, i32_w]
                 rfl
                refine pure_ (i := 3) (N := some 56) (v := ?_) (a' := ?_) (bb 40 15) rfl rfl (any_of HT_.out (by kernel_rfl)) (fun _ _ _ h => h) (Or.inl ⟨by rfl, ?_⟩) ?_ ?_
                rotate_left
                ·intro w'
                 go_simp
                 with_reducible rfl
                rotate_left
                ·simp only [Act.put, sA, sB, sC, i64_w, i32_w]
                 rfl
                refine pure_ (i := 4) (N := some 57) (v := ?_) (a' := ?_) (bb 40 31) rfl rfl (any_of HT_.out (by kernel_rfl)) (fun _ _ _ h => h) (Or.inl ⟨by rfl, ?_⟩) ?_ ?_
                rotate_left
                ·intro w'
                 go_simp
                 with_reducible rfl
                rotate_left
                ·simp only [Act.put, sA, sB, sC, i64_w, i32_w]
                 rfl
                refine pure_ (i := 5) (N := some 58) (v := ?_) (a' := ?_) (bb 40 63) rfl rfl (any_of HT_.out (by kernel_rfl)) (fun _ _ _ h => h) (Or.inl ⟨by rfl, ?_⟩) ?_ ?_
                rotate_left
                ·intro w'
                 go_simp
                 with_reducible rfl
                rotate_left
                ·simp only [Act.put, sA, sB, sC, i64_w, i32_w]
                 rfl
                refine pure_ (i := 6) (N := some 59) (v := ?_) (a' := ?_) (bb 40 127) rfl rfl (any_of HT_.out (by kernel_rfl)) (fun _ _ _ h => h) (Or.inl ⟨by rfl, ?_⟩) ?_ ?_
                rotate_left
                ·intro w'
                 go_simp
                 with_reducible rfl
                rotate_left
                ·simp only [Act.put, sA, sB, sC, i64_w, i32_w]
                 rfl
                refine pure_ (i := 7) (N := some 60) (v := ?_) (a' := ?_) (bb 40 255) rfl rfl (any_of HT_.out (by kernel_rfl)) (fun _ _ _ h => h) (Or.inl ⟨by rfl, ?_⟩) ?_ ?_
                rotate_left
                ·intro w'
                 go_simp
                 with_reducible rfl
                rotate_left
                ·simp only [Act.put, sA, sB, sC, i64_w, i32_w]
                 rfl
                refine pure_ (i := 8) (N := some 61) (v := ?_) (a' := ?_) (bb 40 511) rfl rfl (any_of HT_.out (by kernel_rfl)) (fun _ _ _ h => h) (Or.inl ⟨by rfl, ?_⟩) ?_ ?_
                rotate_left
                ·intro w'
                 go_simp
                 with_reducible rfl
                rotate_left
                ·simp only [Act.put, sA, sB, sC, i64_w, i32_w]
                 rfl
                refine pure_ (i := 9) (N := some 62) (v := ?_) (a' := ?_) (bb 40 1023) rfl rfl (any_of HT_.out (by kernel_rfl)) (fun _ _ _ h => h) (Or.inl ⟨by rfl, ?_⟩) ?_ ?_
                rotate_left
                ·intro w'
                 go_simp
                 with_reducible rfl
                rotate_left
                ·simp only [Act.put, sA, sB, sC, i64_w, i32_w]
                 rfl
                refine pure_ (i := 11) (N := some 64) (v := ?_) (a' := ?_) (bb 40 3071) rfl rfl (any_of HT_.out (by kernel_rfl)) (fun _ _ _ h => h) (Or.inl ⟨by rfl, ?_⟩) ?_ ?_
                rotate_left
                ·intro w'
                 go_simp
                 with_reducible rfl
                rotate_left
                ·simp only [Act.put, sA, sB, sC, i64_w, i32_w]
                 rfl
                refine pure_ (i := 12) (N := some 65) (v := ?_) (a' := ?_) (bb 40 7167) rfl rfl (any_of HT_.out (by kernel_rfl)) (fun _ _ _ h => h) (Or.inl ⟨by rfl, ?_⟩) ?_ ?_
                rotate_left
                ·intro w'
                 go_simp
                 with_reducible rfl
                rotate_left
                ·simp only [Act.put, sA, sB, sC, i64_w, i32_w]
                 rfl
                refine pure_ (i := 13) (N := some 66) (v := ?_) (a' := ?_) (bb 40 15359) rfl rfl (any_of HT_.out (by kernel_rfl)) (fun _ _ _ h => h) (Or.inl ⟨by rfl, ?_⟩) ?_ ?_
                rotate_left
                ·intro w'
                 go_simp
                 with_reducible rfl
                rotate_left
                ·simp only [Act.put, sA, sB, sC, i64_w, i32_w]
                 rfl
                refine pure_ (i := 14) (N := some 67) (v := ?_) (a' := ?_) (bb 40 31743) rfl rfl (any_of HT_.out (by kernel_rfl)) (fun _ _ _ h => h) (Or.inl ⟨by rfl, ?_⟩) ?_ ?_
                rotate_left
                ·intro w'
                 go_simp
                 with_reducible rfl
                rotate_left
                ·simp only [Act.put, sA, sB, sC, i64_w, i32_w]
                 rfl
                refine take_ (i := 10) (N := some 63) (v := ?_) (a' := ?_) (bb 40 32767) rfl rfl (take_ofW HT_.out HW_.out (by kernel_rfl)) (fun _ _ _ h => h) (Or.inl ⟨by rfl, ?_⟩) hHeld ?_ ?_
                rotate_left
                ·rintro w' ⟨s0, s1, s2, s3, s4, s5, s6, s7, s8⟩
                 go_simp
                 with_reducible rfl
                rotate_left
                ·simp only [Act.put, sA, sB, sC, i64_w, i32_w]
                 rfl
                refine take_ (i := 15) (N := some 68) (v := ?_) (a' := ?_) (bb 40 65535) rfl rfl (take_ofW HT_.out HW_.out (by kernel_rfl)) (fun _ _ _ h => h) (Or.inl ⟨by rfl, ?_⟩) hHeld ?_ ?_
                rotate_left
                ·rintro w' ⟨s0, s1, s2, s3, s4, s5, s6, s7, s8⟩
                 go_simp
                 with_reducible rfl
                rotate_left
                ·simp only [Act.put, sA, sB, sC, i64_w, i32_w]
                 rfl
                refine pure_ (i := 16) (N := some 69) (v := ?_) (a' := ?_) (bb 40 131071) rfl rfl (any_of HT_.out (by kernel_rfl)) (fun _ _ _ h => h) (Or.inl ⟨by rfl, ?_⟩) ?_ ?_
                rotate_left
                ·intro w'
                 go_simp
                 with_reducible rfl
                rotate_left
                ·simp only [Act.put, sA, sB, sC, i64_w, i32_w]
                 rfl
                refine pure_ (i := 17) (N := some 70) (v := ?_) (a' := ?_) (bb 40 262143) rfl rfl (any_of HT_.out (by kernel_rfl)) (fun _ _ _ h => h) (Or.inl ⟨by rfl, ?_⟩) ?_ ?_
                rotate_left
                ·intro w'
                 go_simp
                 with_reducible rfl
                rotate_left
                ·simp only [Act.put, sA, sB, sC, i64_w, i32_w]
                 rfl
                refine pure_ (i := 18) (N := some 71) (v := ?_) (a' := ?_) (bb 40 524287) rfl rfl (any_of HT_.out (by kernel_rfl)) (fun _ _ _ h => h) (Or.inl ⟨by rfl, ?_⟩) ?_ ?_
                rotate_left
                ·intro w'
                 go_simp
                 with_reducible rfl
                rotate_left
                ·simp only [Act.put, sA, sB, sC, i64_w, i32_w]
                 rfl
                refine pure_ (i := 19) (N := some 72) (v := ?_) (a' := ?_) (bb 40 1048575) rfl rfl (any_of HT_.out (by kernel_rfl)) (fun _ _ _ h => h) (Or.inl ⟨by rfl, ?_⟩) ?_ ?_
                rotate_left
                ·intro w'
                 go_simp
                 with_reducible rfl
                rotate_left
                ·simp only [Act.put, sA, sB, sC, i64_w, i32_w]
                 rfl
                refine pure_ (i := 21) (N := some 74) (v := ?_) (a' := ?_) (bb 40 3145727) rfl rfl (any_of HT_.out (by kernel_rfl)) (fun _ _ _ h => h) (Or.inl ⟨by rfl, ?_⟩) ?_ ?_
                rotate_left
                ·intro w'
                 go_simp
                 with_reducible rfl
                rotate_left
                ·simp only [Act.put, sA, sB, sC, i64_w, i32_w]
                 rfl
                refine pure_ (i := 22) (N := some 75) (v := ?_) (a' := ?_) (bb 40 7340031) rfl rfl (any_of HT_.out (by kernel_rfl)) (fun _ _ _ h => h) (Or.inl ⟨by rfl, ?_⟩) ?_ ?_
                rotate_left
                ·intro w'
                 go_simp
                 with_reducible rfl
                rotate_left
                ·simp only [Act.put, sA, sB, sC, i64_w, i32_w]
                 rfl
                refine pure_ (i := 23) (N := some 76) (v := ?_) (a' := ?_) (bb 40 15728639) rfl rfl (any_of HT_.out (by kernel_rfl)) (fun _ _ _ h => h) (Or.inl ⟨by rfl, ?_⟩) ?_ ?_
                rotate_left
                ·intro w'
                 go_simp
                 with_reducible rfl
                rotate_left
                ·simp only [Act.put, sA, sB, sC, i64_w, i32_w]
                 rfl
                refine pure_ (i := 24) (N := some 77) (v := ?_) (a' := ?_) (bb 40 32505855) rfl rfl (any_of HT_.out (by kernel_rfl)) (fun _ _ _ h => h) (Or.inl ⟨by rfl, ?_⟩) ?_ ?_
                rotate_left
                ·intro w'
                 go_simp
                 with_reducible rfl
                rotate_left
                ·simp only [Act.put, sA, sB, sC, i64_w, i32_w]
                 rfl
                refine take_ (i := 20) (N := some 73) (v := ?_) (a' := ?_) (bb 40 33554431) rfl rfl (take_ofW HT_.out HW_.out (by kernel_rfl)) (fun _ _ _ h => h) (Or.inl ⟨by rfl, ?_⟩) hHeld ?_ ?_
                rotate_left
                ·rintro w' ⟨s0, s1, s2, s3, s4, s5, s6, s7, s8⟩
                 go_simp
                 with_reducible rfl
                rotate_left
                ·simp only [Act.put, sA, sB, sC, i64_w, i32_w]
                 rfl
                refine take_ (i := 25) (N := some 78) (v := ?_) (a' := ?_) (bb 40 67108863) rfl rfl (take_ofW HT_.out HW_.out (by kernel_rfl)) (fun _ _ _ h => h) (Or.inl ⟨by rfl, ?_⟩) hHeld ?_ ?_
                rotate_left
                ·rintro w' ⟨s0, s1, s2, s3, s4, s5, s6, s7, s8⟩
                 go_simp
                 with_reducible rfl
                rotate_left
                ·simp only [Act.put, sA, sB, sC, i64_w, i32_w]
                 rfl
                refine pure_ (i := 26) (N := some 79) (v := ?_) (a' := ?_) (bb 40 134217727) rfl rfl (any_of HT_.out (by kernel_rfl)) (fun _ _ _ h => h) (Or.inl ⟨by rfl, ?_⟩) ?_ ?_
                rotate_left
                ·intro w'
                 go_simp
                 with_reducible rfl
                rotate_left
                ·simp only [Act.put, sA, sB, sC, i64_w, i32_w]
                 rfl
                refine pure_ (i := 27) (N := some 80) (v := ?_) (a' := ?_) (bb 40 268435455) rfl rfl (any_of HT_.out (by kernel_rfl)) (fun _ _ _ h => h) (Or.inl ⟨by rfl, ?_⟩) ?_ ?_
                rotate_left
                ·intro w'
                 go_simp
                 with_reducible rfl
                rotate_left
                ·simp only [Act.put, sA, sB, sC, i64_w, i32_w]
                 rfl
                refine pure_ (i := 28) (N := some 81) (v := ?_) (a' := ?_) (bb 40 536870911) rfl rfl (any_of HT_.out (by kernel_rfl)) (fun _ _ _ h => h) (Or.inl ⟨by rfl, ?_⟩) ?_ ?_
                rotate_left
                ·intro w'
                 go_simp
                 with_reducible rfl
                rotate_left
                ·simp only [Act.put, sA, sB, sC, i64_w, i32_w]
                 rfl
                refine pure_ (i := 29) (N := some 82) (v := ?_) (a' := ?_) (bb 40 1073741823) rfl rfl (any_of HT_.out (by kernel_rfl)) (fun _ _ _ h => h) (Or.inl ⟨by rfl, ?_⟩) ?_ ?_
                rotate_left
                ·intro w'
                 go_simp
                 with_reducible rfl
                rotate_left
                ·simp only [Act.put, sA, sB, sC, i64_w, i32_w]
                 rfl
                refine pure_ (i := 30) (N := some 83) (v := ?_) (a' := ?_) (bb 40 2147483647) rfl rfl (any_of HT_.out (by kernel_rfl)) (fun _ _ _ h => h) (Or.inl ⟨by rfl, ?_⟩) ?_ ?_
                rotate_left
                ·intro w'
                 go_simp
                 with_reducible rfl
                rotate_left
                ·simp only [Act.put, sA, sB, sC, i64_w, i32_w]
                 rfl
                refine take_ (i := 31) (N := some 84) (v := ?_) (a' := ?_) (bb 40 4294967295) rfl rfl (take_ofW HT_.out HW_.out (by kernel_rfl)) (fun _ _ _ h => h) (Or.inl ⟨by rfl, ?_⟩) hHeld ?_ ?_
                rotate_left
                ·rintro w' ⟨s0, s1, s2, s3, s4, s5, s6, s7, s8⟩
                 go_simp
                 with_reducible rfl
                rotate_left
                ·simp only [Act.put, sA, sB, sC, i64_w, i32_w]
                 rfl
                refine pure_ (i := 32) (N := some 85) (v := ?_) (a' := ?_) (bb 40 8589934591) rfl rfl (any_of HT_.out (by kernel_rfl)) (fun _ _ _ h => h) (Or.inl ⟨by rfl, ?_⟩) ?_ ?_
                rotate_left
                ·intro w'
                 go_simp
                 with_reducible rfl
                rotate_left
                ·simp only [Act.put, sA, sB, sC, i64_w, i32_w]
                 rfl
                refine pure_ (i := 33) (N := some 86) (v := ?_) (a' := ?_) (bb 40 17179869183) rfl rfl (any_of HT_.out (by kernel_rfl)) (fun _ _ _ h => h) (Or.inl ⟨by rfl, ?_⟩) ?_ ?_
                rotate_left
                ·intro w'
                 go_simp
                 with_reducible rfl
                rotate_left
                ·simp only [Act.put, sA, sB, sC, i64_w, i32_w]
                 rfl
                refine pure_ (i := 34) (N := some 87) (v := undef) (a' := ?_) (bb 40 34359738367) rfl rfl (any_of HT_.out (by kernel_rfl)) (fun _ _ _ h => h) (Or.inr ⟨by rfl, rfl⟩) ?_ ?_
                rotate_left
                ·simp only [Act.put, sA, sB, sC, i64_w, i32_w]
                 rfl
                refine pure_ (i := 35) (N := some 88) (v := undef) (a' := ?_) (bb 40 68719476735) rfl rfl (any_of HT_.out (by kernel_rfl)) (fun _ _ _ h => h) (Or.inr ⟨by rfl, rfl⟩) ?_ ?_
                rotate_left
                ·simp only [Act.put, sA, sB, sC, i64_w, i32_w]
                 rfl
                refine pure_ (i := 36) (N := some 89) (v := undef) (a' := ?_) (bb 40 137438953471) rfl rfl (any_of HT_.out (by kernel_rfl)) (fun _ _ _ h => h) (Or.inr ⟨by rfl, rfl⟩) ?_ ?_
                rotate_left
                ·simp only [Act.put, sA, sB, sC, i64_w, i32_w]
                 rfl
                refine pure_ (i := 37) (N := some 90) (v := undef) (a' := ?_) (bb 40 274877906943) rfl rfl (any_of HT_.out (by kernel_rfl)) (fun _ _ _ h => h) (Or.inr ⟨by rfl, rfl⟩) ?_ ?_
                rotate_left
                ·simp only [Act.put, sA, sB, sC, i64_w, i32_w]
                 rfl
                refine pure_ (i := 38) (N := some 91) (v := ?_) (a' := ?_) (bb 40 549755813887) rfl rfl (any_of HT_.out (by kernel_rfl)) (fun _ _ _ h => h) (Or.inl ⟨by rfl, ?_⟩) ?_ ?_
                rotate_left
                ·intro w'
                 go_simp
                 with_reducible rfl
                rotate_left
                ·simp only [Act.put, sA, sB, sC, i64_w, i32_w]
                 rfl
                refine pure_ (i := 39) (N := some 92) (v := ?_) (a' := ?_) (bb 40 1099511627775) rfl rfl (any_of HT_.out (by kernel_rfl)) (fun _ _ _ h => h) (Or.inl ⟨by rfl, ?_⟩) ?_ ?_
                rotate_left
                ·intro w'
                 go_simp
                 with_reducible rfl
                rotate_left
                ·simp only [Act.put, sA, sB, sC, i64_w, i32_w]
                 rfl
                refine done_ (done_of HT_.out (by kernel_rfl)) ?_
                try go_wp2
                go_meet
                case rel => exact ⟨_, (false), (by first | rfl | (simp; done) | (simp [*]; done)), H', ⟨by have := HK1.out; have := HJ7.out; first | omega | exact Nat.le_refl _⟩, ⟨by (with_reducible repeat (first | apply Kd.R_alloc | apply Kd.R_drewN | apply Kd.R_drew)); exact HO_8.out⟩, ⟨by (with_reducible repeat (first | refine blk_drewN ?_ _ | refine blk_drew ?_ | refine blk_alloc ?_ _)); exact BK210.out⟩, ⟨by repeat (first | (with_reducible first | exact HB.out | apply below_alloc | apply pw_below_drewN | apply below_drew1 | refine below_set ?_ GE210.out) | exact HB.out)⟩⟩
             ·rw [if_neg c36] at H
              have c36b0 : (((rd_T57 l2 x12_1).f0) == ((rd_T43 t206 x9_1).f0)) = false := beq_eq_false_iff_ne.mpr c36
              have c36b1 : (((rd_T57 l2 x12_1).f0) != ((rd_T43 t206 x9_1).f0)) = true := bne_iff_ne.mpr c36
              have H' := Aside0.mk H
              clear H
              try go_wp2
              have n0_ := Aside0.mk (Kd.R_drew HO_8.out)
              have n1_ := Aside0.mk (blk_drew BK210.out)
              have n2_ := Aside0.mk (below_drew1 HB.out)
              clear HO_8
              clear BK210
              clear HB
              have HO_8 := n0_
              have BK210 := n1_
              have HB := n2_
              clear n0_ n1_ n2_
              obtain ⟨Ao46, co46, eo46⟩ := Kd.R_slice HO_8.out
              (first | subst eo46 | (injection eo46 with f1_ f2_ f3_; have f4_ := f1_.symm; have f5_ := f3_.symm; clear f1_ f2_ f3_; subst f4_; subst f5_))
              have p211 : 0 ≤ (x9_1 : Int) := of_decide_eq_true (by first | (with_reducible assumption) | assumption)
              have q211 : x9_1 < (t206.length : Int) := of_decide_eq_true (by first | (with_reducible assumption) | assumption)
              obtain ⟨ad211, e211, hx211_0, hx211_1, hx211_2⟩ := at_T43 (Kd.R_reads' HO_8.out).2.2 x9_1 p211 q211
              cases e211
              replace p211 := eq_true p211
              replace q211 := eq_true q211
              refine start_ (n := 40) (S := fun w' => w'.cell? ⟨gb210, 0, none⟩ = some (.int .i64 ((rd_T57 l2 x12_1).f0)) ∧ w'.cell? ⟨gb210, 1, none⟩ = some (.bool ((rd_T57 l2 x12_1).f1)) ∧ w'.cell? ⟨gb210, 2, none⟩ = some (.int .i64 ((rd_T57 l2 x12_1).f2)) ∧ w'.cell? (ad211.add ((x9_1).toNat * 3)) = some (.int .i64 ((rd_T43 t206 x9_1).f0)) ∧ w'.cell? ⟨(ad211.add ((x9_1).toNat * 3)).block, (ad211.add ((x9_1).toNat * 3)).off + 1, none⟩ = some (.bool ((rd_T43 t206 x9_1).f1)) ∧ w'.cell? ⟨(ad211.add ((x9_1).toNat * 3)).block, (ad211.add ((x9_1).toNat * 3)).off + 2, none⟩ = some (.int .i64 ((rd_T43 t206 x9_1).f2))) (ds := []) (bb 40 0) (by kernel_rfl) rfl rfl ⟨(blk_cell BK210.out 0).trans rfl, (blk_cell BK210.out 1).trans rfl, (blk_cell BK210.out 2).trans rfl, hx211_0, hx211_1, hx211_2⟩ (fun hHeld => ?_); refine with_tabW rAl.tab11 rAl.bits11 (fun HT_ HW_ => ?_)
              generalize wc.drew = w45 at HO_8 BK210 HB hx211_0 hx211_1 hx211_2 hHeld ⊢
              refine pure_ (i := 0) (N := some 53) (v := ?_) (a' := ?_) (bb 40 1) rfl rfl (any_of HT_.out (by kernel_rfl)) (fun _ _ _ h => h) (Or.inl ⟨by rfl, ?_⟩) ?_ ?_
              rotate_left
              ·intro w'
               go_simp
               with_reducible rfl
              rotate_left
              ·simp only [Act.put, sA, sB, sC, i64_w, i32_w]
               rfl
              refine take_ (i := 1) (N := some 54) (v := ?_) (a' := ?_) (bb 40 3) rfl rfl (take_ofW HT_.out HW_.out (by kernel_rfl)) (fun _ _ _ h => h) (Or.inl ⟨by rfl, ?_⟩) hHeld ?_ ?_
              rotate_left
              ·rintro w' ⟨s0, s1, s2, s3, s4, s5⟩
               go_simp
               with_reducible rfl
              rotate_left
              ·simp only [Act.put, sA, sB, sC, i64_w, i32_w]
               rfl
              refine pure_ (i := 2) (N := some 55) (v := ?_) (a' := ?_) (bb 40 7) rfl rfl (any_of HT_.out (by kernel_rfl)) (fun _ _ _ h => h) (Or.inl ⟨by rfl, ?_⟩) ?_ ?_
              rotate_left
              ·intro w'
               go_simp
               with_reducible rfl
              rotate_left
              ·simp only [Act.put, sA, sB, sC, i64_w, i32_w]
               rfl
              refine pure_ (i := 3) (N := some 56) (v := ?_) (a' := ?_) (bb 40 15) rfl rfl (any_of HT_.out (by kernel_rfl)) (fun _ _ _ h => h) (Or.inl ⟨by rfl, ?_⟩) ?_ ?_
              rotate_left
              ·intro w'
               go_simp
               with_reducible rfl
              rotate_left
              ·simp only [Act.put, sA, sB, sC, i64_w, i32_w]
               rfl
              refine pure_ (i := 4) (N := some 57) (v := ?_) (a' := ?_) (bb 40 31) rfl rfl (any_of HT_.out (by kernel_rfl)) (fun _ _ _ h => h) (Or.inl ⟨by rfl, ?_⟩) ?_ ?_
              rotate_left
              ·intro w'
               go_simp
               with_reducible rfl
              rotate_left
              ·simp only [Act.put, sA, sB, sC, i64_w, i32_w]
               rfl
              refine pure_ (i := 5) (N := some 58) (v := ?_) (a' := ?_) (bb 40 63) rfl rfl (any_of HT_.out (by kernel_rfl)) (fun _ _ _ h => h) (Or.inl ⟨by rfl, ?_⟩) ?_ ?_
              rotate_left
              ·intro w'
               go_simp
               with_reducible rfl
              rotate_left
              ·simp only [Act.put, sA, sB, sC, i64_w, i32_w]
               rfl
              refine pure_ (i := 6) (N := some 59) (v := ?_) (a' := ?_) (bb 40 127) rfl rfl (any_of HT_.out (by kernel_rfl)) (fun _ _ _ h => h) (Or.inl ⟨by rfl, ?_⟩) ?_ ?_
              rotate_left
              ·intro w'
               go_simp
               with_reducible rfl
              rotate_left
              ·simp only [Act.put, sA, sB, sC, i64_w, i32_w]
               rfl
              refine pure_ (i := 7) (N := some 60) (v := ?_) (a' := ?_) (bb 40 255) rfl rfl (any_of HT_.out (by kernel_rfl)) (fun _ _ _ h => h) (Or.inl ⟨by rfl, ?_⟩) ?_ ?_
              rotate_left
              ·intro w'
               go_simp
               with_reducible rfl
              rotate_left
              ·simp only [Act.put, sA, sB, sC, i64_w, i32_w]
               rfl
              refine pure_ (i := 8) (N := some 61) (v := ?_) (a' := ?_) (bb 40 511) rfl rfl (any_of HT_.out (by kernel_rfl)) (fun _ _ _ h => h) (Or.inl ⟨by rfl, ?_⟩) ?_ ?_
              rotate_left
              ·intro w'
               go_simp
               with_reducible rfl
              rotate_left
              ·simp only [Act.put, sA, sB, sC, i64_w, i32_w]
               rfl
              refine pure_ (i := 9) (N := some 62) (v := ?_) (a' := ?_) (bb 40 1023) rfl rfl (any_of HT_.out (by kernel_rfl)) (fun _ _ _ h => h) (Or.inl ⟨by rfl, ?_⟩) ?_ ?_
              rotate_left
              ·intro w'
               go_simp
               with_reducible rfl
              rotate_left
              ·simp only [Act.put, sA, sB, sC, i64_w, i32_w]
               rfl
              refine pure_ (i := 11) (N := some 64) (v := ?_) (a' := ?_) (bb 40 3071) rfl rfl (any_of HT_.out (by kernel_rfl)) (fun _ _ _ h => h) (Or.inl ⟨by rfl, ?_⟩) ?_ ?_
              rotate_left
              ·intro w'
               go_simp
               with_reducible rfl
              rotate_left
              ·simp only [Act.put, sA, sB, sC, i64_w, i32_w]
               rfl
              refine pure_ (i := 12) (N := some 65) (v := ?_) (a' := ?_) (bb 40 7167) rfl rfl (any_of HT_.out (by kernel_rfl)) (fun _ _ _ h => h) (Or.inl ⟨by rfl, ?_⟩) ?_ ?_
              rotate_left
              ·intro w'
               go_simp
               with_reducible rfl
              rotate_left
              ·simp only [Act.put, sA, sB, sC, i64_w, i32_w]
               rfl
              refine pure_ (i := 13) (N := some 66) (v := ?_) (a' := ?_) (bb 40 15359) rfl rfl (any_of HT_.out (by kernel_rfl)) (fun _ _ _ h => h) (Or.inl ⟨by rfl, ?_⟩) ?_ ?_
              rotate_left
              ·intro w'
               go_simp
               with_reducible rfl
              rotate_left
              ·simp only [Act.put, sA, sB, sC, i64_w, i32_w]
               rfl
              refine pure_ (i := 14) (N := some 67) (v := ?_) (a' := ?_) (bb 40 31743) rfl rfl (any_of HT_.out (by kernel_rfl)) (fun _ _ _ h => h) (Or.inl ⟨by rfl, ?_⟩) ?_ ?_
              rotate_left
              ·intro w'
               go_simp
               with_reducible rfl
              rotate_left
              ·simp only [Act.put, sA, sB, sC, i64_w, i32_w]
               rfl
              refine take_ (i := 10) (N := some 63) (v := ?_) (a' := ?_) (bb 40 32767) rfl rfl (take_ofW HT_.out HW_.out (by kernel_rfl)) (fun _ _ _ h => h) (Or.inl ⟨by rfl, ?_⟩) hHeld ?_ ?_
              rotate_left
              ·rintro w' ⟨s0, s1, s2, s3, s4, s5⟩
               go_simp
               with_reducible rfl
              rotate_left
              ·simp only [Act.put, sA, sB, sC, i64_w, i32_w]
               rfl
              refine take_ (i := 15) (N := some 68) (v := ?_) (a' := ?_) (bb 40 65535) rfl rfl (take_ofW HT_.out HW_.out (by kernel_rfl)) (fun _ _ _ h => h) (Or.inl ⟨by rfl, ?_⟩) hHeld ?_ ?_
              rotate_left
              ·rintro w' ⟨s0, s1, s2, s3, s4, s5⟩
               go_simp
               with_reducible rfl
              rotate_left
              ·simp only [Act.put, sA, sB, sC, i64_w, i32_w]
               rfl
              refine pure_ (i := 16) (N := some 69) (v := ?_) (a' := ?_) (bb 40 131071) rfl rfl (any_of HT_.out (by kernel_rfl)) (fun _ _ _ h => h) (Or.inl ⟨by rfl, ?_⟩) ?_ ?_
              rotate_left
              ·intro w'
               go_simp
               with_reducible rfl
              rotate_left
              ·simp only [Act.put, sA, sB, sC, i64_w, i32_w]
               rfl
              refine pure_ (i := 17) (N := some 70) (v := ?_) (a' := ?_) (bb 40 262143) rfl rfl (any_of HT_.out (by kernel_rfl)) (fun _ _ _ h => h) (Or.inl ⟨by rfl, ?_⟩) ?_ ?_
              rotate_left
              ·intro w'
               go_simp
               with_reducible rfl
              rotate_left
              ·simp only [Act.put, sA, sB, sC, i64_w, i32_w]
               rfl
              refine pure_ (i := 18) (N := some 71) (v := ?_) (a' := ?_) (bb 40 524287) rfl rfl (any_of HT_.out (by kernel_rfl)) (fun _ _ _ h => h) (Or.inl ⟨by rfl, ?_⟩) ?_ ?_
              rotate_left
              ·intro w'
               go_simp
               with_reducible rfl
              rotate_left
              ·simp only [Act.put, sA, sB, sC, i64_w, i32_w]
               rfl
              refine pure_ (i := 19) (N := some 72) (v := undef) (a' := ?_) (bb 40 1048575) rfl rfl (any_of HT_.out (by kernel_rfl)) (fun _ _ _ h => h) (Or.inr ⟨by rfl, rfl⟩) ?_ ?_
              rotate_left
              ·simp only [Act.put, sA, sB, sC, i64_w, i32_w]
               rfl
              refine pure_ (i := 20) (N := some 73) (v := undef) (a' := ?_) (bb 40 2097151) rfl rfl (any_of HT_.out (by kernel_rfl)) (fun _ _ _ h => h) (Or.inr ⟨by rfl, rfl⟩) ?_ ?_
              rotate_left
              ·simp only [Act.put, sA, sB, sC, i64_w, i32_w]
               rfl
              refine pure_ (i := 21) (N := some 74) (v := undef) (a' := ?_) (bb 40 4194303) rfl rfl (any_of HT_.out (by kernel_rfl)) (fun _ _ _ h => h) (Or.inr ⟨by rfl, rfl⟩) ?_ ?_
              rotate_left
              ·simp only [Act.put, sA, sB, sC, i64_w, i32_w]
               rfl
              refine pure_ (i := 22) (N := some 75) (v := undef) (a' := ?_) (bb 40 8388607) rfl rfl (any_of HT_.out (by kernel_rfl)) (fun _ _ _ h => h) (Or.inr ⟨by rfl, rfl⟩) ?_ ?_
              rotate_left
              ·simp only [Act.put, sA, sB, sC, i64_w, i32_w]
               rfl
              refine pure_ (i := 23) (N := some 76) (v := undef) (a' := ?_) (bb 40 16777215) rfl rfl (any_of HT_.out (by kernel_rfl)) (fun _ _ _ h => h) (Or.inr ⟨by rfl, rfl⟩) ?_ ?_
              rotate_left
              ·simp only [Act.put, sA, sB, sC, i64_w, i32_w]
               rfl
              refine pure_ (i := 24) (N := some 77) (v := undef) (a' := ?_) (bb 40 33554431) rfl rfl (any_of HT_.out (by kernel_rfl)) (fun _ _ _ h => h) (Or.inr ⟨by rfl, rfl⟩) ?_ ?_
              rotate_left
              ·simp only [Act.put, sA, sB, sC, i64_w, i32_w]
               rfl
              refine pure_ (i := 25) (N := some 78) (v := undef) (a' := ?_) (bb 40 67108863) rfl rfl (any_of HT_.out (by kernel_rfl)) (fun _ _ _ h => h) (Or.inr ⟨by rfl, rfl⟩) ?_ ?_
              rotate_left
              ·simp only [Act.put, sA, sB, sC, i64_w, i32_w]
               rfl
              refine pure_ (i := 26) (N := some 79) (v := undef) (a' := ?_) (bb 40 134217727) rfl rfl (any_of HT_.out (by kernel_rfl)) (fun _ _ _ h => h) (Or.inr ⟨by rfl, rfl⟩) ?_ ?_
              rotate_left
              ·simp only [Act.put, sA, sB, sC, i64_w, i32_w]
               rfl
              refine pure_ (i := 27) (N := some 80) (v := ?_) (a' := ?_) (bb 40 268435455) rfl rfl (any_of HT_.out (by kernel_rfl)) (fun _ _ _ h => h) (Or.inl ⟨by rfl, ?_⟩) ?_ ?_
              rotate_left
              ·intro w'
               go_simp
               with_reducible rfl
              rotate_left
              ·simp only [Act.put, sA, sB, sC, i64_w, i32_w]
               rfl
              refine pure_ (i := 28) (N := some 81) (v := ?_) (a' := ?_) (bb 40 536870911) rfl rfl (any_of HT_.out (by kernel_rfl)) (fun _ _ _ h => h) (Or.inl ⟨by rfl, ?_⟩) ?_ ?_
              rotate_left
              ·intro w'
               go_simp
               with_reducible rfl
              rotate_left
              ·simp only [Act.put, sA, sB, sC, i64_w, i32_w]
               rfl
              refine pure_ (i := 29) (N := some 82) (v := ?_) (a' := ?_) (bb 40 1073741823) rfl rfl (any_of HT_.out (by kernel_rfl)) (fun _ _ _ h => h) (Or.inl ⟨by rfl, ?_⟩) ?_ ?_
              rotate_left
              ·intro w'
               go_simp
               with_reducible rfl
              rotate_left
              ·simp only [Act.put, sA, sB, sC, i64_w, i32_w]
               rfl
              refine pure_ (i := 30) (N := some 83) (v := undef) (a' := ?_) (bb 40 2147483647) rfl rfl (any_of HT_.out (by kernel_rfl)) (fun _ _ _ h => h) (Or.inr ⟨by rfl, rfl⟩) ?_ ?_
              rotate_left
              ·simp only [Act.put, sA, sB, sC, i64_w, i32_w]
               rfl
              refine pure_ (i := 31) (N := some 84) (v := undef) (a' := ?_) (bb 40 4294967295) rfl rfl (any_of HT_.out (by kernel_rfl)) (fun _ _ _ h => h) (Or.inr ⟨by rfl, rfl⟩) ?_ ?_
              rotate_left
              ·simp only [Act.put, sA, sB, sC, i64_w, i32_w]
               rfl
              refine pure_ (i := 32) (N := some 85) (v := undef) (a' := ?_) (bb 40 8589934591) rfl rfl (any_of HT_.out (by kernel_rfl)) (fun _ _ _ h => h) (Or.inr ⟨by rfl, rfl⟩) ?_ ?_
              rotate_left
              ·simp only [Act.put, sA, sB, sC, i64_w, i32_w]
               rfl
              refine pure_ (i := 33) (N := some 86) (v := undef) (a' := ?_) (bb 40 17179869183) rfl rfl (any_of HT_.out (by kernel_rfl)) (fun _ _ _ h => h) (Or.inr ⟨by rfl, rfl⟩) ?_ ?_
              rotate_left
              ·simp only [Act.put, sA, sB, sC, i64_w, i32_w]
               rfl
              refine pure_ (i := 34) (N := some 87) (v := undef) (a' := ?_) (bb 40 34359738367) rfl rfl (any_of HT_.out (by kernel_rfl)) (fun _ _ _ h => h) (Or.inr ⟨by rfl, rfl⟩) ?_ ?_
              rotate_left
              ·simp only [Act.put, sA, sB, sC, i64_w, i32_w]
               rfl
              refine pure_ (i := 35) (N := some 88) (v := undef) (a' := ?_) (bb 40 68719476735) rfl rfl (any_of HT_.out (by kernel_rfl)) (fun _ _ _ h => h) (Or.inr ⟨by rfl, rfl⟩) ?_ ?_
              rotate_left
              ·simp only [Act.put, sA, sB, sC, i64_w, i32_w]
               rfl
              refine pure_ (i := 36) (N := some 89) (v := undef) (a' := ?_) (bb 40 137438953471) rfl rfl (any_of HT_.out (by kernel_rfl)) (fun _ _ _ h => h) (Or.inr ⟨by rfl, rfl⟩) ?_ ?_
              rotate_left
              ·simp only [Act.put, sA, sB, sC, i64_w, i32_w]
               rfl
              refine pure_ (i := 37) (N := some 90) (v := undef) (a' := ?_) (bb 40 274877906943) rfl rfl (any_of HT_.out (by kernel_rfl)) (fun _ _ _ h => h) (Or.inr ⟨by rfl, rfl⟩) ?_ ?_
              rotate_left
              ·simp only [Act.put, sA, sB, sC, i64_w, i32_w]
               rfl
              refine pure_ (i := 38) (N := some 91) (v := undef) (a' := ?_) (bb 40 549755813887) rfl rfl (any_of HT_.out (by kernel_rfl)) (fun _ _ _ h => h) (Or.inr ⟨by rfl, rfl⟩) ?_ ?_
              rotate_left
              ·simp only [Act.put, sA, sB, sC, i64_w, i32_w]
               rfl
              refine pure_ (i := 39) (N := some 92) (v := ?_) (a' := ?_) (bb 40 1099511627775) rfl rfl (any_of HT_.out (by kernel_rfl)) (fun _ _ _ h => h) (Or.inl ⟨by rfl, ?_⟩) ?_ ?_
              rotate_left
              ·intro w'
               go_simp
               with_reducible rfl
              rotate_left
              ·simp only [Act.put, sA, sB, sC, i64_w, i32_w]
               rfl
              refine done_ (done_of HT_.out (by kernel_rfl)) ?_
              try go_wp2
              go_meet
              case rel => exact ⟨_, (true), (by first | rfl | (simp; done) | (simp [*]; done)), H', ⟨by have := HK1.out; have := HJ7.out; first | omega | exact Nat.le_refl _⟩, ⟨by (with_reducible repeat (first | apply Kd.R_alloc | apply Kd.R_drewN | apply Kd.R_drew)); exact HO_8.out⟩, ⟨by (with_reducible repeat (first | refine blk_drewN ?_ _ | refine blk_drew ?_ | refine blk_alloc ?_ _)); exact BK210.out⟩, ⟨by repeat (first | (with_reducible first | exact HB.out | apply below_alloc | apply pw_below_drewN | apply below_drew1 | refine below_set ?_ GE210.out) | exact HB.out)⟩⟩
            ·rw [if_neg c35] at H
             exact absurd H (by simp)
           ·rw [if_neg c34] at H
            exact absurd H (by simp)
         ·rw [if_neg c30] at H
          have c30b0 : decide (0 ≤ ((rd_T57 l2 x12_1).f0)) = false := decide_eq_false c30
          clear c30
          (first | rw [c30b0] | (simp only [i64_w, i32_w]; rw [c30b0]) | skip)
          by_cases c47 : ((rd_T57 l2 x12_1).f2) ≥ 0
          ·rw [if_pos c47] at H
           have c47b0 : decide (0 ≤ ((rd_T57 l2 x12_1).f2)) = true := decide_eq_true c47
           clear c47
           have H' := Aside0.mk H
           clear H
           try go_wp2
           have n0_ := Aside0.mk (Kd.R_drew HO_8.out)
           have n1_ := Aside0.mk (blk_drew BK210.out)
           have n2_ := Aside0.mk (below_drew1 HB.out)
           clear HO_8
           clear BK210
           clear HB
           have HO_8 := n0_
           have BK210 := n1_
           have HB := n2_
           clear n0_ n1_ n2_
           refine start_ (n := 40) (S := fun w' => w'.cell? ⟨gb210, 0, none⟩ = some (.int .i64 ((rd_T57 l2 x12_1).f0)) ∧ w'.cell? ⟨gb210, 1, none⟩ = some (.bool ((rd_T57 l2 x12_1).f1)) ∧ w'.cell? ⟨gb210, 2, none⟩ = some (.int .i64 ((rd_T57 l2 x12_1).f2))) (ds := []) (bb 40 0) (by kernel_rfl) rfl rfl ⟨(blk_cell BK210.out 0).trans rfl, (blk_cell BK210.out 1).trans rfl, (blk_cell BK210.out 2).trans rfl⟩ (fun hHeld => ?_); refine with_tabW rAl.tab11 rAl.bits11 (fun HT_ HW_ => ?_)
           generalize wc.drew = w48 at HO_8 BK210 HB hHeld ⊢
           refine pure_ (i := 0) (N := some 53) (v := ?_) (a' := ?_) (bb 40 1) rfl rfl (any_of HT_.out (by kernel_rfl)) (fun _ _ _ h => h) (Or.inl ⟨by rfl, ?_⟩) ?_ ?_
           rotate_left
           ·intro w'
            go_simp
            with_reducible rfl
           rotate_left
           ·simp only [Act.put, sA, sB, sC, i64_w, i32_w]
            rfl
           refine take_ (i := 1) (N := some 54) (v := ?_) (a' := ?_) (bb 40 3) rfl rfl (take_ofW HT_.out HW_.out (by kernel_rfl)) (fun _ _ _ h => h) (Or.inl ⟨by rfl, ?_⟩) hHeld ?_ ?_
           rotate_left
           ·rintro w' ⟨s0, s1, s2⟩
            go_simp
            with_reducible rfl
           rotate_left
           ·simp only [Act.put, sA, sB, sC, i64_w, i32_w]
            rfl
           refine pure_ (i := 2) (N := some 55) (v := ?_) (a' := ?_) (bb 40 7) rfl rfl (any_of HT_.out (by kernel_rfl)) (fun _ _ _ h => h) (Or.inl ⟨by rfl, ?_⟩) ?_ ?_
           rotate_left
           ·intro w'
            go_simp
            with_reducible rfl
           rotate_left
           ·simp only [Act.put, sA, sB, sC, i64_w, i32_w]
            rfl
           refine pure_ (i := 3) (N := some 56) (v := ?_) (a' := ?_) (bb 40 15) rfl rfl (any_of HT_.out (by kernel_rfl)) (fun _ _ _ h => h) (Or.inl ⟨by rfl, ?_⟩) ?_ ?_
           rotate_left
           ·intro w'
            go_simp
            with_reducible rfl
           rotate_left
           ·simp only [Act.put, sA, sB, sC, i64_w, i32_w]
            rfl
           refine pure_ (i := 4) (N := some 57) (v := undef) (a' := ?_) (bb 40 31) rfl rfl (any_of HT_.out (by kernel_rfl)) (fun _ _ _ h => h) (Or.inr ⟨by rfl, rfl⟩) ?_ ?_
           rotate_left
           ·simp only [Act.put, sA, sB, sC, i64_w, i32_w]
            rfl
           refine pure_ (i := 5) (N := some 58) (v := undef) (a' := ?_) (bb 40 63) rfl rfl (any_of HT_.out (by kernel_rfl)) (fun _ _ _ h => h) (Or.inr ⟨by rfl, rfl⟩) ?_ ?_
           rotate_left
           ·simp only [Act.put, sA, sB, sC, i64_w, i32_w]
            rfl
           refine pure_ (i := 6) (N := some 59) (v := undef) (a' := ?_) (bb 40 127) rfl rfl (any_of HT_.out (by kernel_rfl)) (fun _ _ _ h => h) (Or.inr ⟨by rfl, rfl⟩) ?_ ?_
           rotate_left
           ·simp only [Act.put, sA, sB, sC, i64_w, i32_w]
            rfl
           refine pure_ (i := 7) (N := some 60) (v := undef) (a' := ?_) (bb 40 255) rfl rfl (any_of HT_.out (by kernel_rfl)) (fun _ _ _ h => h) (Or.inr ⟨by rfl, rfl⟩) ?_ ?_
           rotate_left
           ·simp only [Act.put, sA, sB, sC, i64_w, i32_w]
            rfl
           refine pure_ (i := 8) (N := some 61) (v := undef) (a' := ?_) (bb 40 511) rfl rfl (any_of HT_.out (by kernel_rfl)) (fun _ _ _ h => h) (Or.inr ⟨by rfl, rfl⟩) ?_ ?_
           rotate_left
           ·simp only [Act.put, sA, sB, sC, i64_w, i32_w]
            rfl
           refine pure_ (i := 9) (N := some 62) (v := undef) (a' := ?_) (bb 40 1023) rfl rfl (any_of HT_.out (by kernel_rfl)) (fun _ _ _ h => h) (Or.inr ⟨by rfl, rfl⟩) ?_ ?_
           rotate_left
           ·simp only [Act.put, sA, sB, sC, i64_w, i32_w]
            rfl
           refine pure_ (i := 10) (N := some 63) (v := undef) (a' := ?_) (bb 40 2047) rfl rfl (any_of HT_.out (by kernel_rfl)) (fun _ _ _ h => h) (Or.inr ⟨by rfl, rfl⟩) ?_ ?_
           rotate_left
           ·simp only [Act.put, sA, sB, sC, i64_w, i32_w]
            rfl
           refine pure_ (i := 11) (N := some 64) (v := undef) (a' := ?_) (bb 40 4095) rfl rfl (any_of HT_.out (by kernel_rfl)) (fun _ _ _ h => h) (Or.inr ⟨by rfl, rfl⟩) ?_ ?_
           rotate_left
           ·simp only [Act.put, sA, sB, sC, i64_w, i32_w]
            rfl
           refine pure_ (i := 12) (N := some 65) (v := undef) (a' := ?_) (bb 40 8191) rfl rfl (any_of HT_.out (by kernel_rfl)) (fun _ _ _ h => h) (Or.inr ⟨by rfl, rfl⟩) ?_ ?_
           rotate_left
           ·simp only [Act.put, sA, sB, sC, i64_w, i32_w]
            rfl
           refine pure_ (i := 13) (N := some 66) (v := undef) (a' := ?_) (bb 40 16383) rfl rfl (any_of HT_.out (by kernel_rfl)) (fun _ _ _ h => h) (Or.inr ⟨by rfl, rfl⟩) ?_ ?_
           rotate_left
           ·simp only [Act.put, sA, sB, sC, i64_w, i32_w]
            rfl
           refine pure_ (i := 14) (N := some 67) (v := undef) (a' := ?_) (bb 40 32767) rfl rfl (any_of HT_.out (by kernel_rfl)) (fun _ _ _ h => h) (Or.inr ⟨by rfl, rfl⟩) ?_ ?_
           rotate_left
           ·simp only [Act.put, sA, sB, sC, i64_w, i32_w]
            rfl
           refine pure_ (i := 15) (N := some 68) (v := undef) (a' := ?_) (bb 40 65535) rfl rfl (any_of HT_.out (by kernel_rfl)) (fun _ _ _ h => h) (Or.inr ⟨by rfl, rfl⟩) ?_ ?_
           rotate_left
           ·simp only [Act.put, sA, sB, sC, i64_w, i32_w]
            rfl
           refine pure_ (i := 16) (N := some 69) (v := undef) (a' := ?_) (bb 40 131071) rfl rfl (any_of HT_.out (by kernel_rfl)) (fun _ _ _ h => h) (Or.inr ⟨by rfl, rfl⟩) ?_ ?_
           rotate_left
           ·simp only [Act.put, sA, sB, sC, i64_w, i32_w]
            rfl
           refine pure_ (i := 17) (N := some 70) (v := undef) (a' := ?_) (bb 40 262143) rfl rfl (any_of HT_.out (by kernel_rfl)) (fun _ _ _ h => h) (Or.inr ⟨by rfl, rfl⟩) ?_ ?_
           rotate_left
           ·simp only [Act.put, sA, sB, sC, i64_w, i32_w]
            rfl
           refine pure_ (i := 18) (N := some 71) (v := undef) (a' := ?_) (bb 40 524287) rfl rfl (any_of HT_.out (by kernel_rfl)) (fun _ _ _ h => h) (Or.inr ⟨by rfl, rfl⟩) ?_ ?_
           rotate_left
           ·simp only [Act.put, sA, sB, sC, i64_w, i32_w]
            rfl
           refine pure_ (i := 19) (N := some 72) (v := undef) (a' := ?_) (bb 40 1048575) rfl rfl (any_of HT_.out (by kernel_rfl)) (fun _ _ _ h => h) (Or.inr ⟨by rfl, rfl⟩) ?_ ?_
           rotate_left
           ·simp only [Act.put, sA, sB, sC, i64_w, i32_w]
            rfl
           refine pure_ (i := 20) (N := some 73) (v := undef) (a' := ?_) (bb 40 2097151) rfl rfl (any_of HT_.out (by kernel_rfl)) (fun _ _ _ h => h) (Or.inr ⟨by rfl, rfl⟩) ?_ ?_
           rotate_left
           ·simp only [Act.put, sA, sB, sC, i64_w, i32_w]
            rfl
           refine pure_ (i := 21) (N := some 74) (v := undef) (a' := ?_) (bb 40 4194303) rfl rfl (any_of HT_.out (by kernel_rfl)) (fun _ _ _ h => h) (Or.inr ⟨by rfl, rfl⟩) ?_ ?_
           rotate_left
           ·simp only [Act.put, sA, sB, sC, i64_w, i32_w]
            rfl
           refine pure_ (i := 22) (N := some 75) (v := undef) (a' := ?_) (bb 40 8388607) rfl rfl (any_of HT_.out (by kernel_rfl)) (fun _ _ _ h => h) (Or.inr ⟨by rfl, rfl⟩) ?_ ?_
           rotate_left
           ·simp only [Act.put, sA, sB, sC, i64_w, i32_w]
            rfl
           refine pure_ (i := 23) (N := some 76) (v := undef) (a' := ?_) (bb 40 16777215) rfl rfl (any_of HT_.out (by kernel_rfl)) (fun _ _ _ h => h) (Or.inr ⟨by rfl, rfl⟩) ?_ ?_
           rotate_left
           ·simp only [Act.put, sA, sB, sC, i64_w, i32_w]
            rfl
           refine pure_ (i := 24) (N := some 77) (v := undef) (a' := ?_) (bb 40 33554431) rfl rfl (any_of HT_.out (by kernel_rfl)) (fun _ _ _ h => h) (Or.inr ⟨by rfl, rfl⟩) ?_ ?_
           rotate_left
           ·simp only [Act.put, sA, sB, sC, i64_w, i32_w]
            rfl
           refine pure_ (i := 25) (N := some 78) (v := undef) (a' := ?_) (bb 40 67108863) rfl rfl (any_of HT_.out (by kernel_rfl)) (fun _ _ _ h => h) (Or.inr ⟨by rfl, rfl⟩) ?_ ?_
           rotate_left
           ·simp only [Act.put, sA, sB, sC, i64_w, i32_w]
            rfl
           refine pure_ (i := 26) (N := some 79) (v := undef) (a' := ?_) (bb 40 134217727) rfl rfl (any_of HT_.out (by kernel_rfl)) (fun _ _ _ h => h) (Or.inr ⟨by rfl, rfl⟩) ?_ ?_
           rotate_left
           ·simp only [Act.put, sA, sB, sC, i64_w, i32_w]
            rfl
           refine pure_ (i := 27) (N := some 80) (v := undef) (a' := ?_) (bb 40 268435455) rfl rfl (any_of HT_.out (by kernel_rfl)) (fun _ _ _ h => h) (Or.inr ⟨by rfl, rfl⟩) ?_ ?_
           rotate_left
           ·simp only [Act.put, sA, sB, sC, i64_w, i32_w]
            rfl
           refine pure_ (i := 28) (N := some 81) (v := ?_) (a' := ?_) (bb 40 536870911) rfl rfl (any_of HT_.out (by kernel_rfl)) (fun _ _ _ h => h) (Or.inl ⟨by rfl, ?_⟩) ?_ ?_
           rotate_left
           ·intro w'
            go_simp
            with_reducible rfl
           rotate_left
           ·simp only [Act.put, sA, sB, sC, i64_w, i32_w]
            rfl
           refine pure_ (i := 29) (N := some 82) (v := ?_) (a' := ?_) (bb 40 1073741823) rfl rfl (any_of HT_.out (by kernel_rfl)) (fun _ _ _ h => h) (Or.inl ⟨by rfl, ?_⟩) ?_ ?_
           rotate_left
           ·intro w'
            go_simp
            with_reducible rfl
           rotate_left
           ·simp only [Act.put, sA, sB, sC, i64_w, i32_w]
            rfl
           refine pure_ (i := 30) (N := some 83) (v := ?_) (a' := ?_) (bb 40 2147483647) rfl rfl (any_of HT_.out (by kernel_rfl)) (fun _ _ _ h => h) (Or.inl ⟨by rfl, ?_⟩) ?_ ?_
           rotate_left
           ·intro w'
            go_simp
            with_reducible rfl
           rotate_left
           ·simp only [Act.put, sA, sB, sC, i64_w, i32_w]
            rfl
           refine take_ (i := 31) (N := some 84) (v := ?_) (a' := ?_) (bb 40 4294967295) rfl rfl (take_ofW HT_.out HW_.out (by kernel_rfl)) (fun _ _ _ h => h) (Or.inl ⟨by rfl, ?_⟩) hHeld ?_ ?_
           rotate_left
           ·rintro w' ⟨s0, s1, s2⟩
            go_simp
            with_reducible rfl
           rotate_left
           ·simp only [Act.put, sA, sB, sC, i64_w, i32_w]
            rfl
           refine pure_ (i := 32) (N := some 85) (v := ?_) (a' := ?_) (bb 40 8589934591) rfl rfl (any_of HT_.out (by kernel_rfl)) (fun _ _ _ h => h) (Or.inl ⟨by rfl, ?_⟩) ?_ ?_
           rotate_left
           ·intro w'
            go_simp
            with_reducible rfl
           rotate_left
           ·simp only [Act.put, sA, sB, sC, i64_w, i32_w]
            rfl
           refine pure_ (i := 33) (N := some 86) (v := ?_) (a' := ?_) (bb 40 17179869183) rfl rfl (any_of HT_.out (by kernel_rfl)) (fun _ _ _ h => h) (Or.inl ⟨by rfl, ?_⟩) ?_ ?_
           rotate_left
           ·intro w'
            go_simp
            with_reducible rfl
           rotate_left
           ·simp only [Act.put, sA, sB, sC, i64_w, i32_w]
            rfl
           refine pure_ (i := 34) (N := some 87) (v := ?_) (a' := ?_) (bb 40 34359738367) rfl rfl (any_of HT_.out (by kernel_rfl)) (fun _ _ _ h => h) (Or.inl ⟨by rfl, ?_⟩) ?_ ?_
           rotate_left
           ·intro w'
            go_simp
            with_reducible rfl
           rotate_left
           ·simp only [Act.put, sA, sB, sC, i64_w, i32_w]
            rfl
           refine pure_ (i := 36) (N := some 89) (v := ?_) (a' := ?_) (bb 40 103079215103) rfl rfl (any_of HT_.out (by kernel_rfl)) (fun _ _ _ h => h) (Or.inl ⟨by rfl, ?_⟩) ?_ ?_
           rotate_left
           ·intro w'
            go_simp
            with_reducible rfl
           rotate_left
           ·simp only [Act.put, sA, sB, sC, i64_w, i32_w]
            rfl
           refine take_ (i := 35) (N := some 88) (v := ?_) (a' := ?_) (bb 40 137438953471) rfl rfl (take_ofW HT_.out HW_.out (by kernel_rfl)) (fun _ _ _ h => h) (Or.inl ⟨by rfl, ?_⟩) hHeld ?_ ?_
           rotate_left
           ·rintro w' ⟨s0, s1, s2⟩
            go_simp
            with_reducible rfl
           rotate_left
           ·simp only [Act.put, sA, sB, sC, i64_w, i32_w]
            rfl
           refine pure_ (i := 37) (N := some 90) (v := ?_) (a' := ?_) (bb 40 274877906943) rfl rfl (any_of HT_.out (by kernel_rfl)) (fun _ _ _ h => h) (Or.inl ⟨by rfl, ?_⟩) ?_ ?_
           rotate_left
           ·intro w'
            go_simp
            with_reducible rfl
           rotate_left
           ·simp only [Act.put, sA, sB, sC, i64_w, i32_w]
            rfl
           refine pure_ (i := 38) (N := some 91) (v := ?_) (a' := ?_) (bb 40 549755813887) rfl rfl (any_of HT_.out (by kernel_rfl)) (fun _ _ _ h => h) (Or.inl ⟨by rfl, ?_⟩) ?_ ?_
           rotate_left
           ·intro w'
            go_simp
            with_reducible rfl
           rotate_left
           ·simp only [Act.put, sA, sB, sC, i64_w, i32_w]
            rfl
           refine pure_ (i := 39) (N := some 92) (v := ?_) (a' := ?_) (bb 40 1099511627775) rfl rfl (any_of HT_.out (by kernel_rfl)) (fun _ _ _ h => h) (Or.inl ⟨by rfl, ?_⟩) ?_ ?_
           rotate_left
           ·intro w'
            go_simp
            with_reducible rfl
           rotate_left
           ·simp only [Act.put, sA, sB, sC, i64_w, i32_w]
            rfl
           refine done_ (done_of HT_.out (by kernel_rfl)) ?_
           try go_wp2
           go_meet
           case rel => exact ⟨_, ((((rd_T57 l2 x12_1).f2) != x10_1)), (by first | rfl | (simp; done) | (simp [*]; done)), H', ⟨by have := HK1.out; have := HJ7.out; first | omega | exact Nat.le_refl _⟩, ⟨by (with_reducible repeat (first | apply Kd.R_alloc | apply Kd.R_drewN | apply Kd.R_drew)); exact HO_8.out⟩, ⟨by (with_reducible repeat (first | refine blk_drewN ?_ _ | refine blk_drew ?_ | refine blk_alloc ?_ _)); exact BK210.out⟩, ⟨by repeat (first | (with_reducible first | exact HB.out | apply below_alloc | apply pw_below_drewN | apply below_drew1 | refine below_set ?_ GE210.out) | exact HB.out)⟩⟩
          ·rw [if_neg c47] at H
           have c47b0 : decide (0 ≤ ((rd_T57 l2 x12_1).f2)) = false := decide_eq_false c47
           clear c47
           have H' := Aside0.mk H
           clear H
           try go_wp2
           have n0_ := Aside0.mk (Kd.R_drew HO_8.out)
           have n1_ := Aside0.mk (blk_drew BK210.out)
           have n2_ := Aside0.mk (below_drew1 HB.out)
           clear HO_8
           clear BK210
           clear HB
           have HO_8 := n0_
           have BK210 := n1_
           have HB := n2_
           clear n0_ n1_ n2_
           refine start_ (n := 40) (S := fun w' => w'.cell? ⟨gb210, 0, none⟩ = some (.int .i64 ((rd_T57 l2 x12_1).f0)) ∧ w'.cell? ⟨gb210, 1, none⟩ = some (.bool ((rd_T57 l2 x12_1).f1)) ∧ w'.cell? ⟨gb210, 2, none⟩ = some (.int .i64 ((rd_T57 l2 x12_1).f2))) (ds := []) (bb 40 0) (by kernel_rfl) rfl rfl ⟨(blk_cell BK210.out 0).trans rfl, (blk_cell BK210.out 1).trans rfl, (blk_cell BK210.out 2).trans rfl⟩ (fun hHeld => ?_); refine with_tabW rAl.tab11 rAl.bits11 (fun HT_ HW_ => ?_)
           generalize wc.drew = w49 at HO_8 BK210 HB hHeld ⊢
           refine pure_ (i := 0) (N := some 53) (v := ?_) (a' := ?_) (bb 40 1) rfl rfl (any_of HT_.out (by kernel_rfl)) (fun _ _ _ h => h) (Or.inl ⟨by rfl, ?_⟩) ?_ ?_
           rotate_left
           ·intro w'
            go_simp
            with_reducible rfl
           rotate_left
           ·simp only [Act.put, sA, sB, sC, i64_w, i32_w]
            rfl
           refine take_ (i := 1) (N := some 54) (v := ?_) (a' := ?_) (bb 40 3) rfl rfl (take_ofW HT_.out HW_.out (by kernel_rfl)) (fun _ _ _ h => h) (Or.inl ⟨by rfl, ?_⟩) hHeld ?_ ?_
           rotate_left
           ·rintro w' ⟨s0, s1, s2⟩
            go_simp
            with_reducible rfl
           rotate_left
           ·simp only [Act.put, sA, sB, sC, i64_w, i32_w]
            rfl
           refine pure_ (i := 2) (N := some 55) (v := ?_) (a' := ?_) (bb 40 7) rfl rfl (any_of HT_.out (by kernel_rfl)) (fun _ _ _ h => h) (Or.inl ⟨by rfl, ?_⟩) ?_ ?_
           rotate_left
           ·intro w'
            go_simp
            with_reducible rfl
           rotate_left
           ·simp only [Act.put, sA, sB, sC, i64_w, i32_w]
            rfl
           refine pure_ (i := 3) (N := some 56) (v := ?_) (a' := ?_) (bb 40 15) rfl rfl (any_of HT_.out (by kernel_rfl)) (fun _ _ _ h => h) (Or.inl ⟨by rfl, ?_⟩) ?_ ?_
           rotate_left
           ·intro w'
            go_simp
            with_reducible rfl
           rotate_left
           ·simp only [Act.put, sA, sB, sC, i64_w, i32_w]
            rfl
           refine pure_ (i := 4) (N := some 57) (v := undef) (a' := ?_) (bb 40 31) rfl rfl (any_of HT_.out (by kernel_rfl)) (fun _ _ _ h => h) (Or.inr ⟨by rfl, rfl⟩) ?_ ?_
           rotate_left
           ·simp only [Act.put, sA, sB, sC, i64_w, i32_w]
            rfl
           refine pure_ (i := 5) (N := some 58) (v := undef) (a' := ?_) (bb 40 63) rfl rfl (any_of HT_.out (by kernel_rfl)) (fun _ _ _ h => h) (Or.inr ⟨by rfl, rfl⟩) ?_ ?_
           rotate_left
           ·simp only [Act.put, sA, sB, sC, i64_w, i32_w]
            rfl
           refine pure_ (i := 6) (N := some 59) (v := undef) (a' := ?_) (bb 40 127) rfl rfl (any_of HT_.out (by kernel_rfl)) (fun _ _ _ h => h) (Or.inr ⟨by rfl, rfl⟩) ?_ ?_
           rotate_left
           ·simp only [Act.put, sA, sB, sC, i64_w, i32_w]
            rfl
           refine pure_ (i := 7) (N := some 60) (v := undef) (a' := ?_) (bb 40 255) rfl rfl (any_of HT_.out (by kernel_rfl)) (fun _ _ _ h => h) (Or.inr ⟨by rfl, rfl⟩) ?_ ?_
           rotate_left
           ·simp only [Act.put, sA, sB, sC, i64_w, i32_w]
            rfl
           refine pure_ (i := 8) (N := some 61) (v := undef) (a' := ?_) (bb 40 511) rfl rfl (any_of HT_.out (by kernel_rfl)) (fun _ _ _ h => h) (Or.inr ⟨by rfl, rfl⟩) ?_ ?_
           rotate_left
           ·simp only [Act.put, sA, sB, sC, i64_w, i32_w]
            rfl
           refine pure_ (i := 9) (N := some 62) (v := undef) (a' := ?_) (bb 40 1023) rfl rfl (any_of HT_.out (by kernel_rfl)) (fun _ _ _ h => h) (Or.inr ⟨by rfl, rfl⟩) ?_ ?_
           rotate_left
           ·simp only [Act.put, sA, sB, sC, i64_w, i32_w]
            rfl
           refine pure_ (i := 10) (N := some 63) (v := undef) (a' := ?_) (bb 40 2047) rfl rfl (any_of HT_.out (by kernel_rfl)) (fun _ _ _ h => h) (Or.inr ⟨by rfl, rfl⟩) ?_ ?_
           rotate_left
           ·simp only [Act.put, sA, sB, sC, i64_w, i32_w]
            rfl
           refine pure_ (i := 11) (N := some 64) (v := undef) (a' := ?_) (bb 40 4095) rfl rfl (any_of HT_.out (by kernel_rfl)) (fun _ _ _ h => h) (Or.inr ⟨by rfl, rfl⟩) ?_ ?_
           rotate_left
           ·simp only [Act.put, sA, sB, sC, i64_w, i32_w]
            rfl
           refine pure_ (i := 12) (N := some 65) (v := undef) (a' := ?_) (bb 40 8191) rfl rfl (any_of HT_.out (by kernel_rfl)) (fun _ _ _ h => h) (Or.inr ⟨by rfl, rfl⟩) ?_ ?_
           rotate_left
           ·simp only [Act.put, sA, sB, sC, i64_w, i32_w]
            rfl
           refine pure_ (i := 13) (N := some 66) (v := undef) (a' := ?_) (bb 40 16383) rfl rfl (any_of HT_.out (by kernel_rfl)) (fun _ _ _ h => h) (Or.inr ⟨by rfl, rfl⟩) ?_ ?_
           rotate_left
           ·simp only [Act.put, sA, sB, sC, i64_w, i32_w]
            rfl
           refine pure_ (i := 14) (N := some 67) (v := undef) (a' := ?_) (bb 40 32767) rfl rfl (any_of HT_.out (by kernel_rfl)) (fun _ _ _ h => h) (Or.inr ⟨by rfl, rfl⟩) ?_ ?_
           rotate_left
           ·simp only [Act.put, sA, sB, sC, i64_w, i32_w]
            rfl
           refine pure_ (i := 15) (N := some 68) (v := undef) (a' := ?_) (bb 40 65535) rfl rfl (any_of HT_.out (by kernel_rfl)) (fun _ _ _ h => h) (Or.inr ⟨by rfl, rfl⟩) ?_ ?_
           rotate_left
           ·simp only [Act.put, sA, sB, sC, i64_w, i32_w]
            rfl
           refine pure_ (i := 16) (N := some 69) (v := undef) (a' := ?_) (bb 40 131071) rfl rfl (any_of HT_.out (by kernel_rfl)) (fun _ _ _ h => h) (Or.inr ⟨by rfl, rfl⟩) ?_ ?_
           rotate_left
           ·simp only [Act.put, sA, sB, sC, i64_w, i32_w]
            rfl
           refine pure_ (i := 17) (N := some 70) (v := undef) (a' := ?_) (bb 40 262143) rfl rfl (any_of HT_.out (by kernel_rfl)) (fun _ _ _ h => h) (Or.inr ⟨by rfl, rfl⟩) ?_ ?_
           rotate_left
           ·simp only [Act.put, sA, sB, sC, i64_w, i32_w]
            rfl
           refine pure_ (i := 18) (N := some 71) (v := undef) (a' := ?_) (bb 40 524287) rfl rfl (any_of HT_.out (by kernel_rfl)) (fun _ _ _ h => h) (Or.inr ⟨by rfl, rfl⟩) ?_ ?_
           rotate_left
           ·simp only [Act.put, sA, sB, sC, i64_w, i32_w]
            rfl
           refine pure_ (i := 19) (N := some 72) (v := undef) (a' := ?_) (bb 40 1048575) rfl rfl (any_of HT_.out (by kernel_rfl)) (fun _ _ _ h => h) (Or.inr ⟨by rfl, rfl⟩) ?_ ?_
           rotate_left
           ·simp only [Act.put, sA, sB, sC, i64_w, i32_w]
            rfl
           refine pure_ (i := 20) (N := some 73) (v := undef) (a' := ?_) (bb 40 2097151) rfl rfl (any_of HT_.out (by kernel_rfl)) (fun _ _ _ h => h) (Or.inr ⟨by rfl, rfl⟩) ?_ ?_
           rotate_left
           ·simp only [Act.put, sA, sB, sC, i64_w, i32_w]
            rfl
           refine pure_ (i := 21) (N := some 74) (v := undef) (a' := ?_) (bb 40 4194303) rfl rfl (any_of HT_.out (by kernel_rfl)) (fun _ _ _ h => h) (Or.inr ⟨by rfl, rfl⟩) ?_ ?_
           rotate_left
           ·simp only [Act.put, sA, sB, sC, i64_w, i32_w]
            rfl
           refine pure_ (i := 22) (N := some 75) (v := undef) (a' := ?_) (bb 40 8388607) rfl rfl (any_of HT_.out (by kernel_rfl)) (fun _ _ _ h => h) (Or.inr ⟨by rfl, rfl⟩) ?_ ?_
           rotate_left
           ·simp only [Act.put, sA, sB, sC, i64_w, i32_w]
            rfl
           refine pure_ (i := 23) (N := some 76) (v := undef) (a' := ?_) (bb 40 16777215) rfl rfl (any_of HT_.out (by kernel_rfl)) (fun _ _ _ h => h) (Or.inr ⟨by rfl, rfl⟩) ?_ ?_
           rotate_left
           ·simp only [Act.put, sA, sB, sC, i64_w, i32_w]
            rfl
           refine pure_ (i := 24) (N := some 77) (v := undef) (a' := ?_) (bb 40 33554431) rfl rfl (any_of HT_.out (by kernel_rfl)) (fun _ _ _ h => h) (Or.inr ⟨by rfl, rfl⟩) ?_ ?_
           rotate_left
           ·simp only [Act.put, sA, sB, sC, i64_w, i32_w]
            rfl
           refine pure_ (i := 25) (N := some 78) (v := undef) (a' := ?_) (bb 40 67108863) rfl rfl (any_of HT_.out (by kernel_rfl)) (fun _ _ _ h => h) (Or.inr ⟨by rfl, rfl⟩) ?_ ?_
           rotate_left
           ·simp only [Act.put, sA, sB, sC, i64_w, i32_w]
            rfl
           refine pure_ (i := 26) (N := some 79) (v := undef) (a' := ?_) (bb 40 134217727) rfl rfl (any_of HT_.out (by kernel_rfl)) (fun _ _ _ h => h) (Or.inr ⟨by rfl, rfl⟩) ?_ ?_
           rotate_left
           ·simp only [Act.put, sA, sB, sC, i64_w, i32_w]
            rfl
           refine pure_ (i := 27) (N := some 80) (v := undef) (a' := ?_) (bb 40 268435455) rfl rfl (any_of HT_.out (by kernel_rfl)) (fun _ _ _ h => h) (Or.inr ⟨by rfl, rfl⟩) ?_ ?_
           rotate_left
           ·simp only [Act.put, sA, sB, sC, i64_w, i32_w]
            rfl
           refine pure_ (i := 28) (N := some 81) (v := ?_) (a' := ?_) (bb 40 536870911) rfl rfl (any_of HT_.out (by kernel_rfl)) (fun _ _ _ h => h) (Or.inl ⟨by rfl, ?_⟩) ?_ ?_
           rotate_left
           ·intro w'
            go_simp
            with_reducible rfl
           rotate_left
           ·simp only [Act.put, sA, sB, sC, i64_w, i32_w]
            rfl
           refine pure_ (i := 29) (N := some 82) (v := ?_) (a' := ?_) (bb 40 1073741823) rfl rfl (any_of HT_.out (by kernel_rfl)) (fun _ _ _ h => h) (Or.inl ⟨by rfl, ?_⟩) ?_ ?_
           rotate_left
           ·intro w'
            go_simp
            with_reducible rfl
           rotate_left
           ·simp only [Act.put, sA, sB, sC, i64_w, i32_w]
            rfl
           refine pure_ (i := 30) (N := some 83) (v := ?_) (a' := ?_) (bb 40 2147483647) rfl rfl (any_of HT_.out (by kernel_rfl)) (fun _ _ _ h => h) (Or.inl ⟨by rfl, ?_⟩) ?_ ?_
           rotate_left
           ·intro w'
            go_simp
            with_reducible rfl
           rotate_left
           ·simp only [Act.put, sA, sB, sC, i64_w, i32_w]
            rfl
           refine take_ (i := 31) (N := some 84) (v := ?_) (a' := ?_) (bb 40 4294967295) rfl rfl (take_ofW HT_.out HW_.out (by kernel_rfl)) (fun _ _ _ h => h) (Or.inl ⟨by rfl, ?_⟩) hHeld ?_ ?_
           rotate_left
           ·rintro w' ⟨s0, s1, s2⟩
            go_simp
            with_reducible rfl
           rotate_left
           ·simp only [Act.put, sA, sB, sC, i64_w, i32_w]
            rfl
           refine pure_ (i := 32) (N := some 85) (v := ?_) (a' := ?_) (bb 40 8589934591) rfl rfl (any_of HT_.out (by kernel_rfl)) (fun _ _ _ h => h) (Or.inl ⟨by rfl, ?_⟩) ?_ ?_
           rotate_left
           ·intro w'
            go_simp
            with_reducible rfl
           rotate_left
           ·simp only [Act.put, sA, sB, sC, i64_w, i32_w]
            rfl
           refine pure_ (i := 33) (N := some 86) (v := ?_) (a' := ?_) (bb 40 17179869183) rfl rfl (any_of HT_.out (by kernel_rfl)) (fun _ _ _ h => h) (Or.inl ⟨by rfl, ?_⟩) ?_ ?_
           rotate_left
           ·intro w'
            go_simp
            with_reducible rfl
           rotate_left
           ·simp only [Act.put, sA, sB, sC, i64_w, i32_w]
            rfl
           refine pure_ (i := 34) (N := some 87) (v := undef) (a' := ?_) (bb 40 34359738367) rfl rfl (any_of HT_.out (by kernel_rfl)) (fun _ _ _ h => h) (Or.inr ⟨by rfl, rfl⟩) ?_ ?_
           rotate_left
           ·simp only [Act.put, sA, sB, sC, i64_w, i32_w]
            rfl
           refine pure_ (i := 35) (N := some 88) (v := undef) (a' := ?_) (bb 40 68719476735) rfl rfl (any_of HT_.out (by kernel_rfl)) (fun _ _ _ h => h) (Or.inr ⟨by rfl, rfl⟩) ?_ ?_
           rotate_left
           ·simp only [Act.put, sA, sB, sC, i64_w, i32_w]
            rfl
           refine pure_ (i := 36) (N := some 89) (v := undef) (a' := ?_) (bb 40 137438953471) rfl rfl (any_of HT_.out (by kernel_rfl)) (fun _ _ _ h => h) (Or.inr ⟨by rfl, rfl⟩) ?_ ?_
           rotate_left
           ·simp only [Act.put, sA, sB, sC, i64_w, i32_w]
            rfl
           refine pure_ (i := 37) (N := some 90) (v := undef) (a' := ?_) (bb 40 274877906943) rfl rfl (any_of HT_.out (by kernel_rfl)) (fun _ _ _ h => h) (Or.inr ⟨by rfl, rfl⟩) ?_ ?_
           rotate_left
           ·simp only [Act.put, sA, sB, sC, i64_w, i32_w]
            rfl
           refine pure_ (i := 38) (N := some 91) (v := ?_) (a' := ?_) (bb 40 549755813887) rfl rfl (any_of HT_.out (by kernel_rfl)) (fun _ _ _ h => h) (Or.inl ⟨by rfl, ?_⟩) ?_ ?_
           rotate_left
           ·intro w'
            go_simp
            with_reducible rfl
           rotate_left
           ·simp only [Act.put, sA, sB, sC, i64_w, i32_w]
            rfl
           refine pure_ (i := 39) (N := some 92) (v := ?_) (a' := ?_) (bb 40 1099511627775) rfl rfl (any_of HT_.out (by kernel_rfl)) (fun _ _ _ h => h) (Or.inl ⟨by rfl, ?_⟩) ?_ ?_
           rotate_left
           ·intro w'
            go_simp
            with_reducible rfl
           rotate_left
           ·simp only [Act.put, sA, sB, sC, i64_w, i32_w]
            rfl
           refine done_ (done_of HT_.out (by kernel_rfl)) ?_
           try go_wp2
           go_meet
           case rel => exact ⟨_, (false), (by first | rfl | (simp; done) | (simp [*]; done)), H', ⟨by have := HK1.out; have := HJ7.out; first | omega | exact Nat.le_refl _⟩, ⟨by (with_reducible repeat (first | apply Kd.R_alloc | apply Kd.R_drewN | apply Kd.R_drew)); exact HO_8.out⟩, ⟨by (with_reducible repeat (first | refine blk_drewN ?_ _ | refine blk_drew ?_ | refine blk_alloc ?_ _)); exact BK210.out⟩, ⟨by repeat (first | (with_reducible first | exact HB.out | apply below_alloc | apply pw_below_drewN | apply below_drew1 | refine below_set ?_ GE210.out) | exact HB.out)⟩⟩
        case rest =>
         clear HC29
         try clear p2
         try clear c3
         try clear c4
         try clear c30
         try clear c30b0
         try clear c34
         try clear c35
         try clear c47
         try clear c47b0
         obtain ⟨kq, x92_28, rfl, HA, HJ28, HO_8, BK210, HB⟩ := hcut
         cases kq with
         | zero => exact absurd HA.out (by simp [rAl.j2])
         | succ kj28 =>
          have H := HA.out
          clear HA
          simp only [rAl.j2] at H
          by_cases c50 : x92_28 = true
          ·subst c50
           have H1 : (some (0, false)) = some (r1, r2) := by rw [if_pos rfl] at H; exact H
           clear H
           have H := H1
           clear H1
           simp only [Option.some.injEq, Prod.mk.injEq] at H
           obtain ⟨rfl, rfl⟩ := H
           go_wp2
           go_ret2
           exact ⟨by first | rfl | (simp [errW_none, errW_some] <;> rfl) | (simp [*, errW_none, errW_some] <;> rfl), by repeat (first | (with_reducible first | exact HB.out | apply below_alloc | apply pw_below_drewN | apply below_drew1 | refine below_set ?_ GE210.out) | exact HB.out)⟩
          ·replace c50 := Bool.eq_false_iff.mpr c50
           subst c50
           have H1 : (if ((rd_T57 l2 x12_1).f2) ≥ 0 then (rAl.j3 kj28 l1 l2 t206 x9_1 x10_1 x11_1 x12_1 (decide (x10_1 ≥ (l1.length : Int))) ((rd_T57 l2 x12_1).f0) ((rd_T57 l2 x12_1).f1) ((rd_T57 l2 x12_1).f2)) else (rAl.j3 kj28 l1 l2 t206 x9_1 x10_1 x11_1 x12_1 false ((rd_T57 l2 x12_1).f0) ((rd_T57 l2 x12_1).f1) ((rd_T57 l2 x12_1).f2))) = some (r1, r2) := by rw [if_neg (show ¬ (false = true) by decide)] at H; exact H
           clear H
           have H := H1
           clear H1
           have HC51 := Aside0.mk H
           clear H
           go_upto_region 13 with (fail)
           go_cut [101] (fun v101 wc => ∃ (kq : Nat) (x101_50 : Bool), v101 = .bool x101_50 ∧ Aside0 (rAl.j3 kq l1 l2 t206 x9_1 x10_1 x11_1 x12_1 x101_50 ((rd_T57 l2 x12_1).f0) ((rd_T57 l2 x12_1).f1) ((rd_T57 l2 x12_1).f2) = some (r1, r2)) ∧ Aside0 (kq ≤ kj28) ∧ Aside0 (Kd.R k43 43 wc w.heap.size (fun _ => True) v207 t206) ∧ Aside0 (wc.heap[gb210]? = some (.cells #[.int .i64 ((rd_T57 l2 x12_1).f0), .bool ((rd_T57 l2 x12_1).f1), .int .i64 ((rd_T57 l2 x12_1).f2)] 57 (0, 0))) ∧ Aside0 (Below w.heap.size w wc))
           case first =>
            have H := HC51.out
            clear HC51
            by_cases c52 : ((rd_T57 l2 x12_1).f2) ≥ 0
            ·rw [if_pos c52] at H
             have c52b0 : decide (0 ≤ ((rd_T57 l2 x12_1).f2)) = true := decide_eq_true c52
             clear c52
             (first | rw [c52b0] | (simp only [i64_w, i32_w]; rw [c52b0]) | skip)
             have H' := Aside0.mk H
             clear H
             have hcz53_0 : wc.cell? ⟨gb210, 0, none⟩ = some (.int .i64 ((rd_T57 l2 x12_1).f0)) := (blk_cell BK210.out 0).trans rfl
             have hcz53_1 : wc.cell? ⟨gb210, 1, none⟩ = some (.bool ((rd_T57 l2 x12_1).f1)) := (blk_cell BK210.out 1).trans rfl
             have hcz53_2 : wc.cell? ⟨gb210, 2, none⟩ = some (.int .i64 ((rd_T57 l2 x12_1).f2)) := (blk_cell BK210.out 2).trans rfl
             have hfz53_0 := blk_frozen BK210.out 0
             have hfz53_1 := blk_frozen BK210.out 1
             have hfz53_2 := blk_frozen BK210.out 2
             go_wp2
             go_meet
             case rel => exact ⟨_, (decide (x10_1 ≥ (l1.length : Int))), (by first | rfl | (simp; done) | (simp [*]; done)), H', ⟨by have := HK1.out; have := HJ7.out; have := HJ28.out; first | omega | exact Nat.le_refl _⟩, ⟨by (with_reducible repeat (first | apply Kd.R_alloc | apply Kd.R_drewN | apply Kd.R_drew)); exact HO_8.out⟩, ⟨by (with_reducible repeat (first | refine blk_drewN ?_ _ | refine blk_drew ?_ | refine blk_alloc ?_ _)); exact BK210.out⟩, ⟨by repeat (first | (with_reducible first | exact HB.out | apply below_alloc | apply pw_below_drewN | apply below_drew1 | refine below_set ?_ GE210.out) | exact HB.out)⟩⟩
            ·rw [if_neg c52] at H
             have c52b0 : decide (0 ≤ ((rd_T57 l2 x12_1).f2)) = false := decide_eq_false c52
             clear c52
             (first | rw [c52b0] | (simp only [i64_w, i32_w]; rw [c52b0]) | skip)
             have H' := Aside0.mk H
             clear H
             have hcz54_0 : wc.cell? ⟨gb210, 0, none⟩ = some (.int .i64 ((rd_T57 l2 x12_1).f0)) := (blk_cell BK210.out 0).trans rfl
             have hcz54_1 : wc.cell? ⟨gb210, 1, none⟩ = some (.bool ((rd_T57 l2 x12_1).f1)) := (blk_cell BK210.out 1).trans rfl
             have hcz54_2 : wc.cell? ⟨gb210, 2, none⟩ = some (.int .i64 ((rd_T57 l2 x12_1).f2)) := (blk_cell BK210.out 2).trans rfl
             have hfz54_0 := blk_frozen BK210.out 0
             have hfz54_1 := blk_frozen BK210.out 1
             have hfz54_2 := blk_frozen BK210.out 2
             go_wp2
             go_meet
             case rel => exact ⟨_, (false), (by first | rfl | (simp; done) | (simp [*]; done)), H', ⟨by have := HK1.out; have := HJ7.out; have := HJ28.out; first | omega | exact Nat.le_refl _⟩, ⟨by (with_reducible repeat (first | apply Kd.R_alloc | apply Kd.R_drewN | apply Kd.R_drew)); exact HO_8.out⟩, ⟨by (with_reducible repeat (first | refine blk_drewN ?_ _ | refine blk_drew ?_ | refine blk_alloc ?_ _)); exact BK210.out⟩, ⟨by repeat (first | (with_reducible first | exact HB.out | apply below_alloc | apply pw_below_drewN | apply below_drew1 | refine below_set ?_ GE210.out) | exact HB.out)⟩⟩
           case rest =>
            clear HC51
            try clear p2
            try clear c3
            try clear c4
            try clear c5
            try clear c30
            try clear c30b0
            try clear c34
            try clear c35
            try clear c47
            try clear c47b0
            try clear c50
            try clear c52
            try clear c52b0
            try clear hcz53_0
            try clear hcz53_1
            try clear hcz53_2
            try clear hcz54_0
            try clear hcz54_1
            try clear hcz54_2
            try clear hfz53_0
            try clear hfz53_1
            try clear hfz53_2
            try clear hfz54_0
            try clear hfz54_1
            try clear hfz54_2
            try clear p2
            obtain ⟨kq, x101_50, rfl, HA, HJ50, HO_8, BK210, HB⟩ := hcut
            cases kq with
            | zero => exact absurd HA.out (by simp [rAl.j3])
            | succ kj50 =>
             have H := HA.out
             clear HA
             simp only [rAl.j3] at H
             by_cases c55 : x101_50 = true
             ·subst c55
              have H1 : (some (0, false)) = some (r1, r2) := by rw [if_pos rfl] at H; exact H
              clear H
              have H := H1
              clear H1
              simp only [Option.some.injEq, Prod.mk.injEq] at H
              obtain ⟨rfl, rfl⟩ := H
              go_wp2
              go_ret2
              exact ⟨by first | rfl | (simp [errW_none, errW_some] <;> rfl) | (simp [*, errW_none, errW_some] <;> rfl), by repeat (first | (with_reducible first | exact HB.out | apply below_alloc | apply pw_below_drewN | apply below_drew1 | refine below_set ?_ GE210.out) | exact HB.out)⟩
             ·replace c55 := Bool.eq_false_iff.mpr c55
              subst c55
              have H1 : (if ((rd_T57 l2 x12_1).f0) ≥ 0 then (rAl.j4 kj50 l1 l2 t206 x9_1 x10_1 x11_1 x12_1 (decide (((rd_T57 l2 x12_1).f2) ≥ 0)) ((rd_T57 l2 x12_1).f0) ((rd_T57 l2 x12_1).f1) ((rd_T57 l2 x12_1).f2)) else (rAl.j4 kj50 l1 l2 t206 x9_1 x10_1 x11_1 x12_1 false ((rd_T57 l2 x12_1).f0) ((rd_T57 l2 x12_1).f1) ((rd_T57 l2 x12_1).f2))) = some (r1, r2) := by rw [if_neg (show ¬ (false = true) by decide)] at H; exact H
              clear H
              have H := H1
              clear H1
              have HC56 := Aside0.mk H
              clear H
              go_upto_region 15 with (fail)
              go_cut [109] (fun v109 wc => ∃ (kq : Nat) (x109_55 : Bool), v109 = .bool x109_55 ∧ Aside0 (rAl.j4 kq l1 l2 t206 x9_1 x10_1 x11_1 x12_1 x109_55 ((rd_T57 l2 x12_1).f0) ((rd_T57 l2 x12_1).f1) ((rd_T57 l2 x12_1).f2) = some (r1, r2)) ∧ Aside0 (kq ≤ kj50) ∧ Aside0 (Kd.R k43 43 wc w.heap.size (fun _ => True) v207 t206) ∧ Aside0 (wc.heap[gb210]? = some (.cells #[.int .i64 ((rd_T57 l2 x12_1).f0), .bool ((rd_T57 l2 x12_1).f1), .int .i64 ((rd_T57 l2 x12_1).f2)] 57 (0, 0))) ∧ Aside0 (Below w.heap.size w wc))
              case first =>
               have H := HC56.out
               clear HC56
               by_cases c57 : ((rd_T57 l2 x12_1).f0) ≥ 0
               ·rw [if_pos c57] at H
                have c57b0 : decide (0 ≤ ((rd_T57 l2 x12_1).f0)) = true := decide_eq_true c57
                clear c57
                (first | rw [c57b0] | (simp only [i64_w, i32_w]; rw [c57b0]) | skip)
                have H' := Aside0.mk H
                clear H
                have hcz58_0 : wc.cell? ⟨gb210, 0, none⟩ = some (.int .i64 ((rd_T57 l2 x12_1).f0)) := (blk_cell BK210.out 0).trans rfl
                have hcz58_1 : wc.cell? ⟨gb210, 1, none⟩ = some (.bool ((rd_T57 l2 x12_1).f1)) := (blk_cell BK210.out 1).trans rfl
                have hcz58_2 : wc.cell? ⟨gb210, 2, none⟩ = some (.int .i64 ((rd_T57 l2 x12_1).f2)) := (blk_cell BK210.out 2).trans rfl
                have hfz58_0 := blk_frozen BK210.out 0
                have hfz58_1 := blk_frozen BK210.out 1
                have hfz58_2 := blk_frozen BK210.out 2
                go_wp2
                go_meet
                case rel => exact ⟨_, (decide (((rd_T57 l2 x12_1).f2) ≥ 0)), (by first | rfl | (simp; done) | (simp [*]; done)), H', ⟨by have := HK1.out; have := HJ7.out; have := HJ28.out; have := HJ50.out; first | omega | exact Nat.le_refl _⟩, ⟨by (with_reducible repeat (first | apply Kd.R_alloc | apply Kd.R_drewN | apply Kd.R_drew)); exact HO_8.out⟩, ⟨by (with_reducible repeat (first | refine blk_drewN ?_ _ | refine blk_drew ?_ | refine blk_alloc ?_ _)); exact BK210.out⟩, ⟨by repeat (first | (with_reducible first | exact HB.out | apply below_alloc | apply pw_below_drewN | apply below_drew1 | refine below_set ?_ GE210.out) | exact HB.out)⟩⟩
               ·rw [if_neg c57] at H
                have c57b0 : decide (0 ≤ ((rd_T57 l2 x12_1).f0)) = false := decide_eq_false c57
                clear c57
                (first | rw [c57b0] | (simp only [i64_w, i32_w]; rw [c57b0]) | skip)
                have H' := Aside0.mk H
                clear H
                have hcz59_0 : wc.cell? ⟨gb210, 0, none⟩ = some (.int .i64 ((rd_T57 l2 x12_1).f0)) := (blk_cell BK210.out 0).trans rfl
                have hcz59_1 : wc.cell? ⟨gb210, 1, none⟩ = some (.bool ((rd_T57 l2 x12_1).f1)) := (blk_cell BK210.out 1).trans rfl
                have hcz59_2 : wc.cell? ⟨gb210, 2, none⟩ = some (.int .i64 ((rd_T57 l2 x12_1).f2)) := (blk_cell BK210.out 2).trans rfl
                have hfz59_0 := blk_frozen BK210.out 0
                have hfz59_1 := blk_frozen BK210.out 1
                have hfz59_2 := blk_frozen BK210.out 2
                go_wp2
                go_meet
                case rel => exact ⟨_, (false), (by first | rfl | (simp; done) | (simp [*]; done)), H', ⟨by have := HK1.out; have := HJ7.out; have := HJ28.out; have := HJ50.out; first | omega | exact Nat.le_refl _⟩, ⟨by (with_reducible repeat (first | apply Kd.R_alloc | apply Kd.R_drewN | apply Kd.R_drew)); exact HO_8.out⟩, ⟨by (with_reducible repeat (first | refine blk_drewN ?_ _ | refine blk_drew ?_ | refine blk_alloc ?_ _)); exact BK210.out⟩, ⟨by repeat (first | (with_reducible first | exact HB.out | apply below_alloc | apply pw_below_drewN | apply below_drew1 | refine below_set ?_ GE210.out) | exact HB.out)⟩⟩
              case rest =>
               clear HC56
               try clear p2
               try clear c3
               try clear c4
               try clear c5
               try clear c30
               try clear c30b0
               try clear c34
               try clear c35
               try clear c47
               try clear c47b0
               try clear c50
               try clear c52
               try clear c52b0
               try clear c55
               try clear c57
               try clear c57b0
               try clear hcz53_0
               try clear hcz53_1
               try clear hcz53_2
               try clear hcz54_0
               try clear hcz54_1
               try clear hcz54_2
               try clear hcz58_0
               try clear hcz58_1
               try clear hcz58_2
               try clear hcz59_0
               try clear hcz59_1
               try clear hcz59_2
               try clear hfz53_0
               try clear hfz53_1
               try clear hfz53_2
               try clear hfz54_0
               try clear hfz54_1
               try clear hfz54_2
               try clear hfz58_0
               try clear hfz58_1
               try clear hfz58_2
               try clear hfz59_0
               try clear hfz59_1
               try clear hfz59_2
               try clear p2
               obtain ⟨kq, x109_55, rfl, HA, HJ55, HO_8, BK210, HB⟩ := hcut
               cases kq with
               | zero => exact absurd HA.out (by simp [rAl.j4])
               | succ kj55 =>
                have H := HA.out
                clear HA
                simp only [rAl.j4] at H
                have HC60 := Aside0.mk H
                clear H
                go_upto_if 109 with (fail)
                go_cut [11] (fun v11 wc => ∃ (kq : Nat) (x11_59 : Int), v11 = .int .i64 x11_59 ∧ Aside0 (rAl.j5 kq l1 l2 t206 x9_1 x10_1 x11_59 x12_1 ((rd_T57 l2 x12_1).f0) ((rd_T57 l2 x12_1).f1) ((rd_T57 l2 x12_1).f2) = some (r1, r2)) ∧ Aside0 (kq ≤ kj55) ∧ Aside0 (Kd.R k43 43 wc w.heap.size (fun _ => True) v207 t206) ∧ Aside0 (wc.heap[gb210]? = some (.cells #[.int .i64 ((rd_T57 l2 x12_1).f0), .bool ((rd_T57 l2 x12_1).f1), .int .i64 ((rd_T57 l2 x12_1).f2)] 57 (0, 0))) ∧ Aside0 (Below w.heap.size w wc))
                case first =>
                 have H := HC60.out
                 clear HC60
                 by_cases c61 : x109_55 = true
                 ·subst c61
                  have H1 : (if 0 ≤ x9_1 then (if x9_1 < (t206.length : Int) then (if 0 ≤ x10_1 then (if x10_1 < (l1.length : Int) then ((wageofficeref22_Cost.f ((rd_T43 t206 x9_1).f0) ((rd_T43 t206 x9_1).f1) ((rd_T43 t206 x9_1).f2) ((rd_T45 l1 x10_1).f0) ((rd_T45 l1 x10_1).f1)).bind fun t215 => (rAl.j5 kj55 l1 l2 t206 x9_1 x10_1 (wrap64 (x11_1 + t215)) x12_1 ((rd_T57 l2 x12_1).f0) ((rd_T57 l2 x12_1).f1) ((rd_T57 l2 x12_1).f2))) else (none)) else (none)) else (none)) else (none)) = some (r1, r2) := by rw [if_pos rfl] at H; exact H
                  clear H
                  have H := H1
                  clear H1
                  by_cases c62 : 0 ≤ x9_1
                  ·rw [if_pos c62] at H
                   have c62b0 : decide (0 ≤ x9_1) = true := decide_eq_true c62
                   clear c62
                   (first | rw [c62b0] | (simp only [i64_w, i32_w]; rw [c62b0]) | skip)
                   by_cases c63 : x9_1 < (t206.length : Int)
                   ·rw [if_pos c63] at H
                    have c63b0 : decide (x9_1 < (t206.length : Int)) = true := decide_eq_true c63
                    clear c63
                    by_cases c64 : 0 ≤ x10_1
                    ·rw [if_pos c64] at H
                     have c64b0 : decide (0 ≤ x10_1) = true := decide_eq_true c64
                     clear c64
                     by_cases c65 : x10_1 < (l1.length : Int)
                     ·rw [if_pos c65] at H
                      have c65b0 : decide (x10_1 < (l1.length : Int)) = true := decide_eq_true c65
                      clear c65
                      replace H := Option.bind_eq_some_iff.mp H
                      obtain ⟨t215, A660, H⟩ := H
                      replace H : (rAl.j5 kj55 l1 l2 t206 x9_1 x10_1 (wrap64 (x11_1 + t215)) x12_1 ((rd_T57 l2 x12_1).f0) ((rd_T57 l2 x12_1).f1) ((rd_T57 l2 x12_1).f2)) = some (r1, r2) := H
                      have A66 := Aside0.mk A660
                      clear A660
                      have H' := Aside0.mk H
                      clear H
                      try go_wp2
                      have n0_ := Aside0.mk (Kd.R_drew HO_8.out)
                      have n1_ := Aside0.mk (blk_drew BK210.out)
                      have n2_ := Aside0.mk (below_drew1 HB.out)
                      clear HO_8
                      clear BK210
                      clear HB
                      have HO_8 := n0_
                      have BK210 := n1_
                      have HB := n2_
                      clear n0_ n1_ n2_
                      obtain ⟨Ao68, co68, eo68⟩ := Kd.R_slice HO_8.out
                      (first | subst eo68 | (injection eo68 with f1_ f2_ f3_; have f4_ := f1_.symm; have f5_ := f3_.symm; clear f1_ f2_ f3_; subst f4_; subst f5_))
                      have p213 : 0 ≤ (x9_1 : Int) := of_decide_eq_true (by first | (with_reducible assumption) | assumption)
                      have q213 : x9_1 < (t206.length : Int) := of_decide_eq_true (by first | (with_reducible assumption) | assumption)
                      obtain ⟨ad213, e213, hx213_0, hx213_1, hx213_2⟩ := at_T43 (Kd.R_reads' HO_8.out).2.2 x9_1 p213 q213
                      cases e213
                      replace p213 := eq_true p213
                      replace q213 := eq_true q213
                      have p214 : 0 ≤ (x10_1 : Int) := of_decide_eq_true (by first | (with_reducible assumption) | assumption)
                      have q214 : x10_1 < (l1.length : Int) := of_decide_eq_true (by first | (with_reducible assumption) | assumption)
                      obtain ⟨ad214, e214, hx214_0, hx214_1⟩ := at_T45 HR1.out x10_1 p214 q214
                      have hw214_1 := hx214_1
                      have hw214_0 := hx214_0
                      cases e214
                      replace hx214_0 := (HB.out.cell (World.block_lt_of_cell? w _ hx214_0)).trans hx214_0
                      replace hx214_1 := (HB.out.cell (World.block_lt_of_cell? w _ hx214_1)).trans hx214_1
                      replace p214 := eq_true p214
                      replace q214 := eq_true q214
                      refine start_ (n := 12) (S := fun w' => w'.cell? (ad213.add ((x9_1).toNat * 3)) = some (.int .i64 ((rd_T43 t206 x9_1).f0)) ∧ w'.cell? ⟨(ad213.add ((x9_1).toNat * 3)).block, (ad213.add ((x9_1).toNat * 3)).off + 1, none⟩ = some (.bool ((rd_T43 t206 x9_1).f1)) ∧ w'.cell? ⟨(ad213.add ((x9_1).toNat * 3)).block, (ad213.add ((x9_1).toNat * 3)).off + 2, none⟩ = some (.int .i64 ((rd_T43 t206 x9_1).f2)) ∧ w'.cell? (ad214.add ((x10_1).toNat * 2)) = some (.int .i64 ((rd_T45 l1 x10_1).f0)) ∧ w'.cell? ⟨(ad214.add ((x10_1).toNat * 2)).block, (ad214.add ((x10_1).toNat * 2)).off + 1, none⟩ = some (.bool ((rd_T45 l1 x10_1).f1))) (ds := []) (bb 12 0) (by kernel_rfl) rfl rfl ⟨hx213_0, hx213_1, hx213_2, ((HB.out.cell (World.block_lt_of_cell? w _ hw214_0)).trans hw214_0), ((HB.out.cell (World.block_lt_of_cell? w _ hw214_1)).trans hw214_1)⟩ (fun hHeld => ?_); refine with_tabW rAl.tab16 rAl.bits16 (fun HT_ HW_ => ?_)
                      generalize wc.drew = w67 at HO_8 BK210 HB hx213_0 hx213_1 hx213_2 hx214_0 hx214_1 hHeld ⊢
                      refine pure_ (i := 0) (N := some 110) (v := ?_) (a' := ?_) (bb 12 1) rfl rfl (any_of HT_.out (by kernel_rfl)) (fun _ _ _ h => h) (Or.inl ⟨by rfl, ?_⟩) ?_ ?_
                      rotate_left
                      ·intro w'
                       go_simp
                       with_reducible rfl
                      rotate_left
                      ·simp only [Act.put, sA, sB, sC, i64_w, i32_w]
                       rfl
                      refine pure_ (i := 1) (N := some 111) (v := ?_) (a' := ?_) (bb 12 3) rfl rfl (any_of HT_.out (by kernel_rfl)) (fun _ _ _ h => h) (Or.inl ⟨by rfl, ?_⟩) ?_ ?_
                      rotate_left
                      ·intro w'
                       go_simp
                       with_reducible rfl
                      rotate_left
                      ·simp only [Act.put, sA, sB, sC, i64_w, i32_w]
                       rfl
                      refine pure_ (i := 2) (N := some 112) (v := ?_) (a' := ?_) (bb 12 7) rfl rfl (any_of HT_.out (by kernel_rfl)) (fun _ _ _ h => h) (Or.inl ⟨by rfl, ?_⟩) ?_ ?_
                      rotate_left
                      ·intro w'
                       go_simp
                       with_reducible rfl
                      rotate_left
                      ·simp only [Act.put, sA, sB, sC, i64_w, i32_w]
                       rfl
                      refine pure_ (i := 3) (N := some 113) (v := ?_) (a' := ?_) (bb 12 15) rfl rfl (any_of HT_.out (by kernel_rfl)) (fun _ _ _ h => h) (Or.inl ⟨by rfl, ?_⟩) ?_ ?_
                      rotate_left
                      ·intro w'
                       go_simp
                       with_reducible rfl
                      rotate_left
                      ·simp only [Act.put, sA, sB, sC, i64_w, i32_w]
                       rfl
                      refine pure_ (i := 5) (N := some 115) (v := ?_) (a' := ?_) (bb 12 47) rfl rfl (any_of HT_.out (by kernel_rfl)) (fun _ _ _ h => h) (Or.inl ⟨by rfl, ?_⟩) ?_ ?_
                      rotate_left
                      ·intro w'
                       go_simp
                       with_reducible rfl
                      rotate_left
                      ·simp only [Act.put, sA, sB, sC, i64_w, i32_w]
                       rfl
                      refine pure_ (i := 6) (N := some 116) (v := ?_) (a' := ?_) (bb 12 111) rfl rfl (any_of HT_.out (by kernel_rfl)) (fun _ _ _ h => h) (Or.inl ⟨by rfl, ?_⟩) ?_ ?_
                      rotate_left
                      ·intro w'
                       go_simp
                       with_reducible rfl
                      rotate_left
                      ·simp only [Act.put, sA, sB, sC, i64_w, i32_w]
                       rfl
                      refine pure_ (i := 7) (N := some 117) (v := ?_) (a' := ?_) (bb 12 239) rfl rfl (any_of HT_.out (by kernel_rfl)) (fun _ _ _ h => h) (Or.inl ⟨by rfl, ?_⟩) ?_ ?_
                      rotate_left
                      ·intro w'
                       go_simp
                       with_reducible rfl
                      rotate_left
                      ·simp only [Act.put, sA, sB, sC, i64_w, i32_w]
                       rfl
                      refine take_ (i := 4) (N := some 114) (v := ?_) (a' := ?_) (bb 12 255) rfl rfl (take_ofW HT_.out HW_.out (by kernel_rfl)) (fun _ _ _ h => h) (Or.inl ⟨by rfl, ?_⟩) hHeld ?_ ?_
                      rotate_left
                      ·rintro w' ⟨s0, s1, s2, s3, s4⟩
                       go_simp
                       with_reducible rfl
                      rotate_left
                      ·simp only [Act.put, sA, sB, sC, i64_w, i32_w]
                       rfl
                      refine take_ (i := 8) (N := some 118) (v := ?_) (a' := ?_) (bb 12 511) rfl rfl (take_ofW HT_.out HW_.out (by kernel_rfl)) (fun _ _ _ h => h) (Or.inl ⟨by rfl, ?_⟩) hHeld ?_ ?_
                      rotate_left
                      ·rintro w' ⟨s0, s1, s2, s3, s4⟩
                       go_simp
                       with_reducible rfl
                      rotate_left
                      ·simp only [Act.put, sA, sB, sC, i64_w, i32_w]
                       rfl
                      refine one_ (i := 9) (N := some 119) (bb 12 1023) rfl rfl (one_of HT_.out (by kernel_rfl)) (by decide) (fun K hK => ?_)
                      refine goes_ Try.func22 (by kernel_rfl) rfl #[.agg #[.int .i64 ((rd_T43 t206 x9_1).f0), .bool ((rd_T43 t206 x9_1).f1), .int .i64 ((rd_T43 t206 x9_1).f2)], .agg #[.int .i64 ((rd_T45 l1 x10_1).f0), .bool ((rd_T45 l1 x10_1).f1)]] (by rfl) rfl rfl (by (try simp only [List.map_toArray, List.map_cons, List.map_nil]); first | done | rfl | (simp only [List.length_drop, List.length_take]; rfl)) ?_
                      with_reducible refine (wageofficeref22_Cost.calls ((rd_T43 t206 x9_1).f0) ((rd_T43 t206 x9_1).f1) ((rd_T43 t206 x9_1).f2) ((rd_T45 l1 x10_1).f0) ((rd_T45 l1 x10_1).f1) t215 _ A66.out).mono ?_
                      rintro e w69 ⟨rfl, hb⟩
                      have HS0_ := (hb.cell (World.block_lt_of_cell? _ _ (hHeld.1))).trans (hHeld.1)
                      have HS1_ := (hb.cell (World.block_lt_of_cell? _ _ (hHeld.2.1))).trans (hHeld.2.1)
                      have HS2_ := (hb.cell (World.block_lt_of_cell? _ _ (hHeld.2.2.1))).trans (hHeld.2.2.1)
                      refine ⟨_, rfl, ?_⟩
                      have n0_ := Aside0.mk (Kd.R_below (by (with_reducible repeat (first | apply Kd.R_alloc | apply Kd.R_drewN | apply Kd.R_drew)); exact HO_8.out) hb)
                      have n1_ := Aside0.mk (blk_below (g := gb210) (o := .cells #[.int .i64 ((rd_T57 l2 x12_1).f0), .bool ((rd_T57 l2 x12_1).f1), .int .i64 ((rd_T57 l2 x12_1).f2)] 57 (0, 0)) (by (with_reducible repeat (first | refine blk_drewN ?_ _ | refine blk_drew ?_ | refine blk_alloc ?_ _)); exact BK210.out) hb)
                      have n2_ := Aside0.mk (below_step (by repeat (first | (with_reducible first | exact HB.out | apply below_alloc | apply pw_below_drewN | apply below_drew1 | refine below_set ?_ GE210.out) | exact HB.out)) hb)
                      clear HO_8
                      clear BK210
                      clear HB
                      have HO_8 := n0_
                      have BK210 := n1_
                      have HB := n2_
                      clear n0_ n1_ n2_
                      (try clear hb)
                      (try clear hb2)
                      (try clear hk)
                      (try clear hi)
                      refine hK.out _ _ ⟨HS0_, HS1_, HS2_, ((HB.out.cell (World.block_lt_of_cell? w _ hw214_0)).trans hw214_0), ((HB.out.cell (World.block_lt_of_cell? w _ hw214_1)).trans hw214_1)⟩ (fun hHeld => ?_)
                      clear hK K
                      refine norm_ (a' := ?_) ?_ ?_
                      rotate_left
                      ·show Act.put _ (some 119) _ = _
                       simp only [Act.put, sA, sB, sC, i64_w, i32_w]
                       rfl
                      refine pure_ (i := 10) (N := some 120) (v := ?_) (a' := ?_) (bb 12 2047) rfl rfl (any_of HT_.out (by kernel_rfl)) (fun _ _ _ h => h) (Or.inl ⟨by rfl, ?_⟩) ?_ ?_
                      rotate_left
                      ·intro w'
                       go_simp
                       with_reducible rfl
                      rotate_left
                      ·simp only [Act.put, sA, sB, sC, i64_w, i32_w]
                       rfl
                      refine pure_ (i := 11) (N := some 11) (v := ?_) (a' := ?_) (bb 12 4095) rfl rfl (any_of HT_.out (by kernel_rfl)) (fun _ _ _ h => h) (Or.inl ⟨by rfl, ?_⟩) ?_ ?_
                      rotate_left
                      ·intro w'
                       go_simp
                       with_reducible rfl
                      rotate_left
                      ·simp only [Act.put, sA, sB, sC, i64_w, i32_w]
                       rfl
                      refine done_ (done_of HT_.out (by kernel_rfl)) ?_
                      try go_wp2
                      go_meet
                      case rel => exact ⟨_, (wrap64 (x11_1 + t215)), (by first | rfl | (simp; done) | (simp [*]; done)), H', ⟨by have := HK1.out; have := HJ7.out; have := HJ28.out; have := HJ50.out; have := HJ55.out; first | omega | exact Nat.le_refl _⟩, ⟨by (with_reducible repeat (first | apply Kd.R_alloc | apply Kd.R_drewN | apply Kd.R_drew)); exact HO_8.out⟩, ⟨by (with_reducible repeat (first | refine blk_drewN ?_ _ | refine blk_drew ?_ | refine blk_alloc ?_ _)); exact BK210.out⟩, ⟨by repeat (first | (with_reducible first | exact HB.out | apply below_alloc | apply pw_below_drewN | apply below_drew1 | refine below_set ?_ GE210.out) | exact HB.out)⟩⟩
                     ·rw [if_neg c65] at H
                      exact absurd H (by simp)
                    ·rw [if_neg c64] at H
                     exact absurd H (by simp)
                   ·rw [if_neg c63] at H
                    exact absurd H (by simp)
                  ·rw [if_neg c62] at H
                   exact absurd H (by simp)
                 ·replace c61 := Bool.eq_false_iff.mpr c61
                  subst c61
                  have H1 : (rAl.j5 kj55 l1 l2 t206 x9_1 x10_1 (wrap64 (x11_1 + 120)) x12_1 ((rd_T57 l2 x12_1).f0) ((rd_T57 l2 x12_1).f1) ((rd_T57 l2 x12_1).f2)) = some (r1, r2) := by rw [if_neg (show ¬ (false = true) by decide)] at H; exact H
                  clear H
                  have H := H1
                  clear H1
                  have H' := Aside0.mk H
                  clear H
                  go_wp2
                  go_meet
                  case rel => exact ⟨_, (wrap64 (x11_1 + 120)), (by first | rfl | (simp; done) | (simp [*]; done)), H', ⟨by have := HK1.out; have := HJ7.out; have := HJ28.out; have := HJ50.out; have := HJ55.out; first | omega | exact Nat.le_refl _⟩, ⟨by (with_reducible repeat (first | apply Kd.R_alloc | apply Kd.R_drewN | apply Kd.R_drew)); exact HO_8.out⟩, ⟨by (with_reducible repeat (first | refine blk_drewN ?_ _ | refine blk_drew ?_ | refine blk_alloc ?_ _)); exact BK210.out⟩, ⟨by repeat (first | (with_reducible first | exact HB.out | apply below_alloc | apply pw_below_drewN | apply below_drew1 | refine below_set ?_ GE210.out) | exact HB.out)⟩⟩
                case rest =>
                 clear HC60
                 try clear c2
                 try clear p2
                 try clear q2
                 try clear hx2
                 try clear c3
                 try clear c4
                 try clear c5
                 try clear c6
                 try clear p6
                 try clear p21
                 try clear q21
                 try clear hx21
                 try clear c22
                 try clear c30
                 try clear c30b0
                 try clear c34
                 try clear c35
                 try clear c47
                 try clear c47b0
                 try clear c50
                 try clear c52
                 try clear c52b0
                 try clear c55
                 try clear c57
                 try clear c57b0
                 try clear c61
                 try clear c62
                 try clear c62b0
                 try clear c63
                 try clear c63b0
                 try clear c64
                 try clear c64b0
                 try clear p64
                 try clear c65
                 try clear c65b0
                 try clear hcz53_0
                 try clear hcz53_1
                 try clear hcz53_2
                 try clear hcz54_0
                 try clear hcz54_1
                 try clear hcz54_2
                 try clear hcz58_0
                 try clear hcz58_1
                 try clear hcz58_2
                 try clear hcz59_0
                 try clear hcz59_1
                 try clear hcz59_2
                 try clear hfz53_0
                 try clear hfz53_1
                 try clear hfz53_2
                 try clear hfz54_0
                 try clear hfz54_1
                 try clear hfz54_2
                 try clear hfz58_0
                 try clear hfz58_1
                 try clear hfz58_2
                 try clear hfz59_0
                 try clear hfz59_1
                 try clear hfz59_2
                 try clear hx213_0
                 try clear hx213_1
                 try clear hx213_2
                 try clear hx214_0
                 try clear hx214_1
                 try clear p2
                 try clear p213
                 try clear p214
                 try clear q213
                 try clear q214
                 obtain ⟨kq, x11_59, rfl, HA, HJ59, HO_8, BK210, HB⟩ := hcut
                 cases kq with
                 | zero => exact absurd HA.out (by simp [rAl.j5])
                 | succ kj59 =>
                  have H := HA.out
                  clear HA
                  simp only [rAl.j5] at H
                  by_cases c70 : ((rd_T57 l2 x12_1).f0) ≥ 0
                  ·rw [if_pos c70] at H
                   have c70b0 : decide (0 ≤ ((rd_T57 l2 x12_1).f0)) = true := decide_eq_true c70
                   clear c70
                   by_cases c71 : ((rd_T57 l2 x12_1).f2) ≥ 0
                   ·rw [if_pos c71] at H
                    have c71b0 : decide (0 ≤ ((rd_T57 l2 x12_1).f2)) = true := decide_eq_true c71
                    clear c71
                    have H' := Aside0.mk H
                    clear H
                    have hcz72_0 : wc.cell? ⟨gb210, 0, none⟩ = some (.int .i64 ((rd_T57 l2 x12_1).f0)) := (blk_cell BK210.out 0).trans rfl
                    have hcz72_1 : wc.cell? ⟨gb210, 1, none⟩ = some (.bool ((rd_T57 l2 x12_1).f1)) := (blk_cell BK210.out 1).trans rfl
                    have hcz72_2 : wc.cell? ⟨gb210, 2, none⟩ = some (.int .i64 ((rd_T57 l2 x12_1).f2)) := (blk_cell BK210.out 2).trans rfl
                    have hfz72_0 := blk_frozen BK210.out 0
                    have hfz72_1 := blk_frozen BK210.out 1
                    have hfz72_2 := blk_frozen BK210.out 2
                    go_wp2
                    go_roundg kj59
                    case measure => have := HK1.out; have := HJ7.out; have := HJ28.out; have := HJ50.out; have := HJ55.out; have := HJ59.out; omega
                    case rel => exact ⟨(wrap64 (x9_1 + 1)), (wrap64 (x10_1 + 1)), (x11_59), (wrap64 (x12_1 + 1)), (by first | rfl | (simp; done) | (simp [*]; done)), (by first | rfl | (simp; done) | (simp [*]; done)), (by first | rfl | (simp; done) | (simp [*]; done)), (by first | rfl | (simp; done) | (simp [*]; done)), H', ⟨by have := HK1.out; have := HJ7.out; have := HJ28.out; have := HJ50.out; have := HJ55.out; have := HJ59.out; omega⟩, ⟨by (with_reducible repeat (first | apply Kd.R_alloc | apply Kd.R_drewN | apply Kd.R_drew)); exact HO_8.out⟩, ⟨by repeat (first | (with_reducible first | exact HB.out | apply below_alloc | apply pw_below_drewN | apply below_drew1 | refine below_set ?_ GE210.out) | exact HB.out)⟩⟩
                   ·rw [if_neg c71] at H
                    have c71b0 : decide (0 ≤ ((rd_T57 l2 x12_1).f2)) = false := decide_eq_false c71
                    clear c71
                    have H' := Aside0.mk H
                    clear H
                    have hcz73_0 : wc.cell? ⟨gb210, 0, none⟩ = some (.int .i64 ((rd_T57 l2 x12_1).f0)) := (blk_cell BK210.out 0).trans rfl
                    have hcz73_1 : wc.cell? ⟨gb210, 1, none⟩ = some (.bool ((rd_T57 l2 x12_1).f1)) := (blk_cell BK210.out 1).trans rfl
                    have hcz73_2 : wc.cell? ⟨gb210, 2, none⟩ = some (.int .i64 ((rd_T57 l2 x12_1).f2)) := (blk_cell BK210.out 2).trans rfl
                    have hfz73_0 := blk_frozen BK210.out 0
                    have hfz73_1 := blk_frozen BK210.out 1
                    have hfz73_2 := blk_frozen BK210.out 2
                    go_wp2
                    go_roundg kj59
                    case measure => have := HK1.out; have := HJ7.out; have := HJ28.out; have := HJ50.out; have := HJ55.out; have := HJ59.out; omega
                    case rel => exact ⟨(wrap64 (x9_1 + 1)), (x10_1), (x11_59), (wrap64 (x12_1 + 1)), (by first | rfl | (simp; done) | (simp [*]; done)), (by first | rfl | (simp; done) | (simp [*]; done)), (by first | rfl | (simp; done) | (simp [*]; done)), (by first | rfl | (simp; done) | (simp [*]; done)), H', ⟨by have := HK1.out; have := HJ7.out; have := HJ28.out; have := HJ50.out; have := HJ55.out; have := HJ59.out; omega⟩, ⟨by (with_reducible repeat (first | apply Kd.R_alloc | apply Kd.R_drewN | apply Kd.R_drew)); exact HO_8.out⟩, ⟨by repeat (first | (with_reducible first | exact HB.out | apply below_alloc | apply pw_below_drewN | apply below_drew1 | refine below_set ?_ GE210.out) | exact HB.out)⟩⟩
                  ·rw [if_neg c70] at H
                   have c70b0 : decide (0 ≤ ((rd_T57 l2 x12_1).f0)) = false := decide_eq_false c70
                   clear c70
                   by_cases c74 : ((rd_T57 l2 x12_1).f2) ≥ 0
                   ·rw [if_pos c74] at H
                    have c74b0 : decide (0 ≤ ((rd_T57 l2 x12_1).f2)) = true := decide_eq_true c74
                    clear c74
                    have H' := Aside0.mk H
                    clear H
                    have hcz75_0 : wc.cell? ⟨gb210, 0, none⟩ = some (.int .i64 ((rd_T57 l2 x12_1).f0)) := (blk_cell BK210.out 0).trans rfl
                    have hcz75_1 : wc.cell? ⟨gb210, 1, none⟩ = some (.bool ((rd_T57 l2 x12_1).f1)) := (blk_cell BK210.out 1).trans rfl
                    have hcz75_2 : wc.cell? ⟨gb210, 2, none⟩ = some (.int .i64 ((rd_T57 l2 x12_1).f2)) := (blk_cell BK210.out 2).trans rfl
                    have hfz75_0 := blk_frozen BK210.out 0
                    have hfz75_1 := blk_frozen BK210.out 1
                    have hfz75_2 := blk_frozen BK210.out 2
                    go_wp2
                    go_roundg kj59
                    case measure => have := HK1.out; have := HJ7.out; have := HJ28.out; have := HJ50.out; have := HJ55.out; have := HJ59.out; omega
                    case rel => exact ⟨(x9_1), (wrap64 (x10_1 + 1)), (x11_59), (wrap64 (x12_1 + 1)), (by first | rfl | (simp; done) | (simp [*]; done)), (by first | rfl | (simp; done) | (simp [*]; done)), (by first | rfl | (simp; done) | (simp [*]; done)), (by first | rfl | (simp; done) | (simp [*]; done)), H', ⟨by have := HK1.out; have := HJ7.out; have := HJ28.out; have := HJ50.out; have := HJ55.out; have := HJ59.out; omega⟩, ⟨by (with_reducible repeat (first | apply Kd.R_alloc | apply Kd.R_drewN | apply Kd.R_drew)); exact HO_8.out⟩, ⟨by repeat (first | (with_reducible first | exact HB.out | apply below_alloc | apply pw_below_drewN | apply below_drew1 | refine below_set ?_ GE210.out) | exact HB.out)⟩⟩
                   ·rw [if_neg c74] at H
                    have c74b0 : decide (0 ≤ ((rd_T57 l2 x12_1).f2)) = false := decide_eq_false c74
                    clear c74
                    have H' := Aside0.mk H
                    clear H
                    have hcz76_0 : wc.cell? ⟨gb210, 0, none⟩ = some (.int .i64 ((rd_T57 l2 x12_1).f0)) := (blk_cell BK210.out 0).trans rfl
                    have hcz76_1 : wc.cell? ⟨gb210, 1, none⟩ = some (.bool ((rd_T57 l2 x12_1).f1)) := (blk_cell BK210.out 1).trans rfl
                    have hcz76_2 : wc.cell? ⟨gb210, 2, none⟩ = some (.int .i64 ((rd_T57 l2 x12_1).f2)) := (blk_cell BK210.out 2).trans rfl
                    have hfz76_0 := blk_frozen BK210.out 0
                    have hfz76_1 := blk_frozen BK210.out 1
                    have hfz76_2 := blk_frozen BK210.out 2
                    go_wp2
                    go_roundg kj59
                    case measure => have := HK1.out; have := HJ7.out; have := HJ28.out; have := HJ50.out; have := HJ55.out; have := HJ59.out; omega
                    case rel => exact ⟨(x9_1), (x10_1), (x11_59), (wrap64 (x12_1 + 1)), (by first | rfl | (simp; done) | (simp [*]; done)), (by first | rfl | (simp; done) | (simp [*]; done)), (by first | rfl | (simp; done) | (simp [*]; done)), (by first | rfl | (simp; done) | (simp [*]; done)), H', ⟨by have := HK1.out; have := HJ7.out; have := HJ28.out; have := HJ50.out; have := HJ55.out; have := HJ59.out; omega⟩, ⟨by (with_reducible repeat (first | apply Kd.R_alloc | apply Kd.R_drewN | apply Kd.R_drew)); exact HO_8.out⟩, ⟨by repeat (first | (with_reducible first | exact HB.out | apply below_alloc | apply pw_below_drewN | apply below_drew1 | refine below_set ?_ GE210.out) | exact HB.out)⟩⟩
    ·rw [if_neg c7] at H
     exact absurd H (by simp)
   ·rw [if_neg c6] at H
    have c6b0 : decide (x12_1 < (l2.length : Int)) = false := decide_eq_false c6
    clear c6
    by_cases c77 : x9_1 = (t206.length : Int)
    ·rw [if_pos c77] at H
     have c77b0 : (x9_1 == (t206.length : Int)) = true := beq_iff_eq.mpr c77
     have c77b1 : (x9_1 != (t206.length : Int)) = false := bne_eq_false_iff_eq.mpr c77
     clear c77
     simp only [Option.some.injEq, Prod.mk.injEq] at H
     obtain ⟨rfl, rfl⟩ := H
     obtain ⟨Ao78, co78, eo78⟩ := Kd.R_slice HO_8.out
     subst eo78
     go_wp2
     go_ret2
     exact ⟨by first | rfl | (simp [errW_none, errW_some] <;> rfl) | (simp [*, errW_none, errW_some] <;> rfl), by repeat (first | (with_reducible first | exact HB.out | apply below_alloc | apply pw_below_drewN | apply below_drew1) | exact HB.out)⟩
    ·rw [if_neg c77] at H
     have c77b0 : (x9_1 == (t206.length : Int)) = false := beq_eq_false_iff_ne.mpr c77
     have c77b1 : (x9_1 != (t206.length : Int)) = true := bne_iff_ne.mpr c77
     simp only [Option.some.injEq, Prod.mk.injEq] at H
     obtain ⟨rfl, rfl⟩ := H
     obtain ⟨Ao79, co79, eo79⟩ := Kd.R_slice HO_8.out
     subst eo79
     go_wp2
     go_ret2
     exact ⟨by first | rfl | (simp [errW_none, errW_some] <;> rfl) | (simp [*, errW_none, errW_some] <;> rfl), by repeat (first | (with_reducible first | exact HB.out | apply below_alloc | apply pw_below_drewN | apply below_drew1) | exact HB.out)⟩

end Go.Proofs.Ytpbamfoaoeicgaa.PAll

-- Printed by a program (the kit's print, with functions given by hand) out of the translation: machine-written for this claim.
import Derived.Test.YtpbamfoaoeicgaaQPAllx0
import Derived.Test.YtpbamfoaoeicgaaQPAllx8
import Derived.Test.YtpbamfoaoeicgaaQPAllx7
import Derived.Test.YtpbamfoaoeicgaaQMt8
namespace Go.Proofs.Ytpbamfoaoeicgaa.PAll
open Go.RowKit Go.Proofs.YtpbamfoaoeicgaaW.PrintWords Go.Proofs.YtpbamfoaoeicgaaW.PrintLast Go.Proofs.YtpbamfoaoeicgaaW.PrintMore
attribute [local go_sem] max2_int min2_int max_two min_two max_three min_three max_four min_four   -- for this text's walks alone
set_option linter.unusedVariables false
set_option linter.unusedSimpArgs false

/-! ### wageofficeref22_Pair: function 14 -/
mutual
def wageofficeref22_Pair.l0 : Nat → List (S45) → List (S43) → List (List Int) → List (S57) → Int → Int → Option ((List (S57)) × Int × Int)
 | 0, _, _, _, _, _, _ => none
 | k + 1, x1, x8, x9, x10, x11, x12 => if x11 < (x8.length : Int) then (wageofficeref22_Pair.j1 k x1 x8 x9 x10 x11 x12 true) else (wageofficeref22_Pair.j1 k x1 x8 x9 x10 x11 x12 (decide (x12 < (x1.length : Int))))
def wageofficeref22_Pair.j1 : Nat → List (S45) → List (S43) → List (List Int) → List (S57) → Int → Int → Bool → Option ((List (S57)) × Int × Int)
 | 0, _, _, _, _, _, _, _ => none
 | k + 1, x1, x8, x9, x10, x11, x12, x33 => if x33 = true then (if x11 < (x8.length : Int) then (if x12 < (x1.length : Int) then (if 0 ≤ x11 then (if x11 < (x9.length : Int) then (if 0 ≤ x12 then (if x12 < ((rd_L9 x9 x11).length : Int) then ((wageofficeref22_Cost.f ((rd_T43 x8 x11).f0) ((rd_T43 x8 x11).f1) ((rd_T43 x8 x11).f2) ((rd_T45 x1 x12).f0) ((rd_T45 x1 x12).f1)).bind fun t183 => (if 0 ≤ (wrap64 (x11 + 1)) then (if (wrap64 (x11 + 1)) < (x9.length : Int) then (if 0 ≤ (wrap64 (x12 + 1)) then (if (wrap64 (x12 + 1)) < ((rd_L9 x9 (wrap64 (x11 + 1))).length : Int) then (wageofficeref22_Pair.j2 k x1 x8 x9 x10 x11 x12 ((rd (rd_L9 x9 x11) x12) == (wrap64 (t183 + (rd (rd_L9 x9 (wrap64 (x11 + 1))) (wrap64 (x12 + 1))))))) else (none)) else (none)) else (none)) else (none))) else (none)) else (none)) else (none)) else (none)) else (wageofficeref22_Pair.j2 k x1 x8 x9 x10 x11 x12 false)) else (wageofficeref22_Pair.j2 k x1 x8 x9 x10 x11 x12 false)) else (if 0 < (x9.length : Int) then (if 0 < ((rd_L9 x9 0).length : Int) then (some (x10, rd (rd_L9 x9 0) 0, 0)) else (none)) else (none))
def wageofficeref22_Pair.j2 : Nat → List (S45) → List (S43) → List (List Int) → List (S57) → Int → Int → Bool → Option ((List (S57)) × Int × Int)
 | 0, _, _, _, _, _, _, _ => none
 | k + 1, x1, x8, x9, x10, x11, x12, x72 => if x72 = true then (if 0 ≤ x11 then (if x11 < (x8.length : Int) then (if x10.length < 5864062014805 then (wageofficeref22_Pair.l0 k x1 x8 x9 (x10 ++ [(⟨(rd_T43 x8 x11).f0, (rd_T43 x8 x11).f1, x12⟩ : S57)]) (wrap64 (x11 + 1)) (wrap64 (x12 + 1))) else (none)) else (none)) else (none)) else (if x11 < (x8.length : Int) then (if 0 ≤ x11 then (if x11 < (x9.length : Int) then (if 0 ≤ x12 then (if x12 < ((rd_L9 x9 x11).length : Int) then (if 0 ≤ (wrap64 (x11 + 1)) then (if (wrap64 (x11 + 1)) < (x9.length : Int) then (if x12 < ((rd_L9 x9 (wrap64 (x11 + 1))).length : Int) then (if (rd (rd_L9 x9 x11) x12) = (wrap64 (120 + (rd (rd_L9 x9 (wrap64 (x11 + 1))) x12))) then (if x10.length < 5864062014805 then (wageofficeref22_Pair.l0 k x1 x8 x9 (x10 ++ [(⟨(rd_T43 x8 x11).f0, (rd_T43 x8 x11).f1, (-1)⟩ : S57)]) (wrap64 (x11 + 1)) x12) else (none)) else (if x10.length < 5864062014805 then (wageofficeref22_Pair.l0 k x1 x8 x9 (x10 ++ [(⟨(-1), false, x12⟩ : S57)]) x11 (wrap64 (x12 + 1))) else (none))) else (none)) else (none)) else (none)) else (none)) else (none)) else (none)) else (none)) else (if x10.length < 5864062014805 then (wageofficeref22_Pair.l0 k x1 x8 x9 (x10 ++ [(⟨(-1), false, x12⟩ : S57)]) x11 (wrap64 (x12 + 1))) else (none)))
end
def wageofficeref22_Pair.f (k : Nat) (l0 : List (S48)) (l1 : List (S45)) : Option ((List (S57)) × Int × Int) := (wageofficeref22_Usable.f k l0 l1).bind fun t170 => (if t170 = 0 then ((wageofficeref22_Marks.f k l0).bind fun t171 => ((wageofficeref22_table.f k t171 l1).bind fun t174 => (wageofficeref22_Pair.l0 k l1 t171 t174 ([] : List (S57)) 0 0))) else (some (([] : List (S57)), 0, t170)))
theorem wageofficeref22_Pair.mono_l : ∀ k, (∀ y0 y1 y2 y3 y4 y5, LeO (wageofficeref22_Pair.l0 k y0 y1 y2 y3 y4 y5) (wageofficeref22_Pair.l0 (k + 1) y0 y1 y2 y3 y4 y5)) ∧ (∀ y0 y1 y2 y3 y4 y5 y6, LeO (wageofficeref22_Pair.j1 k y0 y1 y2 y3 y4 y5 y6) (wageofficeref22_Pair.j1 (k + 1) y0 y1 y2 y3 y4 y5 y6)) ∧ (∀ y0 y1 y2 y3 y4 y5 y6, LeO (wageofficeref22_Pair.j2 k y0 y1 y2 y3 y4 y5 y6) (wageofficeref22_Pair.j2 (k + 1) y0 y1 y2 y3 y4 y5 y6))
 | 0 => ⟨fun _ _ _ _ _ _ r h => by simp [wageofficeref22_Pair.l0] at h, fun _ _ _ _ _ _ _ r h => by simp [wageofficeref22_Pair.j1] at h, fun _ _ _ _ _ _ _ r h => by simp [wageofficeref22_Pair.j2] at h⟩
 | k + 1 => by
  obtain ⟨ih0, ih1, ih2⟩ := wageofficeref22_Pair.mono_l k
  refine ⟨?_, ?_, ?_⟩
  ·intro y0 y1 y2 y3 y4 y5
   unfold wageofficeref22_Pair.l0
   repeat' first
   | (with_reducible exact ih0 _ _ _ _ _ _)
   | (with_reducible exact ih1 _ _ _ _ _ _ _)
   | (with_reducible exact ih2 _ _ _ _ _ _ _)
   | (with_reducible exact wageofficeref22_Marks.mono _ _)
   | (with_reducible exact wageofficeref22_Usable.mono _ _ _)
   | (with_reducible exact wageofficeref22_table.mono _ _ _)
   | (with_reducible exact LeO.refl _)
   | (with_reducible exact LeO.none _)
   | (with_reducible refine LeO.ite ?_ ?_)
   | (with_reducible refine LeO.bind ?_ (fun _ => ?_))
   | exact ih0 _ _ _ _ _ _
   | exact ih1 _ _ _ _ _ _ _
   | exact ih2 _ _ _ _ _ _ _
   | exact wageofficeref22_Marks.mono _ _
   | exact wageofficeref22_Usable.mono _ _ _
   | exact wageofficeref22_table.mono _ _ _
   | exact LeO.none _
   | refine LeO.ite ?_ ?_
   | refine LeO.bind ?_ (fun _ => ?_)
  ·intro y0 y1 y2 y3 y4 y5 y6
   unfold wageofficeref22_Pair.j1
   repeat' first
   | (with_reducible exact ih0 _ _ _ _ _ _)
   | (with_reducible exact ih1 _ _ _ _ _ _ _)
   | (with_reducible exact ih2 _ _ _ _ _ _ _)
   | (with_reducible exact wageofficeref22_Marks.mono _ _)
   | (with_reducible exact wageofficeref22_Usable.mono _ _ _)
   | (with_reducible exact wageofficeref22_table.mono _ _ _)
   | (with_reducible exact LeO.refl _)
   | (with_reducible exact LeO.none _)
   | (with_reducible refine LeO.ite ?_ ?_)
   | (with_reducible refine LeO.bind ?_ (fun _ => ?_))
   | exact ih0 _ _ _ _ _ _
   | exact ih1 _ _ _ _ _ _ _
   | exact ih2 _ _ _ _ _ _ _
   | exact wageofficeref22_Marks.mono _ _
   | exact wageofficeref22_Usable.mono _ _ _
   | exact wageofficeref22_table.mono _ _ _
   | exact LeO.none _
   | refine LeO.ite ?_ ?_
   | refine LeO.bind ?_ (fun _ => ?_)
  ·intro y0 y1 y2 y3 y4 y5 y6
   unfold wageofficeref22_Pair.j2
   repeat' first
   | (with_reducible exact ih0 _ _ _ _ _ _)
   | (with_reducible exact ih1 _ _ _ _ _ _ _)
   | (with_reducible exact ih2 _ _ _ _ _ _ _)
   | (with_reducible exact wageofficeref22_Marks.mono _ _)
   | (with_reducible exact wageofficeref22_Usable.mono _ _ _)
   | (with_reducible exact wageofficeref22_table.mono _ _ _)
   | (with_reducible exact LeO.refl _)
   | (with_reducible exact LeO.none _)
   | (with_reducible refine LeO.ite ?_ ?_)
   | (with_reducible refine LeO.bind ?_ (fun _ => ?_))
   | exact ih0 _ _ _ _ _ _
   | exact ih1 _ _ _ _ _ _ _
   | exact ih2 _ _ _ _ _ _ _
   | exact wageofficeref22_Marks.mono _ _
   | exact wageofficeref22_Usable.mono _ _ _
   | exact wageofficeref22_table.mono _ _ _
   | exact LeO.none _
   | refine LeO.ite ?_ ?_
   | refine LeO.bind ?_ (fun _ => ?_)
theorem wageofficeref22_Pair.mono : ∀ a0 a1 k, LeO (wageofficeref22_Pair.f k a0 a1) (wageofficeref22_Pair.f (k + 1) a0 a1) := by
 intro a0 a1 k
 obtain ⟨ih0, ih1, ih2⟩ := wageofficeref22_Pair.mono_l k
 unfold wageofficeref22_Pair.f
 repeat' first
   | (with_reducible exact ih0 _ _ _ _ _ _)
   | (with_reducible exact ih1 _ _ _ _ _ _ _)
   | (with_reducible exact ih2 _ _ _ _ _ _ _)
   | (with_reducible exact wageofficeref22_Marks.mono _ _)
   | (with_reducible exact wageofficeref22_Usable.mono _ _ _)
   | (with_reducible exact wageofficeref22_table.mono _ _ _)
   | (with_reducible exact LeO.refl _)
   | (with_reducible exact LeO.none _)
   | (with_reducible refine LeO.ite ?_ ?_)
   | (with_reducible refine LeO.bind ?_ (fun _ => ?_))
   | exact ih0 _ _ _ _ _ _
   | exact ih1 _ _ _ _ _ _ _
   | exact ih2 _ _ _ _ _ _ _
   | exact wageofficeref22_Marks.mono _ _
   | exact wageofficeref22_Usable.mono _ _ _
   | exact wageofficeref22_table.mono _ _ _
   | exact LeO.none _
   | refine LeO.ite ?_ ?_
   | refine LeO.bind ?_ (fun _ => ?_)
def wageofficeref22_Pair.T10 : Bool × List (List Nat × List Nat) := (true, [([], []), ([], []), ([1], [1]), ([0, 2], [0, 2]), ([3], [3]), ([4], [4]), ([4], [4]), ([6, 4], [4, 6]), ([5, 7, 4], [4, 5, 7]), ([4, 8], [4, 8]), ([9, 4], [9]), ([10], [10]), ([10], [10]), ([11, 12, 10], [10, 11, 12]), ([13, 10], [10, 13]), ([10], [10]), ([14, 15, 10], [10, 14, 15]), ([16, 10], [10, 16]), ([10], [10]), ([10], [10]), ([18, 19, 10], [10, 18, 19]), ([20, 10], [10, 20]), ([10], [10]), ([10], [10]), ([22, 23, 10], [10, 22, 23]), ([24, 10], [10, 24]), ([21, 25, 10, 10], [10, 21, 25]), ([10], [10]), ([10], [10]), ([28, 10], [10, 28]), ([27, 29, 10], [10, 27, 29]), ([30, 10], [10, 30]), ([10], [10]), ([32, 10], [10, 32]), ([31, 33, 10], [10, 31, 33]), ([34, 10], [10, 34]), ([26, 35, 10], [10, 26, 35]), ([17, 36, 10], [10, 17, 36]), ([10, 37], [10, 37])])
def wageofficeref22_Pair.B10 : List Nat := [0, 0, 2, 7, 15, 31, 31, 95, 255, 511, 1023, 2047, 2047, 8191, 16383, 2047, 65535, 131071, 2047, 2047, 788479, 1837055, 2047, 2047, 12584959, 29362175, 66848767, 2047, 2047, 268437503, 939526143, 2013267967, 2047, 4294969343, 17045653503, 34225522687, 68719216639, 137438953471, 274877906943]
theorem wageofficeref22_Pair.tab10 : rtab .any (opsOf Try.f14 10) = wageofficeref22_Pair.T10 := by kernel_rfl
theorem wageofficeref22_Pair.bits10 : waitsOk wageofficeref22_Pair.T10.2 wageofficeref22_Pair.B10 = true := by kernel_rfl
def wageofficeref22_Pair.T11 : Bool × List (List Nat × List Nat) := (true, [([], []), ([], []), ([], []), ([1, 2], [1, 2]), ([3], [3]), ([4], [4]), ([], []), ([], []), ([6, 7], [6, 7]), ([8], [8]), ([9], [9]), ([], []), ([5, 10, 11], [5, 10, 11]), ([12], [12]), ([0, 13], [0, 13]), ([14, 14, 0, 1, 2, 3, 4, 5, 6, 7, 8, 9, 10, 11, 12, 13, 14], [0, 14])])
def wageofficeref22_Pair.B11 : List Nat := [0, 0, 0, 6, 14, 30, 0, 0, 192, 448, 960, 0, 4094, 8190, 16383, 32767]
theorem wageofficeref22_Pair.tab11 : rtab .any (opsOf Try.f14 11) = wageofficeref22_Pair.T11 := by kernel_rfl
theorem wageofficeref22_Pair.bits11 : waitsOk wageofficeref22_Pair.T11.2 wageofficeref22_Pair.B11 = true := by kernel_rfl
def wageofficeref22_Pair.T14 : Bool × List (List Nat × List Nat) := (true, [([], []), ([], []), ([1], [1]), ([0, 2], [0, 2]), ([3], [3]), ([4], [4]), ([4], [4]), ([5, 6, 4], [4, 5, 6]), ([7, 4], [4, 7]), ([4], [4]), ([8, 9, 4], [4, 8, 9]), ([10, 4], [4, 10]), ([4], [4]), ([4], [4]), ([13, 4], [4, 13]), ([12, 14, 4], [4, 12, 14]), ([15, 4], [4, 15]), ([4], [4]), ([16, 17, 4], [4, 16, 17]), ([18, 4], [4, 18]), ([19, 4], [4, 19]), ([11, 20, 4], [4, 11, 20]), ([4, 21], [4, 21])])
def wageofficeref22_Pair.B14 : List Nat := [0, 0, 2, 7, 15, 31, 31, 127, 255, 31, 1023, 2047, 31, 31, 8223, 28703, 61471, 31, 258079, 520223, 1044511, 2097151, 4194303]
theorem wageofficeref22_Pair.tab14 : rtab .any (opsOf Try.f14 14) = wageofficeref22_Pair.T14 := by kernel_rfl
theorem wageofficeref22_Pair.bits14 : waitsOk wageofficeref22_Pair.T14.2 wageofficeref22_Pair.B14 = true := by kernel_rfl
def wageofficeref22_Pair.T15 : Bool × List (List Nat × List Nat) := (true, [([], []), ([], []), ([], []), ([1, 2], [1, 2]), ([3], [3]), ([4], [4]), ([], []), ([], []), ([6, 7], [6, 7]), ([8], [8]), ([9], [9]), ([5, 10], [5, 10]), ([11], [11]), ([0, 12], [0, 12]), ([13, 13, 0, 1, 2, 3, 4, 5, 6, 7, 8, 9, 10, 11, 12, 13], [0, 13])])
def wageofficeref22_Pair.B15 : List Nat := [0, 0, 0, 6, 14, 30, 0, 0, 192, 448, 960, 2046, 4094, 8191, 16383]
theorem wageofficeref22_Pair.tab15 : rtab .any (opsOf Try.f14 15) = wageofficeref22_Pair.T15 := by kernel_rfl
theorem wageofficeref22_Pair.bits15 : waitsOk wageofficeref22_Pair.T15.2 wageofficeref22_Pair.B15 = true := by kernel_rfl
def wageofficeref22_Pair.T19 : Bool × List (List Nat × List Nat) := (true, [([], []), ([], []), ([1], [1]), ([2], [2]), ([3], [3]), ([4], [4]), ([0, 0], [0]), ([5, 6, 0, 1, 2, 3, 4, 5, 6], [5]), ([7, 0, 1, 2, 3, 4, 5, 6, 7], [])])
def wageofficeref22_Pair.B19 : List Nat := [0, 0, 2, 6, 14, 30, 1, 127, 255]
theorem wageofficeref22_Pair.tab19 : rtab .any (opsOf Try.f14 19) = wageofficeref22_Pair.T19 := by kernel_rfl
theorem wageofficeref22_Pair.bits19 : waitsOk wageofficeref22_Pair.T19.2 wageofficeref22_Pair.B19 = true := by kernel_rfl
set_option maxHeartbeats 8000000 in
set_option maxRecDepth 100000 in
theorem wageofficeref22_Pair.calls (k : Nat) (A0 : Option Addr) (c0 : Nat) (l0 : List (S48)) (A1 : Option Addr) (c1 : Nat) (l1 : List (S45)) (r1 : List (S57)) (r2 : Int) (r3 : Int) (w : World) (hr0 : Kd.C k48 w A0 l0.length l0) (hc0 : l0.length ≤ c0) (hr1 : Kd.C k45 w A1 l1.length l1) (hc1 : l1.length ≤ c1) (h : wageofficeref22_Pair.f k l0 l1 = some (r1, r2, r3)) :
  Calls Try.prog 14 #[.slice A0 l0.length c0, .slice A1 l1.length c1] w fun e w' => ∃ v0_ : Value, e = .returned (.tuple #[v0_, .int .i64 r2, .int .i64 r3]) ∧ Kd.R k57 57 w' w.heap.size (fun _ => True) v0_ r1 ∧ Below w.heap.size w w' := by
 have hu43 := Try.underlying43
 have hu45 := Try.underlying45
 have hu57 := Try.underlying57
 have HR0 := Aside0.mk hr0
 have HC0 := Aside0.mk hc0
 clear hr0 hc0
 have HR1 := Aside0.mk hr1
 have HC1 := Aside0.mk hc1
 clear hr1 hc1
 have HB := Aside0.mk (Below.refl w.heap.size w)
 have H : ((wageofficeref22_Usable.f k l0 l1).bind fun t170 => (if t170 = 0 then ((wageofficeref22_Marks.f k l0).bind fun t171 => ((wageofficeref22_table.f k t171 l1).bind fun t174 => (wageofficeref22_Pair.l0 k l1 t171 t174 ([] : List (S57)) 0 0))) else (some (([] : List (S57)), 0, t170)))) = some (r1, r2, r3) := h
 clear h
 replace H := Option.bind_eq_some_iff.mp H
 obtain ⟨t170, A30, H⟩ := H
 replace H : (if t170 = 0 then ((wageofficeref22_Marks.f k l0).bind fun t171 => ((wageofficeref22_table.f k t171 l1).bind fun t174 => (wageofficeref22_Pair.l0 k l1 t171 t174 ([] : List (S57)) 0 0))) else (some (([] : List (S57)), 0, t170))) = some (r1, r2, r3) := H
 have A3 := Aside0.mk A30
 clear A30
 by_cases c4 : t170 = 0
 ·rw [if_pos c4] at H
  have c4b0 : (t170 == 0) = true := beq_iff_eq.mpr c4
  have c4b1 : (t170 != 0) = false := bne_eq_false_iff_eq.mpr c4
  clear c4
  replace H := Option.bind_eq_some_iff.mp H
  obtain ⟨t171, A50, H⟩ := H
  replace H : ((wageofficeref22_table.f k t171 l1).bind fun t174 => (wageofficeref22_Pair.l0 k l1 t171 t174 ([] : List (S57)) 0 0)) = some (r1, r2, r3) := H
  have A5 := Aside0.mk A50
  clear A50
  replace H := Option.bind_eq_some_iff.mp H
  obtain ⟨t174, A60, H⟩ := H
  replace H : (wageofficeref22_Pair.l0 k l1 t171 t174 ([] : List (S57)) 0 0) = some (r1, r2, r3) := H
  have A6 := Aside0.mk A60
  clear A60
  have H' := Aside0.mk H
  clear H
  go_enter Try.func14, Try.ntmps14
  go_wp2_with (first | ((with_reducible refine gate_callee (f := 29) rfl ?_); refine goesL_ (some 15) rfl rfl Try.func29 (by kernel_rfl) rfl #[.slice A0 l0.length c0, .slice A1 l1.length c1] rfl (by (try simp only [List.map_toArray, List.map_cons, List.map_nil]); first | done | rfl | (simp only [List.length_drop, List.length_take]; rfl)) ?_; (with_reducible refine (wageofficeref22_Usable.calls k _ _ l0 _ _ l1 t170 _ ?side1 ?side2 ?side3 ?side4 A3.out).mono ?_); (case side1 => repeat (first | exact HR0.out | (with_reducible refine Kd.C_alloc ?_ _) | (with_reducible refine Kd.C_drewN ?_ _) | (with_reducible refine Kd.C_drew ?_))); (case side2 => exact HC0.out); (case side3 => repeat (first | exact HR1.out | (with_reducible refine Kd.C_alloc ?_ _) | (with_reducible refine Kd.C_drewN ?_ _) | (with_reducible refine Kd.C_drew ?_))); (case side4 => exact HC1.out); rintro e w7 ⟨rfl, hb⟩; refine ⟨_, rfl, ?_⟩; have n0_ := Aside0.mk (below_step (by repeat (first | (with_reducible first | exact HB.out | apply below_alloc | apply pw_below_drewN | apply below_drew1) | exact HB.out)) hb); clear HB; have HB := n0_; clear n0_; (try clear hb); (try clear hb2); (try clear hk); (try clear hi)) | ((with_reducible refine gate_callee (f := 21) rfl ?_); refine goesL_ (some 20) rfl rfl Try.func21 (by kernel_rfl) rfl #[.slice A0 l0.length c0] rfl (by (try simp only [List.map_toArray, List.map_cons, List.map_nil]); first | done | rfl | (simp only [List.length_drop, List.length_take]; rfl)) ?_; (with_reducible refine (wageofficeref22_Marks.calls k _ _ l0 t171 _ ?side1 ?side2 A5.out).mono ?_); (case side1 => repeat (first | exact (Kd.C_below HR0.out HB.out) | (with_reducible refine Kd.C_alloc ?_ _) | (with_reducible refine Kd.C_drewN ?_ _) | (with_reducible refine Kd.C_drew ?_))); (case side2 => exact HC0.out); rintro e w8 ⟨v172, rfl, ho0, hb⟩; refine ⟨_, rfl, ?_⟩; have n0_ := Aside0.mk (Kd.R_lower ho0 (below_size (by repeat (first | (with_reducible first | exact HB.out | apply below_alloc | apply pw_below_drewN | apply below_drew1) | exact HB.out)))); have n1_ := Aside0.mk (below_step (by repeat (first | (with_reducible first | exact HB.out | apply below_alloc | apply pw_below_drewN | apply below_drew1) | exact HB.out)) hb); clear HB; have HO173 := n0_; have HB := n1_; clear n0_ n1_; (try clear hb); (try clear hb2); (try clear hk); (try clear hi); (try clear ho0); obtain ⟨Ao9, co9, eo9⟩ := Kd.R_slice HO173.out; subst eo9) | ((with_reducible refine gate_callee (f := 30) rfl ?_); refine goesL_ (some 23) rfl rfl Try.func30 (by kernel_rfl) rfl #[.slice Ao9 t171.length co9, .slice A1 l1.length c1] rfl (by (try simp only [List.map_toArray, List.map_cons, List.map_nil]); first | done | rfl | (simp only [List.length_drop, List.length_take]; rfl)) ?_; (with_reducible refine (wageofficeref22_table.calls k _ _ t171 _ _ l1 t174 _ ?side1 ?side2 ?side3 ?side4 A6.out).mono ?_); (case side1 => repeat (first | exact (Kd.R_reads' HO173.out).2.2 | (with_reducible refine Kd.C_alloc ?_ _) | (with_reducible refine Kd.C_drewN ?_ _) | (with_reducible refine Kd.C_drew ?_))); (case side2 => exact (Kd.R_reads' HO173.out).2.1); (case side3 => repeat (first | exact (Kd.C_below HR1.out HB.out) | (with_reducible refine Kd.C_alloc ?_ _) | (with_reducible refine Kd.C_drewN ?_ _) | (with_reducible refine Kd.C_drew ?_))); (case side4 => exact HC1.out); rintro e w10 ⟨v175, rfl, ho0, hb⟩; refine ⟨_, rfl, ?_⟩; have n0_ := Aside0.mk (Kd.R_below (by (with_reducible repeat (first | apply Kd.R_alloc | apply Kd.R_drewN | apply Kd.R_drew)); exact HO173.out) hb); have n1_ := Aside0.mk (Kd.S_lower ho0 (below_size (by repeat (first | (with_reducible first | exact HB.out | apply below_alloc | apply pw_below_drewN | apply below_drew1) | exact HB.out)))); have n2_ := Aside0.mk (below_step (by repeat (first | (with_reducible first | exact HB.out | apply below_alloc | apply pw_below_drewN | apply below_drew1) | exact HB.out)) hb); clear HO173; clear HB; have HO173 := n0_; have HO176 := n1_; have HB := n2_; clear n0_ n1_ n2_; (try clear hb); (try clear hb2); (try clear hk); (try clear hi); (try clear ho0)))
  go_loopg [10, 11, 12] k (fun kq v10 v11 v12 w' => ∃ (x10_1 : List (S57)) (x11_1 : Int) (x12_1 : Int), v11 = .int .i64 x11_1 ∧ v12 = .int .i64 x12_1 ∧ Aside0 (wageofficeref22_Pair.l0 kq l1 t171 t174 x10_1 x11_1 x12_1 = some (r1, r2, r3)) ∧ Aside0 (kq ≤ k) ∧ Aside0 (Kd.R k43 43 w' w.heap.size (fun _ => True) (.slice Ao9 t171.length co9) t171) ∧ Aside0 (Kd.S (Kd.slice 3 (Kd.int .i64)) 30 w' w.heap.size (fun _ => True) v175 t174) ∧ Aside0 (Kd.R k57 57 w' w.heap.size (fun _ => True) v10 x10_1) ∧ Aside0 (Below w.heap.size w w'))
  case atStart => exact ⟨(([] : List (S57))), (0), (0), (by first | rfl | (simp; done) | (simp [*]; done)), (by first | rfl | (simp; done) | (simp [*]; done)), H', ⟨Nat.le_refl _⟩, ⟨by (with_reducible repeat (first | apply Kd.R_alloc | apply Kd.R_drewN | apply Kd.R_drew)); exact HO173.out⟩, ⟨by (with_reducible repeat (first | apply Kd.S_alloc | apply Kd.S_drewN | apply Kd.S_drew)); exact HO176.out⟩, ⟨by first | exact Kd.R_nil _ _ _ _ _ | exact Kd.N_nil _ _ _ _ _ | exact Kd.V_nil _ _ _ _ _ | exact Kd.Q_nil _ _ _ _ _ | exact Kd.S_nil _ _ _ _ _⟩, ⟨by repeat (first | (with_reducible first | exact HB.out | apply below_alloc | apply pw_below_drewN | apply below_drew1) | exact HB.out)⟩⟩
  case round =>
   clear H'
   try clear c1
   try clear c2
   try clear p2
   try clear c3
   try clear c4
   try clear c4b0
   try clear c4b1
   obtain ⟨x10_1, x11_1, x12_1, rfl, rfl, HA, HK1, HO_8, HO_9, HO_10, HB⟩ := hrel
   cases gk with
   | zero => exact absurd HA.out (by simp [wageofficeref22_Pair.l0])
   | succ k1 =>
    have H := HA.out
    clear HA
    simp only [wageofficeref22_Pair.l0] at H
    have HC11 := Aside0.mk H
    clear H
    go_upto_region 9 with (fail)
    go_cut [33] (fun v33 wc => ∃ (kq : Nat) (x33_10 : Bool), v33 = .bool x33_10 ∧ Aside0 (wageofficeref22_Pair.j1 kq l1 t171 t174 x10_1 x11_1 x12_1 x33_10 = some (r1, r2, r3)) ∧ Aside0 (kq ≤ k1) ∧ Aside0 (Kd.R k43 43 wc w.heap.size (fun _ => True) (.slice Ao9 t171.length co9) t171) ∧ Aside0 (Kd.S (Kd.slice 3 (Kd.int .i64)) 30 wc w.heap.size (fun _ => True) v175 t174) ∧ Aside0 (Kd.R k57 57 wc w.heap.size (fun _ => True) u10 x10_1) ∧ Aside0 (Below w.heap.size w wc))
    case first =>
     have H := HC11.out
     clear HC11
     by_cases c12 : x11_1 < (t171.length : Int)
     ·rw [if_pos c12] at H
      have c12b0 : decide (x11_1 < (t171.length : Int)) = true := decide_eq_true c12
      clear c12
      (first | rw [c12b0] | (simp only [i64_w, i32_w]; rw [c12b0]) | skip)
      have H' := Aside0.mk H
      clear H
      go_wp2
      go_meet
      case rel => exact ⟨_, (true), (by first | rfl | (simp; done) | (simp [*]; done)), H', ⟨by have := HK1.out; first | omega | exact Nat.le_refl _⟩, ⟨by (with_reducible repeat (first | apply Kd.R_alloc | apply Kd.R_drewN | apply Kd.R_drew)); exact HO_8.out⟩, ⟨by (with_reducible repeat (first | apply Kd.S_alloc | apply Kd.S_drewN | apply Kd.S_drew)); exact HO_9.out⟩, ⟨by (with_reducible repeat (first | apply Kd.R_alloc | apply Kd.R_drewN | apply Kd.R_drew)); exact HO_10.out⟩, ⟨by repeat (first | (with_reducible first | exact HB.out | apply below_alloc | apply pw_below_drewN | apply below_drew1) | exact HB.out)⟩⟩
     ·rw [if_neg c12] at H
      have c12b0 : decide (x11_1 < (t171.length : Int)) = false := decide_eq_false c12
      clear c12
      (first | rw [c12b0] | (simp only [i64_w, i32_w]; rw [c12b0]) | skip)
      have H' := Aside0.mk H
      clear H
      go_wp2
      go_meet
      case rel => exact ⟨_, (decide (x12_1 < (l1.length : Int))), (by first | rfl | (simp; done) | (simp [*]; done)), H', ⟨by have := HK1.out; first | omega | exact Nat.le_refl _⟩, ⟨by (with_reducible repeat (first | apply Kd.R_alloc | apply Kd.R_drewN | apply Kd.R_drew)); exact HO_8.out⟩, ⟨by (with_reducible repeat (first | apply Kd.S_alloc | apply Kd.S_drewN | apply Kd.S_drew)); exact HO_9.out⟩, ⟨by (with_reducible repeat (first | apply Kd.R_alloc | apply Kd.R_drewN | apply Kd.R_drew)); exact HO_10.out⟩, ⟨by repeat (first | (with_reducible first | exact HB.out | apply below_alloc | apply pw_below_drewN | apply below_drew1) | exact HB.out)⟩⟩
    case rest =>
     clear HC11
     try clear c1
     try clear c2
     try clear p2
     try clear c3
     try clear c4
     try clear c4b0
     try clear c4b1
     try clear c12
     try clear c12b0
     try clear p2
     obtain ⟨kq, x33_10, rfl, HA, HJ10, HO_8, HO_9, HO_10, HB⟩ := hcut
     cases kq with
     | zero => exact absurd HA.out (by simp [wageofficeref22_Pair.j1])
     | succ kj10 =>
      have H := HA.out
      clear HA
      simp only [wageofficeref22_Pair.j1] at H
      by_cases c13 : x33_10 = true
      ·subst c13
       have H1 : (if x11_1 < (t171.length : Int) then (if x12_1 < (l1.length : Int) then (if 0 ≤ x11_1 then (if x11_1 < (t174.length : Int) then (if 0 ≤ x12_1 then (if x12_1 < ((rd_L9 t174 x11_1).length : Int) then ((wageofficeref22_Cost.f ((rd_T43 t171 x11_1).f0) ((rd_T43 t171 x11_1).f1) ((rd_T43 t171 x11_1).f2) ((rd_T45 l1 x12_1).f0) ((rd_T45 l1 x12_1).f1)).bind fun t183 => (if 0 ≤ (wrap64 (x11_1 + 1)) then (if (wrap64 (x11_1 + 1)) < (t174.length : Int) then (if 0 ≤ (wrap64 (x12_1 + 1)) then (if (wrap64 (x12_1 + 1)) < ((rd_L9 t174 (wrap64 (x11_1 + 1))).length : Int) then (wageofficeref22_Pair.j2 kj10 l1 t171 t174 x10_1 x11_1 x12_1 ((rd (rd_L9 t174 x11_1) x12_1) == (wrap64 (t183 + (rd (rd_L9 t174 (wrap64 (x11_1 + 1))) (wrap64 (x12_1 + 1))))))) else (none)) else (none)) else (none)) else (none))) else (none)) else (none)) else (none)) else (none)) else (wageofficeref22_Pair.j2 kj10 l1 t171 t174 x10_1 x11_1 x12_1 false)) else (wageofficeref22_Pair.j2 kj10 l1 t171 t174 x10_1 x11_1 x12_1 false)) = some (r1, r2, r3) := by rw [if_pos rfl] at H; exact H
       clear H
       have H := H1
       clear H1
       have HC14 := Aside0.mk H
       clear H
       go_upto_region 10 with (fail)
       go_cut [72] (fun v72 wc => ∃ (kq : Nat) (x72_13 : Bool), v72 = .bool x72_13 ∧ Aside0 (wageofficeref22_Pair.j2 kq l1 t171 t174 x10_1 x11_1 x12_1 x72_13 = some (r1, r2, r3)) ∧ Aside0 (kq ≤ kj10) ∧ Aside0 (Kd.R k43 43 wc w.heap.size (fun _ => True) (.slice Ao9 t171.length co9) t171) ∧ Aside0 (Kd.S (Kd.slice 3 (Kd.int .i64)) 30 wc w.heap.size (fun _ => True) v175 t174) ∧ Aside0 (Kd.R k57 57 wc w.heap.size (fun _ => True) u10 x10_1) ∧ Aside0 (Below w.heap.size w wc))
       case first =>
        have H := HC14.out
        clear HC14
        by_cases c15 : x11_1 < (t171.length : Int)
        ·rw [if_pos c15] at H
         have c15b0 : decide (x11_1 < (t171.length : Int)) = true := decide_eq_true c15
         clear c15
         (first | rw [c15b0] | (simp only [i64_w, i32_w]; rw [c15b0]) | skip)
         by_cases c16 : x12_1 < (l1.length : Int)
         ·rw [if_pos c16] at H
          have c16b0 : decide (x12_1 < (l1.length : Int)) = true := decide_eq_true c16
          clear c16
          by_cases c17 : 0 ≤ x11_1
          ·rw [if_pos c17] at H
           have c17b0 : decide (0 ≤ x11_1) = true := decide_eq_true c17
           clear c17
           by_cases c18 : x11_1 < (t174.length : Int)
           ·rw [if_pos c18] at H
            have c18b0 : decide (x11_1 < (t174.length : Int)) = true := decide_eq_true c18
            clear c18
            by_cases c19 : 0 ≤ x12_1
            ·rw [if_pos c19] at H
             have c19b0 : decide (0 ≤ x12_1) = true := decide_eq_true c19
             clear c19
             by_cases c20 : x12_1 < ((rd_L9 t174 x11_1).length : Int)
             ·rw [if_pos c20] at H
              have c20b0 : decide (x12_1 < ((rd_L9 t174 x11_1).length : Int)) = true := decide_eq_true c20
              clear c20
              replace H := Option.bind_eq_some_iff.mp H
              obtain ⟨t183, A210, H⟩ := H
              replace H : (if 0 ≤ (wrap64 (x11_1 + 1)) then (if (wrap64 (x11_1 + 1)) < (t174.length : Int) then (if 0 ≤ (wrap64 (x12_1 + 1)) then (if (wrap64 (x12_1 + 1)) < ((rd_L9 t174 (wrap64 (x11_1 + 1))).length : Int) then (wageofficeref22_Pair.j2 kj10 l1 t171 t174 x10_1 x11_1 x12_1 ((rd (rd_L9 t174 x11_1) x12_1) == (wrap64 (t183 + (rd (rd_L9 t174 (wrap64 (x11_1 + 1))) (wrap64 (x12_1 + 1))))))) else (none)) else (none)) else (none)) else (none)) = some (r1, r2, r3) := H
              have A21 := Aside0.mk A210
              clear A210
              obtain ⟨ji22, hji22⟩ : ∃ j_ : Int, (wrap64 (x11_1 + 1)) = j_ := ⟨_, rfl⟩
              replace H : (if 0 ≤ (ji22) then (if (ji22) < (t174.length : Int) then (if 0 ≤ (wrap64 (x12_1 + 1)) then (if (wrap64 (x12_1 + 1)) < ((rd_L9 t174 (ji22)).length : Int) then (wageofficeref22_Pair.j2 kj10 l1 t171 t174 x10_1 x11_1 x12_1 ((rd (rd_L9 t174 x11_1) x12_1) == (wrap64 (t183 + (rd (rd_L9 t174 (ji22)) (wrap64 (x12_1 + 1))))))) else (none)) else (none)) else (none)) else (none)) = some (r1, r2, r3) := by first | (rw [hji22] at H; exact H) | (simp only [hji22] at H ⊢; exact H)
              (try rw [hji22] at A21)
              have hji22w : (IntKind.i64.wrap (x11_1 + 1)) = ji22 := (i64_w _).trans hji22
              by_cases c23 : 0 ≤ (ji22)
              ·rw [if_pos c23] at H
               have c23b0 : decide (0 ≤ (ji22)) = true := decide_eq_true c23
               clear c23
               by_cases c24 : (ji22) < (t174.length : Int)
               ·rw [if_pos c24] at H
                have c24b0 : decide ((ji22) < (t174.length : Int)) = true := decide_eq_true c24
                clear c24
                obtain ⟨ji25, hji25⟩ : ∃ j_ : Int, (wrap64 (x12_1 + 1)) = j_ := ⟨_, rfl⟩
                replace H : (if 0 ≤ (ji25) then (if (ji25) < ((rd_L9 t174 (ji22)).length : Int) then (wageofficeref22_Pair.j2 kj10 l1 t171 t174 x10_1 x11_1 x12_1 ((rd (rd_L9 t174 x11_1) x12_1) == (wrap64 (t183 + (rd (rd_L9 t174 (ji22)) (ji25)))))) else (none)) else (none)) = some (r1, r2, r3) := by first | (rw [hji25] at H; exact H) | (simp only [hji25] at H ⊢; exact H)
                (try rw [hji25] at A21)
                have hji25w : (IntKind.i64.wrap (x12_1 + 1)) = ji25 := (i64_w _).trans hji25
                by_cases c26 : 0 ≤ (ji25)
                ·rw [if_pos c26] at H
                 have c26b0 : decide (0 ≤ (ji25)) = true := decide_eq_true c26
                 clear c26
                 by_cases c27 : (ji25) < ((rd_L9 t174 (ji22)).length : Int)
                 ·rw [if_pos c27] at H
                  have c27b0 : decide ((ji25) < ((rd_L9 t174 (ji22)).length : Int)) = true := decide_eq_true c27
                  clear c27
                  have H' := Aside0.mk H
                  clear H
                  try go_wp2
                  have n0_ := Aside0.mk (Kd.R_drew HO_8.out)
                  have n1_ := Aside0.mk (Kd.S_drew HO_9.out)
                  have n2_ := Aside0.mk (Kd.R_drew HO_10.out)
                  have n3_ := Aside0.mk (below_drew1 HB.out)
                  clear HO_8
                  clear HO_9
                  clear HO_10
                  clear HB
                  have HO_8 := n0_
                  have HO_9 := n1_
                  have HO_10 := n2_
                  have HB := n3_
                  clear n0_ n1_ n2_ n3_
                  obtain ⟨Ao29, co29, eo29⟩ := Kd.S_slice HO_9.out
                  (first | subst eo29 | (injection eo29 with f1_ f2_ f3_; have f4_ := f1_.symm; have f5_ := f3_.symm; clear f1_ f2_ f3_; subst f4_; subst f5_))
                  have p179 : 0 ≤ (x11_1 : Int) := of_decide_eq_true (by first | (with_reducible assumption) | assumption)
                  have q179 : x11_1 < (t174.length : Int) := of_decide_eq_true (by first | (with_reducible assumption) | assumption)
                  obtain ⟨ad179, A179_0, c179_0, e179, hx179_0, hl179_0, hi179_0⟩ := at_L9 (Kd.S_reads' HO_9.out).2.2 x11_1 p179 q179
                  cases e179
                  obtain ⟨ce179, hce179, hMe179, hcc179⟩ := Kd.S_get HO_9.out [] x11_1 p179 (by first | exact q179 | exact of_decide_eq_true (by first | (with_reducible assumption) | assumption) | (have e_ := (Kd.S_reads' HO_9.out).1; omega))
                  obtain ⟨ve179_0, rfl, ge179_0⟩ := hMe179
                  have hv179_0 := hcc179 0 _ rfl
                  rw [Nat.add_zero, show ((Kd.slice 3 (Kd.int .i64))).sz = 1 from rfl, Nat.mul_one] at hv179_0
                  replace hv179_0 := Option.some.inj (hv179_0.symm.trans hx179_0)
                  rw [hv179_0] at ge179_0
                  have HL179_0 := Aside0.mk (show Kd.R (Kd.int .i64) 3 _ _ _ _ (rd_L9 t174 x11_1) from ge179_0)
                  clear hv179_0 ge179_0
                  clear hcc179 hce179
                  have HR179_0 := Aside0.mk hi179_0
                  have HC179_0 := Aside0.mk hl179_0
                  clear hi179_0 hl179_0
                  replace p179 := eq_true p179
                  replace q179 := eq_true q179
                  have p180 : 0 ≤ (x12_1 : Int) := of_decide_eq_true (by first | (with_reducible assumption) | assumption)
                  have q180 : x12_1 < ((rd_L9 t174 x11_1).length : Int) := of_decide_eq_true (by first | (with_reducible assumption) | assumption)
                  obtain ⟨ad180, e180, hx180_0⟩ := Kd.at_int (by repeat (first | (with_reducible exact HR179_0.out) | (with_reducible refine Kd.C_alloc ?_ _) | (with_reducible refine Kd.C_drewN ?_ _) | (with_reducible refine Kd.C_drew ?_) | exact HR179_0.out)) x12_1 p180 q180
                  cases e180
                  replace p180 := eq_true p180
                  replace q180 := eq_true q180
                  have p181 : 0 ≤ (x11_1 : Int) := of_decide_eq_true (by first | (with_reducible assumption) | assumption)
                  have q181 : x11_1 < (t171.length : Int) := of_decide_eq_true (by first | (with_reducible assumption) | assumption)
                  obtain ⟨ad181, e181, hx181_0, hx181_1, hx181_2⟩ := at_T43 (Kd.R_reads' HO_8.out).2.2 x11_1 p181 q181
                  cases e181
                  replace p181 := eq_true p181
                  replace q181 := eq_true q181
                  have p182 : 0 ≤ (x12_1 : Int) := of_decide_eq_true (by first | (with_reducible assumption) | assumption)
                  have q182 : x12_1 < (l1.length : Int) := of_decide_eq_true (by first | (with_reducible assumption) | assumption)
                  obtain ⟨ad182, e182, hx182_0, hx182_1⟩ := at_T45 HR1.out x12_1 p182 q182
                  have hw182_1 := hx182_1
                  have hw182_0 := hx182_0
                  cases e182
                  replace hx182_0 := (HB.out.cell (World.block_lt_of_cell? w _ hx182_0)).trans hx182_0
                  replace hx182_1 := (HB.out.cell (World.block_lt_of_cell? w _ hx182_1)).trans hx182_1
                  replace p182 := eq_true p182
                  replace q182 := eq_true q182
                  have p184 : 0 ≤ ((ji22) : Int) := of_decide_eq_true (by first | (with_reducible assumption) | assumption)
                  have q184 : (ji22) < (t174.length : Int) := of_decide_eq_true (by first | (with_reducible assumption) | assumption)
                  obtain ⟨ad184, A184_0, c184_0, e184, hx184_0, hl184_0, hi184_0⟩ := at_L9 (Kd.S_reads' HO_9.out).2.2 (ji22) p184 q184
                  obtain rfl : ad179 = ad184 := (by injection e184)
                  obtain ⟨ce184, hce184, hMe184, hcc184⟩ := Kd.S_get HO_9.out [] (ji22) p184 (by first | exact q184 | exact of_decide_eq_true (by first | (with_reducible assumption) | assumption) | (have e_ := (Kd.S_reads' HO_9.out).1; omega))
                  obtain ⟨ve184_0, rfl, ge184_0⟩ := hMe184
                  have hv184_0 := hcc184 0 _ rfl
                  rw [Nat.add_zero, show ((Kd.slice 3 (Kd.int .i64))).sz = 1 from rfl, Nat.mul_one] at hv184_0
                  replace hv184_0 := Option.some.inj (hv184_0.symm.trans hx184_0)
                  rw [hv184_0] at ge184_0
                  have HL184_0 := Aside0.mk (show Kd.R (Kd.int .i64) 3 _ _ _ _ (rd_L9 t174 (ji22)) from ge184_0)
                  clear hv184_0 ge184_0
                  clear hcc184 hce184
                  have HR184_0 := Aside0.mk hi184_0
                  have HC184_0 := Aside0.mk hl184_0
                  clear hi184_0 hl184_0
                  replace p184 := eq_true p184
                  replace q184 := eq_true q184
                  have p185 : 0 ≤ ((ji25) : Int) := of_decide_eq_true (by first | (with_reducible assumption) | assumption)
                  have q185 : (ji25) < ((rd_L9 t174 (ji22)).length : Int) := of_decide_eq_true (by first | (with_reducible assumption) | assumption)
                  obtain ⟨ad185, e185, hx185_0⟩ := Kd.at_int (by repeat (first | (with_reducible exact HR184_0.out) | (with_reducible refine Kd.C_alloc ?_ _) | (with_reducible refine Kd.C_drewN ?_ _) | (with_reducible refine Kd.C_drew ?_) | exact HR184_0.out)) (ji25) p185 q185
                  cases e185
                  replace p185 := eq_true p185
                  replace q185 := eq_true q185
                  refine start_ (n := 39) (S := fun w' => w'.cell? (ad179.add (x11_1).toNat) = some (.slice (some ad180) (rd_L9 t174 x11_1).length c179_0) ∧ w'.cell? (ad180.add (x12_1).toNat) = some (.int .i64 (rd (rd_L9 t174 x11_1) x12_1)) ∧ w'.cell? (ad181.add ((x11_1).toNat * 3)) = some (.int .i64 ((rd_T43 t171 x11_1).f0)) ∧ w'.cell? ⟨(ad181.add ((x11_1).toNat * 3)).block, (ad181.add ((x11_1).toNat * 3)).off + 1, none⟩ = some (.bool ((rd_T43 t171 x11_1).f1)) ∧ w'.cell? ⟨(ad181.add ((x11_1).toNat * 3)).block, (ad181.add ((x11_1).toNat * 3)).off + 2, none⟩ = some (.int .i64 ((rd_T43 t171 x11_1).f2)) ∧ w'.cell? (ad182.add ((x12_1).toNat * 2)) = some (.int .i64 ((rd_T45 l1 x12_1).f0)) ∧ w'.cell? ⟨(ad182.add ((x12_1).toNat * 2)).block, (ad182.add ((x12_1).toNat * 2)).off + 1, none⟩ = some (.bool ((rd_T45 l1 x12_1).f1)) ∧ w'.cell? (ad179.add ((ji22)).toNat) = some (.slice (some ad185) (rd_L9 t174 (ji22)).length c184_0) ∧ w'.cell? (ad185.add ((ji25)).toNat) = some (.int .i64 (rd (rd_L9 t174 (ji22)) (ji25)))) (ds := []) (bb 39 0) (by kernel_rfl) rfl rfl ⟨hx179_0, hx180_0, hx181_0, hx181_1, hx181_2, ((HB.out.cell (World.block_lt_of_cell? w _ hw182_0)).trans hw182_0), ((HB.out.cell (World.block_lt_of_cell? w _ hw182_1)).trans hw182_1), hx184_0, hx185_0⟩ (fun hHeld => ?_); refine with_tabW wageofficeref22_Pair.tab10 wageofficeref22_Pair.bits10 (fun HT_ HW_ => ?_)
                  generalize wc.drew = w28 at HO_8 HO_9 HO_10 HB HL179_0 HL184_0 HR179_0 HR184_0 hx179_0 hx180_0 hx181_0 hx181_1 hx181_2 hx182_0 hx182_1 hx184_0 hx185_0 hHeld ⊢
                  refine pure_ (i := 0) (N := some 34) (v := ?_) (a' := ?_) (bb 39 1) rfl rfl (any_of HT_.out (by kernel_rfl)) (fun _ _ _ h => h) (Or.inl ⟨by rfl, ?_⟩) ?_ ?_
                  rotate_left
                  ·intro w'
                   go_simp
                   with_reducible rfl
                  rotate_left
                  ·simp only [Act.put, sA, sB, sC, i64_w, i32_w]
                   rfl
                  refine pure_ (i := 1) (N := some 35) (v := ?_) (a' := ?_) (bb 39 3) rfl rfl (any_of HT_.out (by kernel_rfl)) (fun _ _ _ h => h) (Or.inl ⟨by rfl, ?_⟩) ?_ ?_
                  rotate_left
                  ·intro w'
                   go_simp
                   with_reducible rfl
                  rotate_left
                  ·simp only [Act.put, sA, sB, sC, i64_w, i32_w]
                   rfl
                  refine pure_ (i := 2) (N := some 36) (v := ?_) (a' := ?_) (bb 39 7) rfl rfl (any_of HT_.out (by kernel_rfl)) (fun _ _ _ h => h) (Or.inl ⟨by rfl, ?_⟩) ?_ ?_
                  rotate_left
                  ·intro w'
                   go_simp
                   with_reducible rfl
                  rotate_left
                  ·simp only [Act.put, sA, sB, sC, i64_w, i32_w]
                   rfl
                  refine pure_ (i := 3) (N := some 37) (v := ?_) (a' := ?_) (bb 39 15) rfl rfl (any_of HT_.out (by kernel_rfl)) (fun _ _ _ h => h) (Or.inl ⟨by rfl, ?_⟩) ?_ ?_
                  rotate_left
                  ·intro w'
                   go_simp
                   with_reducible rfl
                  rotate_left
                  ·simp only [Act.put, sA, sB, sC, i64_w, i32_w]
                   rfl
                  refine pure_ (i := 4) (N := some 38) (v := ?_) (a' := ?_) (bb 39 31) rfl rfl (any_of HT_.out (by kernel_rfl)) (fun _ _ _ h => h) (Or.inl ⟨by rfl, ?_⟩) ?_ ?_
                  rotate_left
                  ·intro w'
                   go_simp
                   with_reducible rfl
                  rotate_left
                  ·simp only [Act.put, sA, sB, sC, i64_w, i32_w]
                   rfl
                  refine pure_ (i := 5) (N := some 39) (v := ?_) (a' := ?_) (bb 39 63) rfl rfl (any_of HT_.out (by kernel_rfl)) (fun _ _ _ h => h) (Or.inl ⟨by rfl, ?_⟩) ?_ ?_
                  rotate_left
                  ·intro w'
                   go_simp
                   with_reducible rfl
                  rotate_left
                  ·simp only [Act.put, sA, sB, sC, i64_w, i32_w]
                   rfl
                  refine pure_ (i := 6) (N := some 40) (v := ?_) (a' := ?_) (bb 39 127) rfl rfl (any_of HT_.out (by kernel_rfl)) (fun _ _ _ h => h) (Or.inl ⟨by rfl, ?_⟩) ?_ ?_
                  rotate_left
                  ·intro w'
                   go_simp
                   with_reducible rfl
                  rotate_left
                  ·simp only [Act.put, sA, sB, sC, i64_w, i32_w]
                   rfl
                  refine pure_ (i := 7) (N := some 41) (v := ?_) (a' := ?_) (bb 39 255) rfl rfl (any_of HT_.out (by kernel_rfl)) (fun _ _ _ h => h) (Or.inl ⟨by rfl, ?_⟩) ?_ ?_
                  rotate_left
                  ·intro w'
                   go_simp
                   with_reducible rfl
                  rotate_left
                  ·simp only [Act.put, sA, sB, sC, i64_w, i32_w]
                   rfl
                  refine pure_ (i := 8) (N := some 42) (v := ?_) (a' := ?_) (bb 39 511) rfl rfl (any_of HT_.out (by kernel_rfl)) (fun _ _ _ h => h) (Or.inl ⟨by rfl, ?_⟩) ?_ ?_
                  rotate_left
                  ·intro w'
                   go_simp
                   with_reducible rfl
                  rotate_left
                  ·simp only [Act.put, sA, sB, sC, i64_w, i32_w]
                   rfl
                  refine pure_ (i := 9) (N := some 43) (v := ?_) (a' := ?_) (bb 39 1023) rfl rfl (any_of HT_.out (by kernel_rfl)) (fun _ _ _ h => h) (Or.inl ⟨by rfl, ?_⟩) ?_ ?_
                  rotate_left
                  ·intro w'
                   go_simp
                   with_reducible rfl
                  rotate_left
                  ·simp only [Act.put, sA, sB, sC, i64_w, i32_w]
                   rfl
                  refine pure_ (i := 10) (N := some 44) (v := ?_) (a' := ?_) (bb 39 2047) rfl rfl (any_of HT_.out (by kernel_rfl)) (fun _ _ _ h => h) (Or.inl ⟨by rfl, ?_⟩) ?_ ?_
                  rotate_left
                  ·intro w'
                   go_simp
                   with_reducible rfl
                  rotate_left
                  ·simp only [Act.put, sA, sB, sC, i64_w, i32_w]
                   rfl
                  refine pure_ (i := 11) (N := some 45) (v := ?_) (a' := ?_) (bb 39 4095) rfl rfl (any_of HT_.out (by kernel_rfl)) (fun _ _ _ h => h) (Or.inl ⟨by rfl, ?_⟩) ?_ ?_
                  rotate_left
                  ·intro w'
                   go_simp
                   with_reducible rfl
                  rotate_left
                  ·simp only [Act.put, sA, sB, sC, i64_w, i32_w]
                   rfl
                  refine pure_ (i := 12) (N := some 46) (v := ?_) (a' := ?_) (bb 39 8191) rfl rfl (any_of HT_.out (by kernel_rfl)) (fun _ _ _ h => h) (Or.inl ⟨by rfl, ?_⟩) ?_ ?_
                  rotate_left
                  ·intro w'
                   go_simp
                   with_reducible rfl
                  rotate_left
                  ·simp only [Act.put, sA, sB, sC, i64_w, i32_w]
                   rfl
                  refine pure_ (i := 13) (N := some 47) (v := ?_) (a' := ?_) (bb 39 16383) rfl rfl (any_of HT_.out (by kernel_rfl)) (fun _ _ _ h => h) (Or.inl ⟨by rfl, ?_⟩) ?_ ?_
                  rotate_left
                  ·intro w'
                   go_simp
                   with_reducible rfl
                  rotate_left
                  ·simp only [Act.put, sA, sB, sC, i64_w, i32_w]
                   rfl
                  refine pure_ (i := 15) (N := some 49) (v := ?_) (a' := ?_) (bb 39 49151) rfl rfl (any_of HT_.out (by kernel_rfl)) (fun _ _ _ h => h) (Or.inl ⟨by rfl, ?_⟩) ?_ ?_
                  rotate_left
                  ·intro w'
                   go_simp
                   with_reducible rfl
                  rotate_left
                  ·simp only [Act.put, sA, sB, sC, i64_w, i32_w]
                   rfl
                  refine pure_ (i := 18) (N := some 52) (v := ?_) (a' := ?_) (bb 39 311295) rfl rfl (any_of HT_.out (by kernel_rfl)) (fun _ _ _ h => h) (Or.inl ⟨by rfl, ?_⟩) ?_ ?_
                  rotate_left
                  ·intro w'
                   go_simp
                   with_reducible rfl
                  rotate_left
                  ·simp only [Act.put, sA, sB, sC, i64_w, i32_w]
                   rfl
                  refine pure_ (i := 19) (N := some 53) (v := ?_) (a' := ?_) (bb 39 835583) rfl rfl (any_of HT_.out (by kernel_rfl)) (fun _ _ _ h => h) (Or.inl ⟨by rfl, ?_⟩) ?_ ?_
                  rotate_left
                  ·intro w'
                   go_simp
                   with_reducible rfl
                  rotate_left
                  ·simp only [Act.put, sA, sB, sC, i64_w, i32_w]
                   rfl
                  refine pure_ (i := 20) (N := some 54) (v := ?_) (a' := ?_) (bb 39 1884159) rfl rfl (any_of HT_.out (by kernel_rfl)) (fun _ _ _ h => h) (Or.inl ⟨by rfl, ?_⟩) ?_ ?_
                  rotate_left
                  ·intro w'
                   go_simp
                   with_reducible rfl
                  rotate_left
                  ·simp only [Act.put, sA, sB, sC, i64_w, i32_w]
                   rfl
                  refine pure_ (i := 22) (N := some 56) (v := ?_) (a' := ?_) (bb 39 6078463) rfl rfl (any_of HT_.out (by kernel_rfl)) (fun _ _ _ h => h) (Or.inl ⟨by rfl, ?_⟩) ?_ ?_
                  rotate_left
                  ·intro w'
                   go_simp
                   with_reducible rfl
                  rotate_left
                  ·simp only [Act.put, sA, sB, sC, i64_w, i32_w]
                   rfl
                  refine pure_ (i := 23) (N := some 57) (v := ?_) (a' := ?_) (bb 39 14467071) rfl rfl (any_of HT_.out (by kernel_rfl)) (fun _ _ _ h => h) (Or.inl ⟨by rfl, ?_⟩) ?_ ?_
                  rotate_left
                  ·intro w'
                   go_simp
                   with_reducible rfl
                  rotate_left
                  ·simp only [Act.put, sA, sB, sC, i64_w, i32_w]
                   rfl
                  refine pure_ (i := 24) (N := some 58) (v := ?_) (a' := ?_) (bb 39 31244287) rfl rfl (any_of HT_.out (by kernel_rfl)) (fun _ _ _ h => h) (Or.inl ⟨by rfl, ?_⟩) ?_ ?_
                  rotate_left
                  ·intro w'
                   go_simp
                   with_reducible rfl
                  rotate_left
                  ·simp only [Act.put, sA, sB, sC, i64_w, i32_w]
                   rfl
                  refine pure_ (i := 27) (N := some 61) (v := ?_) (a' := ?_) (bb 39 165462015) rfl rfl (any_of HT_.out (by kernel_rfl)) (fun _ _ _ h => h) (Or.inl ⟨by rfl, ?_⟩) ?_ ?_
                  rotate_left
                  ·intro w'
                   go_simp
                   with_reducible rfl
                  rotate_left
                  ·simp only [Act.put, sA, sB, sC, i64_w, i32_w]
                   rfl
                  refine pure_ (i := 28) (N := some 62) (v := ?_) (a' := ?_) (bb 39 433897471) rfl rfl (any_of HT_.out (by kernel_rfl)) (fun _ _ _ h => h) (Or.inl ⟨by rfl, ?_⟩) ?_ ?_
                  rotate_left
                  ·intro w'
                   go_simp
                   with_reducible rfl
                  rotate_left
                  ·simp only [Act.put, sA, sB, sC, i64_w, i32_w]
                   rfl
                  refine pure_ (i := 29) (N := some 63) (v := ?_) (a' := ?_) (bb 39 970768383) rfl rfl (any_of HT_.out (by kernel_rfl)) (fun _ _ _ h => h) (Or.inl ⟨by rfl, ?_⟩) ?_ ?_
                  rotate_left
                  ·intro w'
                   go_simp
                   with_reducible rfl
                  rotate_left
                  ·simp only [Act.put, sA, sB, sC, i64_w, i32_w]
                   rfl
                  refine pure_ (i := 30) (N := some 64) (v := ?_) (a' := ?_) (bb 39 2044510207) rfl rfl (any_of HT_.out (by kernel_rfl)) (fun _ _ _ h => h) (Or.inl ⟨by rfl, ?_⟩) ?_ ?_
                  rotate_left
                  ·intro w'
                   go_simp
                   with_reducible rfl
                  rotate_left
                  ·simp only [Act.put, sA, sB, sC, i64_w, i32_w]
                   rfl
                  refine pure_ (i := 32) (N := some 66) (v := ?_) (a' := ?_) (bb 39 6339477503) rfl rfl (any_of HT_.out (by kernel_rfl)) (fun _ _ _ h => h) (Or.inl ⟨by rfl, ?_⟩) ?_ ?_
                  rotate_left
                  ·intro w'
                   go_simp
                   with_reducible rfl
                  rotate_left
                  ·simp only [Act.put, sA, sB, sC, i64_w, i32_w]
                   rfl
                  refine pure_ (i := 33) (N := some 67) (v := ?_) (a' := ?_) (bb 39 14929412095) rfl rfl (any_of HT_.out (by kernel_rfl)) (fun _ _ _ h => h) (Or.inl ⟨by rfl, ?_⟩) ?_ ?_
                  rotate_left
                  ·intro w'
                   go_simp
                   with_reducible rfl
                  rotate_left
                  ·simp only [Act.put, sA, sB, sC, i64_w, i32_w]
                   rfl
                  refine take_ (i := 14) (N := some 48) (v := ?_) (a' := ?_) (bb 39 14929428479) rfl rfl (take_ofW HT_.out HW_.out (by kernel_rfl)) (fun _ _ _ h => h) (Or.inl ⟨by rfl, ?_⟩) hHeld ?_ ?_
                  rotate_left
                  ·rintro w' ⟨s0, s1, s2, s3, s4, s5, s6, s7, s8⟩
                   go_simp
                   with_reducible rfl
                  rotate_left
                  ·simp only [Act.put, sA, sB, sC, i64_w, i32_w]
                   rfl
                  refine pure_ (i := 16) (N := some 50) (v := ?_) (a' := ?_) (bb 39 14929494015) rfl rfl (any_of HT_.out (by kernel_rfl)) (fun _ _ _ h => h) (Or.inl ⟨by rfl, ?_⟩) ?_ ?_
                  rotate_left
                  ·intro w'
                   go_simp
                   with_reducible rfl
                  rotate_left
                  ·simp only [Act.put, sA, sB, sC, i64_w, i32_w]
                   rfl
                  refine take_ (i := 17) (N := some 51) (v := ?_) (a' := ?_) (bb 39 14929625087) rfl rfl (take_ofW HT_.out HW_.out (by kernel_rfl)) (fun _ _ _ h => h) (Or.inl ⟨by rfl, ?_⟩) hHeld ?_ ?_
                  rotate_left
                  ·rintro w' ⟨s0, s1, s2, s3, s4, s5, s6, s7, s8⟩
                   go_simp
                   with_reducible rfl
                  rotate_left
                  ·simp only [Act.put, sA, sB, sC, i64_w, i32_w]
                   rfl
                  refine take_ (i := 21) (N := some 55) (v := ?_) (a' := ?_) (bb 39 14931722239) rfl rfl (take_ofW HT_.out HW_.out (by kernel_rfl)) (fun _ _ _ h => h) (Or.inl ⟨by rfl, ?_⟩) hHeld ?_ ?_
                  rotate_left
                  ·rintro w' ⟨s0, s1, s2, s3, s4, s5, s6, s7, s8⟩
                   go_simp
                   with_reducible rfl
                  rotate_left
                  ·simp only [Act.put, sA, sB, sC, i64_w, i32_w]
                   rfl
                  refine take_ (i := 25) (N := some 59) (v := ?_) (a' := ?_) (bb 39 14965276671) rfl rfl (take_ofW HT_.out HW_.out (by kernel_rfl)) (fun _ _ _ h => h) (Or.inl ⟨by rfl, ?_⟩) hHeld ?_ ?_
                  rotate_left
                  ·rintro w' ⟨s0, s1, s2, s3, s4, s5, s6, s7, s8⟩
                   go_simp
                   with_reducible rfl
                  rotate_left
                  ·simp only [Act.put, sA, sB, sC, i64_w, i32_w]
                   rfl
                  refine take_ (i := 31) (N := some 65) (v := ?_) (a' := ?_) (bb 39 17112760319) rfl rfl (take_ofW HT_.out HW_.out (by kernel_rfl)) (fun _ _ _ h => h) (Or.inl ⟨by rfl, ?_⟩) hHeld ?_ ?_
                  rotate_left
                  ·rintro w' ⟨s0, s1, s2, s3, s4, s5, s6, s7, s8⟩
                   go_simp
                   with_reducible rfl
                  rotate_left
                  ·simp only [Act.put, sA, sB, sC, i64_w, i32_w]
                   rfl
                  refine pure_ (i := 34) (N := some 68) (v := ?_) (a' := ?_) (bb 39 34292629503) rfl rfl (any_of HT_.out (by kernel_rfl)) (fun _ _ _ h => h) (Or.inl ⟨by rfl, ?_⟩) ?_ ?_
                  rotate_left
                  ·intro w'
                   go_simp
                   with_reducible rfl
                  rotate_left
                  ·simp only [Act.put, sA, sB, sC, i64_w, i32_w]
                   rfl
                  refine take_ (i := 35) (N := some 69) (v := ?_) (a' := ?_) (bb 39 68652367871) rfl rfl (take_ofW HT_.out HW_.out (by kernel_rfl)) (fun _ _ _ h => h) (Or.inl ⟨by rfl, ?_⟩) hHeld ?_ ?_
                  rotate_left
                  ·rintro w' ⟨s0, s1, s2, s3, s4, s5, s6, s7, s8⟩
                   go_simp
                   with_reducible rfl
                  rotate_left
                  ·simp only [Act.put, sA, sB, sC, i64_w, i32_w]
                   rfl
                  refine one_ (i := 26) (N := some 60) (bb 39 68719476735) rfl rfl (one_of HT_.out (by kernel_rfl)) (by decide) (fun K hK => ?_)
                  refine goes_ Try.func22 (by kernel_rfl) rfl #[.agg #[.int .i64 ((rd_T43 t171 x11_1).f0), .bool ((rd_T43 t171 x11_1).f1), .int .i64 ((rd_T43 t171 x11_1).f2)], .agg #[.int .i64 ((rd_T45 l1 x12_1).f0), .bool ((rd_T45 l1 x12_1).f1)]] (by rfl) rfl rfl (by (try simp only [List.map_toArray, List.map_cons, List.map_nil]); first | done | rfl | (simp only [List.length_drop, List.length_take]; rfl)) ?_
                  with_reducible refine (wageofficeref22_Cost.calls ((rd_T43 t171 x11_1).f0) ((rd_T43 t171 x11_1).f1) ((rd_T43 t171 x11_1).f2) ((rd_T45 l1 x12_1).f0) ((rd_T45 l1 x12_1).f1) t183 _ A21.out).mono ?_
                  rintro e w30 ⟨rfl, hb⟩
                  have HS0_ := (hb.cell (World.block_lt_of_cell? _ _ (hHeld.1))).trans (hHeld.1)
                  have HS1_ := (hb.cell (World.block_lt_of_cell? _ _ (hHeld.2.1))).trans (hHeld.2.1)
                  have HS2_ := (hb.cell (World.block_lt_of_cell? _ _ (hHeld.2.2.1))).trans (hHeld.2.2.1)
                  have HS3_ := (hb.cell (World.block_lt_of_cell? _ _ (hHeld.2.2.2.1))).trans (hHeld.2.2.2.1)
                  have HS4_ := (hb.cell (World.block_lt_of_cell? _ _ (hHeld.2.2.2.2.1))).trans (hHeld.2.2.2.2.1)
                  have HS7_ := (hb.cell (World.block_lt_of_cell? _ _ (hHeld.2.2.2.2.2.2.2.1))).trans (hHeld.2.2.2.2.2.2.2.1)
                  have HS8_ := (hb.cell (World.block_lt_of_cell? _ _ (hHeld.2.2.2.2.2.2.2.2))).trans (hHeld.2.2.2.2.2.2.2.2)
                  refine ⟨_, rfl, ?_⟩
                  have n0_ := Aside0.mk (Kd.R_below (by (with_reducible repeat (first | apply Kd.R_alloc | apply Kd.R_drewN | apply Kd.R_drew)); exact HO_8.out) hb)
                  have n1_ := Aside0.mk (Kd.S_below (by (with_reducible repeat (first | apply Kd.S_alloc | apply Kd.S_drewN | apply Kd.S_drew)); exact HO_9.out) hb)
                  have n2_ := Aside0.mk (Kd.R_below (by (with_reducible repeat (first | apply Kd.R_alloc | apply Kd.R_drewN | apply Kd.R_drew)); exact HO_10.out) hb)
                  have n3_ := Aside0.mk (Kd.R_below (by (with_reducible repeat (first | apply Kd.R_alloc | apply Kd.R_drewN | apply Kd.R_drew)); exact HL179_0.out) hb)
                  have n4_ := Aside0.mk (Kd.R_below (by (with_reducible repeat (first | apply Kd.R_alloc | apply Kd.R_drewN | apply Kd.R_drew)); exact HL184_0.out) hb)
                  have n5_ := Aside0.mk (Kd.C_below (by repeat (first | (with_reducible exact HR179_0.out) | (with_reducible refine Kd.C_alloc ?_ _) | (with_reducible refine Kd.C_drewN ?_ _) | (with_reducible refine Kd.C_drew ?_) | exact HR179_0.out)) hb)
                  have n6_ := Aside0.mk (Kd.C_below (by repeat (first | (with_reducible exact HR184_0.out) | (with_reducible refine Kd.C_alloc ?_ _) | (with_reducible refine Kd.C_drewN ?_ _) | (with_reducible refine Kd.C_drew ?_) | exact HR184_0.out)) hb)
                  have n7_ := Aside0.mk (below_step (by repeat (first | (with_reducible first | exact HB.out | apply below_alloc | apply pw_below_drewN | apply below_drew1) | exact HB.out)) hb)
                  clear HO_8
                  clear HO_9
                  clear HO_10
                  clear HL179_0
                  clear HL184_0
                  clear HR179_0
                  clear HR184_0
                  clear HB
                  have HO_8 := n0_
                  have HO_9 := n1_
                  have HO_10 := n2_
                  have HL179_0 := n3_
                  have HL184_0 := n4_
                  have HR179_0 := n5_
                  have HR184_0 := n6_
                  have HB := n7_
                  clear n0_ n1_ n2_ n3_ n4_ n5_ n6_ n7_
                  (try clear hb)
                  (try clear hb2)
                  (try clear hk)
                  (try clear hi)
                  refine hK.out _ _ ⟨HS0_, HS1_, HS2_, HS3_, HS4_, ((HB.out.cell (World.block_lt_of_cell? w _ hw182_0)).trans hw182_0), ((HB.out.cell (World.block_lt_of_cell? w _ hw182_1)).trans hw182_1), HS7_, HS8_⟩ (fun hHeld => ?_)
                  clear hK K
                  refine norm_ (a' := ?_) ?_ ?_
                  rotate_left
                  ·show Act.put _ (some 60) _ = _
                   simp only [Act.put, sA, sB, sC, i64_w, i32_w]
                   rfl
                  refine pure_ (i := 36) (N := some 70) (v := ?_) (a' := ?_) (bb 39 137438953471) rfl rfl (any_of HT_.out (by kernel_rfl)) (fun _ _ _ h => h) (Or.inl ⟨by rfl, ?_⟩) ?_ ?_
                  rotate_left
                  ·intro w'
                   go_simp
                   with_reducible rfl
                  rotate_left
                  ·simp only [Act.put, sA, sB, sC, i64_w, i32_w]
                   rfl
                  refine pure_ (i := 37) (N := some 71) (v := ?_) (a' := ?_) (bb 39 274877906943) rfl rfl (any_of HT_.out (by kernel_rfl)) (fun _ _ _ h => h) (Or.inl ⟨by rfl, ?_⟩) ?_ ?_
                  rotate_left
                  ·intro w'
                   go_simp
                   with_reducible rfl
                  rotate_left
                  ·simp only [Act.put, sA, sB, sC, i64_w, i32_w]
                   rfl
                  refine pure_ (i := 38) (N := some 72) (v := ?_) (a' := ?_) (bb 39 549755813887) rfl rfl (any_of HT_.out (by kernel_rfl)) (fun _ _ _ h => h) (Or.inl ⟨by rfl, ?_⟩) ?_ ?_
                  rotate_left
                  ·intro w'
                   go_simp
                   with_reducible rfl
                  rotate_left
                  ·simp only [Act.put, sA, sB, sC, i64_w, i32_w]
                   rfl
                  refine done_ (done_of HT_.out (by kernel_rfl)) ?_
                  try go_wp2
                  go_meet
                  case rel => exact ⟨_, (((rd (rd_L9 t174 x11_1) x12_1) == (wrap64 (t183 + (rd (rd_L9 t174 (ji22)) (ji25)))))), (by first | rfl | (simp; done) | (simp only [← hji22, ← hji25] <;> (first | rfl | simp)) | (simp [*]; done)), H', ⟨by have := HK1.out; have := HJ10.out; first | omega | exact Nat.le_refl _⟩, ⟨by (with_reducible repeat (first | apply Kd.R_alloc | apply Kd.R_drewN | apply Kd.R_drew)); exact HO_8.out⟩, ⟨by (with_reducible repeat (first | apply Kd.S_alloc | apply Kd.S_drewN | apply Kd.S_drew)); exact HO_9.out⟩, ⟨by (with_reducible repeat (first | apply Kd.R_alloc | apply Kd.R_drewN | apply Kd.R_drew)); exact HO_10.out⟩, ⟨by repeat (first | (with_reducible first | exact HB.out | apply below_alloc | apply pw_below_drewN | apply below_drew1) | exact HB.out)⟩⟩
                 ·rw [if_neg c27] at H
                  exact absurd H (by simp)
                ·rw [if_neg c26] at H
                 exact absurd H (by simp)
               ·rw [if_neg c24] at H
                exact absurd H (by simp)
              ·rw [if_neg c23] at H
               exact absurd H (by simp)
             ·rw [if_neg c20] at H
              exact absurd H (by simp)
            ·rw [if_neg c19] at H
             exact absurd H (by simp)
           ·rw [if_neg c18] at H
            exact absurd H (by simp)
          ·rw [if_neg c17] at H
           exact absurd H (by simp)
         ·rw [if_neg c16] at H
          have c16b0 : decide (x12_1 < (l1.length : Int)) = false := decide_eq_false c16
          clear c16
          have H' := Aside0.mk H
          clear H
          try go_wp2
          have n0_ := Aside0.mk (Kd.R_drew HO_8.out)
          have n1_ := Aside0.mk (Kd.S_drew HO_9.out)
          have n2_ := Aside0.mk (Kd.R_drew HO_10.out)
          have n3_ := Aside0.mk (below_drew1 HB.out)
          clear HO_8
          clear HO_9
          clear HO_10
          clear HB
          have HO_8 := n0_
          have HO_9 := n1_
          have HO_10 := n2_
          have HB := n3_
          clear n0_ n1_ n2_ n3_
          refine start_ (n := 39) (S := fun w' => True) (ds := []) (bb 39 0) (by kernel_rfl) rfl rfl trivial (fun hHeld => ?_); refine with_tabW wageofficeref22_Pair.tab10 wageofficeref22_Pair.bits10 (fun HT_ HW_ => ?_)
          generalize wc.drew = w31 at HO_8 HO_9 HO_10 HB hHeld ⊢
          refine pure_ (i := 0) (N := some 34) (v := ?_) (a' := ?_) (bb 39 1) rfl rfl (any_of HT_.out (by kernel_rfl)) (fun _ _ _ h => h) (Or.inl ⟨by rfl, ?_⟩) ?_ ?_
          rotate_left
          ·intro w'
           go_simp
           with_reducible rfl
          rotate_left
          ·simp only [Act.put, sA, sB, sC, i64_w, i32_w]
           rfl
          refine pure_ (i := 1) (N := some 35) (v := ?_) (a' := ?_) (bb 39 3) rfl rfl (any_of HT_.out (by kernel_rfl)) (fun _ _ _ h => h) (Or.inl ⟨by rfl, ?_⟩) ?_ ?_
          rotate_left
          ·intro w'
           go_simp
           with_reducible rfl
          rotate_left
          ·simp only [Act.put, sA, sB, sC, i64_w, i32_w]
           rfl
          refine pure_ (i := 2) (N := some 36) (v := ?_) (a' := ?_) (bb 39 7) rfl rfl (any_of HT_.out (by kernel_rfl)) (fun _ _ _ h => h) (Or.inl ⟨by rfl, ?_⟩) ?_ ?_
          rotate_left
          ·intro w'
           go_simp
           with_reducible rfl
          rotate_left
          ·simp only [Act.put, sA, sB, sC, i64_w, i32_w]
           rfl
          refine pure_ (i := 3) (N := some 37) (v := ?_) (a' := ?_) (bb 39 15) rfl rfl (any_of HT_.out (by kernel_rfl)) (fun _ _ _ h => h) (Or.inl ⟨by rfl, ?_⟩) ?_ ?_
          rotate_left
          ·intro w'
           go_simp
           with_reducible rfl
          rotate_left
          ·simp only [Act.put, sA, sB, sC, i64_w, i32_w]
           rfl
          refine pure_ (i := 4) (N := some 38) (v := ?_) (a' := ?_) (bb 39 31) rfl rfl (any_of HT_.out (by kernel_rfl)) (fun _ _ _ h => h) (Or.inl ⟨by rfl, ?_⟩) ?_ ?_
          rotate_left
          ·intro w'
           go_simp
           with_reducible rfl
          rotate_left
          ·simp only [Act.put, sA, sB, sC, i64_w, i32_w]
           rfl
          refine pure_ (i := 5) (N := some 39) (v := ?_) (a' := ?_) (bb 39 63) rfl rfl (any_of HT_.out (by kernel_rfl)) (fun _ _ _ h => h) (Or.inl ⟨by rfl, ?_⟩) ?_ ?_
          rotate_left
          ·intro w'
           go_simp
           with_reducible rfl
          rotate_left
          ·simp only [Act.put, sA, sB, sC, i64_w, i32_w]
           rfl
          refine pure_ (i := 6) (N := some 40) (v := ?_) (a' := ?_) (bb 39 127) rfl rfl (any_of HT_.out (by kernel_rfl)) (fun _ _ _ h => h) (Or.inl ⟨by rfl, ?_⟩) ?_ ?_
          rotate_left
          ·intro w'
           go_simp
           with_reducible rfl
          rotate_left
          ·simp only [Act.put, sA, sB, sC, i64_w, i32_w]
           rfl
          refine pure_ (i := 7) (N := some 41) (v := ?_) (a' := ?_) (bb 39 255) rfl rfl (any_of HT_.out (by kernel_rfl)) (fun _ _ _ h => h) (Or.inl ⟨by rfl, ?_⟩) ?_ ?_
          rotate_left
          ·intro w'
           go_simp
           with_reducible rfl
          rotate_left
          ·simp only [Act.put, sA, sB, sC, i64_w, i32_w]
           rfl
          refine pure_ (i := 8) (N := some 42) (v := ?_) (a' := ?_) (bb 39 511) rfl rfl (any_of HT_.out (by kernel_rfl)) (fun _ _ _ h => h) (Or.inl ⟨by rfl, ?_⟩) ?_ ?_
          rotate_left
          ·intro w'
           go_simp
           with_reducible rfl
          rotate_left
          ·simp only [Act.put, sA, sB, sC, i64_w, i32_w]
           rfl
          refine pure_ (i := 9) (N := some 43) (v := ?_) (a' := ?_) (bb 39 1023) rfl rfl (any_of HT_.out (by kernel_rfl)) (fun _ _ _ h => h) (Or.inl ⟨by rfl, ?_⟩) ?_ ?_
          rotate_left
          ·intro w'
           go_simp
           with_reducible rfl
          rotate_left
          ·simp only [Act.put, sA, sB, sC, i64_w, i32_w]
           rfl
          refine pure_ (i := 10) (N := some 44) (v := ?_) (a' := ?_) (bb 39 2047) rfl rfl (any_of HT_.out (by kernel_rfl)) (fun _ _ _ h => h) (Or.inl ⟨by rfl, ?_⟩) ?_ ?_
          rotate_left
          ·intro w'
           go_simp
           with_reducible rfl
          rotate_left
          ·simp only [Act.put, sA, sB, sC, i64_w, i32_w]
           rfl
          refine pure_ (i := 11) (N := some 45) (v := undef) (a' := ?_) (bb 39 4095) rfl rfl (any_of HT_.out (by kernel_rfl)) (fun _ _ _ h => h) (Or.inr ⟨by rfl, rfl⟩) ?_ ?_
          rotate_left
          ·simp only [Act.put, sA, sB, sC, i64_w, i32_w]
           rfl
          refine pure_ (i := 12) (N := some 46) (v := undef) (a' := ?_) (bb 39 8191) rfl rfl (any_of HT_.out (by kernel_rfl)) (fun _ _ _ h => h) (Or.inr ⟨by rfl, rfl⟩) ?_ ?_
          rotate_left
          ·simp only [Act.put, sA, sB, sC, i64_w, i32_w]
           rfl
          refine pure_ (i := 13) (N := some 47) (v := undef) (a' := ?_) (bb 39 16383) rfl rfl (any_of HT_.out (by kernel_rfl)) (fun _ _ _ h => h) (Or.inr ⟨by rfl, rfl⟩) ?_ ?_
          rotate_left
          ·simp only [Act.put, sA, sB, sC, i64_w, i32_w]
           rfl
          refine pure_ (i := 14) (N := some 48) (v := undef) (a' := ?_) (bb 39 32767) rfl rfl (any_of HT_.out (by kernel_rfl)) (fun _ _ _ h => h) (Or.inr ⟨by rfl, rfl⟩) ?_ ?_
          rotate_left
          ·simp only [Act.put, sA, sB, sC, i64_w, i32_w]
           rfl
          refine pure_ (i := 15) (N := some 49) (v := undef) (a' := ?_) (bb 39 65535) rfl rfl (any_of HT_.out (by kernel_rfl)) (fun _ _ _ h => h) (Or.inr ⟨by rfl, rfl⟩) ?_ ?_
          rotate_left
          ·simp only [Act.put, sA, sB, sC, i64_w, i32_w]
           rfl
          refine pure_ (i := 16) (N := some 50) (v := undef) (a' := ?_) (bb 39 131071) rfl rfl (any_of HT_.out (by kernel_rfl)) (fun _ _ _ h => h) (Or.inr ⟨by rfl, rfl⟩) ?_ ?_
          rotate_left
          ·simp only [Act.put, sA, sB, sC, i64_w, i32_w]
           rfl
          refine pure_ (i := 17) (N := some 51) (v := undef) (a' := ?_) (bb 39 262143) rfl rfl (any_of HT_.out (by kernel_rfl)) (fun _ _ _ h => h) (Or.inr ⟨by rfl, rfl⟩) ?_ ?_
          rotate_left
          ·simp only [Act.put, sA, sB, sC, i64_w, i32_w]
           rfl
          refine pure_ (i := 18) (N := some 52) (v := undef) (a' := ?_) (bb 39 524287) rfl rfl (any_of HT_.out (by kernel_rfl)) (fun _ _ _ h => h) (Or.inr ⟨by rfl, rfl⟩) ?_ ?_
          rotate_left
          ·simp only [Act.put, sA, sB, sC, i64_w, i32_w]
           rfl
          refine pure_ (i := 19) (N := some 53) (v := undef) (a' := ?_) (bb 39 1048575) rfl rfl (any_of HT_.out (by kernel_rfl)) (fun _ _ _ h => h) (Or.inr ⟨by rfl, rfl⟩) ?_ ?_
          rotate_left
          ·simp only [Act.put, sA, sB, sC, i64_w, i32_w]
           rfl
          refine pure_ (i := 20) (N := some 54) (v := undef) (a' := ?_) (bb 39 2097151) rfl rfl (any_of HT_.out (by kernel_rfl)) (fun _ _ _ h => h) (Or.inr ⟨by rfl, rfl⟩) ?_ ?_
          rotate_left
          ·simp only [Act.put, sA, sB, sC, i64_w, i32_w]
           rfl
          refine pure_ (i := 21) (N := some 55) (v := undef) (a' := ?_) (bb 39 4194303) rfl rfl (any_of HT_.out (by kernel_rfl)) (fun _ _ _ h => h) (Or.inr ⟨by rfl, rfl⟩) ?_ ?_
          rotate_left
          ·simp only [Act.put, sA, sB, sC, i64_w, i32_w]
           rfl
          refine pure_ (i := 22) (N := some 56) (v := undef) (a' := ?_) (bb 39 8388607) rfl rfl (any_of HT_.out (by kernel_rfl)) (fun _ _ _ h => h) (Or.inr ⟨by rfl, rfl⟩) ?_ ?_
          rotate_left
          ·simp only [Act.put, sA, sB, sC, i64_w, i32_w]
           rfl
          refine pure_ (i := 23) (N := some 57) (v := undef) (a' := ?_) (bb 39 16777215) rfl rfl (any_of HT_.out (by kernel_rfl)) (fun _ _ _ h => h) (Or.inr ⟨by rfl, rfl⟩) ?_ ?_
          rotate_left
          ·simp only [Act.put, sA, sB, sC, i64_w, i32_w]
           rfl
          refine pure_ (i := 24) (N := some 58) (v := undef) (a' := ?_) (bb 39 33554431) rfl rfl (any_of HT_.out (by kernel_rfl)) (fun _ _ _ h => h) (Or.inr ⟨by rfl, rfl⟩) ?_ ?_
          rotate_left
          ·simp only [Act.put, sA, sB, sC, i64_w, i32_w]
           rfl
          refine pure_ (i := 25) (N := some 59) (v := undef) (a' := ?_) (bb 39 67108863) rfl rfl (any_of HT_.out (by kernel_rfl)) (fun _ _ _ h => h) (Or.inr ⟨by rfl, rfl⟩) ?_ ?_
          rotate_left
          ·simp only [Act.put, sA, sB, sC, i64_w, i32_w]
           rfl
          refine pure_ (i := 26) (N := some 60) (v := undef) (a' := ?_) (bb 39 134217727) rfl rfl (any_of HT_.out (by kernel_rfl)) (fun _ _ _ h => h) (Or.inr ⟨by rfl, rfl⟩) ?_ ?_
          rotate_left
          ·simp only [Act.put, sA, sB, sC, i64_w, i32_w]
           rfl
          refine pure_ (i := 27) (N := some 61) (v := undef) (a' := ?_) (bb 39 268435455) rfl rfl (any_of HT_.out (by kernel_rfl)) (fun _ _ _ h => h) (Or.inr ⟨by rfl, rfl⟩) ?_ ?_
          rotate_left
          ·simp only [Act.put, sA, sB, sC, i64_w, i32_w]
           rfl
          refine pure_ (i := 28) (N := some 62) (v := undef) (a' := ?_) (bb 39 536870911) rfl rfl (any_of HT_.out (by kernel_rfl)) (fun _ _ _ h => h) (Or.inr ⟨by rfl, rfl⟩) ?_ ?_
          rotate_left
          ·simp only [Act.put, sA, sB, sC, i64_w, i32_w]
           rfl
          refine pure_ (i := 29) (N := some 63) (v := undef) (a' := ?_) (bb 39 1073741823) rfl rfl (any_of HT_.out (by kernel_rfl)) (fun _ _ _ h => h) (Or.inr ⟨by rfl, rfl⟩) ?_ ?_
          rotate_left
          ·simp only [Act.put, sA, sB, sC, i64_w, i32_w]
           rfl
          refine pure_ (i := 30) (N := some 64) (v := undef) (a' := ?_) (bb 39 2147483647) rfl rfl (any_of HT_.out (by kernel_rfl)) (fun _ _ _ h => h) (Or.inr ⟨by rfl, rfl⟩) ?_ ?_
          rotate_left
          ·simp only [Act.put, sA, sB, sC, i64_w, i32_w]
           rfl
          refine pure_ (i := 31) (N := some 65) (v := undef) (a' := ?_) (bb 39 4294967295) rfl rfl (any_of HT_.out (by kernel_rfl)) (fun _ _ _ h => h) (Or.inr ⟨by rfl, rfl⟩) ?_ ?_
          rotate_left
          ·simp only [Act.put, sA, sB, sC, i64_w, i32_w]
           rfl
          refine pure_ (i := 32) (N := some 66) (v := undef) (a' := ?_) (bb 39 8589934591) rfl rfl (any_of HT_.out (by kernel_rfl)) (fun _ _ _ h => h) (Or.inr ⟨by rfl, rfl⟩) ?_ ?_
          rotate_left
          ·simp only [Act.put, sA, sB, sC, i64_w, i32_w]
           rfl
          refine pure_ (i := 33) (N := some 67) (v := undef) (a' := ?_) (bb 39 17179869183) rfl rfl (any_of HT_.out (by kernel_rfl)) (fun _ _ _ h => h) (Or.inr ⟨by rfl, rfl⟩) ?_ ?_
          rotate_left
          ·simp only [Act.put, sA, sB, sC, i64_w, i32_w]
           rfl
          refine pure_ (i := 34) (N := some 68) (v := undef) (a' := ?_) (bb 39 34359738367) rfl rfl (any_of HT_.out (by kernel_rfl)) (fun _ _ _ h => h) (Or.inr ⟨by rfl, rfl⟩) ?_ ?_
          rotate_left
          ·simp only [Act.put, sA, sB, sC, i64_w, i32_w]
           rfl
          refine pure_ (i := 35) (N := some 69) (v := undef) (a' := ?_) (bb 39 68719476735) rfl rfl (any_of HT_.out (by kernel_rfl)) (fun _ _ _ h => h) (Or.inr ⟨by rfl, rfl⟩) ?_ ?_
          rotate_left
          ·simp only [Act.put, sA, sB, sC, i64_w, i32_w]
           rfl
          refine pure_ (i := 36) (N := some 70) (v := undef) (a' := ?_) (bb 39 137438953471) rfl rfl (any_of HT_.out (by kernel_rfl)) (fun _ _ _ h => h) (Or.inr ⟨by rfl, rfl⟩) ?_ ?_
          rotate_left
          ·simp only [Act.put, sA, sB, sC, i64_w, i32_w]
           rfl
          refine pure_ (i := 37) (N := some 71) (v := undef) (a' := ?_) (bb 39 274877906943) rfl rfl (any_of HT_.out (by kernel_rfl)) (fun _ _ _ h => h) (Or.inr ⟨by rfl, rfl⟩) ?_ ?_
          rotate_left
          ·simp only [Act.put, sA, sB, sC, i64_w, i32_w]
           rfl
          refine pure_ (i := 38) (N := some 72) (v := ?_) (a' := ?_) (bb 39 549755813887) rfl rfl (any_of HT_.out (by kernel_rfl)) (fun _ _ _ h => h) (Or.inl ⟨by rfl, ?_⟩) ?_ ?_
          rotate_left
          ·intro w'
           go_simp
           with_reducible rfl
          rotate_left
          ·simp only [Act.put, sA, sB, sC, i64_w, i32_w]
           rfl
          refine done_ (done_of HT_.out (by kernel_rfl)) ?_
          try go_wp2
          go_meet
          case rel => exact ⟨_, (false), (by first | rfl | (simp; done) | (simp [*]; done)), H', ⟨by have := HK1.out; have := HJ10.out; first | omega | exact Nat.le_refl _⟩, ⟨by (with_reducible repeat (first | apply Kd.R_alloc | apply Kd.R_drewN | apply Kd.R_drew)); exact HO_8.out⟩, ⟨by (with_reducible repeat (first | apply Kd.S_alloc | apply Kd.S_drewN | apply Kd.S_drew)); exact HO_9.out⟩, ⟨by (with_reducible repeat (first | apply Kd.R_alloc | apply Kd.R_drewN | apply Kd.R_drew)); exact HO_10.out⟩, ⟨by repeat (first | (with_reducible first | exact HB.out | apply below_alloc | apply pw_below_drewN | apply below_drew1) | exact HB.out)⟩⟩
        ·rw [if_neg c15] at H
         have c15b0 : decide (x11_1 < (t171.length : Int)) = false := decide_eq_false c15
         clear c15
         (first | rw [c15b0] | (simp only [i64_w, i32_w]; rw [c15b0]) | skip)
         have H' := Aside0.mk H
         clear H
         try go_wp2
         have n0_ := Aside0.mk (Kd.R_drew HO_8.out)
         have n1_ := Aside0.mk (Kd.S_drew HO_9.out)
         have n2_ := Aside0.mk (Kd.R_drew HO_10.out)
         have n3_ := Aside0.mk (below_drew1 HB.out)
         clear HO_8
         clear HO_9
         clear HO_10
         clear HB
         have HO_8 := n0_
         have HO_9 := n1_
         have HO_10 := n2_
         have HB := n3_
         clear n0_ n1_ n2_ n3_
         refine start_ (n := 39) (S := fun w' => True) (ds := []) (bb 39 0) (by kernel_rfl) rfl rfl trivial (fun hHeld => ?_); refine with_tabW wageofficeref22_Pair.tab10 wageofficeref22_Pair.bits10 (fun HT_ HW_ => ?_)
         generalize wc.drew = w32 at HO_8 HO_9 HO_10 HB hHeld ⊢
         refine pure_ (i := 0) (N := some 34) (v := ?_) (a' := ?_) (bb 39 1) rfl rfl (any_of HT_.out (by kernel_rfl)) (fun _ _ _ h => h) (Or.inl ⟨by rfl, ?_⟩) ?_ ?_
         rotate_left
         ·intro w'
          go_simp
          with_reducible rfl
         rotate_left
         ·simp only [Act.put, sA, sB, sC, i64_w, i32_w]
          rfl
         refine pure_ (i := 1) (N := some 35) (v := ?_) (a' := ?_) (bb 39 3) rfl rfl (any_of HT_.out (by kernel_rfl)) (fun _ _ _ h => h) (Or.inl ⟨by rfl, ?_⟩) ?_ ?_
         rotate_left
         ·intro w'
          go_simp
          with_reducible rfl
         rotate_left
         ·simp only [Act.put, sA, sB, sC, i64_w, i32_w]
          rfl
         refine pure_ (i := 2) (N := some 36) (v := ?_) (a' := ?_) (bb 39 7) rfl rfl (any_of HT_.out (by kernel_rfl)) (fun _ _ _ h => h) (Or.inl ⟨by rfl, ?_⟩) ?_ ?_
         rotate_left
         ·intro w'
          go_simp
          with_reducible rfl
         rotate_left
         ·simp only [Act.put, sA, sB, sC, i64_w, i32_w]
          rfl
         refine pure_ (i := 3) (N := some 37) (v := ?_) (a' := ?_) (bb 39 15) rfl rfl (any_of HT_.out (by kernel_rfl)) (fun _ _ _ h => h) (Or.inl ⟨by rfl, ?_⟩) ?_ ?_
         rotate_left
         ·intro w'
          go_simp
          with_reducible rfl
         rotate_left
         ·simp only [Act.put, sA, sB, sC, i64_w, i32_w]
          rfl
         refine pure_ (i := 4) (N := some 38) (v := ?_) (a' := ?_) (bb 39 31) rfl rfl (any_of HT_.out (by kernel_rfl)) (fun _ _ _ h => h) (Or.inl ⟨by rfl, ?_⟩) ?_ ?_
         rotate_left
         ·intro w'
          go_simp
          with_reducible rfl
         rotate_left
         ·simp only [Act.put, sA, sB, sC, i64_w, i32_w]
          rfl
         refine pure_ (i := 5) (N := some 39) (v := undef) (a' := ?_) (bb 39 63) rfl rfl (any_of HT_.out (by kernel_rfl)) (fun _ _ _ h => h) (Or.inr ⟨by rfl, rfl⟩) ?_ ?_
         rotate_left
         ·simp only [Act.put, sA, sB, sC, i64_w, i32_w]
          rfl
         refine pure_ (i := 6) (N := some 40) (v := undef) (a' := ?_) (bb 39 127) rfl rfl (any_of HT_.out (by kernel_rfl)) (fun _ _ _ h => h) (Or.inr ⟨by rfl, rfl⟩) ?_ ?_
         rotate_left
         ·simp only [Act.put, sA, sB, sC, i64_w, i32_w]
          rfl
         refine pure_ (i := 7) (N := some 41) (v := undef) (a' := ?_) (bb 39 255) rfl rfl (any_of HT_.out (by kernel_rfl)) (fun _ _ _ h => h) (Or.inr ⟨by rfl, rfl⟩) ?_ ?_
         rotate_left
         ·simp only [Act.put, sA, sB, sC, i64_w, i32_w]
          rfl
         refine pure_ (i := 8) (N := some 42) (v := undef) (a' := ?_) (bb 39 511) rfl rfl (any_of HT_.out (by kernel_rfl)) (fun _ _ _ h => h) (Or.inr ⟨by rfl, rfl⟩) ?_ ?_
         rotate_left
         ·simp only [Act.put, sA, sB, sC, i64_w, i32_w]
          rfl
         refine pure_ (i := 9) (N := some 43) (v := ?_) (a' := ?_) (bb 39 1023) rfl rfl (any_of HT_.out (by kernel_rfl)) (fun _ _ _ h => h) (Or.inl ⟨by rfl, ?_⟩) ?_ ?_
         rotate_left
         ·intro w'
          go_simp
          with_reducible rfl
         rotate_left
         ·simp only [Act.put, sA, sB, sC, i64_w, i32_w]
          rfl
         refine pure_ (i := 10) (N := some 44) (v := ?_) (a' := ?_) (bb 39 2047) rfl rfl (any_of HT_.out (by kernel_rfl)) (fun _ _ _ h => h) (Or.inl ⟨by rfl, ?_⟩) ?_ ?_
         rotate_left
         ·intro w'
          go_simp
          with_reducible rfl
         rotate_left
         ·simp only [Act.put, sA, sB, sC, i64_w, i32_w]
          rfl
         refine pure_ (i := 11) (N := some 45) (v := undef) (a' := ?_) (bb 39 4095) rfl rfl (any_of HT_.out (by kernel_rfl)) (fun _ _ _ h => h) (Or.inr ⟨by rfl, rfl⟩) ?_ ?_
         rotate_left
         ·simp only [Act.put, sA, sB, sC, i64_w, i32_w]
          rfl
         refine pure_ (i := 12) (N := some 46) (v := undef) (a' := ?_) (bb 39 8191) rfl rfl (any_of HT_.out (by kernel_rfl)) (fun _ _ _ h => h) (Or.inr ⟨by rfl, rfl⟩) ?_ ?_
         rotate_left
         ·simp only [Act.put, sA, sB, sC, i64_w, i32_w]
          rfl
         refine pure_ (i := 13) (N := some 47) (v := undef) (a' := ?_) (bb 39 16383) rfl rfl (any_of HT_.out (by kernel_rfl)) (fun _ _ _ h => h) (Or.inr ⟨by rfl, rfl⟩) ?_ ?_
         rotate_left
         ·simp only [Act.put, sA, sB, sC, i64_w, i32_w]
          rfl
         refine pure_ (i := 14) (N := some 48) (v := undef) (a' := ?_) (bb 39 32767) rfl rfl (any_of HT_.out (by kernel_rfl)) (fun _ _ _ h => h) (Or.inr ⟨by rfl, rfl⟩) ?_ ?_
         rotate_left
         ·simp only [Act.put, sA, sB, sC, i64_w, i32_w]
          rfl
         refine pure_ (i := 15) (N := some 49) (v := undef) (a' := ?_) (bb 39 65535) rfl rfl (any_of HT_.out (by kernel_rfl)) (fun _ _ _ h => h) (Or.inr ⟨by rfl, rfl⟩) ?_ ?_
         rotate_left
         ·simp only [Act.put, sA, sB, sC, i64_w, i32_w]
          rfl
         refine pure_ (i := 16) (N := some 50) (v := undef) (a' := ?_) (bb 39 131071) rfl rfl (any_of HT_.out (by kernel_rfl)) (fun _ _ _ h => h) (Or.inr ⟨by rfl, rfl⟩) ?_ ?_
         rotate_left
         ·simp only [Act.put, sA, sB, sC, i64_w, i32_w]
          rfl
         refine pure_ (i := 17) (N := some 51) (v := undef) (a' := ?_) (bb 39 262143) rfl rfl (any_of HT_.out (by kernel_rfl)) (fun _ _ _ h => h) (Or.inr ⟨by rfl, rfl⟩) ?_ ?_
         rotate_left
         ·simp only [Act.put, sA, sB, sC, i64_w, i32_w]
          rfl
         refine pure_ (i := 18) (N := some 52) (v := undef) (a' := ?_) (bb 39 524287) rfl rfl (any_of HT_.out (by kernel_rfl)) (fun _ _ _ h => h) (Or.inr ⟨by rfl, rfl⟩) ?_ ?_
         rotate_left
         ·simp only [Act.put, sA, sB, sC, i64_w, i32_w]
          rfl
         refine pure_ (i := 19) (N := some 53) (v := undef) (a' := ?_) (bb 39 1048575) rfl rfl (any_of HT_.out (by kernel_rfl)) (fun _ _ _ h => h) (Or.inr ⟨by rfl, rfl⟩) ?_ ?_
         rotate_left
         ·simp only [Act.put, sA, sB, sC, i64_w, i32_w]
          rfl
         refine pure_ (i := 20) (N := some 54) (v := undef) (a' := ?_) (bb 39 2097151) rfl rfl (any_of HT_.out (by kernel_rfl)) (fun _ _ _ h => h) (Or.inr ⟨by rfl, rfl⟩) ?_ ?_
         rotate_left
         ·simp only [Act.put, sA, sB, sC, i64_w, i32_w]
          rfl
         refine pure_ (i := 21) (N := some 55) (v := undef) (a' := ?_) (bb 39 4194303) rfl rfl (any_of HT_.out (by kernel_rfl)) (fun _ _ _ h => h) (Or.inr ⟨by rfl, rfl⟩) ?_ ?_
         rotate_left
         ·simp only [Act.put, sA, sB, sC, i64_w, i32_w]
          rfl
         refine pure_ (i := 22) (N := some 56) (v := undef) (a' := ?_) (bb 39 8388607) rfl rfl (any_of HT_.out (by kernel_rfl)) (fun _ _ _ h => h) (Or.inr ⟨by rfl, rfl⟩) ?_ ?_
         rotate_left
         ·simp only [Act.put, sA, sB, sC, i64_w, i32_w]
          rfl
         refine pure_ (i := 23) (N := some 57) (v := undef) (a' := ?_) (bb 39 16777215) rfl rfl (any_of HT_.out (by kernel_rfl)) (fun _ _ _ h => h) (Or.inr ⟨by rfl, rfl⟩) ?_ ?_
         rotate_left
         ·simp only [Act.put, sA, sB, sC, i64_w, i32_w]
          rfl
         refine pure_ (i := 24) (N := some 58) (v := undef) (a' := ?_) (bb 39 33554431) rfl rfl (any_of HT_.out (by kernel_rfl)) (fun _ _ _ h => h) (Or.inr ⟨by rfl, rfl⟩) ?_ ?_
         rotate_left
         ·simp only [Act.put, sA, sB, sC, i64_w, i32_w]
          rfl
         refine pure_ (i := 25) (N := some 59) (v := undef) (a' := ?_) (bb 39 67108863) rfl rfl (any_of HT_.out (by kernel_rfl)) (fun _ _ _ h => h) (Or.inr ⟨by rfl, rfl⟩) ?_ ?_
         rotate_left
         ·simp only [Act.put, sA, sB, sC, i64_w, i32_w]
          rfl
         refine pure_ (i := 26) (N := some 60) (v := undef) (a' := ?_) (bb 39 134217727) rfl rfl (any_of HT_.out (by kernel_rfl)) (fun _ _ _ h => h) (Or.inr ⟨by rfl, rfl⟩) ?_ ?_
         rotate_left
         ·simp only [Act.put, sA, sB, sC, i64_w, i32_w]
          rfl
         refine pure_ (i := 27) (N := some 61) (v := undef) (a' := ?_) (bb 39 268435455) rfl rfl (any_of HT_.out (by kernel_rfl)) (fun _ _ _ h => h) (Or.inr ⟨by rfl, rfl⟩) ?_ ?_
         rotate_left
         ·simp only [Act.put, sA, sB, sC, i64_w, i32_w]
          rfl
         refine pure_ (i := 28) (N := some 62) (v := undef) (a' := ?_) (bb 39 536870911) rfl rfl (any_of HT_.out (by kernel_rfl)) (fun _ _ _ h => h) (Or.inr ⟨by rfl, rfl⟩) ?_ ?_
         rotate_left
         ·simp only [Act.put, sA, sB, sC, i64_w, i32_w]
          rfl
         refine pure_ (i := 29) (N := some 63) (v := undef) (a' := ?_) (bb 39 1073741823) rfl rfl (any_of HT_.out (by kernel_rfl)) (fun _ _ _ h => h) (Or.inr ⟨by rfl, rfl⟩) ?_ ?_
         rotate_left
         ·simp only [Act.put, sA, sB, sC, i64_w, i32_w]
          rfl
         refine pure_ (i := 30) (N := some 64) (v := undef) (a' := ?_) (bb 39 2147483647) rfl rfl (any_of HT_.out (by kernel_rfl)) (fun _ _ _ h => h) (Or.inr ⟨by rfl, rfl⟩) ?_ ?_
         rotate_left
         ·simp only [Act.put, sA, sB, sC, i64_w, i32_w]
          rfl
         refine pure_ (i := 31) (N := some 65) (v := undef) (a' := ?_) (bb 39 4294967295) rfl rfl (any_of HT_.out (by kernel_rfl)) (fun _ _ _ h => h) (Or.inr ⟨by rfl, rfl⟩) ?_ ?_
         rotate_left
         ·simp only [Act.put, sA, sB, sC, i64_w, i32_w]
          rfl
         refine pure_ (i := 32) (N := some 66) (v := undef) (a' := ?_) (bb 39 8589934591) rfl rfl (any_of HT_.out (by kernel_rfl)) (fun _ _ _ h => h) (Or.inr ⟨by rfl, rfl⟩) ?_ ?_
         rotate_left
         ·simp only [Act.put, sA, sB, sC, i64_w, i32_w]
          rfl
         refine pure_ (i := 33) (N := some 67) (v := undef) (a' := ?_) (bb 39 17179869183) rfl rfl (any_of HT_.out (by kernel_rfl)) (fun _ _ _ h => h) (Or.inr ⟨by rfl, rfl⟩) ?_ ?_
         rotate_left
         ·simp only [Act.put, sA, sB, sC, i64_w, i32_w]
          rfl
         refine pure_ (i := 34) (N := some 68) (v := undef) (a' := ?_) (bb 39 34359738367) rfl rfl (any_of HT_.out (by kernel_rfl)) (fun _ _ _ h => h) (Or.inr ⟨by rfl, rfl⟩) ?_ ?_
         rotate_left
         ·simp only [Act.put, sA, sB, sC, i64_w, i32_w]
          rfl
         refine pure_ (i := 35) (N := some 69) (v := undef) (a' := ?_) (bb 39 68719476735) rfl rfl (any_of HT_.out (by kernel_rfl)) (fun _ _ _ h => h) (Or.inr ⟨by rfl, rfl⟩) ?_ ?_
         rotate_left
         ·simp only [Act.put, sA, sB, sC, i64_w, i32_w]
          rfl
         refine pure_ (i := 36) (N := some 70) (v := undef) (a' := ?_) (bb 39 137438953471) rfl rfl (any_of HT_.out (by kernel_rfl)) (fun _ _ _ h => h) (Or.inr ⟨by rfl, rfl⟩) ?_ ?_
         rotate_left
         ·simp only [Act.put, sA, sB, sC, i64_w, i32_w]
          rfl
         refine pure_ (i := 37) (N := some 71) (v := undef) (a' := ?_) (bb 39 274877906943) rfl rfl (any_of HT_.out (by kernel_rfl)) (fun _ _ _ h => h) (Or.inr ⟨by rfl, rfl⟩) ?_ ?_
         rotate_left
         ·simp only [Act.put, sA, sB, sC, i64_w, i32_w]
          rfl
         refine pure_ (i := 38) (N := some 72) (v := ?_) (a' := ?_) (bb 39 549755813887) rfl rfl (any_of HT_.out (by kernel_rfl)) (fun _ _ _ h => h) (Or.inl ⟨by rfl, ?_⟩) ?_ ?_
         rotate_left
         ·intro w'
          go_simp
          with_reducible rfl
         rotate_left
         ·simp only [Act.put, sA, sB, sC, i64_w, i32_w]
          rfl
         refine done_ (done_of HT_.out (by kernel_rfl)) ?_
         try go_wp2
         go_meet
         case rel => exact ⟨_, (false), (by first | rfl | (simp; done) | (simp [*]; done)), H', ⟨by have := HK1.out; have := HJ10.out; first | omega | exact Nat.le_refl _⟩, ⟨by (with_reducible repeat (first | apply Kd.R_alloc | apply Kd.R_drewN | apply Kd.R_drew)); exact HO_8.out⟩, ⟨by (with_reducible repeat (first | apply Kd.S_alloc | apply Kd.S_drewN | apply Kd.S_drew)); exact HO_9.out⟩, ⟨by (with_reducible repeat (first | apply Kd.R_alloc | apply Kd.R_drewN | apply Kd.R_drew)); exact HO_10.out⟩, ⟨by repeat (first | (with_reducible first | exact HB.out | apply below_alloc | apply pw_below_drewN | apply below_drew1) | exact HB.out)⟩⟩
       case rest =>
        clear HC14
        try clear c1
        try clear c2
        try clear p2
        try clear p6
        try clear c15
        try clear c15b0
        try clear c16
        try clear c16b0
        try clear c17
        try clear c18
        try clear c19
        try clear c20
        try clear c22
        try clear c23
        try clear c24
        try clear c26
        try clear c27
        obtain ⟨kq, x72_13, rfl, HA, HJ13, HO_8, HO_9, HO_10, HB⟩ := hcut
        cases kq with
        | zero => exact absurd HA.out (by simp [wageofficeref22_Pair.j2])
        | succ kj13 =>
         have H := HA.out
         clear HA
         simp only [wageofficeref22_Pair.j2] at H
         by_cases c33 : x72_13 = true
         ·subst c33
          have H1 : (if 0 ≤ x11_1 then (if x11_1 < (t171.length : Int) then (if x10_1.length < 5864062014805 then (wageofficeref22_Pair.l0 kj13 l1 t171 t174 (x10_1 ++ [(⟨(rd_T43 t171 x11_1).f0, (rd_T43 t171 x11_1).f1, x12_1⟩ : S57)]) (wrap64 (x11_1 + 1)) (wrap64 (x12_1 + 1))) else (none)) else (none)) else (none)) = some (r1, r2, r3) := by rw [if_pos rfl] at H; exact H
          clear H
          have H := H1
          clear H1
          by_cases c34 : 0 ≤ x11_1
          ·rw [if_pos c34] at H
           have c34b0 : decide (0 ≤ x11_1) = true := decide_eq_true c34
           clear c34
           by_cases c35 : x11_1 < (t171.length : Int)
           ·rw [if_pos c35] at H
            have c35b0 : decide (x11_1 < (t171.length : Int)) = true := decide_eq_true c35
            clear c35
            by_cases c36 : x10_1.length < 5864062014805
            ·rw [if_pos c36] at H
             have LMc36 := Aside0.mk c36
             clear c36
             obtain ⟨y188, hy188⟩ : ∃ y_ : List (S57), y_ = (x10_1 ++ [(⟨(rd_T43 t171 x11_1).f0, (rd_T43 t171 x11_1).f1, x12_1⟩ : S57)]) := ⟨_, rfl⟩
             replace H : (wageofficeref22_Pair.l0 kj13 l1 t171 t174 y188 (wrap64 (x11_1 + 1)) (wrap64 (x12_1 + 1))) = some (r1, r2, r3) := by first | (rw [hy188]; with_reducible exact H) | (have H2_ := (Option.bind_some _ _).symm.trans H; rw [hy188]; with_reducible exact H2_) | (have H2_ := (Option.bind_some _ _).symm.trans H; with_reducible exact H2_) | with_reducible exact H | (rw [hy188]; exact H) | exact H
             have Ny188 := Aside0.mk hy188
             clear hy188
             have H' := Aside0.mk H
             clear H
             try go_wp2
             have n0_ := Aside0.mk (Kd.R_drew HO_8.out)
             have n1_ := Aside0.mk (Kd.S_drew HO_9.out)
             have n2_ := Aside0.mk (Kd.R_drew HO_10.out)
             have n3_ := Aside0.mk (below_drew1 HB.out)
             clear HO_8
             clear HO_9
             clear HO_10
             clear HB
             have HO_8 := n0_
             have HO_9 := n1_
             have HO_10 := n2_
             have HB := n3_
             clear n0_ n1_ n2_ n3_
             have p186 : 0 ≤ (x11_1 : Int) := of_decide_eq_true (by first | (with_reducible assumption) | assumption)
             have q186 : x11_1 < (t171.length : Int) := of_decide_eq_true (by first | (with_reducible assumption) | assumption)
             obtain ⟨ad186, e186, hx186_0, hx186_1, hx186_2⟩ := at_T43 (Kd.R_reads' HO_8.out).2.2 x11_1 p186 q186
             cases e186
             replace p186 := eq_true p186
             replace q186 := eq_true q186
             have p187 : 0 ≤ (x11_1 : Int) := of_decide_eq_true (by first | (with_reducible assumption) | assumption)
             have q187 : x11_1 < (t171.length : Int) := of_decide_eq_true (by first | (with_reducible assumption) | assumption)
             obtain ⟨ad187, e187, hx187_0, hx187_1, hx187_2⟩ := at_T43 (Kd.R_reads' HO_8.out).2.2 x11_1 p187 q187
             obtain rfl : ad186 = ad187 := (by injection e187)
             replace p187 := eq_true p187
             replace q187 := eq_true q187
             refine start_ (n := 16) (S := fun w' => w'.cell? (ad186.add ((x11_1).toNat * 3)) = some (.int .i64 ((rd_T43 t171 x11_1).f0)) ∧ w'.cell? ⟨(ad186.add ((x11_1).toNat * 3)).block, (ad186.add ((x11_1).toNat * 3)).off + 1, none⟩ = some (.bool ((rd_T43 t171 x11_1).f1)) ∧ w'.cell? ⟨(ad186.add ((x11_1).toNat * 3)).block, (ad186.add ((x11_1).toNat * 3)).off + 2, none⟩ = some (.int .i64 ((rd_T43 t171 x11_1).f2)) ∧ w'.cell? (ad186.add ((x11_1).toNat * 3)) = some (.int .i64 ((rd_T43 t171 x11_1).f0)) ∧ w'.cell? ⟨(ad186.add ((x11_1).toNat * 3)).block, (ad186.add ((x11_1).toNat * 3)).off + 1, none⟩ = some (.bool ((rd_T43 t171 x11_1).f1)) ∧ w'.cell? ⟨(ad186.add ((x11_1).toNat * 3)).block, (ad186.add ((x11_1).toNat * 3)).off + 2, none⟩ = some (.int .i64 ((rd_T43 t171 x11_1).f2))) (ds := [13, 14]) (bb 16 0) (by kernel_rfl) rfl rfl ⟨hx186_0, hx186_1, hx186_2, hx187_0, hx187_1, hx187_2⟩ (fun hHeld => ?_); refine with_tabW wageofficeref22_Pair.tab11 wageofficeref22_Pair.bits11 (fun HT_ HW_ => ?_)
             generalize wc.drew = w37 at HO_8 HO_9 HO_10 HB hx186_0 hx186_1 hx186_2 hx187_0 hx187_1 hx187_2 hHeld ⊢
             refine pure_ (i := 0) (N := some 73) (v := ?_) (a' := ?_) (bb 16 1) rfl rfl (any_of HT_.out (by kernel_rfl)) (fun _ _ _ h => h) (Or.inl ⟨by rfl, ?_⟩) ?_ ?_
             rotate_left
             ·intro w'
              go_simp
              with_reducible rfl
             rotate_left
             ·simp only [Act.put, sA, sB, sC, i64_w, i32_w]
              rfl
             refine pure_ (i := 1) (N := some 74) (v := ?_) (a' := ?_) (bb 16 3) rfl rfl (any_of HT_.out (by kernel_rfl)) (fun _ _ _ h => h) (Or.inl ⟨by rfl, ?_⟩) ?_ ?_
             rotate_left
             ·intro w'
              go_simp
              with_reducible rfl
             rotate_left
             ·simp only [Act.put, sA, sB, sC, i64_w, i32_w]
              rfl
             refine pure_ (i := 2) (N := some 75) (v := ?_) (a' := ?_) (bb 16 7) rfl rfl (any_of HT_.out (by kernel_rfl)) (fun _ _ _ h => h) (Or.inl ⟨by rfl, ?_⟩) ?_ ?_
             rotate_left
             ·intro w'
              go_simp
              with_reducible rfl
             rotate_left
             ·simp only [Act.put, sA, sB, sC, i64_w, i32_w]
              rfl
             refine pure_ (i := 3) (N := some 76) (v := ?_) (a' := ?_) (bb 16 15) rfl rfl (any_of HT_.out (by kernel_rfl)) (fun _ _ _ h => h) (Or.inl ⟨by rfl, ?_⟩) ?_ ?_
             rotate_left
             ·intro w'
              go_simp
              with_reducible rfl
             rotate_left
             ·simp only [Act.put, sA, sB, sC, i64_w, i32_w]
              rfl
             refine pure_ (i := 4) (N := some 77) (v := ?_) (a' := ?_) (bb 16 31) rfl rfl (any_of HT_.out (by kernel_rfl)) (fun _ _ _ h => h) (Or.inl ⟨by rfl, ?_⟩) ?_ ?_
             rotate_left
             ·intro w'
              go_simp
              with_reducible rfl
             rotate_left
             ·simp only [Act.put, sA, sB, sC, i64_w, i32_w]
              rfl
             refine pure_ (i := 6) (N := some 79) (v := ?_) (a' := ?_) (bb 16 95) rfl rfl (any_of HT_.out (by kernel_rfl)) (fun _ _ _ h => h) (Or.inl ⟨by rfl, ?_⟩) ?_ ?_
             rotate_left
             ·intro w'
              go_simp
              with_reducible rfl
             rotate_left
             ·simp only [Act.put, sA, sB, sC, i64_w, i32_w]
              rfl
             refine pure_ (i := 7) (N := some 80) (v := ?_) (a' := ?_) (bb 16 223) rfl rfl (any_of HT_.out (by kernel_rfl)) (fun _ _ _ h => h) (Or.inl ⟨by rfl, ?_⟩) ?_ ?_
             rotate_left
             ·intro w'
              go_simp
              with_reducible rfl
             rotate_left
             ·simp only [Act.put, sA, sB, sC, i64_w, i32_w]
              rfl
             refine pure_ (i := 8) (N := some 81) (v := ?_) (a' := ?_) (bb 16 479) rfl rfl (any_of HT_.out (by kernel_rfl)) (fun _ _ _ h => h) (Or.inl ⟨by rfl, ?_⟩) ?_ ?_
             rotate_left
             ·intro w'
              go_simp
              with_reducible rfl
             rotate_left
             ·simp only [Act.put, sA, sB, sC, i64_w, i32_w]
              rfl
             refine pure_ (i := 9) (N := some 82) (v := ?_) (a' := ?_) (bb 16 991) rfl rfl (any_of HT_.out (by kernel_rfl)) (fun _ _ _ h => h) (Or.inl ⟨by rfl, ?_⟩) ?_ ?_
             rotate_left
             ·intro w'
              go_simp
              with_reducible rfl
             rotate_left
             ·simp only [Act.put, sA, sB, sC, i64_w, i32_w]
              rfl
             refine pure_ (i := 11) (N := some 84) (v := ?_) (a' := ?_) (bb 16 3039) rfl rfl (any_of HT_.out (by kernel_rfl)) (fun _ _ _ h => h) (Or.inl ⟨by rfl, ?_⟩) ?_ ?_
             rotate_left
             ·intro w'
              go_simp
              with_reducible rfl
             rotate_left
             ·simp only [Act.put, sA, sB, sC, i64_w, i32_w]
              rfl
             refine take_ (i := 5) (N := some 78) (v := ?_) (a' := ?_) (bb 16 3071) rfl rfl (take_ofW HT_.out HW_.out (by kernel_rfl)) (fun _ _ _ h => h) (Or.inl ⟨by rfl, ?_⟩) hHeld ?_ ?_
             rotate_left
             ·rintro w' ⟨s0, s1, s2, s3, s4, s5⟩
              go_simp
              with_reducible rfl
             rotate_left
             ·simp only [Act.put, sA, sB, sC, i64_w, i32_w]
              rfl
             refine take_ (i := 10) (N := some 83) (v := ?_) (a' := ?_) (bb 16 4095) rfl rfl (take_ofW HT_.out HW_.out (by kernel_rfl)) (fun _ _ _ h => h) (Or.inl ⟨by rfl, ?_⟩) hHeld ?_ ?_
             rotate_left
             ·rintro w' ⟨s0, s1, s2, s3, s4, s5⟩
              go_simp
              with_reducible rfl
             rotate_left
             ·simp only [Act.put, sA, sB, sC, i64_w, i32_w]
              rfl
             refine pure_ (i := 12) (N := some 85) (v := ?_) (a' := ?_) (bb 16 8191) rfl rfl (any_of HT_.out (by kernel_rfl)) (fun _ _ _ h => h) (Or.inl ⟨by rfl, ?_⟩) ?_ ?_
             rotate_left
             ·intro w'
              go_simp
              with_reducible rfl
             rotate_left
             ·simp only [Act.put, sA, sB, sC, i64_w, i32_w]
              rfl
             refine last_ (i := 13) (N := some 86) (bb 16 16383) rfl rfl (one_of HT_.out (by kernel_rfl)) (by decide) (fun K hK => ?_)
             refine value_ (w1 := ?_) (v := ?_) (by rfl) rfl ?_ ?_
             rotate_left 2
             ·go_simp
              constructor
              ·rfl
              ·rfl
             refine hK.out _ _ ?_
             clear hK K
             refine norm_ (a' := ?_) ?_ ?_
             rotate_left
             ·show Act.put _ (some 86) _ = _
              simp only [Act.put, sA, sB, sC, i64_w, i32_w]
              rfl
             refine last_ (i := 14) (N := some 87) (bb 16 32767) rfl rfl (one_of HT_.out (by kernel_rfl)) (by decide) (fun K hK => ?_)
             refine Kd.R_append_step k57 (w0 := w) w.heap.size (by rfl) (.tmp 73) (.tmp 86) 24 57 (.agg #[(.int .i64 0), (.bool false), (.int .i64 0)]) 24 rfl Try.underlying24 info57 rfl (by decide) (by omega) u10 x10_1 (⟨(rd_T43 t171 x11_1).f0, (rd_T43 t171 x11_1).f1, x12_1⟩ : S57) [.int .i64 ((rd_T43 t171 x11_1).f0), .bool ((rd_T43 t171 x11_1).f1), .int .i64 x12_1] (fun _ => True) (fun _ => False) rfl rfl ?aP (fun _ hk => hk.elim) ?aF ?aO ?aB ?aS ?aL ?_
             (case aP => exact k57_mkM _ _ _ (⟨(rd_T43 t171 x11_1).f0, (rd_T43 t171 x11_1).f1, x12_1⟩ : S57))
             (case aB => exact (by repeat (first | (with_reducible first | exact HB.out | apply below_alloc | apply pw_below_drewN | apply below_drew1) | exact HB.out)))
             (case aF => exact (fun _ _ => trivial))
             (case aO => exact (by (with_reducible repeat (first | apply Kd.R_alloc | apply Kd.R_drewN | apply Kd.R_drew)); exact HO_10.out))
             (case aS => exact (below_size (by repeat (first | (with_reducible first | exact HB.out | apply below_alloc | apply pw_below_drewN | apply below_drew1) | exact HB.out))))
             (case aL => have := LMc36.out; omega)
             intro v189 w38 ho hb hg hat
             rw [← Ny188.out] at ho
             have n0_ := Aside0.mk (Kd.R_over' (by (with_reducible repeat (first | apply Kd.R_alloc | apply Kd.R_drewN | apply Kd.R_drew)); exact HO_8.out) (Kd.R_typed (by (with_reducible repeat (first | apply Kd.R_alloc | apply Kd.R_drewN | apply Kd.R_drew)); exact HO_10.out)) (by decide) hg)
             have n1_ := Aside0.mk (Kd.S_over' (by (with_reducible repeat (first | apply Kd.S_alloc | apply Kd.S_drewN | apply Kd.S_drew)); exact HO_9.out) (Kd.R_typed (by (with_reducible repeat (first | apply Kd.R_alloc | apply Kd.R_drewN | apply Kd.R_drew)); exact HO_10.out)) (by decide) hg)
             have n2_ := Aside0.mk (hb)
             have n3_ := Aside0.mk (ho)
             clear HO_8
             clear HO_9
             clear HB
             clear HO_10
             have HO_8 := n0_
             have HO_9 := n1_
             have HB := n2_
             have HO190 := n3_
             clear n0_ n1_ n2_ n3_
             clear ho hb hg hat
             refine hK.out _ _ ?_
             clear hK K
             refine norm_ (a' := ?_) ?_ ?_
             rotate_left
             ·show Act.put _ (some 87) _ = _
              simp only [Act.put, sA, sB, sC, i64_w, i32_w]
              rfl
             refine pure_ (i := 15) (N := some 10) (v := ?_) (a' := ?_) (bb 16 65535) rfl rfl (any_of HT_.out (by kernel_rfl)) (fun _ _ _ h => h) (Or.inl ⟨by rfl, ?_⟩) ?_ ?_
             rotate_left
             ·intro w'
              go_simp
              with_reducible rfl
             rotate_left
             ·simp only [Act.put, sA, sB, sC, i64_w, i32_w]
              rfl
             refine done_ (done_of HT_.out (by kernel_rfl)) ?_
             try go_wp2
             go_roundg kj13
             case measure => have := HK1.out; have := HJ10.out; have := HJ13.out; omega
             case rel => exact ⟨(y188), (wrap64 (x11_1 + 1)), (wrap64 (x12_1 + 1)), (by first | rfl | (simp; done) | (simp [*]; done)), (by first | rfl | (simp; done) | (simp [*]; done)), H', ⟨by have := HK1.out; have := HJ10.out; have := HJ13.out; omega⟩, ⟨by (with_reducible repeat (first | apply Kd.R_alloc | apply Kd.R_drewN | apply Kd.R_drew)); exact HO_8.out⟩, ⟨by (with_reducible repeat (first | apply Kd.S_alloc | apply Kd.S_drewN | apply Kd.S_drew)); exact HO_9.out⟩, ⟨by (with_reducible repeat (first | apply Kd.R_alloc | apply Kd.R_drewN | apply Kd.R_drew)); exact HO190.out⟩, ⟨by repeat (first | (with_reducible first | exact HB.out | apply below_alloc | apply pw_below_drewN | apply below_drew1) | exact HB.out)⟩⟩
            ·rw [if_neg c36] at H
             exact absurd H (by simp)
           ·rw [if_neg c35] at H
            exact absurd H (by simp)
          ·rw [if_neg c34] at H
           exact absurd H (by simp)
         ·replace c33 := Bool.eq_false_iff.mpr c33
          subst c33
          have H1 : (if x11_1 < (t171.length : Int) then (if 0 ≤ x11_1 then (if x11_1 < (t174.length : Int) then (if 0 ≤ x12_1 then (if x12_1 < ((rd_L9 t174 x11_1).length : Int) then (if 0 ≤ (wrap64 (x11_1 + 1)) then (if (wrap64 (x11_1 + 1)) < (t174.length : Int) then (if x12_1 < ((rd_L9 t174 (wrap64 (x11_1 + 1))).length : Int) then (if (rd (rd_L9 t174 x11_1) x12_1) = (wrap64 (120 + (rd (rd_L9 t174 (wrap64 (x11_1 + 1))) x12_1))) then (if x10_1.length < 5864062014805 then (wageofficeref22_Pair.l0 kj13 l1 t171 t174 (x10_1 ++ [(⟨(rd_T43 t171 x11_1).f0, (rd_T43 t171 x11_1).f1, (-1)⟩ : S57)]) (wrap64 (x11_1 + 1)) x12_1) else (none)) else (if x10_1.length < 5864062014805 then (wageofficeref22_Pair.l0 kj13 l1 t171 t174 (x10_1 ++ [(⟨(-1), false, x12_1⟩ : S57)]) x11_1 (wrap64 (x12_1 + 1))) else (none))) else (none)) else (none)) else (none)) else (none)) else (none)) else (none)) else (none)) else (if x10_1.length < 5864062014805 then (wageofficeref22_Pair.l0 kj13 l1 t171 t174 (x10_1 ++ [(⟨(-1), false, x12_1⟩ : S57)]) x11_1 (wrap64 (x12_1 + 1))) else (none))) = some (r1, r2, r3) := by rw [if_neg (show ¬ (false = true) by decide)] at H; exact H
          clear H
          have H := H1
          clear H1
          by_cases c39 : x11_1 < (t171.length : Int)
          ·rw [if_pos c39] at H
           have c39b0 : decide (x11_1 < (t171.length : Int)) = true := decide_eq_true c39
           clear c39
           by_cases c40 : 0 ≤ x11_1
           ·rw [if_pos c40] at H
            have c40b0 : decide (0 ≤ x11_1) = true := decide_eq_true c40
            clear c40
            by_cases c41 : x11_1 < (t174.length : Int)
            ·rw [if_pos c41] at H
             have c41b0 : decide (x11_1 < (t174.length : Int)) = true := decide_eq_true c41
             clear c41
             by_cases c42 : 0 ≤ x12_1
             ·rw [if_pos c42] at H
              have c42b0 : decide (0 ≤ x12_1) = true := decide_eq_true c42
              clear c42
              by_cases c43 : x12_1 < ((rd_L9 t174 x11_1).length : Int)
              ·rw [if_pos c43] at H
               have c43b0 : decide (x12_1 < ((rd_L9 t174 x11_1).length : Int)) = true := decide_eq_true c43
               clear c43
               obtain ⟨ji44, hji44⟩ : ∃ j_ : Int, (wrap64 (x11_1 + 1)) = j_ := ⟨_, rfl⟩
               replace H : (if 0 ≤ (ji44) then (if (ji44) < (t174.length : Int) then (if x12_1 < ((rd_L9 t174 (ji44)).length : Int) then (if (rd (rd_L9 t174 x11_1) x12_1) = (wrap64 (120 + (rd (rd_L9 t174 (ji44)) x12_1))) then (if x10_1.length < 5864062014805 then (wageofficeref22_Pair.l0 kj13 l1 t171 t174 (x10_1 ++ [(⟨(rd_T43 t171 x11_1).f0, (rd_T43 t171 x11_1).f1, (-1)⟩ : S57)]) ji44 x12_1) else (none)) else (if x10_1.length < 5864062014805 then (wageofficeref22_Pair.l0 kj13 l1 t171 t174 (x10_1 ++ [(⟨(-1), false, x12_1⟩ : S57)]) x11_1 (wrap64 (x12_1 + 1))) else (none))) else (none)) else (none)) else (none)) = some (r1, r2, r3) := by first | (rw [hji44] at H; exact H) | (simp only [hji44] at H ⊢; exact H)
               have hji44w : (IntKind.i64.wrap (x11_1 + 1)) = ji44 := (i64_w _).trans hji44
               by_cases c45 : 0 ≤ (ji44)
               ·rw [if_pos c45] at H
                have c45b0 : decide (0 ≤ (ji44)) = true := decide_eq_true c45
                clear c45
                by_cases c46 : (ji44) < (t174.length : Int)
                ·rw [if_pos c46] at H
                 have c46b0 : decide ((ji44) < (t174.length : Int)) = true := decide_eq_true c46
                 clear c46
                 by_cases c47 : x12_1 < ((rd_L9 t174 (ji44)).length : Int)
                 ·rw [if_pos c47] at H
                  have c47b0 : decide (x12_1 < ((rd_L9 t174 (ji44)).length : Int)) = true := decide_eq_true c47
                  clear c47
                  by_cases c48 : (rd (rd_L9 t174 x11_1) x12_1) = (wrap64 (120 + (rd (rd_L9 t174 (ji44)) x12_1)))
                  ·rw [if_pos c48] at H
                   have c48b0 : ((rd (rd_L9 t174 x11_1) x12_1) == (wrap64 (120 + (rd (rd_L9 t174 (ji44)) x12_1)))) = true := beq_iff_eq.mpr c48
                   have c48b1 : ((rd (rd_L9 t174 x11_1) x12_1) != (wrap64 (120 + (rd (rd_L9 t174 (ji44)) x12_1)))) = false := bne_eq_false_iff_eq.mpr c48
                   clear c48
                   by_cases c49 : x10_1.length < 5864062014805
                   ·rw [if_pos c49] at H
                    have LMc49 := Aside0.mk c49
                    clear c49
                    obtain ⟨y197, hy197⟩ : ∃ y_ : List (S57), y_ = (x10_1 ++ [(⟨(rd_T43 t171 x11_1).f0, (rd_T43 t171 x11_1).f1, (-1)⟩ : S57)]) := ⟨_, rfl⟩
                    replace H : (wageofficeref22_Pair.l0 kj13 l1 t171 t174 y197 ji44 x12_1) = some (r1, r2, r3) := by first | (rw [hy197]; with_reducible exact H) | (have H2_ := (Option.bind_some _ _).symm.trans H; rw [hy197]; with_reducible exact H2_) | (have H2_ := (Option.bind_some _ _).symm.trans H; with_reducible exact H2_) | with_reducible exact H | (rw [hy197]; exact H) | exact H
                    have Ny197 := Aside0.mk hy197
                    clear hy197
                    have H' := Aside0.mk H
                    clear H
                    try go_wp2
                    have n0_ := Aside0.mk (Kd.R_drew HO_8.out)
                    have n1_ := Aside0.mk (Kd.S_drew HO_9.out)
                    have n2_ := Aside0.mk (Kd.R_drew HO_10.out)
                    have n3_ := Aside0.mk (below_drew1 HB.out)
                    clear HO_8
                    clear HO_9
                    clear HO_10
                    clear HB
                    have HO_8 := n0_
                    have HO_9 := n1_
                    have HO_10 := n2_
                    have HB := n3_
                    clear n0_ n1_ n2_ n3_
                    obtain ⟨Ao51, co51, eo51⟩ := Kd.S_slice HO_9.out
                    (first | subst eo51 | (injection eo51 with f1_ f2_ f3_; have f4_ := f1_.symm; have f5_ := f3_.symm; clear f1_ f2_ f3_; subst f4_; subst f5_))
                    have p191 : 0 ≤ (x11_1 : Int) := of_decide_eq_true (by first | (with_reducible assumption) | assumption)
                    have q191 : x11_1 < (t174.length : Int) := of_decide_eq_true (by first | (with_reducible assumption) | assumption)
                    obtain ⟨ad191, A191_0, c191_0, e191, hx191_0, hl191_0, hi191_0⟩ := at_L9 (Kd.S_reads' HO_9.out).2.2 x11_1 p191 q191
                    cases e191
                    obtain ⟨ce191, hce191, hMe191, hcc191⟩ := Kd.S_get HO_9.out [] x11_1 p191 (by first | exact q191 | exact of_decide_eq_true (by first | (with_reducible assumption) | assumption) | (have e_ := (Kd.S_reads' HO_9.out).1; omega))
                    obtain ⟨ve191_0, rfl, ge191_0⟩ := hMe191
                    have hv191_0 := hcc191 0 _ rfl
                    rw [Nat.add_zero, show ((Kd.slice 3 (Kd.int .i64))).sz = 1 from rfl, Nat.mul_one] at hv191_0
                    replace hv191_0 := Option.some.inj (hv191_0.symm.trans hx191_0)
                    rw [hv191_0] at ge191_0
                    have HL191_0 := Aside0.mk (show Kd.R (Kd.int .i64) 3 _ _ _ _ (rd_L9 t174 x11_1) from ge191_0)
                    clear hv191_0 ge191_0
                    clear hcc191 hce191
                    have HR191_0 := Aside0.mk hi191_0
                    have HC191_0 := Aside0.mk hl191_0
                    clear hi191_0 hl191_0
                    replace p191 := eq_true p191
                    replace q191 := eq_true q191
                    have p192 : 0 ≤ (x12_1 : Int) := of_decide_eq_true (by first | (with_reducible assumption) | assumption)
                    have q192 : x12_1 < ((rd_L9 t174 x11_1).length : Int) := of_decide_eq_true (by first | (with_reducible assumption) | assumption)
                    obtain ⟨ad192, e192, hx192_0⟩ := Kd.at_int (by repeat (first | (with_reducible exact HR191_0.out) | (with_reducible refine Kd.C_alloc ?_ _) | (with_reducible refine Kd.C_drewN ?_ _) | (with_reducible refine Kd.C_drew ?_) | exact HR191_0.out)) x12_1 p192 q192
                    cases e192
                    replace p192 := eq_true p192
                    replace q192 := eq_true q192
                    have p193 : 0 ≤ ((ji44) : Int) := of_decide_eq_true (by first | (with_reducible assumption) | assumption)
                    have q193 : (ji44) < (t174.length : Int) := of_decide_eq_true (by first | (with_reducible assumption) | assumption)
                    obtain ⟨ad193, A193_0, c193_0, e193, hx193_0, hl193_0, hi193_0⟩ := at_L9 (Kd.S_reads' HO_9.out).2.2 (ji44) p193 q193
                    obtain rfl : ad191 = ad193 := (by injection e193)
                    obtain ⟨ce193, hce193, hMe193, hcc193⟩ := Kd.S_get HO_9.out [] (ji44) p193 (by first | exact q193 | exact of_decide_eq_true (by first | (with_reducible assumption) | assumption) | (have e_ := (Kd.S_reads' HO_9.out).1; omega))
                    obtain ⟨ve193_0, rfl, ge193_0⟩ := hMe193
                    have hv193_0 := hcc193 0 _ rfl
                    rw [Nat.add_zero, show ((Kd.slice 3 (Kd.int .i64))).sz = 1 from rfl, Nat.mul_one] at hv193_0
                    replace hv193_0 := Option.some.inj (hv193_0.symm.trans hx193_0)
                    rw [hv193_0] at ge193_0
                    have HL193_0 := Aside0.mk (show Kd.R (Kd.int .i64) 3 _ _ _ _ (rd_L9 t174 (ji44)) from ge193_0)
                    clear hv193_0 ge193_0
                    clear hcc193 hce193
                    have HR193_0 := Aside0.mk hi193_0
                    have HC193_0 := Aside0.mk hl193_0
                    clear hi193_0 hl193_0
                    replace p193 := eq_true p193
                    replace q193 := eq_true q193
                    have p194 : 0 ≤ (x12_1 : Int) := of_decide_eq_true (by first | (with_reducible assumption) | assumption)
                    have q194 : x12_1 < ((rd_L9 t174 (ji44)).length : Int) := of_decide_eq_true (by first | (with_reducible assumption) | assumption)
                    obtain ⟨ad194, e194, hx194_0⟩ := Kd.at_int (by repeat (first | (with_reducible exact HR193_0.out) | (with_reducible refine Kd.C_alloc ?_ _) | (with_reducible refine Kd.C_drewN ?_ _) | (with_reducible refine Kd.C_drew ?_) | exact HR193_0.out)) x12_1 p194 q194
                    cases e194
                    replace p194 := eq_true p194
                    replace q194 := eq_true q194
                    refine start_ (n := 23) (S := fun w' => w'.cell? (ad191.add (x11_1).toNat) = some (.slice (some ad192) (rd_L9 t174 x11_1).length c191_0) ∧ w'.cell? (ad192.add (x12_1).toNat) = some (.int .i64 (rd (rd_L9 t174 x11_1) x12_1)) ∧ w'.cell? (ad191.add ((ji44)).toNat) = some (.slice (some ad194) (rd_L9 t174 (ji44)).length c193_0) ∧ w'.cell? (ad194.add (x12_1).toNat) = some (.int .i64 (rd (rd_L9 t174 (ji44)) x12_1))) (ds := []) (bb 23 0) (by kernel_rfl) rfl rfl ⟨hx191_0, hx192_0, hx193_0, hx194_0⟩ (fun hHeld => ?_); refine with_tabW wageofficeref22_Pair.tab14 wageofficeref22_Pair.bits14 (fun HT_ HW_ => ?_)
                    generalize wc.drew = w50 at HO_8 HO_9 HO_10 HB HL191_0 HL193_0 HR191_0 HR193_0 hx191_0 hx192_0 hx193_0 hx194_0 hHeld ⊢
                    refine pure_ (i := 0) (N := some 92) (v := ?_) (a' := ?_) (bb 23 1) rfl rfl (any_of HT_.out (by kernel_rfl)) (fun _ _ _ h => h) (Or.inl ⟨by rfl, ?_⟩) ?_ ?_
                    rotate_left
                    ·intro w'
                     go_simp
                     with_reducible rfl
                    rotate_left
                    ·simp only [Act.put, sA, sB, sC, i64_w, i32_w]
                     rfl
                    refine pure_ (i := 1) (N := some 93) (v := ?_) (a' := ?_) (bb 23 3) rfl rfl (any_of HT_.out (by kernel_rfl)) (fun _ _ _ h => h) (Or.inl ⟨by rfl, ?_⟩) ?_ ?_
                    rotate_left
                    ·intro w'
                     go_simp
                     with_reducible rfl
                    rotate_left
                    ·simp only [Act.put, sA, sB, sC, i64_w, i32_w]
                     rfl
                    refine pure_ (i := 2) (N := some 94) (v := ?_) (a' := ?_) (bb 23 7) rfl rfl (any_of HT_.out (by kernel_rfl)) (fun _ _ _ h => h) (Or.inl ⟨by rfl, ?_⟩) ?_ ?_
                    rotate_left
                    ·intro w'
                     go_simp
                     with_reducible rfl
                    rotate_left
                    ·simp only [Act.put, sA, sB, sC, i64_w, i32_w]
                     rfl
                    refine pure_ (i := 3) (N := some 95) (v := ?_) (a' := ?_) (bb 23 15) rfl rfl (any_of HT_.out (by kernel_rfl)) (fun _ _ _ h => h) (Or.inl ⟨by rfl, ?_⟩) ?_ ?_
                    rotate_left
                    ·intro w'
                     go_simp
                     with_reducible rfl
                    rotate_left
                    ·simp only [Act.put, sA, sB, sC, i64_w, i32_w]
                     rfl
                    refine pure_ (i := 4) (N := some 96) (v := ?_) (a' := ?_) (bb 23 31) rfl rfl (any_of HT_.out (by kernel_rfl)) (fun _ _ _ h => h) (Or.inl ⟨by rfl, ?_⟩) ?_ ?_
                    rotate_left
                    ·intro w'
                     go_simp
                     with_reducible rfl
                    rotate_left
                    ·simp only [Act.put, sA, sB, sC, i64_w, i32_w]
                     rfl
                    refine pure_ (i := 5) (N := some 97) (v := ?_) (a' := ?_) (bb 23 63) rfl rfl (any_of HT_.out (by kernel_rfl)) (fun _ _ _ h => h) (Or.inl ⟨by rfl, ?_⟩) ?_ ?_
                    rotate_left
                    ·intro w'
                     go_simp
                     with_reducible rfl
                    rotate_left
                    ·simp only [Act.put, sA, sB, sC, i64_w, i32_w]
                     rfl
                    refine pure_ (i := 6) (N := some 98) (v := ?_) (a' := ?_) (bb 23 127) rfl rfl (any_of HT_.out (by kernel_rfl)) (fun _ _ _ h => h) (Or.inl ⟨by rfl, ?_⟩) ?_ ?_
                    rotate_left
                    ·intro w'
                     go_simp
                     with_reducible rfl
                    rotate_left
                    ·simp only [Act.put, sA, sB, sC, i64_w, i32_w]
                     rfl
                    refine pure_ (i := 7) (N := some 99) (v := ?_) (a' := ?_) (bb 23 255) rfl rfl (any_of HT_.out (by kernel_rfl)) (fun _ _ _ h => h) (Or.inl ⟨by rfl, ?_⟩) ?_ ?_
                    rotate_left
                    ·intro w'
                     go_simp
                     with_reducible rfl
                    rotate_left
                    ·simp only [Act.put, sA, sB, sC, i64_w, i32_w]
                     rfl
                    refine pure_ (i := 9) (N := some 101) (v := ?_) (a' := ?_) (bb 23 767) rfl rfl (any_of HT_.out (by kernel_rfl)) (fun _ _ _ h => h) (Or.inl ⟨by rfl, ?_⟩) ?_ ?_
                    rotate_left
                    ·intro w'
                     go_simp
                     with_reducible rfl
                    rotate_left
                    ·simp only [Act.put, sA, sB, sC, i64_w, i32_w]
                     rfl
                    refine pure_ (i := 12) (N := some 104) (v := ?_) (a' := ?_) (bb 23 4863) rfl rfl (any_of HT_.out (by kernel_rfl)) (fun _ _ _ h => h) (Or.inl ⟨by rfl, ?_⟩) ?_ ?_
                    rotate_left
                    ·intro w'
                     go_simp
                     with_reducible rfl
                    rotate_left
                    ·simp only [Act.put, sA, sB, sC, i64_w, i32_w]
                     rfl
                    refine pure_ (i := 13) (N := some 105) (v := ?_) (a' := ?_) (bb 23 13055) rfl rfl (any_of HT_.out (by kernel_rfl)) (fun _ _ _ h => h) (Or.inl ⟨by rfl, ?_⟩) ?_ ?_
                    rotate_left
                    ·intro w'
                     go_simp
                     with_reducible rfl
                    rotate_left
                    ·simp only [Act.put, sA, sB, sC, i64_w, i32_w]
                     rfl
                    refine pure_ (i := 14) (N := some 106) (v := ?_) (a' := ?_) (bb 23 29439) rfl rfl (any_of HT_.out (by kernel_rfl)) (fun _ _ _ h => h) (Or.inl ⟨by rfl, ?_⟩) ?_ ?_
                    rotate_left
                    ·intro w'
                     go_simp
                     with_reducible rfl
                    rotate_left
                    ·simp only [Act.put, sA, sB, sC, i64_w, i32_w]
                     rfl
                    refine pure_ (i := 15) (N := some 107) (v := ?_) (a' := ?_) (bb 23 62207) rfl rfl (any_of HT_.out (by kernel_rfl)) (fun _ _ _ h => h) (Or.inl ⟨by rfl, ?_⟩) ?_ ?_
                    rotate_left
                    ·intro w'
                     go_simp
                     with_reducible rfl
                    rotate_left
                    ·simp only [Act.put, sA, sB, sC, i64_w, i32_w]
                     rfl
                    refine pure_ (i := 17) (N := some 109) (v := ?_) (a' := ?_) (bb 23 193279) rfl rfl (any_of HT_.out (by kernel_rfl)) (fun _ _ _ h => h) (Or.inl ⟨by rfl, ?_⟩) ?_ ?_
                    rotate_left
                    ·intro w'
                     go_simp
                     with_reducible rfl
                    rotate_left
                    ·simp only [Act.put, sA, sB, sC, i64_w, i32_w]
                     rfl
                    refine take_ (i := 8) (N := some 100) (v := ?_) (a' := ?_) (bb 23 193535) rfl rfl (take_ofW HT_.out HW_.out (by kernel_rfl)) (fun _ _ _ h => h) (Or.inl ⟨by rfl, ?_⟩) hHeld ?_ ?_
                    rotate_left
                    ·rintro w' ⟨s0, s1, s2, s3⟩
                     go_simp
                     with_reducible rfl
                    rotate_left
                    ·simp only [Act.put, sA, sB, sC, i64_w, i32_w]
                     rfl
                    refine pure_ (i := 10) (N := some 102) (v := ?_) (a' := ?_) (bb 23 194559) rfl rfl (any_of HT_.out (by kernel_rfl)) (fun _ _ _ h => h) (Or.inl ⟨by rfl, ?_⟩) ?_ ?_
                    rotate_left
                    ·intro w'
                     go_simp
                     with_reducible rfl
                    rotate_left
                    ·simp only [Act.put, sA, sB, sC, i64_w, i32_w]
                     rfl
                    refine take_ (i := 11) (N := some 103) (v := ?_) (a' := ?_) (bb 23 196607) rfl rfl (take_ofW HT_.out HW_.out (by kernel_rfl)) (fun _ _ _ h => h) (Or.inl ⟨by rfl, ?_⟩) hHeld ?_ ?_
                    rotate_left
                    ·rintro w' ⟨s0, s1, s2, s3⟩
                     go_simp
                     with_reducible rfl
                    rotate_left
                    ·simp only [Act.put, sA, sB, sC, i64_w, i32_w]
                     rfl
                    refine take_ (i := 16) (N := some 108) (v := ?_) (a' := ?_) (bb 23 262143) rfl rfl (take_ofW HT_.out HW_.out (by kernel_rfl)) (fun _ _ _ h => h) (Or.inl ⟨by rfl, ?_⟩) hHeld ?_ ?_
                    rotate_left
                    ·rintro w' ⟨s0, s1, s2, s3⟩
                     go_simp
                     with_reducible rfl
                    rotate_left
                    ·simp only [Act.put, sA, sB, sC, i64_w, i32_w]
                     rfl
                    refine pure_ (i := 18) (N := some 110) (v := ?_) (a' := ?_) (bb 23 524287) rfl rfl (any_of HT_.out (by kernel_rfl)) (fun _ _ _ h => h) (Or.inl ⟨by rfl, ?_⟩) ?_ ?_
                    rotate_left
                    ·intro w'
                     go_simp
                     with_reducible rfl
                    rotate_left
                    ·simp only [Act.put, sA, sB, sC, i64_w, i32_w]
                     rfl
                    refine take_ (i := 19) (N := some 111) (v := ?_) (a' := ?_) (bb 23 1048575) rfl rfl (take_ofW HT_.out HW_.out (by kernel_rfl)) (fun _ _ _ h => h) (Or.inl ⟨by rfl, ?_⟩) hHeld ?_ ?_
                    rotate_left
                    ·rintro w' ⟨s0, s1, s2, s3⟩
                     go_simp
                     with_reducible rfl
                    rotate_left
                    ·simp only [Act.put, sA, sB, sC, i64_w, i32_w]
                     rfl
                    refine pure_ (i := 20) (N := some 112) (v := ?_) (a' := ?_) (bb 23 2097151) rfl rfl (any_of HT_.out (by kernel_rfl)) (fun _ _ _ h => h) (Or.inl ⟨by rfl, ?_⟩) ?_ ?_
                    rotate_left
                    ·intro w'
                     go_simp
                     with_reducible rfl
                    rotate_left
                    ·simp only [Act.put, sA, sB, sC, i64_w, i32_w]
                     rfl
                    refine pure_ (i := 21) (N := some 113) (v := ?_) (a' := ?_) (bb 23 4194303) rfl rfl (any_of HT_.out (by kernel_rfl)) (fun _ _ _ h => h) (Or.inl ⟨by rfl, ?_⟩) ?_ ?_
                    rotate_left
                    ·intro w'
                     go_simp
                     with_reducible rfl
                    rotate_left
                    ·simp only [Act.put, sA, sB, sC, i64_w, i32_w]
                     rfl
                    refine pure_ (i := 22) (N := some 114) (v := ?_) (a' := ?_) (bb 23 8388607) rfl rfl (any_of HT_.out (by kernel_rfl)) (fun _ _ _ h => h) (Or.inl ⟨by rfl, ?_⟩) ?_ ?_
                    rotate_left
                    ·intro w'
                     go_simp
                     with_reducible rfl
                    rotate_left
                    ·simp only [Act.put, sA, sB, sC, i64_w, i32_w]
                     rfl
                    refine done_ (done_of HT_.out (by kernel_rfl)) ?_
                    try go_wp2
                    have n0_ := Aside0.mk (Kd.R_drew HO_8.out)
                    have n1_ := Aside0.mk (Kd.S_drew HO_9.out)
                    have n2_ := Aside0.mk (Kd.R_drew HO_10.out)
                    have n3_ := Aside0.mk (Kd.R_drew HL191_0.out)
                    have n4_ := Aside0.mk (Kd.R_drew HL193_0.out)
                    have n5_ := Aside0.mk (Kd.C_drew HR191_0.out)
                    have n6_ := Aside0.mk (Kd.C_drew HR193_0.out)
                    have n7_ := Aside0.mk (below_drew1 HB.out)
                    clear HO_8
                    clear HO_9
                    clear HO_10
                    clear HL191_0
                    clear HL193_0
                    clear HR191_0
                    clear HR193_0
                    clear HB
                    have HO_8 := n0_
                    have HO_9 := n1_
                    have HO_10 := n2_
                    have HL191_0 := n3_
                    have HL193_0 := n4_
                    have HR191_0 := n5_
                    have HR193_0 := n6_
                    have HB := n7_
                    clear n0_ n1_ n2_ n3_ n4_ n5_ n6_ n7_
                    have p195 : 0 ≤ (x11_1 : Int) := of_decide_eq_true (by first | (with_reducible assumption) | assumption)
                    have q195 : x11_1 < (t171.length : Int) := of_decide_eq_true (by first | (with_reducible assumption) | assumption)
                    obtain ⟨ad195, e195, hx195_0, hx195_1, hx195_2⟩ := at_T43 (Kd.R_reads' HO_8.out).2.2 x11_1 p195 q195
                    cases e195
                    replace p195 := eq_true p195
                    replace q195 := eq_true q195
                    have p196 : 0 ≤ (x11_1 : Int) := of_decide_eq_true (by first | (with_reducible assumption) | assumption)
                    have q196 : x11_1 < (t171.length : Int) := of_decide_eq_true (by first | (with_reducible assumption) | assumption)
                    obtain ⟨ad196, e196, hx196_0, hx196_1, hx196_2⟩ := at_T43 (Kd.R_reads' HO_8.out).2.2 x11_1 p196 q196
                    obtain rfl : ad195 = ad196 := (by injection e196)
                    replace p196 := eq_true p196
                    replace q196 := eq_true q196
                    refine start_ (n := 15) (S := fun w' => w'.cell? (ad195.add ((x11_1).toNat * 3)) = some (.int .i64 ((rd_T43 t171 x11_1).f0)) ∧ w'.cell? ⟨(ad195.add ((x11_1).toNat * 3)).block, (ad195.add ((x11_1).toNat * 3)).off + 1, none⟩ = some (.bool ((rd_T43 t171 x11_1).f1)) ∧ w'.cell? ⟨(ad195.add ((x11_1).toNat * 3)).block, (ad195.add ((x11_1).toNat * 3)).off + 2, none⟩ = some (.int .i64 ((rd_T43 t171 x11_1).f2)) ∧ w'.cell? (ad195.add ((x11_1).toNat * 3)) = some (.int .i64 ((rd_T43 t171 x11_1).f0)) ∧ w'.cell? ⟨(ad195.add ((x11_1).toNat * 3)).block, (ad195.add ((x11_1).toNat * 3)).off + 1, none⟩ = some (.bool ((rd_T43 t171 x11_1).f1)) ∧ w'.cell? ⟨(ad195.add ((x11_1).toNat * 3)).block, (ad195.add ((x11_1).toNat * 3)).off + 2, none⟩ = some (.int .i64 ((rd_T43 t171 x11_1).f2))) (ds := [12, 13]) (bb 15 0) (by kernel_rfl) rfl rfl ⟨hx195_0, hx195_1, hx195_2, hx196_0, hx196_1, hx196_2⟩ (fun hHeld => ?_); refine with_tabW wageofficeref22_Pair.tab15 wageofficeref22_Pair.bits15 (fun HT_ HW_ => ?_)
                    generalize w50.drew = w52 at HO_8 HO_9 HO_10 HL191_0 HL193_0 HR191_0 HR193_0 HB hx195_0 hx195_1 hx195_2 hx196_0 hx196_1 hx196_2 hHeld ⊢
                    refine pure_ (i := 0) (N := some 115) (v := ?_) (a' := ?_) (bb 15 1) rfl rfl (any_of HT_.out (by kernel_rfl)) (fun _ _ _ h => h) (Or.inl ⟨by rfl, ?_⟩) ?_ ?_
                    rotate_left
                    ·intro w'
                     go_simp
                     with_reducible rfl
                    rotate_left
                    ·simp only [Act.put, sA, sB, sC, i64_w, i32_w]
                     rfl
                    refine pure_ (i := 1) (N := some 116) (v := ?_) (a' := ?_) (bb 15 3) rfl rfl (any_of HT_.out (by kernel_rfl)) (fun _ _ _ h => h) (Or.inl ⟨by rfl, ?_⟩) ?_ ?_
                    rotate_left
                    ·intro w'
                     go_simp
                     with_reducible rfl
                    rotate_left
                    ·simp only [Act.put, sA, sB, sC, i64_w, i32_w]
                     rfl
                    refine pure_ (i := 2) (N := some 117) (v := ?_) (a' := ?_) (bb 15 7) rfl rfl (any_of HT_.out (by kernel_rfl)) (fun _ _ _ h => h) (Or.inl ⟨by rfl, ?_⟩) ?_ ?_
                    rotate_left
                    ·intro w'
                     go_simp
                     with_reducible rfl
                    rotate_left
                    ·simp only [Act.put, sA, sB, sC, i64_w, i32_w]
                     rfl
                    refine pure_ (i := 3) (N := some 118) (v := ?_) (a' := ?_) (bb 15 15) rfl rfl (any_of HT_.out (by kernel_rfl)) (fun _ _ _ h => h) (Or.inl ⟨by rfl, ?_⟩) ?_ ?_
                    rotate_left
                    ·intro w'
                     go_simp
                     with_reducible rfl
                    rotate_left
                    ·simp only [Act.put, sA, sB, sC, i64_w, i32_w]
                     rfl
                    refine pure_ (i := 4) (N := some 119) (v := ?_) (a' := ?_) (bb 15 31) rfl rfl (any_of HT_.out (by kernel_rfl)) (fun _ _ _ h => h) (Or.inl ⟨by rfl, ?_⟩) ?_ ?_
                    rotate_left
                    ·intro w'
                     go_simp
                     with_reducible rfl
                    rotate_left
                    ·simp only [Act.put, sA, sB, sC, i64_w, i32_w]
                     rfl
                    refine pure_ (i := 6) (N := some 121) (v := ?_) (a' := ?_) (bb 15 95) rfl rfl (any_of HT_.out (by kernel_rfl)) (fun _ _ _ h => h) (Or.inl ⟨by rfl, ?_⟩) ?_ ?_
                    rotate_left
                    ·intro w'
                     go_simp
                     with_reducible rfl
                    rotate_left
                    ·simp only [Act.put, sA, sB, sC, i64_w, i32_w]
                     rfl
                    refine pure_ (i := 7) (N := some 122) (v := ?_) (a' := ?_) (bb 15 223) rfl rfl (any_of HT_.out (by kernel_rfl)) (fun _ _ _ h => h) (Or.inl ⟨by rfl, ?_⟩) ?_ ?_
                    rotate_left
                    ·intro w'
                     go_simp
                     with_reducible rfl
                    rotate_left
                    ·simp only [Act.put, sA, sB, sC, i64_w, i32_w]
                     rfl
                    refine pure_ (i := 8) (N := some 123) (v := ?_) (a' := ?_) (bb 15 479) rfl rfl (any_of HT_.out (by kernel_rfl)) (fun _ _ _ h => h) (Or.inl ⟨by rfl, ?_⟩) ?_ ?_
                    rotate_left
                    ·intro w'
                     go_simp
                     with_reducible rfl
                    rotate_left
                    ·simp only [Act.put, sA, sB, sC, i64_w, i32_w]
                     rfl
                    refine pure_ (i := 9) (N := some 124) (v := ?_) (a' := ?_) (bb 15 991) rfl rfl (any_of HT_.out (by kernel_rfl)) (fun _ _ _ h => h) (Or.inl ⟨by rfl, ?_⟩) ?_ ?_
                    rotate_left
                    ·intro w'
                     go_simp
                     with_reducible rfl
                    rotate_left
                    ·simp only [Act.put, sA, sB, sC, i64_w, i32_w]
                     rfl
                    refine take_ (i := 5) (N := some 120) (v := ?_) (a' := ?_) (bb 15 1023) rfl rfl (take_ofW HT_.out HW_.out (by kernel_rfl)) (fun _ _ _ h => h) (Or.inl ⟨by rfl, ?_⟩) hHeld ?_ ?_
                    rotate_left
                    ·rintro w' ⟨s0, s1, s2, s3, s4, s5⟩
                     go_simp
                     with_reducible rfl
                    rotate_left
                    ·simp only [Act.put, sA, sB, sC, i64_w, i32_w]
                     rfl
                    refine take_ (i := 10) (N := some 125) (v := ?_) (a' := ?_) (bb 15 2047) rfl rfl (take_ofW HT_.out HW_.out (by kernel_rfl)) (fun _ _ _ h => h) (Or.inl ⟨by rfl, ?_⟩) hHeld ?_ ?_
                    rotate_left
                    ·rintro w' ⟨s0, s1, s2, s3, s4, s5⟩
                     go_simp
                     with_reducible rfl
                    rotate_left
                    ·simp only [Act.put, sA, sB, sC, i64_w, i32_w]
                     rfl
                    refine pure_ (i := 11) (N := some 126) (v := ?_) (a' := ?_) (bb 15 4095) rfl rfl (any_of HT_.out (by kernel_rfl)) (fun _ _ _ h => h) (Or.inl ⟨by rfl, ?_⟩) ?_ ?_
                    rotate_left
                    ·intro w'
                     go_simp
                     with_reducible rfl
                    rotate_left
                    ·simp only [Act.put, sA, sB, sC, i64_w, i32_w]
                     rfl
                    refine last_ (i := 12) (N := some 127) (bb 15 8191) rfl rfl (one_of HT_.out (by kernel_rfl)) (by decide) (fun K hK => ?_)
                    refine value_ (w1 := ?_) (v := ?_) (by rfl) rfl ?_ ?_
                    rotate_left 2
                    ·go_simp
                     constructor
                     ·rfl
                     ·rfl
                    refine hK.out _ _ ?_
                    clear hK K
                    refine norm_ (a' := ?_) ?_ ?_
                    rotate_left
                    ·show Act.put _ (some 127) _ = _
                     simp only [Act.put, sA, sB, sC, i64_w, i32_w]
                     rfl
                    refine last_ (i := 13) (N := some 128) (bb 15 16383) rfl rfl (one_of HT_.out (by kernel_rfl)) (by decide) (fun K hK => ?_)
                    refine Kd.R_append_step k57 (w0 := w) w.heap.size (by rfl) (.tmp 115) (.tmp 127) 24 57 (.agg #[(.int .i64 0), (.bool false), (.int .i64 0)]) 24 rfl Try.underlying24 info57 rfl (by decide) (by omega) u10 x10_1 (⟨(rd_T43 t171 x11_1).f0, (rd_T43 t171 x11_1).f1, (-1)⟩ : S57) [.int .i64 ((rd_T43 t171 x11_1).f0), .bool ((rd_T43 t171 x11_1).f1), .int .i64 (-1)] (fun _ => True) (fun _ => False) rfl rfl ?aP (fun _ hk => hk.elim) ?aF ?aO ?aB ?aS ?aL ?_
                    (case aP => exact k57_mkM _ _ _ (⟨(rd_T43 t171 x11_1).f0, (rd_T43 t171 x11_1).f1, (-1)⟩ : S57))
                    (case aB => exact (by repeat (first | (with_reducible first | exact HB.out | apply below_alloc | apply pw_below_drewN | apply below_drew1) | exact HB.out)))
                    (case aF => exact (fun _ _ => trivial))
                    (case aO => exact (by (with_reducible repeat (first | apply Kd.R_alloc | apply Kd.R_drewN | apply Kd.R_drew)); exact HO_10.out))
                    (case aS => exact (below_size (by repeat (first | (with_reducible first | exact HB.out | apply below_alloc | apply pw_below_drewN | apply below_drew1) | exact HB.out))))
                    (case aL => have := LMc49.out; omega)
                    intro v198 w53 ho hb hg hat
                    rw [← Ny197.out] at ho
                    have n0_ := Aside0.mk (Kd.R_over' (by (with_reducible repeat (first | apply Kd.R_alloc | apply Kd.R_drewN | apply Kd.R_drew)); exact HO_8.out) (Kd.R_typed (by (with_reducible repeat (first | apply Kd.R_alloc | apply Kd.R_drewN | apply Kd.R_drew)); exact HO_10.out)) (by decide) hg)
                    have n1_ := Aside0.mk (Kd.S_over' (by (with_reducible repeat (first | apply Kd.S_alloc | apply Kd.S_drewN | apply Kd.S_drew)); exact HO_9.out) (Kd.R_typed (by (with_reducible repeat (first | apply Kd.R_alloc | apply Kd.R_drewN | apply Kd.R_drew)); exact HO_10.out)) (by decide) hg)
                    have n2_ := Aside0.mk (Kd.R_over' (by (with_reducible repeat (first | apply Kd.R_alloc | apply Kd.R_drewN | apply Kd.R_drew)); exact HL191_0.out) (Kd.R_typed (by (with_reducible repeat (first | apply Kd.R_alloc | apply Kd.R_drewN | apply Kd.R_drew)); exact HO_10.out)) (by decide) hg)
                    have n3_ := Aside0.mk (Kd.R_over' (by (with_reducible repeat (first | apply Kd.R_alloc | apply Kd.R_drewN | apply Kd.R_drew)); exact HL193_0.out) (Kd.R_typed (by (with_reducible repeat (first | apply Kd.R_alloc | apply Kd.R_drewN | apply Kd.R_drew)); exact HO_10.out)) (by decide) hg)
                    have n4_ := Aside0.mk (hb)
                    have n5_ := Aside0.mk (ho)
                    clear HO_8
                    clear HO_9
                    clear HL191_0
                    clear HL193_0
                    clear HB
                    clear HO_10
                    have HO_8 := n0_
                    have HO_9 := n1_
                    have HL191_0 := n2_
                    have HL193_0 := n3_
                    have HB := n4_
                    have HO199 := n5_
                    clear n0_ n1_ n2_ n3_ n4_ n5_
                    clear ho hb hg hat
                    refine hK.out _ _ ?_
                    clear hK K
                    refine norm_ (a' := ?_) ?_ ?_
                    rotate_left
                    ·show Act.put _ (some 128) _ = _
                     simp only [Act.put, sA, sB, sC, i64_w, i32_w]
                     rfl
                    refine pure_ (i := 14) (N := some 10) (v := ?_) (a' := ?_) (bb 15 32767) rfl rfl (any_of HT_.out (by kernel_rfl)) (fun _ _ _ h => h) (Or.inl ⟨by rfl, ?_⟩) ?_ ?_
                    rotate_left
                    ·intro w'
                     go_simp
                     with_reducible rfl
                    rotate_left
                    ·simp only [Act.put, sA, sB, sC, i64_w, i32_w]
                     rfl
                    refine done_ (done_of HT_.out (by kernel_rfl)) ?_
                    try go_wp2
                    go_roundg kj13
                    case measure => have := HK1.out; have := HJ10.out; have := HJ13.out; omega
                    case rel => exact ⟨(y197), (ji44), (x12_1), (by first | rfl | (simp; done) | (simp only [← hji44] <;> (first | rfl | simp)) | (simp [*]; done)), (by first | rfl | (simp; done) | (simp [*]; done)), H', ⟨by have := HK1.out; have := HJ10.out; have := HJ13.out; omega⟩, ⟨by (with_reducible repeat (first | apply Kd.R_alloc | apply Kd.R_drewN | apply Kd.R_drew)); exact HO_8.out⟩, ⟨by (with_reducible repeat (first | apply Kd.S_alloc | apply Kd.S_drewN | apply Kd.S_drew)); exact HO_9.out⟩, ⟨by (with_reducible repeat (first | apply Kd.R_alloc | apply Kd.R_drewN | apply Kd.R_drew)); exact HO199.out⟩, ⟨by repeat (first | (with_reducible first | exact HB.out | apply below_alloc | apply pw_below_drewN | apply below_drew1) | exact HB.out)⟩⟩
                   ·rw [if_neg c49] at H
                    exact absurd H (by simp)
                  ·rw [if_neg c48] at H
                   have c48b0 : ((rd (rd_L9 t174 x11_1) x12_1) == (wrap64 (120 + (rd (rd_L9 t174 (ji44)) x12_1)))) = false := beq_eq_false_iff_ne.mpr c48
                   have c48b1 : ((rd (rd_L9 t174 x11_1) x12_1) != (wrap64 (120 + (rd (rd_L9 t174 (ji44)) x12_1)))) = true := bne_iff_ne.mpr c48
                   by_cases c54 : x10_1.length < 5864062014805
                   ·rw [if_pos c54] at H
                    have LMc54 := Aside0.mk c54
                    clear c54
                    obtain ⟨y200, hy200⟩ : ∃ y_ : List (S57), y_ = (x10_1 ++ [(⟨(-1), false, x12_1⟩ : S57)]) := ⟨_, rfl⟩
                    replace H : (wageofficeref22_Pair.l0 kj13 l1 t171 t174 y200 x11_1 (wrap64 (x12_1 + 1))) = some (r1, r2, r3) := by first | (rw [hy200]; with_reducible exact H) | (have H2_ := (Option.bind_some _ _).symm.trans H; rw [hy200]; with_reducible exact H2_) | (have H2_ := (Option.bind_some _ _).symm.trans H; with_reducible exact H2_) | with_reducible exact H | (rw [hy200]; exact H) | exact H
                    have Ny200 := Aside0.mk hy200
                    clear hy200
                    have H' := Aside0.mk H
                    clear H
                    try go_wp2
                    have n0_ := Aside0.mk (Kd.R_drew HO_8.out)
                    have n1_ := Aside0.mk (Kd.S_drew HO_9.out)
                    have n2_ := Aside0.mk (Kd.R_drew HO_10.out)
                    have n3_ := Aside0.mk (below_drew1 HB.out)
                    clear HO_8
                    clear HO_9
                    clear HO_10
                    clear HB
                    have HO_8 := n0_
                    have HO_9 := n1_
                    have HO_10 := n2_
                    have HB := n3_
                    clear n0_ n1_ n2_ n3_
                    obtain ⟨Ao56, co56, eo56⟩ := Kd.S_slice HO_9.out
                    (first | subst eo56 | (injection eo56 with f1_ f2_ f3_; have f4_ := f1_.symm; have f5_ := f3_.symm; clear f1_ f2_ f3_; subst f4_; subst f5_))
                    have p191 : 0 ≤ (x11_1 : Int) := of_decide_eq_true (by first | (with_reducible assumption) | assumption)
                    have q191 : x11_1 < (t174.length : Int) := of_decide_eq_true (by first | (with_reducible assumption) | assumption)
                    obtain ⟨ad191, A191_0, c191_0, e191, hx191_0, hl191_0, hi191_0⟩ := at_L9 (Kd.S_reads' HO_9.out).2.2 x11_1 p191 q191
                    cases e191
                    obtain ⟨ce191, hce191, hMe191, hcc191⟩ := Kd.S_get HO_9.out [] x11_1 p191 (by first | exact q191 | exact of_decide_eq_true (by first | (with_reducible assumption) | assumption) | (have e_ := (Kd.S_reads' HO_9.out).1; omega))
                    obtain ⟨ve191_0, rfl, ge191_0⟩ := hMe191
                    have hv191_0 := hcc191 0 _ rfl
                    rw [Nat.add_zero, show ((Kd.slice 3 (Kd.int .i64))).sz = 1 from rfl, Nat.mul_one] at hv191_0
                    replace hv191_0 := Option.some.inj (hv191_0.symm.trans hx191_0)
                    rw [hv191_0] at ge191_0
                    have HL191_0 := Aside0.mk (show Kd.R (Kd.int .i64) 3 _ _ _ _ (rd_L9 t174 x11_1) from ge191_0)
                    clear hv191_0 ge191_0
                    clear hcc191 hce191
                    have HR191_0 := Aside0.mk hi191_0
                    have HC191_0 := Aside0.mk hl191_0
                    clear hi191_0 hl191_0
                    replace p191 := eq_true p191
                    replace q191 := eq_true q191
                    have p192 : 0 ≤ (x12_1 : Int) := of_decide_eq_true (by first | (with_reducible assumption) | assumption)
                    have q192 : x12_1 < ((rd_L9 t174 x11_1).length : Int) := of_decide_eq_true (by first | (with_reducible assumption) | assumption)
                    obtain ⟨ad192, e192, hx192_0⟩ := Kd.at_int (by repeat (first | (with_reducible exact HR191_0.out) | (with_reducible refine Kd.C_alloc ?_ _) | (with_reducible refine Kd.C_drewN ?_ _) | (with_reducible refine Kd.C_drew ?_) | exact HR191_0.out)) x12_1 p192 q192
                    cases e192
                    replace p192 := eq_true p192
                    replace q192 := eq_true q192
                    have p193 : 0 ≤ ((ji44) : Int) := of_decide_eq_true (by first | (with_reducible assumption) | assumption)
                    have q193 : (ji44) < (t174.length : Int) := of_decide_eq_true (by first | (with_reducible assumption) | assumption)
                    obtain ⟨ad193, A193_0, c193_0, e193, hx193_0, hl193_0, hi193_0⟩ := at_L9 (Kd.S_reads' HO_9.out).2.2 (ji44) p193 q193
                    obtain rfl : ad191 = ad193 := (by injection e193)
                    obtain ⟨ce193, hce193, hMe193, hcc193⟩ := Kd.S_get HO_9.out [] (ji44) p193 (by first | exact q193 | exact of_decide_eq_true (by first | (with_reducible assumption) | assumption) | (have e_ := (Kd.S_reads' HO_9.out).1; omega))
                    obtain ⟨ve193_0, rfl, ge193_0⟩ := hMe193
                    have hv193_0 := hcc193 0 _ rfl
                    rw [Nat.add_zero, show ((Kd.slice 3 (Kd.int .i64))).sz = 1 from rfl, Nat.mul_one] at hv193_0
                    replace hv193_0 := Option.some.inj (hv193_0.symm.trans hx193_0)
                    rw [hv193_0] at ge193_0
                    have HL193_0 := Aside0.mk (show Kd.R (Kd.int .i64) 3 _ _ _ _ (rd_L9 t174 (ji44)) from ge193_0)
                    clear hv193_0 ge193_0
                    clear hcc193 hce193
                    have HR193_0 := Aside0.mk hi193_0
                    have HC193_0 := Aside0.mk hl193_0
                    clear hi193_0 hl193_0
                    replace p193 := eq_true p193
                    replace q193 := eq_true q193
                    have p194 : 0 ≤ (x12_1 : Int) := of_decide_eq_true (by first | (with_reducible assumption) | assumption)
                    have q194 : x12_1 < ((rd_L9 t174 (ji44)).length : Int) := of_decide_eq_true (by first | (with_reducible assumption) | assumption)
                    obtain ⟨ad194, e194, hx194_0⟩ := Kd.at_int (by repeat (first | (with_reducible exact HR193_0.out) | (with_reducible refine Kd.C_alloc ?_ _) | (with_reducible refine Kd.C_drewN ?_ _) | (with_reducible refine Kd.C_drew ?_) | exact HR193_0.out)) x12_1 p194 q194
                    cases e194
                    replace p194 := eq_true p194
                    replace q194 := eq_true q194
                    refine start_ (n := 23) (S := fun w' => w'.cell? (ad191.add (x11_1).toNat) = some (.slice (some ad192) (rd_L9 t174 x11_1).length c191_0) ∧ w'.cell? (ad192.add (x12_1).toNat) = some (.int .i64 (rd (rd_L9 t174 x11_1) x12_1)) ∧ w'.cell? (ad191.add ((ji44)).toNat) = some (.slice (some ad194) (rd_L9 t174 (ji44)).length c193_0) ∧ w'.cell? (ad194.add (x12_1).toNat) = some (.int .i64 (rd (rd_L9 t174 (ji44)) x12_1))) (ds := []) (bb 23 0) (by kernel_rfl) rfl rfl ⟨hx191_0, hx192_0, hx193_0, hx194_0⟩ (fun hHeld => ?_); refine with_tabW wageofficeref22_Pair.tab14 wageofficeref22_Pair.bits14 (fun HT_ HW_ => ?_)
                    generalize wc.drew = w55 at HO_8 HO_9 HO_10 HB HL191_0 HL193_0 HR191_0 HR193_0 hx191_0 hx192_0 hx193_0 hx194_0 hHeld ⊢
                    refine pure_ (i := 0) (N := some 92) (v := ?_) (a' := ?_) (bb 23 1) rfl rfl (any_of HT_.out (by kernel_rfl)) (fun _ _ _ h => h) (Or.inl ⟨by rfl, ?_⟩) ?_ ?_
                    rotate_left
                    ·intro w'
                     go_simp
                     with_reducible rfl
                    rotate_left
                    ·simp only [Act.put, sA, sB, sC, i64_w, i32_w]
                     rfl
                    refine pure_ (i := 1) (N := some 93) (v := ?_) (a' := ?_) (bb 23 3) rfl rfl (any_of HT_.out (by kernel_rfl)) (fun _ _ _ h => h) (Or.inl ⟨by rfl, ?_⟩) ?_ ?_
                    rotate_left
                    ·intro w'
                     go_simp
                     with_reducible rfl
                    rotate_left
                    ·simp only [Act.put, sA, sB, sC, i64_w, i32_w]
                     rfl
                    refine pure_ (i := 2) (N := some 94) (v := ?_) (a' := ?_) (bb 23 7) rfl rfl (any_of HT_.out (by kernel_rfl)) (fun _ _ _ h => h) (Or.inl ⟨by rfl, ?_⟩) ?_ ?_
                    rotate_left
                    ·intro w'
                     go_simp
                     with_reducible rfl
                    rotate_left
                    ·simp only [Act.put, sA, sB, sC, i64_w, i32_w]
                     rfl
                    refine pure_ (i := 3) (N := some 95) (v := ?_) (a' := ?_) (bb 23 15) rfl rfl (any_of HT_.out (by kernel_rfl)) (fun _ _ _ h => h) (Or.inl ⟨by rfl, ?_⟩) ?_ ?_
                    rotate_left
                    ·intro w'
                     go_simp
                     with_reducible rfl
                    rotate_left
                    ·simp only [Act.put, sA, sB, sC, i64_w, i32_w]
                     rfl
                    refine pure_ (i := 4) (N := some 96) (v := ?_) (a' := ?_) (bb 23 31) rfl rfl (any_of HT_.out (by kernel_rfl)) (fun _ _ _ h => h) (Or.inl ⟨by rfl, ?_⟩) ?_ ?_
                    rotate_left
                    ·intro w'
                     go_simp
                     with_reducible rfl
                    rotate_left
                    ·simp only [Act.put, sA, sB, sC, i64_w, i32_w]
                     rfl
                    refine pure_ (i := 5) (N := some 97) (v := ?_) (a' := ?_) (bb 23 63) rfl rfl (any_of HT_.out (by kernel_rfl)) (fun _ _ _ h => h) (Or.inl ⟨by rfl, ?_⟩) ?_ ?_
                    rotate_left
                    ·intro w'
                     go_simp
                     with_reducible rfl
                    rotate_left
                    ·simp only [Act.put, sA, sB, sC, i64_w, i32_w]
                     rfl
                    refine pure_ (i := 6) (N := some 98) (v := ?_) (a' := ?_) (bb 23 127) rfl rfl (any_of HT_.out (by kernel_rfl)) (fun _ _ _ h => h) (Or.inl ⟨by rfl, ?_⟩) ?_ ?_
                    rotate_left
                    ·intro w'
                     go_simp
                     with_reducible rfl
                    rotate_left
                    ·simp only [Act.put, sA, sB, sC, i64_w, i32_w]
                     rfl
                    refine pure_ (i := 7) (N := some 99) (v := ?_) (a' := ?_) (bb 23 255) rfl rfl (any_of HT_.out (by kernel_rfl)) (fun _ _ _ h => h) (Or.inl ⟨by rfl, ?_⟩) ?_ ?_
                    rotate_left
                    ·intro w'
                     go_simp
                     with_reducible rfl
                    rotate_left
                    ·simp only [Act.put, sA, sB, sC, i64_w, i32_w]
                     rfl
                    refine pure_ (i := 9) (N := some 101) (v := ?_) (a' := ?_) (bb 23 767) rfl rfl (any_of HT_.out (by kernel_rfl)) (fun _ _ _ h => h) (Or.inl ⟨by rfl, ?_⟩) ?_ ?_
                    rotate_left
                    ·intro w'
                     go_simp
                     with_reducible rfl
                    rotate_left
                    ·simp only [Act.put, sA, sB, sC, i64_w, i32_w]
                     rfl
                    refine pure_ (i := 12) (N := some 104) (v := ?_) (a' := ?_) (bb 23 4863) rfl rfl (any_of HT_.out (by kernel_rfl)) (fun _ _ _ h => h) (Or.inl ⟨by rfl, ?_⟩) ?_ ?_
                    rotate_left
                    ·intro w'
                     go_simp
                     with_reducible rfl
                    rotate_left
                    ·simp only [Act.put, sA, sB, sC, i64_w, i32_w]
                     rfl
                    refine pure_ (i := 13) (N := some 105) (v := ?_) (a' := ?_) (bb 23 13055) rfl rfl (any_of HT_.out (by kernel_rfl)) (fun _ _ _ h => h) (Or.inl ⟨by rfl, ?_⟩) ?_ ?_
                    rotate_left
                    ·intro w'
                     go_simp
                     with_reducible rfl
                    rotate_left
                    ·simp only [Act.put, sA, sB, sC, i64_w, i32_w]
                     rfl
                    refine pure_ (i := 14) (N := some 106) (v := ?_) (a' := ?_) (bb 23 29439) rfl rfl (any_of HT_.out (by kernel_rfl)) (fun _ _ _ h => h) (Or.inl ⟨by rfl, ?_⟩) ?_ ?_
                    rotate_left
                    ·intro w'
                     go_simp
                     with_reducible rfl
                    rotate_left
                    ·simp only [Act.put, sA, sB, sC, i64_w, i32_w]
                     rfl
                    refine pure_ (i := 15) (N := some 107) (v := ?_) (a' := ?_) (bb 23 62207) rfl rfl (any_of HT_.out (by kernel_rfl)) (fun _ _ _ h => h) (Or.inl ⟨by rfl, ?_⟩) ?_ ?_
                    rotate_left
                    ·intro w'
                     go_simp
                     with_reducible rfl
                    rotate_left
                    ·simp only [Act.put, sA, sB, sC, i64_w, i32_w]
                     rfl
                    refine pure_ (i := 17) (N := some 109) (v := ?_) (a' := ?_) (bb 23 193279) rfl rfl (any_of HT_.out (by kernel_rfl)) (fun _ _ _ h => h) (Or.inl ⟨by rfl, ?_⟩) ?_ ?_
                    rotate_left
                    ·intro w'
                     go_simp
                     with_reducible rfl
                    rotate_left
                    ·simp only [Act.put, sA, sB, sC, i64_w, i32_w]
                     rfl
                    refine take_ (i := 8) (N := some 100) (v := ?_) (a' := ?_) (bb 23 193535) rfl rfl (take_ofW HT_.out HW_.out (by kernel_rfl)) (fun _ _ _ h => h) (Or.inl ⟨by rfl, ?_⟩) hHeld ?_ ?_
                    rotate_left
                    ·rintro w' ⟨s0, s1, s2, s3⟩
                     go_simp
                     with_reducible rfl
                    rotate_left
                    ·simp only [Act.put, sA, sB, sC, i64_w, i32_w]
                     rfl
                    refine pure_ (i := 10) (N := some 102) (v := ?_) (a' := ?_) (bb 23 194559) rfl rfl (any_of HT_.out (by kernel_rfl)) (fun _ _ _ h => h) (Or.inl ⟨by rfl, ?_⟩) ?_ ?_
                    rotate_left
                    ·intro w'
                     go_simp
                     with_reducible rfl
                    rotate_left
                    ·simp only [Act.put, sA, sB, sC, i64_w, i32_w]
                     rfl
                    refine take_ (i := 11) (N := some 103) (v := ?_) (a' := ?_) (bb 23 196607) rfl rfl (take_ofW HT_.out HW_.out (by kernel_rfl)) (fun _ _ _ h => h) (Or.inl ⟨by rfl, ?_⟩) hHeld ?_ ?_
                    rotate_left
                    ·rintro w' ⟨s0, s1, s2, s3⟩
                     go_simp
                     with_reducible rfl
                    rotate_left
                    ·simp only [Act.put, sA, sB, sC, i64_w, i32_w]
                     rfl
                    refine take_ (i := 16) (N := some 108) (v := ?_) (a' := ?_) (bb 23 262143) rfl rfl (take_ofW HT_.out HW_.out (by kernel_rfl)) (fun _ _ _ h => h) (Or.inl ⟨by rfl, ?_⟩) hHeld ?_ ?_
                    rotate_left
                    ·rintro w' ⟨s0, s1, s2, s3⟩
                     go_simp
                     with_reducible rfl
                    rotate_left
                    ·simp only [Act.put, sA, sB, sC, i64_w, i32_w]
                     rfl
                    refine pure_ (i := 18) (N := some 110) (v := ?_) (a' := ?_) (bb 23 524287) rfl rfl (any_of HT_.out (by kernel_rfl)) (fun _ _ _ h => h) (Or.inl ⟨by rfl, ?_⟩) ?_ ?_
                    rotate_left
                    ·intro w'
                     go_simp
                     with_reducible rfl
                    rotate_left
                    ·simp only [Act.put, sA, sB, sC, i64_w, i32_w]
                     rfl
                    refine take_ (i := 19) (N := some 111) (v := ?_) (a' := ?_) (bb 23 1048575) rfl rfl (take_ofW HT_.out HW_.out (by kernel_rfl)) (fun _ _ _ h => h) (Or.inl ⟨by rfl, ?_⟩) hHeld ?_ ?_
                    rotate_left
                    ·rintro w' ⟨s0, s1, s2, s3⟩
                     go_simp
                     with_reducible rfl
                    rotate_left
                    ·simp only [Act.put, sA, sB, sC, i64_w, i32_w]
                     rfl
                    refine pure_ (i := 20) (N := some 112) (v := ?_) (a' := ?_) (bb 23 2097151) rfl rfl (any_of HT_.out (by kernel_rfl)) (fun _ _ _ h => h) (Or.inl ⟨by rfl, ?_⟩) ?_ ?_
                    rotate_left
                    ·intro w'
                     go_simp
                     with_reducible rfl
                    rotate_left
                    ·simp only [Act.put, sA, sB, sC, i64_w, i32_w]
                     rfl
                    refine pure_ (i := 21) (N := some 113) (v := ?_) (a' := ?_) (bb 23 4194303) rfl rfl (any_of HT_.out (by kernel_rfl)) (fun _ _ _ h => h) (Or.inl ⟨by rfl, ?_⟩) ?_ ?_
                    rotate_left
                    ·intro w'
                     go_simp
                     with_reducible rfl
                    rotate_left
                    ·simp only [Act.put, sA, sB, sC, i64_w, i32_w]
                     rfl
                    refine pure_ (i := 22) (N := some 114) (v := ?_) (a' := ?_) (bb 23 8388607) rfl rfl (any_of HT_.out (by kernel_rfl)) (fun _ _ _ h => h) (Or.inl ⟨by rfl, ?_⟩) ?_ ?_
                    rotate_left
                    ·intro w'
                     go_simp
                     with_reducible rfl
                    rotate_left
                    ·simp only [Act.put, sA, sB, sC, i64_w, i32_w]
                     rfl
                    refine done_ (done_of HT_.out (by kernel_rfl)) ?_
                    try go_wp2_with (first | ((with_reducible refine gate_builtin (b := .append) (xs := #[.tmp 131, .tmp 134]) rfl ?_); (try (refine gate_guard (by rfl) ?_; dsimp only)); at_builtin; refine Kd.R_append k57 (w0 := w) w.heap.size rfl (.tmp 131) (.tmp 134) 24 57 (.agg #[(.int .i64 0), (.bool false), (.int .i64 0)]) 24 rfl Try.underlying24 info57 rfl (by decide) (by omega) u10 x10_1 (⟨(-1), false, x12_1⟩ : S57) [.int .i64 (-1), .bool false, .int .i64 x12_1] (fun _ => True) (fun _ => False) rfl rfl ?aP (fun _ hk => hk.elim) ?aF ?aO ?aB ?aS ?aL ?_; (case aP => exact k57_mkM _ _ _ (⟨(-1), false, x12_1⟩ : S57)); (case aB => exact (by repeat (first | (with_reducible first | exact HB.out | apply below_alloc | apply pw_below_drewN | apply below_drew1) | exact HB.out))); (case aF => exact (fun _ _ => trivial)); (case aO => exact (by (with_reducible repeat (first | apply Kd.R_alloc | apply Kd.R_drewN | apply Kd.R_drew)); exact HO_10.out)); (case aS => exact (below_size (by repeat (first | (with_reducible first | exact HB.out | apply below_alloc | apply pw_below_drewN | apply below_drew1) | exact HB.out)))); (case aL => have := LMc54.out; omega); intro v201 w57 ho hb hg hat; rw [← Ny200.out] at ho; have n0_ := Aside0.mk (Kd.R_over' (by (with_reducible repeat (first | apply Kd.R_alloc | apply Kd.R_drewN | apply Kd.R_drew)); exact HO_8.out) (Kd.R_typed (by (with_reducible repeat (first | apply Kd.R_alloc | apply Kd.R_drewN | apply Kd.R_drew)); exact HO_10.out)) (by decide) hg); have n1_ := Aside0.mk (Kd.S_over' (by (with_reducible repeat (first | apply Kd.S_alloc | apply Kd.S_drewN | apply Kd.S_drew)); exact HO_9.out) (Kd.R_typed (by (with_reducible repeat (first | apply Kd.R_alloc | apply Kd.R_drewN | apply Kd.R_drew)); exact HO_10.out)) (by decide) hg); have n2_ := Aside0.mk (Kd.R_over' (by (with_reducible repeat (first | apply Kd.R_alloc | apply Kd.R_drewN | apply Kd.R_drew)); exact HL191_0.out) (Kd.R_typed (by (with_reducible repeat (first | apply Kd.R_alloc | apply Kd.R_drewN | apply Kd.R_drew)); exact HO_10.out)) (by decide) hg); have n3_ := Aside0.mk (Kd.R_over' (by (with_reducible repeat (first | apply Kd.R_alloc | apply Kd.R_drewN | apply Kd.R_drew)); exact HL193_0.out) (Kd.R_typed (by (with_reducible repeat (first | apply Kd.R_alloc | apply Kd.R_drewN | apply Kd.R_drew)); exact HO_10.out)) (by decide) hg); have n4_ := Aside0.mk (hb); have n5_ := Aside0.mk (ho); clear HO_8; clear HO_9; clear HL191_0; clear HL193_0; clear HB; clear HO_10; have HO_8 := n0_; have HO_9 := n1_; have HL191_0 := n2_; have HL193_0 := n3_; have HB := n4_; have HO202 := n5_; clear n0_ n1_ n2_ n3_ n4_ n5_; clear ho hb hg hat))
                    go_roundg kj13
                    case measure => have := HK1.out; have := HJ10.out; have := HJ13.out; omega
                    case rel => exact ⟨(y200), (x11_1), (wrap64 (x12_1 + 1)), (by first | rfl | (simp; done) | (simp [*]; done)), (by first | rfl | (simp; done) | (simp [*]; done)), H', ⟨by have := HK1.out; have := HJ10.out; have := HJ13.out; omega⟩, ⟨by (with_reducible repeat (first | apply Kd.R_alloc | apply Kd.R_drewN | apply Kd.R_drew)); exact HO_8.out⟩, ⟨by (with_reducible repeat (first | apply Kd.S_alloc | apply Kd.S_drewN | apply Kd.S_drew)); exact HO_9.out⟩, ⟨by (with_reducible repeat (first | apply Kd.R_alloc | apply Kd.R_drewN | apply Kd.R_drew)); exact HO202.out⟩, ⟨by repeat (first | (with_reducible first | exact HB.out | apply below_alloc | apply pw_below_drewN | apply below_drew1) | exact HB.out)⟩⟩
                   ·rw [if_neg c54] at H
                    exact absurd H (by simp)
                 ·rw [if_neg c47] at H
                  exact absurd H (by simp)
                ·rw [if_neg c46] at H
                 exact absurd H (by simp)
               ·rw [if_neg c45] at H
                exact absurd H (by simp)
              ·rw [if_neg c43] at H
               exact absurd H (by simp)
             ·rw [if_neg c42] at H
              exact absurd H (by simp)
            ·rw [if_neg c41] at H
             exact absurd H (by simp)
           ·rw [if_neg c40] at H
            exact absurd H (by simp)
          ·rw [if_neg c39] at H
           have c39b0 : decide (x11_1 < (t171.length : Int)) = false := decide_eq_false c39
           clear c39
           by_cases c58 : x10_1.length < 5864062014805
           ·rw [if_pos c58] at H
            have LMc58 := Aside0.mk c58
            clear c58
            obtain ⟨y203, hy203⟩ : ∃ y_ : List (S57), y_ = (x10_1 ++ [(⟨(-1), false, x12_1⟩ : S57)]) := ⟨_, rfl⟩
            replace H : (wageofficeref22_Pair.l0 kj13 l1 t171 t174 y203 x11_1 (wrap64 (x12_1 + 1))) = some (r1, r2, r3) := by first | (rw [hy203]; with_reducible exact H) | (have H2_ := (Option.bind_some _ _).symm.trans H; rw [hy203]; with_reducible exact H2_) | (have H2_ := (Option.bind_some _ _).symm.trans H; with_reducible exact H2_) | with_reducible exact H | (rw [hy203]; exact H) | exact H
            have Ny203 := Aside0.mk hy203
            clear hy203
            have H' := Aside0.mk H
            clear H
            try go_wp2
            have n0_ := Aside0.mk (Kd.R_drew HO_8.out)
            have n1_ := Aside0.mk (Kd.S_drew HO_9.out)
            have n2_ := Aside0.mk (Kd.R_drew HO_10.out)
            have n3_ := Aside0.mk (below_drew1 HB.out)
            clear HO_8
            clear HO_9
            clear HO_10
            clear HB
            have HO_8 := n0_
            have HO_9 := n1_
            have HO_10 := n2_
            have HB := n3_
            clear n0_ n1_ n2_ n3_
            refine start_ (n := 23) (S := fun w' => True) (ds := []) (bb 23 0) (by kernel_rfl) rfl rfl trivial (fun hHeld => ?_); refine with_tabW wageofficeref22_Pair.tab14 wageofficeref22_Pair.bits14 (fun HT_ HW_ => ?_)
            generalize wc.drew = w59 at HO_8 HO_9 HO_10 HB hHeld ⊢
            refine pure_ (i := 0) (N := some 92) (v := ?_) (a' := ?_) (bb 23 1) rfl rfl (any_of HT_.out (by kernel_rfl)) (fun _ _ _ h => h) (Or.inl ⟨by rfl, ?_⟩) ?_ ?_
            rotate_left
            ·intro w'
             go_simp
             with_reducible rfl
            rotate_left
            ·simp only [Act.put, sA, sB, sC, i64_w, i32_w]
             rfl
            refine pure_ (i := 1) (N := some 93) (v := ?_) (a' := ?_) (bb 23 3) rfl rfl (any_of HT_.out (by kernel_rfl)) (fun _ _ _ h => h) (Or.inl ⟨by rfl, ?_⟩) ?_ ?_
            rotate_left
            ·intro w'
             go_simp
             with_reducible rfl
            rotate_left
            ·simp only [Act.put, sA, sB, sC, i64_w, i32_w]
             rfl
            refine pure_ (i := 2) (N := some 94) (v := ?_) (a' := ?_) (bb 23 7) rfl rfl (any_of HT_.out (by kernel_rfl)) (fun _ _ _ h => h) (Or.inl ⟨by rfl, ?_⟩) ?_ ?_
            rotate_left
            ·intro w'
             go_simp
             with_reducible rfl
            rotate_left
            ·simp only [Act.put, sA, sB, sC, i64_w, i32_w]
             rfl
            refine pure_ (i := 3) (N := some 95) (v := ?_) (a' := ?_) (bb 23 15) rfl rfl (any_of HT_.out (by kernel_rfl)) (fun _ _ _ h => h) (Or.inl ⟨by rfl, ?_⟩) ?_ ?_
            rotate_left
            ·intro w'
             go_simp
             with_reducible rfl
            rotate_left
            ·simp only [Act.put, sA, sB, sC, i64_w, i32_w]
             rfl
            refine pure_ (i := 4) (N := some 96) (v := ?_) (a' := ?_) (bb 23 31) rfl rfl (any_of HT_.out (by kernel_rfl)) (fun _ _ _ h => h) (Or.inl ⟨by rfl, ?_⟩) ?_ ?_
            rotate_left
            ·intro w'
             go_simp
             with_reducible rfl
            rotate_left
            ·simp only [Act.put, sA, sB, sC, i64_w, i32_w]
             rfl
            refine pure_ (i := 5) (N := some 97) (v := undef) (a' := ?_) (bb 23 63) rfl rfl (any_of HT_.out (by kernel_rfl)) (fun _ _ _ h => h) (Or.inr ⟨by rfl, rfl⟩) ?_ ?_
            rotate_left
            ·simp only [Act.put, sA, sB, sC, i64_w, i32_w]
             rfl
            refine pure_ (i := 6) (N := some 98) (v := undef) (a' := ?_) (bb 23 127) rfl rfl (any_of HT_.out (by kernel_rfl)) (fun _ _ _ h => h) (Or.inr ⟨by rfl, rfl⟩) ?_ ?_
            rotate_left
            ·simp only [Act.put, sA, sB, sC, i64_w, i32_w]
             rfl
            refine pure_ (i := 7) (N := some 99) (v := undef) (a' := ?_) (bb 23 255) rfl rfl (any_of HT_.out (by kernel_rfl)) (fun _ _ _ h => h) (Or.inr ⟨by rfl, rfl⟩) ?_ ?_
            rotate_left
            ·simp only [Act.put, sA, sB, sC, i64_w, i32_w]
             rfl
            refine pure_ (i := 8) (N := some 100) (v := undef) (a' := ?_) (bb 23 511) rfl rfl (any_of HT_.out (by kernel_rfl)) (fun _ _ _ h => h) (Or.inr ⟨by rfl, rfl⟩) ?_ ?_
            rotate_left
            ·simp only [Act.put, sA, sB, sC, i64_w, i32_w]
             rfl
            refine pure_ (i := 9) (N := some 101) (v := undef) (a' := ?_) (bb 23 1023) rfl rfl (any_of HT_.out (by kernel_rfl)) (fun _ _ _ h => h) (Or.inr ⟨by rfl, rfl⟩) ?_ ?_
            rotate_left
            ·simp only [Act.put, sA, sB, sC, i64_w, i32_w]
             rfl
            refine pure_ (i := 10) (N := some 102) (v := undef) (a' := ?_) (bb 23 2047) rfl rfl (any_of HT_.out (by kernel_rfl)) (fun _ _ _ h => h) (Or.inr ⟨by rfl, rfl⟩) ?_ ?_
            rotate_left
            ·simp only [Act.put, sA, sB, sC, i64_w, i32_w]
             rfl
            refine pure_ (i := 11) (N := some 103) (v := undef) (a' := ?_) (bb 23 4095) rfl rfl (any_of HT_.out (by kernel_rfl)) (fun _ _ _ h => h) (Or.inr ⟨by rfl, rfl⟩) ?_ ?_
            rotate_left
            ·simp only [Act.put, sA, sB, sC, i64_w, i32_w]
             rfl
            refine pure_ (i := 12) (N := some 104) (v := undef) (a' := ?_) (bb 23 8191) rfl rfl (any_of HT_.out (by kernel_rfl)) (fun _ _ _ h => h) (Or.inr ⟨by rfl, rfl⟩) ?_ ?_
            rotate_left
            ·simp only [Act.put, sA, sB, sC, i64_w, i32_w]
             rfl
            refine pure_ (i := 13) (N := some 105) (v := undef) (a' := ?_) (bb 23 16383) rfl rfl (any_of HT_.out (by kernel_rfl)) (fun _ _ _ h => h) (Or.inr ⟨by rfl, rfl⟩) ?_ ?_
            rotate_left
            ·simp only [Act.put, sA, sB, sC, i64_w, i32_w]
             rfl
            refine pure_ (i := 14) (N := some 106) (v := undef) (a' := ?_) (bb 23 32767) rfl rfl (any_of HT_.out (by kernel_rfl)) (fun _ _ _ h => h) (Or.inr ⟨by rfl, rfl⟩) ?_ ?_
            rotate_left
            ·simp only [Act.put, sA, sB, sC, i64_w, i32_w]
             rfl
            refine pure_ (i := 15) (N := some 107) (v := undef) (a' := ?_) (bb 23 65535) rfl rfl (any_of HT_.out (by kernel_rfl)) (fun _ _ _ h => h) (Or.inr ⟨by rfl, rfl⟩) ?_ ?_
            rotate_left
            ·simp only [Act.put, sA, sB, sC, i64_w, i32_w]
             rfl
            refine pure_ (i := 16) (N := some 108) (v := undef) (a' := ?_) (bb 23 131071) rfl rfl (any_of HT_.out (by kernel_rfl)) (fun _ _ _ h => h) (Or.inr ⟨by rfl, rfl⟩) ?_ ?_
            rotate_left
            ·simp only [Act.put, sA, sB, sC, i64_w, i32_w]
             rfl
            refine pure_ (i := 17) (N := some 109) (v := undef) (a' := ?_) (bb 23 262143) rfl rfl (any_of HT_.out (by kernel_rfl)) (fun _ _ _ h => h) (Or.inr ⟨by rfl, rfl⟩) ?_ ?_
            rotate_left
            ·simp only [Act.put, sA, sB, sC, i64_w, i32_w]
             rfl
            refine pure_ (i := 18) (N := some 110) (v := undef) (a' := ?_) (bb 23 524287) rfl rfl (any_of HT_.out (by kernel_rfl)) (fun _ _ _ h => h) (Or.inr ⟨by rfl, rfl⟩) ?_ ?_
            rotate_left
            ·simp only [Act.put, sA, sB, sC, i64_w, i32_w]
             rfl
            refine pure_ (i := 19) (N := some 111) (v := undef) (a' := ?_) (bb 23 1048575) rfl rfl (any_of HT_.out (by kernel_rfl)) (fun _ _ _ h => h) (Or.inr ⟨by rfl, rfl⟩) ?_ ?_
            rotate_left
            ·simp only [Act.put, sA, sB, sC, i64_w, i32_w]
             rfl
            refine pure_ (i := 20) (N := some 112) (v := undef) (a' := ?_) (bb 23 2097151) rfl rfl (any_of HT_.out (by kernel_rfl)) (fun _ _ _ h => h) (Or.inr ⟨by rfl, rfl⟩) ?_ ?_
            rotate_left
            ·simp only [Act.put, sA, sB, sC, i64_w, i32_w]
             rfl
            refine pure_ (i := 21) (N := some 113) (v := undef) (a' := ?_) (bb 23 4194303) rfl rfl (any_of HT_.out (by kernel_rfl)) (fun _ _ _ h => h) (Or.inr ⟨by rfl, rfl⟩) ?_ ?_
            rotate_left
            ·simp only [Act.put, sA, sB, sC, i64_w, i32_w]
             rfl
            refine pure_ (i := 22) (N := some 114) (v := ?_) (a' := ?_) (bb 23 8388607) rfl rfl (any_of HT_.out (by kernel_rfl)) (fun _ _ _ h => h) (Or.inl ⟨by rfl, ?_⟩) ?_ ?_
            rotate_left
            ·intro w'
             go_simp
             with_reducible rfl
            rotate_left
            ·simp only [Act.put, sA, sB, sC, i64_w, i32_w]
             rfl
            refine done_ (done_of HT_.out (by kernel_rfl)) ?_
            try go_wp2_with (first | ((with_reducible refine gate_builtin (b := .append) (xs := #[.tmp 131, .tmp 134]) rfl ?_); (try (refine gate_guard (by rfl) ?_; dsimp only)); at_builtin; refine Kd.R_append k57 (w0 := w) w.heap.size rfl (.tmp 131) (.tmp 134) 24 57 (.agg #[(.int .i64 0), (.bool false), (.int .i64 0)]) 24 rfl Try.underlying24 info57 rfl (by decide) (by omega) u10 x10_1 (⟨(-1), false, x12_1⟩ : S57) [.int .i64 (-1), .bool false, .int .i64 x12_1] (fun _ => True) (fun _ => False) rfl rfl ?aP (fun _ hk => hk.elim) ?aF ?aO ?aB ?aS ?aL ?_; (case aP => exact k57_mkM _ _ _ (⟨(-1), false, x12_1⟩ : S57)); (case aB => exact (by repeat (first | (with_reducible first | exact HB.out | apply below_alloc | apply pw_below_drewN | apply below_drew1) | exact HB.out))); (case aF => exact (fun _ _ => trivial)); (case aO => exact (by (with_reducible repeat (first | apply Kd.R_alloc | apply Kd.R_drewN | apply Kd.R_drew)); exact HO_10.out)); (case aS => exact (below_size (by repeat (first | (with_reducible first | exact HB.out | apply below_alloc | apply pw_below_drewN | apply below_drew1) | exact HB.out)))); (case aL => have := LMc58.out; omega); intro v204 w60 ho hb hg hat; rw [← Ny203.out] at ho; have n0_ := Aside0.mk (Kd.R_over' (by (with_reducible repeat (first | apply Kd.R_alloc | apply Kd.R_drewN | apply Kd.R_drew)); exact HO_8.out) (Kd.R_typed (by (with_reducible repeat (first | apply Kd.R_alloc | apply Kd.R_drewN | apply Kd.R_drew)); exact HO_10.out)) (by decide) hg); have n1_ := Aside0.mk (Kd.S_over' (by (with_reducible repeat (first | apply Kd.S_alloc | apply Kd.S_drewN | apply Kd.S_drew)); exact HO_9.out) (Kd.R_typed (by (with_reducible repeat (first | apply Kd.R_alloc | apply Kd.R_drewN | apply Kd.R_drew)); exact HO_10.out)) (by decide) hg); have n2_ := Aside0.mk (hb); have n3_ := Aside0.mk (ho); clear HO_8; clear HO_9; clear HB; clear HO_10; have HO_8 := n0_; have HO_9 := n1_; have HB := n2_; have HO205 := n3_; clear n0_ n1_ n2_ n3_; clear ho hb hg hat))
            go_roundg kj13
            case measure => have := HK1.out; have := HJ10.out; have := HJ13.out; omega
            case rel => exact ⟨(y203), (x11_1), (wrap64 (x12_1 + 1)), (by first | rfl | (simp; done) | (simp [*]; done)), (by first | rfl | (simp; done) | (simp [*]; done)), H', ⟨by have := HK1.out; have := HJ10.out; have := HJ13.out; omega⟩, ⟨by (with_reducible repeat (first | apply Kd.R_alloc | apply Kd.R_drewN | apply Kd.R_drew)); exact HO_8.out⟩, ⟨by (with_reducible repeat (first | apply Kd.S_alloc | apply Kd.S_drewN | apply Kd.S_drew)); exact HO_9.out⟩, ⟨by (with_reducible repeat (first | apply Kd.R_alloc | apply Kd.R_drewN | apply Kd.R_drew)); exact HO205.out⟩, ⟨by repeat (first | (with_reducible first | exact HB.out | apply below_alloc | apply pw_below_drewN | apply below_drew1) | exact HB.out)⟩⟩
           ·rw [if_neg c58] at H
            exact absurd H (by simp)
      ·replace c13 := Bool.eq_false_iff.mpr c13
       subst c13
       have H1 : (if 0 < (t174.length : Int) then (if 0 < ((rd_L9 t174 0).length : Int) then (some (x10_1, rd (rd_L9 t174 0) 0, 0)) else (none)) else (none)) = some (r1, r2, r3) := by rw [if_neg (show ¬ (false = true) by decide)] at H; exact H
       clear H
       have H := H1
       clear H1
       by_cases c61 : 0 < (t174.length : Int)
       ·rw [if_pos c61] at H
        have c61b0 : decide (0 < (t174.length : Int)) = true := decide_eq_true c61
        have c61b1 : decide (0 < t174.length) = true := decide_eq_true (by omega)
        clear c61
        by_cases c62 : 0 < ((rd_L9 t174 0).length : Int)
        ·rw [if_pos c62] at H
         have c62b0 : decide (0 < ((rd_L9 t174 0).length : Int)) = true := decide_eq_true c62
         have c62b1 : decide (0 < (rd_L9 t174 0).length) = true := decide_eq_true (by omega)
         clear c62
         simp only [Option.some.injEq, Prod.mk.injEq] at H
         obtain ⟨rfl, rfl, rfl⟩ := H
         try go_wp2
         have n0_ := Aside0.mk (Kd.R_drew HO_8.out)
         have n1_ := Aside0.mk (Kd.S_drew HO_9.out)
         have n2_ := Aside0.mk (Kd.R_drew HO_10.out)
         have n3_ := Aside0.mk (below_drew1 HB.out)
         clear HO_8
         clear HO_9
         clear HO_10
         clear HB
         have HO_8 := n0_
         have HO_9 := n1_
         have HO_10 := n2_
         have HB := n3_
         clear n0_ n1_ n2_ n3_
         obtain ⟨Ao64, co64, eo64⟩ := Kd.S_slice HO_9.out
         (first | subst eo64 | (injection eo64 with f1_ f2_ f3_; have f4_ := f1_.symm; have f5_ := f3_.symm; clear f1_ f2_ f3_; subst f4_; subst f5_))
         have p177 : 0 ≤ (0 : Int) := (by omega)
         have q177 : 0 < (t174.length : Int) := of_decide_eq_true (by first | (with_reducible assumption) | assumption)
         obtain ⟨ad177, A177_0, c177_0, e177, hx177_0, hl177_0, hi177_0⟩ := at_L9 (Kd.S_reads' HO_9.out).2.2 0 p177 q177
         cases e177
         obtain ⟨ce177, hce177, hMe177, hcc177⟩ := Kd.S_get HO_9.out [] 0 p177 (by first | exact q177 | exact of_decide_eq_true (by first | (with_reducible assumption) | assumption) | (have e_ := (Kd.S_reads' HO_9.out).1; omega))
         obtain ⟨ve177_0, rfl, ge177_0⟩ := hMe177
         have hv177_0 := hcc177 0 _ rfl
         rw [Nat.add_zero, show ((Kd.slice 3 (Kd.int .i64))).sz = 1 from rfl, Nat.mul_one] at hv177_0
         replace hv177_0 := Option.some.inj (hv177_0.symm.trans hx177_0)
         rw [hv177_0] at ge177_0
         have HL177_0 := Aside0.mk (show Kd.R (Kd.int .i64) 3 _ _ _ _ (rd_L9 t174 0) from ge177_0)
         clear hv177_0 ge177_0
         clear hcc177 hce177
         have qi177 : (0 < t174.length) = True := eq_true (by omega)
         (try rw [show ((0 : Int)).toNat = 0 from rfl] at hx177_0)
         (try rw [Addr.add_zero'] at hx177_0)
         have HR177_0 := Aside0.mk hi177_0
         have HC177_0 := Aside0.mk hl177_0
         clear hi177_0 hl177_0
         replace p177 := eq_true p177
         replace q177 := eq_true q177
         have p178 : 0 ≤ (0 : Int) := (by omega)
         have q178 : 0 < ((rd_L9 t174 0).length : Int) := of_decide_eq_true (by first | (with_reducible assumption) | assumption)
         obtain ⟨ad178, e178, hx178_0⟩ := Kd.at_int (by repeat (first | (with_reducible exact HR177_0.out) | (with_reducible refine Kd.C_alloc ?_ _) | (with_reducible refine Kd.C_drewN ?_ _) | (with_reducible refine Kd.C_drew ?_) | exact HR177_0.out)) 0 p178 q178
         cases e178
         have qi178 : (0 < (rd_L9 t174 0).length) = True := eq_true (by omega)
         (try rw [show ((0 : Int)).toNat = 0 from rfl] at hx178_0)
         (try rw [Addr.add_zero'] at hx178_0)
         replace p178 := eq_true p178
         replace q178 := eq_true q178
         refine start_ (n := 9) (S := fun w' => w'.cell? ad177 = some (.slice (some ad178) (rd_L9 t174 0).length c177_0) ∧ w'.cell? ad178 = some (.int .i64 (rd (rd_L9 t174 0) 0))) (ds := []) (bb 9 0) (by kernel_rfl) rfl rfl ⟨hx177_0, hx178_0⟩ (fun hHeld => ?_); refine with_tabW wageofficeref22_Pair.tab19 wageofficeref22_Pair.bits19 (fun HT_ HW_ => ?_)
         generalize wc.drew = w63 at HO_8 HO_9 HO_10 HB HL177_0 HR177_0 hx177_0 hx178_0 hHeld ⊢
         refine pure_ (i := 0) (N := some 138) (v := ?_) (a' := ?_) (bb 9 1) rfl rfl (any_of HT_.out (by kernel_rfl)) (fun _ _ _ h => h) (Or.inl ⟨by rfl, ?_⟩) ?_ ?_
         rotate_left
         ·intro w'
          go_simp
          with_reducible rfl
         rotate_left
         ·simp only [Act.put, sA, sB, sC, i64_w, i32_w]
          rfl
         refine pure_ (i := 1) (N := some 139) (v := ?_) (a' := ?_) (bb 9 3) rfl rfl (any_of HT_.out (by kernel_rfl)) (fun _ _ _ h => h) (Or.inl ⟨by rfl, ?_⟩) ?_ ?_
         rotate_left
         ·intro w'
          go_simp
          with_reducible rfl
         rotate_left
         ·simp only [Act.put, sA, sB, sC, i64_w, i32_w]
          rfl
         refine pure_ (i := 2) (N := some 140) (v := ?_) (a' := ?_) (bb 9 7) rfl rfl (any_of HT_.out (by kernel_rfl)) (fun _ _ _ h => h) (Or.inl ⟨by rfl, ?_⟩) ?_ ?_
         rotate_left
         ·intro w'
          go_simp
          with_reducible rfl
         rotate_left
         ·simp only [Act.put, sA, sB, sC, i64_w, i32_w]
          rfl
         refine pure_ (i := 6) (N := some 4) (v := ?_) (a' := ?_) (bb 9 71) rfl rfl (any_of HT_.out (by kernel_rfl)) (fun _ _ _ h => h) (Or.inl ⟨by rfl, ?_⟩) ?_ ?_
         rotate_left
         ·intro w'
          go_simp
          with_reducible rfl
         rotate_left
         ·simp only [Act.put, sA, sB, sC, i64_w, i32_w]
          rfl
         refine take_ (i := 3) (N := some 141) (v := ?_) (a' := ?_) (bb 9 79) rfl rfl (take_ofW HT_.out HW_.out (by kernel_rfl)) (fun _ _ _ h => h) (Or.inl ⟨by rfl, ?_⟩) hHeld ?_ ?_
         rotate_left
         ·rintro w' ⟨s0, s1⟩
          go_simp
          with_reducible rfl
         rotate_left
         ·simp only [Act.put, sA, sB, sC, i64_w, i32_w]
          rfl
         refine pure_ (i := 4) (N := some 142) (v := ?_) (a' := ?_) (bb 9 95) rfl rfl (any_of HT_.out (by kernel_rfl)) (fun _ _ _ h => h) (Or.inl ⟨by rfl, ?_⟩) ?_ ?_
         rotate_left
         ·intro w'
          go_simp
          with_reducible rfl
         rotate_left
         ·simp only [Act.put, sA, sB, sC, i64_w, i32_w]
          rfl
         refine take_ (i := 5) (N := some 143) (v := ?_) (a' := ?_) (bb 9 127) rfl rfl (take_ofW HT_.out HW_.out (by kernel_rfl)) (fun _ _ _ h => h) (Or.inl ⟨by rfl, ?_⟩) hHeld ?_ ?_
         rotate_left
         ·rintro w' ⟨s0, s1⟩
          go_simp
          with_reducible rfl
         rotate_left
         ·simp only [Act.put, sA, sB, sC, i64_w, i32_w]
          rfl
         refine pure_ (i := 7) (N := some 5) (v := ?_) (a' := ?_) (bb 9 255) rfl rfl (any_of HT_.out (by kernel_rfl)) (fun _ _ _ h => h) (Or.inl ⟨by rfl, ?_⟩) ?_ ?_
         rotate_left
         ·intro w'
          go_simp
          with_reducible rfl
         rotate_left
         ·simp only [Act.put, sA, sB, sC, i64_w, i32_w]
          rfl
         refine pure_ (i := 8) (N := some 6) (v := ?_) (a' := ?_) (bb 9 511) rfl rfl (any_of HT_.out (by kernel_rfl)) (fun _ _ _ h => h) (Or.inl ⟨by rfl, ?_⟩) ?_ ?_
         rotate_left
         ·intro w'
          go_simp
          with_reducible rfl
         rotate_left
         ·simp only [Act.put, sA, sB, sC, i64_w, i32_w]
          rfl
         refine done_ (done_of HT_.out (by kernel_rfl)) ?_
         try go_wp2
         go_ret3
         exact ⟨_, by first | rfl | (simp [errW_none, errW_some] <;> rfl) | (simp [*, errW_none, errW_some] <;> rfl), by (with_reducible repeat (first | apply Kd.R_alloc | apply Kd.R_drewN | apply Kd.R_drew)); exact HO_10.out, by repeat (first | (with_reducible first | exact HB.out | apply below_alloc | apply pw_below_drewN | apply below_drew1) | exact HB.out)⟩
        ·rw [if_neg c62] at H
         exact absurd H (by simp)
       ·rw [if_neg c61] at H
        exact absurd H (by simp)
 ·rw [if_neg c4] at H
  have c4b0 : (t170 == 0) = false := beq_eq_false_iff_ne.mpr c4
  have c4b1 : (t170 != 0) = true := bne_iff_ne.mpr c4
  simp only [Option.some.injEq, Prod.mk.injEq] at H
  obtain ⟨rfl, rfl, rfl⟩ := H
  go_enter Try.func14, Try.ntmps14
  go_wp2_with (first | ((with_reducible refine gate_callee (f := 29) rfl ?_); refine goesL_ (some 15) rfl rfl Try.func29 (by kernel_rfl) rfl #[.slice A0 l0.length c0, .slice A1 l1.length c1] rfl (by (try simp only [List.map_toArray, List.map_cons, List.map_nil]); first | done | rfl | (simp only [List.length_drop, List.length_take]; rfl)) ?_; (with_reducible refine (wageofficeref22_Usable.calls k _ _ l0 _ _ l1 t170 _ ?side1 ?side2 ?side3 ?side4 A3.out).mono ?_); (case side1 => repeat (first | exact HR0.out | (with_reducible refine Kd.C_alloc ?_ _) | (with_reducible refine Kd.C_drewN ?_ _) | (with_reducible refine Kd.C_drew ?_))); (case side2 => exact HC0.out); (case side3 => repeat (first | exact HR1.out | (with_reducible refine Kd.C_alloc ?_ _) | (with_reducible refine Kd.C_drewN ?_ _) | (with_reducible refine Kd.C_drew ?_))); (case side4 => exact HC1.out); rintro e w65 ⟨rfl, hb⟩; refine ⟨_, rfl, ?_⟩; have n0_ := Aside0.mk (below_step (by repeat (first | (with_reducible first | exact HB.out | apply below_alloc | apply pw_below_drewN | apply below_drew1) | exact HB.out)) hb); clear HB; have HB := n0_; clear n0_; (try clear hb); (try clear hb2); (try clear hk); (try clear hi)))
  go_ret3
  exact ⟨_, by first | rfl | (simp [errW_none, errW_some] <;> rfl) | (simp [*, errW_none, errW_some] <;> rfl), by first | exact Kd.R_nil _ _ _ _ _ | exact Kd.N_nil _ _ _ _ _ | exact Kd.V_nil _ _ _ _ _ | exact Kd.Q_nil _ _ _ _ _ | exact Kd.S_nil _ _ _ _ _, by repeat (first | (with_reducible first | exact HB.out | apply below_alloc | apply pw_below_drewN | apply below_drew1) | exact HB.out)⟩

end Go.Proofs.Ytpbamfoaoeicgaa.PAll

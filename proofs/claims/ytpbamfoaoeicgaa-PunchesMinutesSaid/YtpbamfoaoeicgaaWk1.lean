/- Worked, where the matches are an alignment. -/
import Derived.Test.YtpbamfoaoeicgaaWk0
import Derived.Test.YtpbamfoaoeicgaaAl
set_option linter.unusedVariables false
set_option linter.unusedSimpArgs false
namespace Go.Proofs.Ytpbamfoaoeicgaa.PAll
open Go Go.RowKit Go.Proofs.YtpbamfoaoeicgaaW.PrintWords Go.Proofs.YtpbamfoaoeicgaaW.PrintLast Go.Proofs.YtpbamfoaoeicgaaW.PrintMore
attribute [local go_sem] max2_int min2_int max_two min_two

theorem inf4 : (Try.prog.info? 4).map (fun i => (i.zero, i.size, i.bytes)) = some (some (.bool false), 1, 1) := by kernel_rfl
theorem inf3 : (Try.prog.info? 3).map (fun i => (i.zero, i.size, i.bytes)) = some (some (.int .i64 0), 1, 8) := by kernel_rfl
theorem inf48 : (Try.prog.info? 48).map (fun i => (i.zero, i.size, i.bytes)) = some (some (.agg #[(.int .i64 0), (.int .i64 0), (.int .i64 0)]), 3, 24) := by kernel_rfl
theorem siz48 : (Try.prog.info? 48).map (·.size) = some 3 := by kernel_rfl

/-- one match put into the times -/
def stepW (l1 : List S45) (st : List S48 × List Bool) (m : S57) : List S48 × List Bool :=
  if m.f0 < 0 ∨ m.f2 < 0 then st
  else ((if m.f1 = true then st.1.set m.f0.toNat { rd_T48 st.1 m.f0 with f0 := (rd_T45 l1 m.f2).f0 } else st.1.set m.f0.toNat { rd_T48 st.1 m.f0 with f1 := (rd_T45 l1 m.f2).f0 }), st.2.set m.f0.toNat true)
/-- the minutes out of the times -/
def outW (T : List S48) (K : List Bool) : List Int := List.zipWith (fun t k => if k = true then max 0 (t.f1 - t.f0) else 0) T K
def foldW (l0 : List S48) (l1 : List S45) (l2 : List S57) : List S48 × List Bool := l2.foldl (stepW l1) (l0, List.replicate l0.length false)
def workL (l0 : List S48) (l1 : List S45) (l2 : List S57) : List Int := outW (foldW l0 l1 l2).1 (foldW l0 l1 l2).2

theorem add_off (a : Addr) (n k : Nat) (hk : 0 < k) : a.add (n + k) = ⟨(a.add n).block, (a.add n).off + k, none⟩ := by
  unfold Addr.add
  rw [if_neg (by omega)]
  by_cases h : n = 0
  · simp [h]
  · simp [h]; omega
theorem src48 {w : World} {A : Option Addr} {l : List S48} (h : Kd.C k48 w A l.length l) : 0 < (flat48 l).length → ∃ a, A = some a ∧ ∀ j v, (flat48 l)[j]? = some v → w.cell? (a.add j) = some v := by
  intro hp
  rw [flat48_length] at hp
  obtain ⟨a, rfl, _⟩ := at_T48 h 0 (by omega) (by omega)
  refine ⟨a, rfl, fun j v hj => ?_⟩
  have hj' := (List.getElem?_eq_some_iff.1 hj).1
  rw [flat48_length] at hj'
  obtain ⟨i, r, hr, rfl⟩ : ∃ i r, r < 3 ∧ j = i * 3 + r := ⟨j / 3, j % 3, by omega, by omega⟩
  have hi : i < l.length := by omega
  obtain ⟨g0, g1, g2⟩ := flat48_get l i hi
  obtain ⟨a', e, c0, c1, c2⟩ := at_T48 h (i : Int) (by omega) (by omega)
  cases e
  rw [Int.toNat_natCast, rd48_eq hi] at c0 c1 c2
  obtain rfl | rfl | rfl : r = 0 ∨ r = 1 ∨ r = 2 := by omega
  · rw [Nat.add_zero, g0] at hj; cases hj; exact c0
  · rw [g1] at hj; cases hj
    rw [show a.add (i * 3 + 1) = ⟨(a.add (i * 3)).block, (a.add (i * 3)).off + 1, none⟩ from add_off a (i * 3) _ (by omega)]; exact c1
  · rw [g2] at hj; cases hj
    rw [show a.add (i * 3 + 2) = ⟨(a.add (i * 3)).block, (a.add (i * 3)).off + 2, none⟩ from add_off a (i * 3) _ (by omega)]; exact c2

theorem none48 {w : World} {A : Option Addr} {l : List S48} (h : Kd.C k48 w A l.length l) : A = none → l.length = 0 := by
  intro e
  rcases Nat.eq_zero_or_pos l.length with h0 | h0
  · exact h0
  · obtain ⟨a, e', _⟩ := at_T48 h 0 (by omega) (by omega)
    rw [e] at e'; cases e'
theorem mkl_pos : ∀ (l : List S48) (i : Nat), ∀ x ∈ mkl i l, 0 ≤ x.f0
  | [], _ => by simp [mkl]
  | s :: r, i => by
    intro x hx
    simp only [mkl, List.mem_cons] at hx
    rcases hx with rfl | rfl | hx
    · simp
    · simp
    · exact mkl_pos r (i + 1) x hx

/-- what the first loop keeps -/
structure WRel (w : World) (TB KB n : Nat) (T : List S48) (K : List Bool) (W : World) : Prop where
  below : Below w.heap.size w W
  hT : W.heap[TB]? = some (.cells (flat48 T).toArray 48 (0, 0))
  hK : W.heap[KB]? = some (.cells (K.map Value.bool).toArray 4 (0, 0))
  lT : T.length = n
  lK : K.length = n
  near : ∀ x ∈ T, -60000000 ≤ x.f0 ∧ x.f0 ≤ 60000000 ∧ -60000000 ≤ x.f1 ∧ x.f1 ≤ 60000000

theorem size_setCell (W : World) (a : Addr) (v : Value) : (W.setCell a v).heap.size = W.heap.size := by
  show (W.heap.modify _ _).size = _; rw [Array.size_modify]
theorem blk_c (W : World) (o : Obj) (a : Addr) (h : a.block < W.heap.size) : (W.alloc o).cell? a = W.cell? a := ((Below.refl W.heap.size W).alloc (Nat.le_refl _) o).cell h

theorem WRel.alloc {w W : World} {TB KB n : Nat} {T : List S48} {K : List Bool} (h : WRel w TB KB n T K W) (o : Obj) : WRel w TB KB n T K (W.alloc o) :=
  ⟨h.below.alloc h.below.size o, blk_alloc h.hT o, blk_alloc h.hK o, h.lT, h.lK, h.near⟩
theorem WRel.drewN {w W : World} {TB KB n : Nat} {T : List S48} {K : List Bool} (h : WRel w TB KB n T K W) (m : Nat) : WRel w TB KB n T K (W.drewN m) :=
  ⟨pw_below_drewN h.below m, h.hT, h.hK, h.lT, h.lK, h.near⟩
theorem WRel.step1 {w W : World} {TB KB n : Nat} {T : List S48} {K : List Bool} (h : WRel w TB KB n T K W) (hne : KB ≠ TB) (hT : w.heap.size ≤ TB) (hK : w.heap.size ≤ KB) {d : Nat} (hd : d < n) {v : Int} (hv : 0 ≤ v ∧ v ≤ 52596001) (o : Obj) :
    WRel w TB KB n (T.set d { rd_T48 T (d : Int) with f1 := v }) (K.set d true) (((W.setCell ⟨KB, d, none⟩ (.bool true)).setCell ⟨TB, d * 3 + 1, none⟩ (.int .i64 v)).alloc o) := by
  have hl : d < T.length := by rw [h.lT]; exact hd
  have hb : Below w.heap.size w ((W.setCell ⟨KB, d, none⟩ (.bool true)).setCell ⟨TB, d * 3 + 1, none⟩ (.int .i64 v)) := (h.below.setCell (p := ⟨KB, d, none⟩) hK _).setCell (p := ⟨TB, _, none⟩) hT _
  refine ⟨hb.alloc hb.size o, blk_alloc (blk_put (blk_far h.hT (p := ⟨KB, d, none⟩) (fun e => hne e.symm) _) _ _ ?_) o, blk_alloc (blk_far (blk_put h.hK d _ ?_) (p := ⟨TB, _, none⟩) hne _) o, by simp [h.lT], by simp [h.lK], ?_⟩
  · rw [rd48_eq hl, ← flat48_set1 T d hl v]; simp
  · simp
  · intro x hx
    rcases List.mem_or_eq_of_mem_set hx with hx | rfl
    · exact h.near x hx
    · have := h.near _ (List.getElem_mem hl)
      rw [rd48_eq hl]
      simp only
      omega
theorem WRel.step0 {w W : World} {TB KB n : Nat} {T : List S48} {K : List Bool} (h : WRel w TB KB n T K W) (hne : KB ≠ TB) (hT : w.heap.size ≤ TB) (hK : w.heap.size ≤ KB) {d : Nat} (hd : d < n) {v : Int} (hv : 0 ≤ v ∧ v ≤ 52596001) (o : Obj) :
    WRel w TB KB n (T.set d { rd_T48 T (d : Int) with f0 := v }) (K.set d true) (((W.setCell ⟨KB, d, none⟩ (.bool true)).setCell ⟨TB, d * 3, none⟩ (.int .i64 v)).alloc o) := by
  have hl : d < T.length := by rw [h.lT]; exact hd
  have hb : Below w.heap.size w ((W.setCell ⟨KB, d, none⟩ (.bool true)).setCell ⟨TB, d * 3, none⟩ (.int .i64 v)) := (h.below.setCell (p := ⟨KB, d, none⟩) hK _).setCell (p := ⟨TB, _, none⟩) hT _
  refine ⟨hb.alloc hb.size o, blk_alloc (blk_put (blk_far h.hT (p := ⟨KB, d, none⟩) (fun e => hne e.symm) _) _ _ ?_) o, blk_alloc (blk_far (blk_put h.hK d _ ?_) (p := ⟨TB, _, none⟩) hne _) o, by simp [h.lT], by simp [h.lK], ?_⟩
  · rw [rd48_eq hl, ← flat48_set0 T d hl v]; simp
  · simp
  · intro x hx
    rcases List.mem_or_eq_of_mem_set hx with hx | rfl
    · exact h.near x hx
    · have := h.near _ (List.getElem_mem hl)
      rw [rd48_eq hl]
      simp only
      omega
theorem near_at {l0 : List S48} {l1 : List S45} (hu : Usable l0 l1) {p : Nat} (hp : p < l1.length) : 0 ≤ (rd_T45 l1 (p : Int)).f0 ∧ (rd_T45 l1 (p : Int)).f0 ≤ 52596001 := by
  rw [rd45_eq hp]; exact near_punches _ _ hu.2.2.2 _ (List.getElem_mem hp)

theorem WRel.ext {w W W' : World} {TB KB n : Nat} {T : List S48} {K : List Bool} (h : WRel w TB KB n T K W) (hb : Below W.heap.size W W') : WRel w TB KB n T K W' :=
  ⟨h.below.trans (hb.mono h.below.size), blk_below h.hT hb, blk_below h.hK hb, h.lT, h.lK, h.near⟩
/-- the cells of the minutes, k of them laid -/
def outRow (R : List Int) (k n : Nat) : List Value := (R.take k ++ List.replicate (n - k) 0).map (Value.int .i64)
theorem out_start {W : World} {b n : Nat} (h : W.heap[b]? = some (.cells (madeCells (Value.int .i64 0).cells (n * 1)) 3 (0, 0))) (R : List Int) : W.heap[b]? = some (.cells (outRow R 0 n).toArray 3 (0, 0)) := by
  rw [h]
  congr 2
  apply Array.ext'
  have : (Value.int .i64 0).cells = #[Value.int .i64 0] := rfl
  rw [this, toList_madeCells_one]
  simp [outRow]
theorem outW_length (T : List S48) (K : List Bool) : (outW T K).length = min T.length K.length := by simp [outW]
theorem out_get (T : List S48) (K : List Bool) (k : Nat) (h1 : k < T.length) (h2 : k < K.length) : (outW T K)[k]? = some (if K[k] = true then max 0 (T[k].f1 - T[k].f0) else 0) := by
  simp [outW, List.getElem?_zipWith, h1, h2]

theorem max_if (a b : Int) : max 0 (b - a) = if a < b then b - a else 0 := by split <;> omega
theorem WRel.far {w W : World} {TB KB OB n : Nat} {T : List S48} {K : List Bool} (h : WRel w TB KB n T K W) (h1 : TB ≠ OB) (h2 : KB ≠ OB) (h3 : w.heap.size ≤ OB) (k : Nat) (v : Value) : WRel w TB KB n T K (W.setCell ⟨OB, k, none⟩ v) :=
  ⟨h.below.setCell (p := ⟨OB, k, none⟩) h3 v, blk_far h.hT (p := ⟨OB, k, none⟩) h1 v, blk_far h.hK (p := ⟨OB, k, none⟩) h2 v, h.lT, h.lK, h.near⟩
theorem outRow_next {R : List Int} {k n : Nat} {r : Int} (h : R[k]? = some r) (hk : k < n) : (outRow R k n).set k (.int .i64 r) = outRow R (k + 1) n := by
  obtain ⟨hl, rfl⟩ := List.getElem?_eq_some_iff.1 h
  unfold outRow
  rw [List.take_succ_eq_append_getElem hl, show n - k = (n - (k + 1)) + 1 by omega, List.replicate_succ]
  have e : (List.take k R).length = k := by simp; omega
  simp only [List.map_append, List.map_cons, List.map_nil, List.append_assoc, List.cons_append, List.nil_append]
  rw [List.set_append_right _ _ (by simp; omega)]
  simp [e]
  rw [show k - min k R.length = 0 by omega]; rfl
theorem outRow_skip {R : List Int} {k n : Nat} (h : R[k]? = some 0) (hk : k < n) : outRow R k n = outRow R (k + 1) n := by
  obtain ⟨hl, h0⟩ := List.getElem?_eq_some_iff.1 h
  unfold outRow
  rw [List.take_succ_eq_append_getElem hl, h0, show n - k = (n - (k + 1)) + 1 by omega, List.replicate_succ]
  simp
theorem ints_row {W : World} {OB n base : Nat} {R R' : List Int} (h : W.heap[OB]? = some (.cells (outRow R n n).toArray 3 (0, 0))) (hR : R.length = n) (hb : base ≤ OB) (hn : n ≤ 24) (e : R' = R) : Kd.R (Kd.int .i64) 3 W base (fun _ => True) (.slice (some ⟨OB, 0, none⟩) n n) R' := by
  subst e
  have ho : outRow R' n n = R'.map (Value.int .i64) := by simp [outRow, ← hR]
  rw [ho] at h
  have e1 : (Kd.int .i64).sz = 1 := rfl
  refine ⟨fun _ _ => trivial, R'.map (Value.int .i64), ⟨by rw [e1]; simp, .inr ⟨OB, n, _, by rw [hR], hb, h, by omega, by simp only [maxLen]; omega, by rw [e1]; simp [hR], by rw [e1, hR]; exact List.take_of_length_le (by simp [hR])⟩⟩, ?_⟩
  exact Kd.reps_scalar (enc := fun x => Value.int .i64 x) R'

theorem WRel.start {w w4 w5 w6 w7 : World} {l0 : List S48} {l1 : List S45} (hu : Usable l0 l1) (B3 : Below w.heap.size w w4) (b5 : Below w4.heap.size w4 w5) (s5 : w4.heap.size < w5.heap.size) (hb6 : w6.heap[w4.heap.size]? = some (.cells (flat48 l0).toArray 48 (0, 0))) (b6 : Below w4.heap.size w5 w6) (s6 : w6.heap.size = w5.heap.size)
    (hb7 : w7.heap[w6.heap.size]? = some (.cells (madeCells (Value.bool false).cells (l0.length * 1)) 4 (0, 0))) (b7 : Below w6.heap.size w6 w7) :
    WRel w w4.heap.size w5.heap.size l0.length l0 (List.replicate l0.length false) w7 := by
  have h7 := b7.size
  refine ⟨((B3.trans (b5.mono B3.size)).trans (b6.mono B3.size)).trans (b7.mono (by have := B3.size; omega)), blk_below hb6 b7, ?_, rfl, by simp, ?_⟩
  · rw [s6] at hb7
    rw [hb7]
    congr 2
    apply Array.ext'
    have : (Value.bool false).cells = #[Value.bool false] := rfl
    rw [this, toList_madeCells_one]
    simp
  · have hh := hu.2.2.1
    clear hb6 hb7 b5 b6 b7 B3
    generalize (0 : Int) = e at hh
    have key : ∀ (l : List S48) (e : Int), okFrom e l → ∀ x ∈ l, -60000000 ≤ x.f0 ∧ x.f0 ≤ 60000000 ∧ -60000000 ≤ x.f1 ∧ x.f1 ≤ 60000000 := by
      intro l
      induction l with
      | nil => intro _ _ x hx; simp at hx
      | cons s r ih =>
        intro e h x hx
        obtain ⟨⟨h0, h1, h2, h3, h4, h5⟩, h6, h7⟩ := h
        rcases List.mem_cons.1 hx with rfl | hx
        · omega
        · exact ih _ h7 x hx
    exact key _ _ hh

set_option maxRecDepth 100000 in
set_option maxHeartbeats 4000000 in
theorem worked_walk (A0 : Option Addr) (c0 : Nat) (l0 : List (S48)) (A1 : Option Addr) (c1 : Nat) (l1 : List (S45)) (A2 : Option Addr) (c2 : Nat) (l2 : List (S57)) (w : World) (hr0 : Kd.C k48 w A0 l0.length l0) (hc0 : l0.length ≤ c0) (hr1 : Kd.C k45 w A1 l1.length l1) (hc1 : l1.length ≤ c1) (hr2 : Kd.C k57 w A2 l2.length l2) (hc2 : l2.length ≤ c2)
    (hu : Usable l0 l1) (hal : AlOk (marksOf l0) l1.length 0 0 l2) (hll : l2.length ≤ 200) (hin : ∀ m ∈ l2, (m.f0 < 0 ∨ m.f2 < 0) ∨ ∃ d p : Nat, m.f0 = d ∧ m.f2 = p ∧ d < l0.length ∧ p < l1.length) :
    Calls Try.prog 15 #[.slice A0 l0.length c0, .slice A1 l1.length c1, .slice A2 l2.length c2] w fun e w' => ∃ v0_ : Value, e = .returned (.tuple #[v0_, .int .i64 0]) ∧ Kd.R (Kd.int .i64) 3 w' w.heap.size (fun _ => True) v0_ (workL l0 l1 l2) ∧ Below w.heap.size w w' := by
  have HR0 := Lib.hid hr0
  have HR1 := Lib.hid hr1
  have HR2 := Lib.hid hr2
  have HU := Lib.hid hu
  have HA := Lib.hid hal
  have HI := Lib.hid hin
  have hn24 := hu.1
  clear hr0 hr1 hr2 hu hal hin
  obtain ⟨k1, hk1⟩ := check_f l0 l1 HU.out
  obtain ⟨k2, hk2⟩ := marks_f l0 (by omega)
  have HK1 := Lib.hid hk1
  have HK2 := Lib.hid hk2
  clear hk1 hk2
  go_enter Try.func15, Try.ntmps15
  go_wp2_with (fail)
  refine (punches_check.calls k1 _ _ _ _ _ _ _ _ HR0.out hc0 HR1.out hc1 HK1.out).mono ?_
  rintro e w2 ⟨rfl, b1⟩
  have B1 := Lib.hid b1
  clear b1
  go_wp2_with (fail)
  refine (punches_marks.calls k2 _ _ _ _ _ (Kd.C_below HR0.out B1.out) hc0 HK2.out).mono ?_
  rintro e w3 ⟨v0, rfl, hm, b2⟩
  have B2 := Lib.hid (B1.out.trans (b2.mono B1.out.size))
  clear b2
  obtain ⟨al, cl, rfl⟩ := Kd.R_slice hm
  have HM := Lib.hid (Kd.R_reads' hm).2
  clear hm
  go_wp2_with (fail)
  refine (aligned_true al cl (marksOf l0) l1.length A2 c2 l2 w3 HM.out.2 (Kd.C_below HR2.out B2.out) (mkl_pos l0 0) (by unfold marksOf; rw [mkl_length]; omega) HU.out.2.1 HM.out.1 hll HA.out).mono ?_
  rintro e w4 ⟨rfl, b3⟩
  have B3 := Lib.hid (B2.out.trans (b3.mono B2.out.size))
  clear b3
  go_wp2_with (first | ((with_reducible refine gate_dst (N := 32) rfl ?_); refine make_blk rfl 22 _ _ rfl 48 l0.length rfl rfl Try.underlying22 _ 3 24 inf48 (by omega) (by omega) ?_; intro w5 hb5 b5 s5) | ((with_reducible refine gate_builtin (b := .copy) (xs := #[.tmp 33, .tmp 34]) rfl ?_); refine copy_blk rfl _ _ 22 22 (by rfl) 48 Try.underlying22 3 siz48 w4.heap.size l0.length l0.length A0 c0 (by rfl) (by rfl) _ 48 (flat48 l0) hb5.out (flat48_length l0) (src48 (Kd.C_below HR0.out (B3.out.trans (b5.out.mono B3.out.size)))) (none48 HR0.out) (by rw [flat48_length, size_madeCells]) (flat48_one l0) ?_; intro w6 hb6 hk6 b6 s6) | ((with_reducible refine gate_dst (N := 38) rfl ?_); refine make_blk rfl 55 _ _ rfl 4 l0.length rfl rfl Try.underlying55 _ 1 1 inf4 (by omega) (by omega) ?_; intro w7 hb7 b7 s7))
  have R0 := Lib.hid (WRel.start HU.out B3.out b5.out s5 hb6.out b6.out s6 hb7.out b7.out)
  have q1 := B3.out.size
  have q3 : w5.heap.size < w7.heap.size := by omega
  clear hb5 b5 hb6 hk6 b6 hb7 b7 B3 s6 s7 HM B2 B1 HK1 HK2 HA
  generalize w4.heap.size = TB at *
  generalize w5.heap.size = KB at *
  have HL0 := Lib.hid (rfl : l0.length = l0.length)
  go_loopw [41] (fun s41 wr => ∃ k : Nat, ∃ T K, s41 = .int .i64 (k : Int) ∧ k ≤ l2.length ∧ KB < wr.heap.size ∧ Hid ((T, K) = (l2.take k).foldl (stepW l1) (l0, List.replicate l0.length false)) ∧ Hid (WRel w TB KB l0.length T K wr)) (fun s41 _ => l2.length - (intOf s41).toNat)
  case atStart => exact ⟨0, l0, _, rfl, by omega, q3, Lib.hid rfl, R0⟩
  case round =>
    obtain ⟨k, T, K, rfl, hk, hKB, HT, HR⟩ := hrel
    by_cases hlt : k < l2.length
    · have e57 : rd_T57 l2 (k : Int) = l2[k] := by simp [rd_T57, List.getD_eq_getElem?_getD, hlt]
      obtain ⟨ae, rfl, a1, a2, a3⟩ := at_T57 (Kd.C_below HR2.out HR.out.below) (k : Int) (by omega) (by omega)
      rw [Int.toNat_natCast, e57] at a1 a2 a3
      clear e57
      have hm := HI.out _ (List.getElem_mem hlt)
      have HT' := Lib.hid (show stepW l1 (T, K) l2[k] = (l2.take (k + 1)).foldl (stepW l1) (l0, List.replicate l0.length false) by rw [List.take_succ_eq_append_getElem hlt, List.foldl_append, ← HT.out]; rfl)
      clear HT
      generalize l2[k] = m at *
      have hk1 : (k : Int) < (l2.length : Int) := by omega
      rcases hm with hm | ⟨d, p, hd, hp, h1, h2⟩
      · have hst : stepW l1 (T, K) m = (T, K) := by unfold stepW; rw [if_pos hm]
        have HT2 := Lib.hid (hst.symm.trans HT'.out)
        clear HT'
        by_cases hneg : m.f0 < 0
        · have e1 : decide (m.f0 < 0) = true := by simpa using hneg
          clear hm hneg
          go_wp2_with (fail)
          go_roundw
          case rel => exact ⟨k + 1, T, K, by simp, hlt, by simp; omega, HT2, Lib.hid (WRel.alloc HR.out _)⟩
          case measure => simp [intOf] <;> omega
        · have e1 : decide (m.f0 < 0) = false := by simpa using hneg
          have e2 : decide (m.f2 < 0) = true := by simp; omega
          clear hm hneg
          go_wp2_with (fail)
          go_roundw
          case rel => exact ⟨k + 1, T, K, by simp, hlt, by simp; omega, HT2, Lib.hid (WRel.alloc HR.out _)⟩
          case measure => simp [intOf] <;> omega
      · obtain ⟨m0, m1, m2⟩ := m
        simp only at hd hp a1 a2 a3
        subst hd hp
        have e1 : decide ((d : Int) < 0) = false := by simp
        have e2 : decide ((p : Int) < 0) = false := by simp
        have d1 : (d : Int) < (l0.length : Int) := by omega
        have d2 : (0 : Int) ≤ (d : Int) := by omega
        have p1 : (p : Int) < (l1.length : Int) := by omega
        have p2 : (0 : Int) ≤ (p : Int) := by omega
        obtain ⟨ap, rfl, b1, b2⟩ := at_T45 (Kd.C_below HR1.out HR.out.below) (p : Int) p2 p1
        obtain ⟨ap', hap, b1', _⟩ := at_T45 HR1.out (p : Int) p2 p1
        cases hap
        rw [Int.toNat_natCast] at b1 b2 b1'
        have t1 := World.block_lt_of_cell? w _ b1'
        clear b1'
        have n1 : (ap.add (p * 2)).block ≠ KB := by omega
        have n2 : (ap.add (p * 2)).block ≠ TB := by omega
        have n3 : (ap.add (p * 2)).block ≠ wr.heap.size := by omega
        have n3' : (ap.add (p * 2)).block < wr.heap.size := by omega
        have n4 : KB ≠ TB := by omega
        have n5 : TB < wr.heap.size := by omega
        have cK : wr.cell? ⟨KB, d, none⟩ = some (.bool (K.getD d false)) := by
          rw [blk_cell HR.out.hK d]
          have := HR.out.lK
          simp [List.getD_eq_getElem?_getD, List.getElem?_eq_getElem (show d < K.length by omega)]
        have fK := blk_frozen HR.out.hK d
        have gT := flat48_get T d (by have := HR.out.lT; omega)
        have HLT := HR.out.lT
        have cT0 : wr.cell? ⟨TB, d * 3, none⟩ = some (.int .i64 (T[d]'(by omega)).f0) := by rw [blk_cell HR.out.hT]; simpa using gT.1
        have cT1 : wr.cell? ⟨TB, d * 3 + 1, none⟩ = some (.int .i64 (T[d]'(by omega)).f1) := by rw [blk_cell HR.out.hT]; simpa using gT.2.1
        have fT0 := blk_frozen HR.out.hT (d * 3)
        have fT1 := blk_frozen HR.out.hT (d * 3 + 1)
        clear gT
        have b1s := (World.cell?_setCell_other wr ⟨KB, d, none⟩ (ap.add (p * 2)) (.bool true) (fun e => n1 (congrArg Addr.block e).symm)).trans b1
        cases m1
        · have c2 := (blk_c (wr.setCell ⟨KB, d, none⟩ (.bool true)) (.cells #[.int .i64 d, .bool false, .int .i64 p] 57) (ap.add (p * 2)) (by rw [size_setCell]; exact n3')).trans b1s
          go_wp2_with (fail)
          go_roundw
          case rel => exact ⟨k + 1, T.set d { rd_T48 T (d : Int) with f1 := (rd_T45 l1 (p : Int)).f0 }, K.set d true, by simp, hlt, by simp [size_setCell]; omega, Lib.hid (by rw [← HT'.out]; simp [stepW]; omega), Lib.hid (WRel.step1 HR.out (by omega) q1 (by omega) h1 (near_at HU.out h2) _)⟩
          case measure => simp [intOf] <;> omega
        · have c2 := (blk_c (wr.setCell ⟨KB, d, none⟩ (.bool true)) (.cells #[.int .i64 d, .bool true, .int .i64 p] 57) (ap.add (p * 2)) (by rw [size_setCell]; exact n3')).trans b1s
          go_wp2_with (fail)
          go_roundw
          case rel => exact ⟨k + 1, T.set d { rd_T48 T (d : Int) with f0 := (rd_T45 l1 (p : Int)).f0 }, K.set d true, by simp, hlt, by simp [size_setCell]; omega, Lib.hid (by rw [← HT'.out]; simp [stepW]; omega), Lib.hid (WRel.step0 HR.out (by omega) q1 (by omega) h1 (near_at HU.out h2) _)⟩
          case measure => simp [intOf] <;> omega
    · have hkl : k = l2.length := by omega
      have HF := Lib.hid (show (T, K) = foldW l0 l1 l2 by have := HT.out; rw [hkl, List.take_length] at this; exact this)
      clear HT hlt
      go_wp2_with (first | ((with_reducible refine gate_dst (N := 80) rfl ?_); refine make_blk rfl 30 _ _ rfl 3 l0.length rfl rfl Try.underlying30 _ 1 8 inf3 (by omega) (by omega) ?_; intro w8 hb8 b8 s8))
      have HO0 := Lib.hid (out_start hb8.out (outW T K))
      have HR8 := Lib.hid (WRel.ext HR.out b8.out)
      have hKO : KB < wr.heap.size := hKB
      have hwO := Lib.hid HR.out.below.size
      clear hb8 b8 HR hKB
      generalize wr.heap.size = OB at *
      go_loopw [83] (fun s83 W => ∃ k : Nat, s83 = .int .i64 (k : Int) ∧ k ≤ l0.length ∧ OB < W.heap.size ∧ Hid (WRel w TB KB l0.length T K W) ∧ Hid (W.heap[OB]? = some (.cells (outRow (outW T K) k l0.length).toArray 3 (0, 0)))) (fun s83 _ => l0.length - (intOf s83).toNat)
      case atStart => exact ⟨0, rfl, by omega, s8, HR8, HO0⟩
      case round =>
        clear HR8 HO0
        obtain ⟨k, rfl, hk, hOB, HR, HO⟩ := hrel
        by_cases hlt : k < l0.length
        · have hk1 : (k : Int) < (l0.length : Int) := by omega
          have n4 : KB ≠ TB := by omega
          have n5 : TB < wr.heap.size := by omega
          have n8 : KB < wr.heap.size := by omega
          have n6 : OB ≠ TB := by omega
          have n7 : OB ≠ KB := by omega
          have lT := HR.out.lT
          have lK := HR.out.lK
          have gT := flat48_get T k (by omega)
          have near := HR.out.near _ (List.getElem_mem (show k < T.length by omega))
          have HV := Lib.hid (out_get T K k (by omega) (by omega))
          have cT0 : wr.cell? ⟨TB, k * 3, none⟩ = some (.int .i64 T[k].f0) := by rw [blk_cell HR.out.hT]; simpa using gT.1
          have cT1 : wr.cell? ⟨TB, k * 3 + 1, none⟩ = some (.int .i64 T[k].f1) := by rw [blk_cell HR.out.hT]; simpa using gT.2.1
          have cT2 : wr.cell? ⟨TB, k * 3 + 2, none⟩ = some (.int .i64 T[k].f2) := by rw [blk_cell HR.out.hT]; simpa using gT.2.2
          have cK : wr.cell? ⟨KB, k, none⟩ = some (.bool K[k]) := by
            rw [blk_cell HR.out.hK k]; simp [List.getElem?_eq_getElem (show k < K.length by omega)]
          have lO : (outRow (outW T K) k l0.length).length = l0.length := by simp [outRow, outW_length, lT, lK]; omega
          have cO : wr.cell? ⟨OB, k, none⟩ = some ((outRow (outW T K) k l0.length)[k]'(by omega)) := by
            rw [blk_cell HO.out k]; simp
          have oneO : ((outRow (outW T K) k l0.length)[k]'(by omega)) = .int .i64 0 := by
            simp only [outRow, List.getElem_map]
            rw [List.getElem_append_right (by simp; omega)]
            simp
          rw [oneO] at cO
          clear oneO
          have fO := blk_frozen HO.out k
          have fT0 := blk_frozen HR.out.hT (k * 3)
          clear gT lO
          generalize T[k]'(by omega) = t at *
          generalize K[k]'(by omega) = b at *
          have s1 : IntKind.i64.wrap (t.f1 - t.f0) = t.f1 - t.f0 := by rw [IntKind.wrap_i64]; omega
          have s2 : wrap64 (t.f1 - t.f0) = t.f1 - t.f0 := by simp only [wrap64]; omega
          clear near
          cases b
          · go_wp2_with (fail)
            go_roundw
            case rel => exact ⟨k + 1, by simp, hlt, by simp; omega, Lib.hid (WRel.alloc HR.out _), Lib.hid (by rw [← outRow_skip (by simpa using HV.out) hlt]; exact blk_alloc HO.out _)⟩
            case measure => simp [intOf] <;> omega
          · go_wp2_with (fail)
            go_roundw
            case rel => exact ⟨k + 1, by simp, hlt, by simp [size_setCell]; omega, Lib.hid (WRel.alloc (WRel.far HR.out (by omega) (by omega) (by omega) _ _) _), Lib.hid (blk_alloc (blk_put HO.out k _ (by rw [← outRow_next HV.out hlt, if_pos rfl, max_if]; simp)) _)⟩
            case measure => simp [intOf] <;> omega
        · have hkn : k = l0.length := by omega
          subst hkn
          go_wp2
          go_ret2
          exact ⟨_, rfl, ints_row HO.out (by rw [outW_length, HR.out.lT, HR.out.lK]; simp) (by omega) (by omega) (by rw [workL, ← HF.out]), HR.out.below⟩
end Go.Proofs.Ytpbamfoaoeicgaa.PAll

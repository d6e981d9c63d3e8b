/- The reference's Aligned: what it answers. -/
import Derived.Test.YtpbamfoaoeicgaaPAllx8
import Derived.Test.YtpbamfoaoeicgaaGiven
set_option linter.unusedVariables false
set_option linter.unusedSimpArgs false
namespace Go.Proofs.Ytpbamfoaoeicgaa.PAll
open Go Go.RowKit Go.Proofs.YtpbamfoaoeicgaaW.PrintWords Go.Proofs.YtpbamfoaoeicgaaW.PrintLast Go.Proofs.YtpbamfoaoeicgaaW.PrintMore

/-- what the reference's Aligned answers from mark i, punch j and cost c on -/
def ral (ms : List S68) (ps : List S45) : Nat → Nat → Int → List S57 → Int × Bool
  | i, j, c, [] => (c, decide (i = ms.length) && decide (j = ps.length))
  | i, j, c, m :: r =>
    if 0 ≤ m.f0 ∧ 0 ≤ m.f2 then (if i < ms.length ∧ m.f0 = (rd_T68 ms i).f0 ∧ m.f1 = (rd_T68 ms i).f1 ∧ m.f2 = j ∧ j < ps.length then ral ms ps (i + 1) (j + 1) (c + cst (rd_T68 ms i) (rd_T45 ps j)) r else (0, false))
    else if 0 ≤ m.f0 ∧ m.f2 = -1 then (if i < ms.length ∧ m.f0 = (rd_T68 ms i).f0 ∧ m.f1 = (rd_T68 ms i).f1 then ral ms ps (i + 1) j (c + 120) r else (0, false))
    else if m.f0 = -1 ∧ m.f1 = false ∧ 0 ≤ m.f2 then (if m.f2 = j ∧ j < ps.length then ral ms ps i (j + 1) (c + 120) r else (0, false))
    else (0, false)
def to43 (m : S68) : S43 := ⟨m.f0, m.f1, m.f2⟩
theorem rd43_eq (ms : List S68) {i : Nat} (h : i < ms.length) : rd_T43 (ms.map to43) (i : Int) = to43 (rd_T68 ms (i : Int)) := by
  rw [rd68_eq h]; simp [rd_T43, List.getD_eq_getElem?_getD, h]
theorem ref_cost (m : S68) (p : S45) (hm : 0 ≤ m.f2 ∧ m.f2 ≤ 52596001) (hp : 0 ≤ p.f0 ∧ p.f0 ≤ 52596001) : wageofficeref22_Cost.f m.f0 m.f1 m.f2 p.f0 p.f1 = some (cst m p) := by
  have e : wrap64 (m.f2 - p.f0) = m.f2 - p.f0 := by simp only [wrap64]; omega
  unfold wageofficeref22_Cost.f cst
  rw [e]
  have hb : (m.f1 != p.f1) = true ↔ ¬ m.f1 = p.f1 := by simp
  by_cases h1 : m.f2 - p.f0 < 0
  · have e1 : wrap64 (-(m.f2 - p.f0)) = p.f0 - m.f2 := by simp only [wrap64]; omega
    have e2 : wrap64 (p.f0 - m.f2 + 60) = p.f0 - m.f2 + 60 := by simp only [wrap64]; omega
    rw [if_pos h1, if_pos (show m.f2 < p.f0 by omega), e1, e2]
    by_cases h2 : m.f1 = p.f1
    · rw [if_neg (by simp [h2]), if_pos h2]; simp
    · rw [if_pos (hb.2 h2), if_neg h2]
  · have e2 : wrap64 (m.f2 - p.f0 + 60) = m.f2 - p.f0 + 60 := by simp only [wrap64]; omega
    rw [if_neg h1, if_neg (show ¬ m.f2 < p.f0 by omega), e2]
    by_cases h2 : m.f1 = p.f1
    · rw [if_neg (by simp [h2]), if_pos h2]; simp
    · rw [if_pos (hb.2 h2), if_neg h2]
theorem ref_marks_l0 (l : List S48) (hl : l.length ≤ 26) : ∀ n i (acc : List S68), l.length - i ≤ n → i ≤ l.length → acc.length ≤ 2 * i → ∃ k, wageofficeref22_Marks.l0 k l (acc.map to43) (i : Int) = some ((acc ++ mkl i (l.drop i)).map to43) := by
  intro n
  induction n with
  | zero =>
    intro i acc hN hi ha
    obtain rfl : i = l.length := by omega
    refine ⟨1, ?_⟩
    rw [wageofficeref22_Marks.l0, if_neg (by omega)]; simp [mkl]
  | succ n ih =>
    intro i acc hN hi ha
    by_cases hlt : i < l.length
    · obtain ⟨k, hk⟩ := ih (i + 1) (acc ++ [⟨i, true, l[i].f0⟩, ⟨i, false, l[i].f1⟩]) (by omega) hlt (by simp; omega)
      refine ⟨k + 1, ?_⟩
      rw [wageofficeref22_Marks.l0, if_pos (by omega), if_pos (by omega)]
      simp only [Option.bind_some, rd48_eq hlt, List.length_cons, List.length_nil, List.length_map]
      rw [if_pos (by omega), show wrap64 ((i : Int) + 1) = ((i + 1 : Nat) : Int) by simp only [wrap64]; omega]
      rw [List.map_append] at hk
      rw [show [(⟨(i : Int), true, l[i].f0⟩ : S43), ⟨(i : Int), false, l[i].f1⟩] = [(⟨(i : Int), true, l[i].f0⟩ : S68), ⟨(i : Int), false, l[i].f1⟩].map to43 from rfl, hk, List.drop_eq_getElem_cons hlt]
      simp [mkl]
    · obtain rfl : i = l.length := by omega
      refine ⟨1, ?_⟩
      rw [wageofficeref22_Marks.l0, if_neg (by omega)]; simp [mkl]
theorem ref_marks (l : List S48) (hl : l.length ≤ 26) : ∃ k, wageofficeref22_Marks.f k l = some ((marksOf l).map to43) := by
  obtain ⟨k, hk⟩ := ref_marks_l0 l hl l.length 0 [] (by omega) (by omega) (by simp)
  exact ⟨k, by unfold wageofficeref22_Marks.f; simpa [marksOf] using hk⟩
/-- the cost so far -/
def CB (c : Int) (k : Nat) : Prop := 0 ≤ c ∧ c ≤ 60000000 * (k : Int)
theorem CB.zero : CB 0 0 := ⟨by omega, by omega⟩
theorem CB.step {c t : Int} {k n : Nat} (h : CB c k) (hk : k < n) (hn : n ≤ 200) (h0 : 0 ≤ t) (h1 : t ≤ 52596061) : CB (c + t) (k + 1) := by
  obtain ⟨a, b⟩ := h
  exact ⟨by omega, by omega⟩
theorem CB.wrap {c t : Int} {k n : Nat} (h : CB c k) (hk : k < n) (hn : n ≤ 200) (h0 : 0 ≤ t) (h1 : t ≤ 52596061) : wrap64 (c + t) = c + t := by
  obtain ⟨a, b⟩ := h
  simp only [wrap64]; omega
def rT16 : Bool × List (List Nat × List Nat) := (true, [([], []), ([], []), ([], []), ([1, 2], [1, 2]), ([3], [3]), ([], []), ([], []), ([5, 6], [5, 6]), ([7], [7]), ([4, 8], [4, 8]), ([0, 9], [0, 9]), ([10, 9, 0, 1, 2, 3, 4, 5, 6, 7, 8, 9, 10], [0, 10])])
def rB16 : List Nat := [0, 0, 0, 6, 14, 0, 0, 96, 224, 510, 1023, 2047]
theorem rtab16 : rtab .any (opsOf Try.f20 16) = rT16 := by kernel_rfl
theorem rbits16 : waitsOk rT16.2 rB16 = true := by kernel_rfl
set_option maxRecDepth 100000 in
set_option maxHeartbeats 16000000 in
theorem ref_aligned_true (A0 : Option Addr) (c0 : Nat) (l0 : List S48) (A1 : Option Addr) (c1 : Nat) (l1 : List S45) (A2 : Option Addr) (c2 : Nat) (l2 : List S57) (w : World) (hr0 : Kd.C k48 w A0 l0.length l0) (hc0 : l0.length ≤ c0) (hr1 : Kd.C k45 w A1 l1.length l1) (hc1 : l1.length ≤ c1) (hr2 : Kd.C k57 w A2 l2.length l2) (hc2 : l2.length ≤ c2)
    (hl0 : l0.length ≤ 26) (hl1 : l1.length ≤ 62) (hl2 : l2.length ≤ 200) (hm : ∀ x ∈ marksOf l0, 0 ≤ x.f2 ∧ x.f2 ≤ 52596001) (hp : ∀ x ∈ l1, 0 ≤ x.f0 ∧ x.f0 ≤ 52596001) (ht : (ral (marksOf l0) l1 0 0 0 l2).2 = true) :
    Calls Try.prog 20 #[.slice A0 l0.length c0, .slice A1 l1.length c1, .slice A2 l2.length c2] w fun e w' => e = .returned (.tuple #[.int .i64 (ral (marksOf l0) l1 0 0 0 l2).1, .bool (ral (marksOf l0) l1 0 0 0 l2).2]) ∧ Below w.heap.size w w' := by
  have hu57 := Try.underlying57
  have hu43 := Try.underlying43
  have hu45 := Try.underlying45
  have HR0 := Lib.hid hr0
  have HR1 := Lib.hid hr1
  have HR2 := Lib.hid hr2
  have HM := Lib.hid hm
  have HP := Lib.hid hp
  have HL := Lib.hid hc0
  have HT := Lib.hid ht
  clear hr0 hr1 hr2 hm hp hc0 ht
  obtain ⟨km, hkm⟩ := ref_marks l0 hl0
  have hml : (marksOf l0).length ≤ 52 := by rw [show (marksOf l0).length = 2 * l0.length from mkl_length _ _]; omega
  have hml2 : ((marksOf l0).map to43).length = (marksOf l0).length := List.length_map _
  generalize hms : marksOf l0 = ms at *
  go_enter Try.func20, Try.ntmps20
  go_wp2_with (fail)
  refine (wageofficeref22_Marks.calls km _ _ _ _ _ HR0.out HL.out hkm).mono ?_
  rintro e w1 ⟨v0, rfl, hR, b1⟩
  obtain ⟨al, cl, rfl⟩ := Kd.R_slice hR
  have HMK := Lib.hid (Kd.R_reads' hR).2.2
  have B1 := Lib.hid b1
  clear hR b1 hkm
  rw [hml2] at *
  go_wp2_with (fail)
  go_loopw [9, 10, 11, 12] (fun s9 s10 s11 s12 wr => ∃ i j k : Nat, ∃ c : Int, s9 = .int .i64 (i : Int) ∧ s10 = .int .i64 (j : Int) ∧ s11 = .int .i64 c ∧ s12 = .int .i64 (k : Int) ∧ k ≤ l2.length ∧ i ≤ ms.length ∧ j ≤ l1.length ∧ CB c k ∧ Hid (ral ms l1 0 0 0 l2 = ral ms l1 i j c (l2.drop k)) ∧ Hid (Below w1.heap.size w1 wr)) (fun _ _ _ s12 _ => l2.length - (intOf s12).toNat)
  case atStart => exact ⟨0, 0, 0, 0, rfl, rfl, rfl, rfl, by omega, by omega, by omega, CB.zero, Lib.hid rfl, Lib.hid (Below.refl _ _)⟩
  case round =>
    obtain ⟨i, j, k, c, rfl, rfl, rfl, rfl, hk, hi, hj, HCB, HA, HB⟩ := hrel
    by_cases hlt : k < l2.length
    · have hd := HA.out
      rw [List.drop_eq_getElem_cons hlt] at hd
      have e57 : rd_T57 l2 (k : Int) = l2[k] := by simp [rd_T57, List.getD_eq_getElem?_getD, hlt]
      obtain ⟨ae, rfl, a1, a2, a3⟩ := at_T57 (Kd.C_below HR2.out (B1.out.trans (HB.out.mono B1.out.size))) (k : Int) (by omega) (by omega)
      rw [Int.toNat_natCast, e57] at a1 a2 a3
      clear e57
      generalize l2[k] = m at *
      have hk1 : (k : Int) < (l2.length : Int) := by omega
      obtain ⟨m0, m1, m2⟩ := m
      simp only at a1 a2 a3
      by_cases c1 : m0 < 0
      · by_cases c2 : m2 < 0
        · have t0 : decide (m0 < 0) = true := decide_eq_true (by omega)
          have t1 : decide (m2 < 0) = true := decide_eq_true (by omega)
          have HV : ral ms l1 0 0 0 l2 = (0, false) := by rw [hd]; unfold ral; rw [if_neg (by simp only; omega), if_neg (by simp only; omega), if_neg (by simp only; omega)]
          exact absurd HT.out (by rw [HV]; simp)
        · by_cases c3 : m0 < -1
          · have t0 : decide (m0 < 0) = true := decide_eq_true (by omega)
            have t1 : decide (m2 < 0) = false := decide_eq_false (by omega)
            have t2 : decide (m0 < -1) = true := decide_eq_true (by omega)
            have HV : ral ms l1 0 0 0 l2 = (0, false) := by rw [hd]; unfold ral; rw [if_neg (by simp only; omega), if_neg (by simp only; omega), if_neg (by simp only; omega)]
            exact absurd HT.out (by rw [HV]; simp)
          · obtain rfl : m0 = -1 := by omega
            cases m1 with
            | true =>
              have t0 : decide ((-1 : Int) < 0) = true := decide_eq_true (by omega)
              have t1 : decide (m2 < 0) = false := decide_eq_false (by omega)
              have t2 : decide ((-1 : Int) < -1) = false := decide_eq_false (by omega)
              have t3 : decide (m2 < -1) = false := decide_eq_false (by omega)
              have t4 : ((-1 : Int) == -1) = true := rfl
              have HV : ral ms l1 0 0 0 l2 = (0, false) := by rw [hd]; unfold ral; rw [if_neg (by simp), if_neg (by simp), if_neg (by simp)]
              exact absurd HT.out (by rw [HV]; simp)
            | false =>
              have t0 : decide ((-1 : Int) < 0) = true := decide_eq_true (by omega)
              have t1 : decide (m2 < 0) = false := decide_eq_false (by omega)
              have t2 : decide ((-1 : Int) < -1) = false := decide_eq_false (by omega)
              have t3 : decide (m2 < -1) = false := decide_eq_false (by omega)
              have t4 : ((-1 : Int) == -1) = true := rfl
              have u0 : decide ((-1 : Int) ≥ 0) = false := decide_eq_false (by omega)
              have u0' : decide (0 ≤ (-1 : Int)) = false := decide_eq_false (by omega)
              have u1 : decide (m2 ≥ 0) = true := decide_eq_true (by omega)
              have u1' : decide (0 ≤ m2) = true := decide_eq_true (by omega)
              by_cases c4 : m2 = (j : Int)
              · subst c4
                by_cases c5 : j < l1.length
                · have u2 : ((j : Int) != (j : Int)) = false := by simp
                  have u3 : decide ((j : Int) ≥ (l1.length : Int)) = false := decide_eq_false (by omega)
                  have u3' : decide ((l1.length : Int) ≤ (j : Int)) = false := decide_eq_false (by omega)
                  have HV : ral ms l1 0 0 0 l2 = ral ms l1 i (j + 1) (c + 120) (l2.drop (k + 1)) := by rw [hd]; rw [ral]; rw [if_neg (by simp), if_neg (by simp), if_pos ⟨rfl, rfl, by simp only; omega⟩]; rw [if_pos ⟨rfl, c5⟩]
                  clear hd HA
                  go_wp2_with (fail)
                  repeat (go_quiet (fail); try go_wp2_with (fail))
                  try go_wp2
                  go_roundw
                  case rel => exact ⟨i, j + 1, k + 1, c + 120, rfl, by simp, congrArg (Value.int .i64) (HCB.wrap hlt hl2 (by omega) (by omega)), by simp, hlt, hi, c5, HCB.step hlt hl2 (by omega) (by omega), Lib.hid HV, Lib.hid (pw_below_drewN (HB.out.alloc HB.out.size _) _)⟩
                  case measure => simp [intOf] <;> omega
                · have u2 : ((j : Int) != (j : Int)) = false := by simp
                  have u3 : decide ((j : Int) ≥ (l1.length : Int)) = true := decide_eq_true (by omega)
                  have u3' : decide ((l1.length : Int) ≤ (j : Int)) = true := decide_eq_true (by omega)
                  have HV : ral ms l1 0 0 0 l2 = (0, false) := by rw [hd]; unfold ral; rw [if_neg (by simp), if_neg (by simp), if_pos ⟨rfl, rfl, by simp only; omega⟩]; rw [if_neg (by omega)]
                  exact absurd HT.out (by rw [HV]; simp)
              · have u2 : (m2 != (j : Int)) = true := by simpa using c4
                have HV : ral ms l1 0 0 0 l2 = (0, false) := by rw [hd]; unfold ral; rw [if_neg (by simp), if_neg (by simp), if_pos ⟨rfl, rfl, by simp only; omega⟩]; rw [if_neg (fun h => c4 h.1)]
                exact absurd HT.out (by rw [HV]; simp)
      · by_cases c2 : m2 < -1
        · have t0 : decide (m0 < 0) = false := decide_eq_false (by omega)
          have t2 : decide (m0 < -1) = false := decide_eq_false (by omega)
          have t3 : decide (m2 < -1) = true := decide_eq_true (by omega)
          have HV : ral ms l1 0 0 0 l2 = (0, false) := by rw [hd]; unfold ral; rw [if_neg (by simp only; omega), if_neg (by simp only; omega), if_neg (by simp only; omega)]
          exact absurd HT.out (by rw [HV]; simp)
        · have t0 : decide (m0 < 0) = false := decide_eq_false (by omega)
          have t2 : decide (m0 < -1) = false := decide_eq_false (by omega)
          have t3 : decide (m2 < -1) = false := decide_eq_false (by omega)
          have t4 : (m0 == -1) = false := by simp <;> omega
          have u0 : decide (m0 ≥ 0) = true := decide_eq_true (by omega)
          have u0' : decide (0 ≤ m0) = true := decide_eq_true (by omega)
          by_cases c3 : i < ms.length
          · have v0 : decide ((i : Int) ≥ (ms.length : Int)) = false := decide_eq_false (by omega)
            have v0' : decide ((ms.length : Int) ≤ (i : Int)) = false := decide_eq_false (by omega)
            have hi1 : (i : Int) < (ms.length : Int) := by omega
            have hi0 : 0 ≤ (i : Int) := by omega
            obtain ⟨ad, rfl, b1, b2, b3⟩ := at_T43 (Kd.C_below HMK.out HB.out) (i : Int) hi0 hi1
            rw [Int.toNat_natCast, rd43_eq ms c3] at b1 b2 b3
            have hx := HM.out _ (show rd_T68 ms (i : Int) ∈ ms by rw [rd68_eq c3]; exact List.getElem_mem c3)
            have t1 := World.block_lt_of_cell? wr _ b1
            have b1' := (Below.alloc (Below.refl wr.heap.size wr) (Nat.le_refl _) (Obj.cells #[Value.int .i64 m0, Value.bool m1, Value.int .i64 m2] 57)).cell (p := ad.add (i * 3)) t1
            rw [b1] at b1'
            have b2' := (Below.alloc (Below.refl wr.heap.size wr) (Nat.le_refl _) (Obj.cells #[Value.int .i64 m0, Value.bool m1, Value.int .i64 m2] 57)).cell (p := ⟨(ad.add (i * 3)).block, (ad.add (i * 3)).off + 1, none⟩) t1
            rw [b2] at b2'
            have b3' := (Below.alloc (Below.refl wr.heap.size wr) (Nat.le_refl _) (Obj.cells #[Value.int .i64 m0, Value.bool m1, Value.int .i64 m2] 57)).cell (p := ⟨(ad.add (i * 3)).block, (ad.add (i * 3)).off + 2, none⟩) t1
            rw [b3] at b3'
            have ne : (ad.add (i * 3)).block ≠ wr.heap.size := by omega
            generalize hX : rd_T68 ms (i : Int) = x at *
            obtain ⟨x0, x1, x2⟩ := x
            simp only [to43] at b1 b2 b3 b1' b2' b3'
            by_cases c4 : m0 = x0
            · subst c4
              have v1 : (m0 != m0) = false := by simp
              by_cases c5 : m1 = x1
              · subst c5
                have v2 : (m1 != m1) = false := by simp
                by_cases c6 : 0 ≤ m2
                · have t1 : decide (m2 ≥ 0) = true := decide_eq_true (by omega)
                  have t1' : decide (0 ≤ m2) = true := decide_eq_true (by omega)
                  by_cases c7 : m2 = (j : Int)
                  · subst c7
                    have u2 : ((j : Int) != (j : Int)) = false := by simp
                    by_cases c8 : j < l1.length
                    · have u3 : decide ((j : Int) ≥ (l1.length : Int)) = false := decide_eq_false (by omega)
                      have u3' : decide ((l1.length : Int) ≤ (j : Int)) = false := decide_eq_false (by omega)
                      have hj0 : 0 ≤ (j : Int) := by omega
                      have hj1 : (j : Int) < (l1.length : Int) := by omega
                      obtain ⟨ap, rfl, p1, p2⟩ := at_T45 (Kd.C_below HR1.out (B1.out.trans (HB.out.mono B1.out.size))) (j : Int) hj0 hj1
                      rw [Int.toNat_natCast] at p1 p2
                      have t2 := World.block_lt_of_cell? wr _ p1
                      have p1' := (Below.alloc (Below.refl wr.heap.size wr) (Nat.le_refl _) (Obj.cells #[Value.int .i64 m0, Value.bool m1, Value.int .i64 (j : Int)] 57)).cell (p := ap.add (j * 2)) t2
                      rw [p1] at p1'
                      have p2' := (Below.alloc (Below.refl wr.heap.size wr) (Nat.le_refl _) (Obj.cells #[Value.int .i64 m0, Value.bool m1, Value.int .i64 (j : Int)] 57)).cell (p := ⟨(ap.add (j * 2)).block, (ap.add (j * 2)).off + 1, none⟩) t2
                      rw [p2] at p2'
                      have hy := HP.out _ (show rd_T45 l1 (j : Int) ∈ l1 by rw [rd45_eq c8]; exact List.getElem_mem c8)
                      generalize hY : rd_T45 l1 (j : Int) = y at *
                      obtain ⟨y0, y1⟩ := y
                      simp only at p1 p2 p1' p2' hx hy
                      have HV : ral ms l1 0 0 0 l2 = ral ms l1 (i + 1) (j + 1) (c + cst ⟨m0, m1, x2⟩ ⟨y0, y1⟩) (l2.drop (k + 1)) := by rw [hd]; rw [ral]; rw [if_pos (by simp only; omega), hX, hY, if_pos ⟨c3, rfl, rfl, rfl, c8⟩]
                      have HC := Lib.hid (ref_cost ⟨m0, m1, x2⟩ ⟨y0, y1⟩ hx hy)
                      have ht := cst_nonneg ⟨m0, m1, x2⟩ ⟨y0, y1⟩
                      have ht2 : cst ⟨m0, m1, x2⟩ ⟨y0, y1⟩ ≤ 52596061 := by unfold cst; simp only; split <;> split <;> omega
                      simp only at HC
                      generalize cst ⟨m0, m1, x2⟩ ⟨y0, y1⟩ = t at *
                      clear hd HA
                      go_wp2_with (fail)
                      repeat (go_quiet (fail); try go_wp2_with (fail))
                      refine start_ (n := 12) (S := fun w' => w'.cell? (ad.add (i * 3)) = some (.int .i64 m0) ∧ w'.cell? ⟨(ad.add (i * 3)).block, (ad.add (i * 3)).off + 1, none⟩ = some (.bool m1) ∧ w'.cell? ⟨(ad.add (i * 3)).block, (ad.add (i * 3)).off + 2, none⟩ = some (.int .i64 x2) ∧ w'.cell? (ap.add (j * 2)) = some (.int .i64 y0) ∧ w'.cell? ⟨(ap.add (j * 2)).block, (ap.add (j * 2)).off + 1, none⟩ = some (.bool y1)) (ds := []) #[false, false, false, false, false, false, false, false, false, false, false, false] (by kernel_rfl) rfl rfl ⟨b1', b2', b3', p1', p2'⟩ (fun hHeld => ?_); refine with_tabW rtab16 rbits16 (fun HT_ HW_ => ?_)
                      refine pure_ (i := 0) (N := some 110) (v := ?_) (a' := ?_) #[true, false, false, false, false, false, false, false, false, false, false, false] rfl rfl (any_of HT_.out (by kernel_rfl)) (fun _ _ _ h => h) (Or.inl ⟨by rfl, ?_⟩) ?_ ?_
                      rotate_left
                      · intro w'
                        go_simp
                        with_reducible rfl
                      rotate_left
                      · simp only [Act.put, List.setIfInBounds_toArray, List.set_cons_zero, List.set_cons_succ, i64_w, i32_w]
                        rfl
                      refine pure_ (i := 1) (N := some 111) (v := ?_) (a' := ?_) #[true, true, false, false, false, false, false, false, false, false, false, false] rfl rfl (any_of HT_.out (by kernel_rfl)) (fun _ _ _ h => h) (Or.inl ⟨by rfl, ?_⟩) ?_ ?_
                      rotate_left
                      · intro w'
                        go_simp
                        with_reducible rfl
                      rotate_left
                      · simp only [Act.put, List.setIfInBounds_toArray, List.set_cons_zero, List.set_cons_succ, i64_w, i32_w]
                        rfl
                      refine pure_ (i := 2) (N := some 112) (v := ?_) (a' := ?_) #[true, true, true, false, false, false, false, false, false, false, false, false] rfl rfl (any_of HT_.out (by kernel_rfl)) (fun _ _ _ h => h) (Or.inl ⟨by rfl, ?_⟩) ?_ ?_
                      rotate_left
                      · intro w'
                        go_simp
                        with_reducible rfl
                      rotate_left
                      · simp only [Act.put, List.setIfInBounds_toArray, List.set_cons_zero, List.set_cons_succ, i64_w, i32_w]
                        rfl
                      refine pure_ (i := 3) (N := some 113) (v := ?_) (a' := ?_) #[true, true, true, true, false, false, false, false, false, false, false, false] rfl rfl (any_of HT_.out (by kernel_rfl)) (fun _ _ _ h => h) (Or.inl ⟨by rfl, ?_⟩) ?_ ?_
                      rotate_left
                      · intro w'
                        go_simp
                        with_reducible rfl
                      rotate_left
                      · simp only [Act.put, List.setIfInBounds_toArray, List.set_cons_zero, List.set_cons_succ, i64_w, i32_w]
                        rfl
                      refine pure_ (i := 5) (N := some 115) (v := ?_) (a' := ?_) #[true, true, true, true, false, true, false, false, false, false, false, false] rfl rfl (any_of HT_.out (by kernel_rfl)) (fun _ _ _ h => h) (Or.inl ⟨by rfl, ?_⟩) ?_ ?_
                      rotate_left
                      · intro w'
                        go_simp
                        with_reducible rfl
                      rotate_left
                      · simp only [Act.put, List.setIfInBounds_toArray, List.set_cons_zero, List.set_cons_succ, i64_w, i32_w]
                        rfl
                      refine pure_ (i := 6) (N := some 116) (v := ?_) (a' := ?_) #[true, true, true, true, false, true, true, false, false, false, false, false] rfl rfl (any_of HT_.out (by kernel_rfl)) (fun _ _ _ h => h) (Or.inl ⟨by rfl, ?_⟩) ?_ ?_
                      rotate_left
                      · intro w'
                        go_simp
                        with_reducible rfl
                      rotate_left
                      · simp only [Act.put, List.setIfInBounds_toArray, List.set_cons_zero, List.set_cons_succ, i64_w, i32_w]
                        rfl
                      refine pure_ (i := 7) (N := some 117) (v := ?_) (a' := ?_) #[true, true, true, true, false, true, true, true, false, false, false, false] rfl rfl (any_of HT_.out (by kernel_rfl)) (fun _ _ _ h => h) (Or.inl ⟨by rfl, ?_⟩) ?_ ?_
                      rotate_left
                      · intro w'
                        go_simp
                        with_reducible rfl
                      rotate_left
                      · simp only [Act.put, List.setIfInBounds_toArray, List.set_cons_zero, List.set_cons_succ, i64_w, i32_w]
                        rfl
                      refine take_ (i := 4) (N := some 114) (v := ?_) (a' := ?_) #[true, true, true, true, true, true, true, true, false, false, false, false] rfl rfl (take_ofW HT_.out HW_.out (by kernel_rfl)) (fun _ _ _ h => h) (Or.inl ⟨by rfl, ?_⟩) hHeld ?_ ?_
                      rotate_left
                      · rintro w' ⟨s0, s1, s2, s3, s4⟩
                        go_simp
                        with_reducible rfl
                      rotate_left
                      · simp only [Act.put, List.setIfInBounds_toArray, List.set_cons_zero, List.set_cons_succ, i64_w, i32_w]
                        rfl
                      refine take_ (i := 8) (N := some 118) (v := ?_) (a' := ?_) #[true, true, true, true, true, true, true, true, true, false, false, false] rfl rfl (take_ofW HT_.out HW_.out (by kernel_rfl)) (fun _ _ _ h => h) (Or.inl ⟨by rfl, ?_⟩) hHeld ?_ ?_
                      rotate_left
                      · rintro w' ⟨s0, s1, s2, s3, s4⟩
                        go_simp
                        with_reducible rfl
                      rotate_left
                      · simp only [Act.put, List.setIfInBounds_toArray, List.set_cons_zero, List.set_cons_succ, i64_w, i32_w]
                        rfl
                      refine one_ (i := 9) (N := some 119) #[true, true, true, true, true, true, true, true, true, true, false, false] rfl rfl (one_of HT_.out (by kernel_rfl)) (by decide) (fun K hK => ?_)
                      refine goes_ Try.func22 (by kernel_rfl) rfl #[.agg #[.int .i64 m0, .bool m1, .int .i64 x2], .agg #[.int .i64 y0, .bool y1]] (by rfl) rfl rfl (by (try simp only [List.map_toArray, List.map_cons, List.map_nil]); first | done | rfl | (simp only [List.length_drop, List.length_take]; rfl)) ?_
                      with_reducible refine (wageofficeref22_Cost.calls m0 m1 x2 y0 y1 t _ HC.out).mono ?_
                      rintro e w45 ⟨rfl, hb⟩
                      have f1 := (hb.cell (World.block_lt_of_cell? _ _ hHeld.1)).trans hHeld.1
                      have f2 := (hb.cell (World.block_lt_of_cell? _ _ hHeld.2.1)).trans hHeld.2.1
                      have f3 := (hb.cell (World.block_lt_of_cell? _ _ hHeld.2.2.1)).trans hHeld.2.2.1
                      have f4 := (hb.cell (World.block_lt_of_cell? _ _ hHeld.2.2.2.1)).trans hHeld.2.2.2.1
                      have f5 := (hb.cell (World.block_lt_of_cell? _ _ hHeld.2.2.2.2)).trans hHeld.2.2.2.2
                      have HB3 := Lib.hid (below_step (w := w1) (by repeat (first | (with_reducible first | exact HB.out | apply below_alloc | apply pw_below_drewN | apply below_drew1) | exact HB.out)) hb)
                      have BK := Lib.hid (blk_below (g := wr.heap.size) (o := .cells #[.int .i64 m0, .bool m1, .int .i64 (j : Int)] 57 (0, 0)) (by exact blk_new wr _) hb)
                      have k0 : w45.cell? ⟨wr.heap.size, 0, none⟩ = some (.int .i64 m0) := (blk_cell BK.out 0).trans rfl
                      have k2 : w45.cell? ⟨wr.heap.size, 2, none⟩ = some (.int .i64 (j : Int)) := (blk_cell BK.out 2).trans rfl
                      refine ⟨_, rfl, ?_⟩
                      clear hb
                      refine hK.out _ _ ⟨f1, f2, f3, f4, f5⟩ (fun hHeld => ?_)
                      clear hK K
                      refine norm_ (a' := ?_) ?_ ?_
                      rotate_left
                      · show Act.put _ (some 119) _ = _
                        simp only [Act.put, List.setIfInBounds_toArray, List.set_cons_zero, List.set_cons_succ, i64_w, i32_w]
                        rfl
                      refine pure_ (i := 10) (N := some 120) (v := ?_) (a' := ?_) #[true, true, true, true, true, true, true, true, true, true, true, false] rfl rfl (any_of HT_.out (by kernel_rfl)) (fun _ _ _ h => h) (Or.inl ⟨by rfl, ?_⟩) ?_ ?_
                      rotate_left
                      · intro w'
                        go_simp
                        with_reducible rfl
                      rotate_left
                      · simp only [Act.put, List.setIfInBounds_toArray, List.set_cons_zero, List.set_cons_succ, i64_w, i32_w]
                        rfl
                      refine pure_ (i := 11) (N := some 11) (v := ?_) (a' := ?_) #[true, true, true, true, true, true, true, true, true, true, true, true] rfl rfl (any_of HT_.out (by kernel_rfl)) (fun _ _ _ h => h) (Or.inl ⟨by rfl, ?_⟩) ?_ ?_
                      rotate_left
                      · intro w'
                        go_simp
                        with_reducible rfl
                      rotate_left
                      · simp only [Act.put, List.setIfInBounds_toArray, List.set_cons_zero, List.set_cons_succ, i64_w, i32_w]
                        rfl
                      refine done_ (done_of HT_.out (by kernel_rfl)) ?_
                      clear f1 f2 f3 f4 f5 hHeld HT_ HW_
                      go_wp2_with (fail)
                      go_roundw
                      case rel => exact ⟨i + 1, j + 1, k + 1, c + t, by simp, by simp, congrArg (Value.int .i64) (HCB.wrap hlt hl2 ht ht2), by simp, hlt, c3, c8, HCB.step hlt hl2 ht ht2, Lib.hid HV, Lib.hid (by first | exact HB3.out | exact pw_below_drewN HB3.out _)⟩
                      case measure => simp [intOf] <;> omega
                    · have u3 : decide ((j : Int) ≥ (l1.length : Int)) = true := decide_eq_true (by omega)
                      have u3' : decide ((l1.length : Int) ≤ (j : Int)) = true := decide_eq_true (by omega)
                      have HV : ral ms l1 0 0 0 l2 = (0, false) := by rw [hd]; unfold ral; rw [if_pos (by simp only; omega)]; rw [if_neg (by omega)]
                      exact absurd HT.out (by rw [HV]; simp)
                  · have u2 : (m2 != (j : Int)) = true := by simpa using c7
                    have HV : ral ms l1 0 0 0 l2 = (0, false) := by rw [hd]; unfold ral; rw [if_pos (by simp only; omega)]; rw [if_neg (fun h => c7 h.2.2.2.1)]
                    exact absurd HT.out (by rw [HV]; simp)
                · obtain rfl : m2 = -1 := by omega
                  have t1 : decide ((-1 : Int) ≥ 0) = false := decide_eq_false (by omega)
                  have t1' : decide (0 ≤ (-1 : Int)) = false := decide_eq_false (by omega)
                  have HV : ral ms l1 0 0 0 l2 = ral ms l1 (i + 1) j (c + 120) (l2.drop (k + 1)) := by rw [hd]; rw [ral]; rw [if_neg (by simp), if_pos ⟨by simp only; omega, rfl⟩, hX, if_pos ⟨c3, rfl, rfl⟩]
                  clear hd HA
                  go_wp2_with (fail)
                  repeat (go_quiet (fail); try go_wp2_with (fail))
                  try go_wp2
                  go_roundw
                  case rel => exact ⟨i + 1, j, k + 1, c + 120, by simp, rfl, congrArg (Value.int .i64) (HCB.wrap hlt hl2 (by omega) (by omega)), by simp, hlt, c3, hj, HCB.step hlt hl2 (by omega) (by omega), Lib.hid HV, Lib.hid (pw_below_drewN (HB.out.alloc HB.out.size _) _)⟩
                  case measure => simp [intOf] <;> omega
              · have v2 : (m1 != x1) = true := by simpa using c5
                have HV : ral ms l1 0 0 0 l2 = (0, false) := by rw [hd]; unfold ral; rcases Int.lt_or_le m2 0 with hq | hq; rw [if_neg (by simp only; omega), if_pos ⟨by simp only; omega, by simp only; omega⟩, hX, if_neg (fun h => c5 h.2.2)]; rw [if_pos ⟨by simp only; omega, by simp only; omega⟩, hX, if_neg (fun h => c5 h.2.2.1)]
                exact absurd HT.out (by rw [HV]; simp)
            · have v1 : (m0 != x0) = true := by simpa using c4
              have HV : ral ms l1 0 0 0 l2 = (0, false) := by rw [hd]; unfold ral; rcases Int.lt_or_le m2 0 with hq | hq; rw [if_neg (by simp only; omega), if_pos ⟨by simp only; omega, by simp only; omega⟩, hX, if_neg (fun h => c4 h.2.1)]; rw [if_pos ⟨by simp only; omega, by simp only; omega⟩, hX, if_neg (fun h => c4 h.2.1)]
              exact absurd HT.out (by rw [HV]; simp)
          · have v0 : decide ((i : Int) ≥ (ms.length : Int)) = true := decide_eq_true (by omega)
            have v0' : decide ((ms.length : Int) ≤ (i : Int)) = true := decide_eq_true (by omega)
            have HV : ral ms l1 0 0 0 l2 = (0, false) := by rw [hd]; unfold ral; rcases Int.lt_or_le m2 0 with hq | hq; rw [if_neg (by simp only; omega), if_pos ⟨by simp only; omega, by simp only; omega⟩, if_neg (fun h => c3 h.1)]; rw [if_pos ⟨by simp only; omega, by simp only; omega⟩, if_neg (fun h => c3 h.1)]
            exact absurd HT.out (by rw [HV]; simp)
    · have hd := HA.out
      rw [List.drop_eq_nil_of_le (by omega)] at hd
      clear HA
      have hz : k = l2.length := by omega
      subst hz
      have HV : ral ms l1 0 0 0 l2 = (c, decide (i = ms.length) && decide (j = l1.length)) := by rw [hd]; rfl
      by_cases q1 : i = ms.length
      · have w1' : ((i : Int) == (ms.length : Int)) = true := by simp <;> omega
        by_cases q2 : j = l1.length
        · have w2' : ((j : Int) == (l1.length : Int)) = true := by simp <;> omega
          go_wp2_with (fail)
          repeat (go_quiet (fail); try go_wp2_with (fail))
          try go_wp2
          go_ret2
          exact ⟨by first | (rw [HV]; simp [q1, q2]; done) | (simp [HV, q1, q2]; done), by first | exact B1.out.trans (HB.out.mono B1.out.size) | exact B1.out.trans ((pw_below_drewN HB.out _).mono B1.out.size)⟩
        · have w2' : ((j : Int) == (l1.length : Int)) = false := by simp <;> omega
          go_wp2_with (fail)
          repeat (go_quiet (fail); try go_wp2_with (fail))
          try go_wp2
          go_ret2
          exact ⟨by first | (rw [HV]; simp [q1, q2]; done) | (simp [HV, q1, q2]; done), by first | exact B1.out.trans (HB.out.mono B1.out.size) | exact B1.out.trans ((pw_below_drewN HB.out _).mono B1.out.size)⟩
      · have w1' : ((i : Int) == (ms.length : Int)) = false := by simp <;> omega
        go_wp2_with (fail)
        repeat (go_quiet (fail); try go_wp2_with (fail))
        try go_wp2
        go_ret2
        exact ⟨by first | (rw [HV]; simp [q1]; done) | (simp [HV, q1]; done), by first | exact B1.out.trans (HB.out.mono B1.out.size) | exact B1.out.trans ((pw_below_drewN HB.out _).mono B1.out.size)⟩
end Go.Proofs.Ytpbamfoaoeicgaa.PAll

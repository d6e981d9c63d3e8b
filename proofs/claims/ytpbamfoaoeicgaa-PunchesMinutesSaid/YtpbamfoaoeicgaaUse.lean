/- What a usable input is, and what the check and the marks answer for it. -/
import Derived.Test.YtpbamfoaoeicgaaFill
set_option linter.unusedVariables false
set_option linter.unusedSimpArgs false
namespace Go.Proofs.Ytpbamfoaoeicgaa.PAll
open Go Go.RowKit Go.Proofs.YtpbamfoaoeicgaaW.PrintWords Go.Proofs.YtpbamfoaoeicgaaW.PrintLast Go.Proofs.YtpbamfoaoeicgaaW.PrintMore

/-- a shift that may stand in a roster -/
def okS (s : S48) : Prop := 0 ≤ s.f0 ∧ s.f1 ≤ 52596000 ∧ s.f0 < s.f1 ∧ s.f1 - s.f0 ≤ 1440 ∧ 0 ≤ s.f2 ∧ s.f2 < 65536
def okFrom : Int → List S48 → Prop
  | _, [] => True
  | e, s :: r => okS s ∧ e ≤ s.f0 ∧ okFrom s.f1 r
def okP : Int → List S45 → Prop
  | _, [] => True
  | e, p :: r => 0 ≤ p.f0 ∧ p.f0 ≤ 52596000 ∧ e ≤ p.f0 ∧ okP p.f0 r
def Usable (l0 : List S48) (l1 : List S45) : Prop := l0.length ≤ 24 ∧ l1.length ≤ 60 ∧ okFrom 0 l0 ∧ okP 0 l1

def mkl : Nat → List S48 → List S68
  | _, [] => []
  | i, s :: r => ⟨i, true, s.f0⟩ :: ⟨i, false, s.f1⟩ :: mkl (i + 1) r
/-- a roster's marks -/
def marksOf (l : List S48) : List S68 := mkl 0 l
theorem mkl_length : ∀ (l : List S48) (i : Nat), (mkl i l).length = 2 * l.length
  | [], _ => rfl
  | s :: r, i => by simp only [mkl, List.length_cons, mkl_length r (i + 1)]; omega

theorem rd48_eq {l : List S48} {i : Nat} (h : i < l.length) : rd_T48 l (i : Int) = l[i] := by simp [rd_T48, List.getD_eq_getElem?_getD, h]
theorem rd45_eq {l : List S45} {i : Nat} (h : i < l.length) : rd_T45 l (i : Int) = l[i] := by simp [rd_T45, List.getD_eq_getElem?_getD, h]
theorem rd68_eq {l : List S68} {i : Nat} (h : i < l.length) : rd_T68 l (i : Int) = l[i] := by simp [rd_T68, List.getD_eq_getElem?_getD, h]

theorem marks_loop (l : List S48) (hl : l.length ≤ 26) : ∀ N i (acc : List S68), l.length - i ≤ N → i ≤ l.length → acc.length ≤ 2 * i → ∃ k, punches_marks.l0 k acc l (l.length : Int) (i : Int) = some (acc ++ mkl i (l.drop i)) := by
  intro N
  induction N with
  | zero =>
    intro i acc hN hi ha
    obtain rfl : i = l.length := by omega
    refine ⟨1, ?_⟩
    unfold punches_marks.l0
    rw [if_neg (by omega)]; simp [mkl]
  | succ N IH =>
    intro i acc hN hi ha
    by_cases hlt : i < l.length
    · obtain ⟨k, hk⟩ := IH (i + 1) (acc ++ [⟨i, true, l[i].f0⟩, ⟨i, false, l[i].f1⟩]) (by omega) hlt (by simp; omega)
      refine ⟨k + 1, ?_⟩
      unfold punches_marks.l0
      rw [if_pos (by omega), if_pos (by omega), if_pos (by omega)]
      simp only [Option.bind_some, rd48_eq hlt, List.length_cons, List.length_nil]
      rw [if_pos (by omega), show wrap64 ((i : Int) + 1) = ((i + 1 : Nat) : Int) by simp only [wrap64]; omega, hk, List.drop_eq_getElem_cons hlt]
      simp [mkl]
    · obtain rfl : i = l.length := by omega
      refine ⟨1, ?_⟩
      unfold punches_marks.l0
      rw [if_neg (by omega)]; simp [mkl]
theorem marks_f (l : List S48) (hl : l.length ≤ 26) : ∃ k, punches_marks.f k l = some (marksOf l) := by
  obtain ⟨k, hk⟩ := marks_loop l hl l.length 0 [] (by omega) (by omega) (by simp)
  refine ⟨k, ?_⟩
  unfold punches_marks.f
  have e : wrap64 (2 * (l.length : Int)) = 2 * (l.length : Int) := by simp only [wrap64]; omega
  rw [e, if_pos (by omega), if_pos (by omega)]
  simpa [marksOf] using hk

theorem check_loop1 (l : List S45) (hl : l.length ≤ 62) : ∀ N i (e : Int), l.length - i ≤ N → i ≤ l.length → okP e (l.drop i) → ∃ k, punches_check.l1 k e 0 l (l.length : Int) (i : Int) = some 0 := by
  intro N
  induction N with
  | zero =>
    intro i e hN hi _
    refine ⟨1, ?_⟩
    unfold punches_check.l1
    rw [if_neg (by omega)]
  | succ N IH =>
    intro i e hN hi hok
    by_cases hlt : i < l.length
    · rw [List.drop_eq_getElem_cons hlt] at hok
      obtain ⟨h0, h1, h2, h3⟩ := hok
      obtain ⟨k, hk⟩ := IH (i + 1) l[i].f0 (by omega) hlt h3
      refine ⟨k + 2, ?_⟩
      unfold punches_check.l1
      rw [if_pos (by omega), if_pos (by omega), if_pos (by omega), rd45_eq hlt, if_neg (by omega)]
      unfold punches_check.j3
      rw [if_neg (by simp; omega), if_neg (by omega), show wrap64 ((i : Int) + 1) = ((i + 1 : Nat) : Int) by simp only [wrap64]; omega]
      exact hk
    · refine ⟨1, ?_⟩
      unfold punches_check.l1
      rw [if_neg (by omega)]
theorem valid_f (s : S48) (h : okS s) : shifts_Valid.f s.f0 s.f1 s.f2 = some true := by
  obtain ⟨h0, h1, h2, h3, h4, h5⟩ := h
  have e : wrap64 (s.f1 - s.f0) = s.f1 - s.f0 := by simp only [wrap64]; omega
  unfold shifts_Valid.f
  simp only [e]
  repeat' first
    | rw [if_pos (by omega)]
    | rw [if_neg (by omega)]
  all_goals simp <;> omega
theorem check_loop0 (l1 : List S45) (hl1 : l1.length ≤ 62) (hp : okP 0 l1) (l : List S48) (hl : l.length ≤ 26) : ∀ N i (e : Int), l.length - i ≤ N → i ≤ l.length → okFrom e (l.drop i) → ∃ k, punches_check.l0 k l1 e l (l.length : Int) (i : Int) = some 0 := by
  intro N
  obtain ⟨k0, hk0⟩ := check_loop1 l1 hl1 l1.length 0 0 (by omega) (by omega) hp
  induction N with
  | zero =>
    intro i e hN hi _
    refine ⟨k0 + 1, ?_⟩
    unfold punches_check.l0
    rw [if_neg (by omega)]
    exact hk0
  | succ N IH =>
    intro i e hN hi hok
    by_cases hlt : i < l.length
    · rw [List.drop_eq_getElem_cons hlt] at hok
      obtain ⟨h0, h1, h2⟩ := hok
      obtain ⟨k, hk⟩ := IH (i + 1) l[i].f1 (by omega) hlt h2
      refine ⟨k + 1, ?_⟩
      unfold punches_check.l0
      rw [if_pos (by omega), if_pos (by omega), if_pos (by omega), rd48_eq hlt, valid_f _ h0]
      simp only [Option.bind_some, if_true]
      rw [if_neg (by omega), show wrap64 ((i : Int) + 1) = ((i + 1 : Nat) : Int) by simp only [wrap64]; omega]
      exact hk
    · refine ⟨k0 + 1, ?_⟩
      unfold punches_check.l0
      rw [if_neg (by omega)]
      exact hk0
theorem check_f (l0 : List S48) (l1 : List S45) (h : Usable l0 l1) : ∃ k, punches_check.f k l0 l1 = some 0 := by
  obtain ⟨h0, h1, h2, h3⟩ := h
  obtain ⟨k, hk⟩ := check_loop0 l1 (by omega) h3 l0 (by omega) l0.length 0 0 (by omega) (by omega) h2
  refine ⟨k + 1, ?_⟩
  unfold punches_check.f
  rw [if_neg (by omega), show decide ((l1.length : Int) > 60) = false by simp; omega]
  simpa [punches_check.j0] using hk

theorem near_marks : ∀ (l : List S48) (i : Nat) (e : Int), okFrom e l → ∀ x ∈ mkl i l, 0 ≤ x.f2 ∧ x.f2 ≤ 52596001
  | [], _, _, _ => by simp [mkl]
  | s :: r, i, e, h => by
    obtain ⟨⟨h0, h1, h2, h3, h4, h5⟩, h6, h7⟩ := h
    intro x hx
    simp only [mkl, List.mem_cons] at hx
    rcases hx with rfl | rfl | hx
    · simp; omega
    · simp; omega
    · exact near_marks r (i + 1) _ h7 x hx
theorem near_punches : ∀ (l : List S45) (e : Int), okP e l → ∀ x ∈ l, 0 ≤ x.f0 ∧ x.f0 ≤ 52596001
  | [], _, _ => by simp
  | s :: r, e, h => by
    obtain ⟨h0, h1, h2, h3⟩ := h
    intro x hx
    rcases List.mem_cons.1 hx with rfl | hx
    · omega
    · exact near_punches r _ h3 x hx
theorem near_usable {l0 : List S48} {l1 : List S45} (h : Usable l0 l1) : Near (marksOf l0) l1 := ⟨near_marks _ _ _ h.2.2.1, near_punches _ _ h.2.2.2⟩
end Go.Proofs.Ytpbamfoaoeicgaa.PAll

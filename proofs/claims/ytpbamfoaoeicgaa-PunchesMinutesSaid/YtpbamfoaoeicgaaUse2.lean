/- What the laws ask of an input ahead of all else. -/
import Derived.Test.YtpbamfoaoeicgaaPAllx8
import Derived.Test.YtpbamfoaoeicgaaGiven
set_option linter.unusedVariables false
set_option linter.unusedSimpArgs false
namespace Go.Proofs.Ytpbamfoaoeicgaa.PAll
open Go Go.RowKit Go.Proofs.YtpbamfoaoeicgaaW.PrintWords Go.Proofs.YtpbamfoaoeicgaaW.PrintLast Go.Proofs.YtpbamfoaoeicgaaW.PrintMore

theorem upto {α : Type} {g : Nat → Option α} (hm : ∀ k, LeO (g k) (g (k + 1))) {j : Nat} {r : α} (h : g j = some r) : ∀ k, j ≤ k → g k = some r := by
  intro k hk
  obtain ⟨d, rfl⟩ := Nat.exists_eq_add_of_le hk
  induction d with
  | zero => exact h
  | succ d ih => exact hm _ _ (ih (by omega))

theorem ref_l2 (l : List S45) (hl : l.length ≤ 62) : ∀ N i, l.length - i ≤ N → 1 ≤ i → ∃ k c, wageofficeref22_Usable.l2 k l (i : Int) = some c ∧ (c = 0 → ∀ j (h : j + 1 < l.length), i ≤ j + 1 → l[j].f0 ≤ l[j + 1].f0) := by
  intro N
  induction N with
  | zero =>
    intro i hN hi
    refine ⟨1, 0, ?_, fun _ j h hj => by omega⟩
    unfold wageofficeref22_Usable.l2
    rw [if_neg (by omega)]
  | succ N IH =>
    intro i hN hi
    by_cases hlt : i < l.length
    · have e1 : wrap64 ((i : Int) - 1) = ((i - 1 : Nat) : Int) := by simp only [wrap64]; omega
      have e2 : wrap64 ((i : Int) + 1) = ((i + 1 : Nat) : Int) := by simp only [wrap64]; omega
      by_cases hc : l[i].f0 < l[i - 1].f0
      · refine ⟨1, 6, ?_, fun h => by omega⟩
        unfold wageofficeref22_Usable.l2
        rw [if_pos (by omega), if_pos (by omega), e1, if_pos (by omega), if_pos (by omega), rd45_eq hlt, rd45_eq (show i - 1 < l.length by omega), if_pos hc]
      · obtain ⟨k, c, hk, hcc⟩ := IH (i + 1) (by omega) (by omega)
        refine ⟨k + 1, c, ?_, fun h0 j h hj => ?_⟩
        · unfold wageofficeref22_Usable.l2
          rw [if_pos (by omega), if_pos (by omega), e1, if_pos (by omega), if_pos (by omega), rd45_eq hlt, rd45_eq (show i - 1 < l.length by omega), if_neg hc, e2]
          exact hk
        · by_cases hji : i = j + 1
          · subst hji
            simp only [Nat.add_sub_cancel] at hc
            omega
          · exact hcc h0 j h (by omega)
    · refine ⟨1, 0, ?_, fun _ j h hj => by omega⟩
      unfold wageofficeref22_Usable.l2
      rw [if_neg (by omega)]
theorem ref_l1 (l : List S45) (hl : l.length ≤ 62) : ∀ N i, l.length - i ≤ N → ∃ k c, wageofficeref22_Usable.l1 k l (i : Int) = some c ∧ (c = 0 → (∀ j (h : j < l.length), i ≤ j → 0 ≤ l[j].f0 ∧ l[j].f0 ≤ 52596000) ∧ ∀ j (h : j + 1 < l.length), l[j].f0 ≤ l[j + 1].f0) := by
  intro N
  obtain ⟨k2, c2, h2, hc2⟩ := ref_l2 l hl l.length 1 (by omega) (by omega)
  induction N with
  | zero =>
    intro i hN
    refine ⟨k2 + 1, c2, ?_, fun h => ⟨fun j h hj => by omega, fun j hj => hc2 h j hj (by omega)⟩⟩
    unfold wageofficeref22_Usable.l1
    rw [if_neg (by omega)]; exact h2
  | succ N IH =>
    intro i hN
    by_cases hlt : i < l.length
    · have e2 : wrap64 ((i : Int) + 1) = ((i + 1 : Nat) : Int) := by simp only [wrap64]; omega
      by_cases h0 : l[i].f0 < 0
      · refine ⟨1, 1, ?_, fun h => by omega⟩
        unfold wageofficeref22_Usable.l1
        rw [if_pos (by omega), if_pos (by omega), rd45_eq hlt, if_pos h0]
      · by_cases h1 : l[i].f0 > 52596000
        · refine ⟨1, 1, ?_, fun h => by omega⟩
          unfold wageofficeref22_Usable.l1
          rw [if_pos (by omega), if_pos (by omega), rd45_eq hlt, if_neg h0, if_pos h1]
        · obtain ⟨k, c, hk, hcc⟩ := IH (i + 1) (by omega)
          refine ⟨k + 1, c, ?_, fun h => ⟨fun j hj hij => ?_, (hcc h).2⟩⟩
          · unfold wageofficeref22_Usable.l1
            rw [if_pos (by omega), if_pos (by omega), rd45_eq hlt, if_neg h0, if_neg h1, e2]
            exact hk
          · by_cases hji : i = j
            · subst hji; omega
            · exact (hcc h).1 j hj (by omega)
    · refine ⟨k2 + 1, c2, ?_, fun h => ⟨fun j h hj => by omega, fun j hj => hc2 h j hj (by omega)⟩⟩
      unfold wageofficeref22_Usable.l1
      rw [if_neg (by omega)]; exact h2
theorem ref_valid (s : S48) (hs : ∃ b, wageofficeref17_Valid.f s.f0 s.f1 s.f2 = some b) : ∃ b, wageofficeref17_Valid.f s.f0 s.f1 s.f2 = some b ∧ (b = true → okS s) := by
  obtain ⟨b, hb⟩ := hs
  refine ⟨b, hb, fun ht => ?_⟩
  subst ht
  unfold wageofficeref17_Valid.f at hb
  repeat' split at hb
  all_goals first
    | (simp at hb; done)
    | skip
  all_goals
    have e : wrap64 (s.f1 - s.f0) = s.f1 - s.f0 := by simp only [wrap64]; omega
    simp at hb
    unfold okS
    omega
theorem ref_valid' (s : S48) : ∃ b, wageofficeref17_Valid.f s.f0 s.f1 s.f2 = some b ∧ (b = true → okS s) := by
  apply ref_valid
  unfold wageofficeref17_Valid.f
  repeat' split
  all_goals exact ⟨_, rfl⟩
theorem ref_l0 (l1 : List S45) (hl1 : l1.length ≤ 62) (l : List S48) (hl : l.length ≤ 26) : ∀ N i, l.length - i ≤ N → ∃ k c, wageofficeref22_Usable.l0 k l l1 (i : Int) = some c ∧ (c = 0 → ((∀ j (h : j < l.length), i ≤ j → okS l[j]) ∧ ∀ j (h : j + 1 < l.length), i ≤ j + 1 → l[j].f1 ≤ l[j + 1].f0) ∧ (∀ j (h : j < l1.length), 0 ≤ l1[j].f0 ∧ l1[j].f0 ≤ 52596000) ∧ ∀ j (h : j + 1 < l1.length), l1[j].f0 ≤ l1[j + 1].f0) := by
  intro N
  obtain ⟨k2, c2, h2, hc2⟩ := ref_l1 l1 hl1 l1.length 0 (by omega)
  have fin : ∀ i, ¬ i < l.length → ∃ k c, wageofficeref22_Usable.l0 k l l1 (i : Int) = some c ∧ (c = 0 → ((∀ j (h : j < l.length), i ≤ j → okS l[j]) ∧ ∀ j (h : j + 1 < l.length), i ≤ j + 1 → l[j].f1 ≤ l[j + 1].f0) ∧ (∀ j (h : j < l1.length), 0 ≤ l1[j].f0 ∧ l1[j].f0 ≤ 52596000) ∧ ∀ j (h : j + 1 < l1.length), l1[j].f0 ≤ l1[j + 1].f0) := by
    intro i hi
    refine ⟨k2 + 1, c2, ?_, fun h => ⟨⟨fun j h hj => by omega, fun j h hj => by omega⟩, fun j hj => (hc2 h).1 j hj (by omega), (hc2 h).2⟩⟩
    unfold wageofficeref22_Usable.l0
    rw [if_neg (by omega)]; exact h2
  induction N with
  | zero => intro i hN; exact fin i (by omega)
  | succ N IH =>
    intro i hN
    by_cases hlt : i < l.length
    · have e1 : 0 < i → wrap64 ((i : Int) - 1) = ((i - 1 : Nat) : Int) := fun _ => by simp only [wrap64]; omega
      have e2 : wrap64 ((i : Int) + 1) = ((i + 1 : Nat) : Int) := by simp only [wrap64]; omega
      obtain ⟨b, hb, hok⟩ := ref_valid' l[i]
      obtain ⟨k, c, hk, hcc⟩ := IH (i + 1) (by omega)
      cases b with
      | false =>
        refine ⟨1, 171, ?_, fun h => by omega⟩
        unfold wageofficeref22_Usable.l0
        rw [if_pos (by omega), if_pos (by omega), rd48_eq hlt, hb]
        simp
      | true =>
        by_cases h0 : 0 < i
        · by_cases hc : l[i].f0 < l[i - 1].f1
          · refine ⟨1, 171, ?_, fun h => by omega⟩
            unfold wageofficeref22_Usable.l0
            rw [if_pos (by omega), if_pos (by omega), rd48_eq hlt, hb]
            simp only [Option.bind_some, if_true]
            rw [if_pos (by omega), e1 h0, if_pos (by omega), if_pos (by omega), rd48_eq (show i - 1 < l.length by omega), if_pos hc]
          · refine ⟨k + 1, c, ?_, fun h => ⟨⟨fun j hj hij => ?_, fun j hj hij => ?_⟩, (hcc h).2⟩⟩
            · unfold wageofficeref22_Usable.l0
              rw [if_pos (by omega), if_pos (by omega), rd48_eq hlt, hb]
              simp only [Option.bind_some, if_true]
              rw [if_pos (by omega), e1 h0, if_pos (by omega), if_pos (by omega), rd48_eq (show i - 1 < l.length by omega), if_neg hc, e2]
              exact hk
            · by_cases hji : i = j
              · subst hji; exact hok rfl
              · exact (hcc h).1.1 j hj (by omega)
            · by_cases hji : i = j + 1
              · subst hji; simp only [Nat.add_sub_cancel] at hc; omega
              · exact (hcc h).1.2 j hj (by omega)
        · obtain rfl : i = 0 := by omega
          refine ⟨k + 1, c, ?_, fun h => ⟨⟨fun j hj hij => ?_, fun j hj hij => (hcc h).1.2 j hj (by omega)⟩, (hcc h).2⟩⟩
          · unfold wageofficeref22_Usable.l0
            rw [if_pos (by omega), if_pos (by omega), rd48_eq hlt, hb]
            simp only [Option.bind_some, if_true]
            rw [if_neg (by omega), e2]
            exact hk
          · by_cases hji : 0 = j
            · subst hji; exact hok rfl
            · exact (hcc h).1.1 j hj (by omega)
    · exact fin i hlt
theorem okP_of : ∀ (l : List S45) (e : Int), (∀ h : 0 < l.length, e ≤ l[0].f0) → (∀ j (h : j < l.length), 0 ≤ l[j].f0 ∧ l[j].f0 ≤ 52596000) → (∀ j (h : j + 1 < l.length), l[j].f0 ≤ l[j + 1].f0) → okP e l
  | [], _, _, _, _ => trivial
  | s :: r, e, h0, h1, h2 =>
    ⟨(h1 0 (by simp)).1, (h1 0 (by simp)).2, h0 (by simp), okP_of r s.f0 (fun h => h2 0 (by simpa using h)) (fun j hj => h1 (j + 1) (by simpa using hj)) (fun j hj => h2 (j + 1) (by simpa using hj))⟩
theorem okFrom_of : ∀ (l : List S48) (e : Int), (∀ h : 0 < l.length, e ≤ l[0].f0) → (∀ j (h : j < l.length), okS l[j]) → (∀ j (h : j + 1 < l.length), l[j].f1 ≤ l[j + 1].f0) → okFrom e l
  | [], _, _, _, _ => trivial
  | s :: r, e, h0, h1, h2 =>
    ⟨h1 0 (by simp), h0 (by simp), okFrom_of r s.f1 (fun h => h2 0 (by simpa using h)) (fun j hj => h1 (j + 1) (by simpa using hj)) (fun j hj => h2 (j + 1) (by simpa using hj))⟩
theorem ref_f (l0 : List S48) (l1 : List S45) (h0 : l0.length ≤ 26) (h1 : l1.length ≤ 62) : ∃ k c, wageofficeref22_Usable.f k l0 l1 = some c ∧ (c = 0 → Usable l0 l1) := by
  by_cases a0 : l0.length > 24
  · refine ⟨1, 2, ?_, fun h => by omega⟩
    unfold wageofficeref22_Usable.f
    rw [if_pos (by omega)]
    simp [wageofficeref22_Usable.j0]
  · by_cases a1 : l1.length > 60
    · refine ⟨1, 2, ?_, fun h => by omega⟩
      unfold wageofficeref22_Usable.f
      rw [if_neg (by omega), show decide ((l1.length : Int) > 60) = true by simp; omega]
      simp [wageofficeref22_Usable.j0]
    · obtain ⟨k, c, hk, hc⟩ := ref_l0 l1 h1 l0 h0 l0.length 0 (by omega)
      refine ⟨k + 1, c, ?_, fun h => ?_⟩
      · unfold wageofficeref22_Usable.f
        rw [if_neg (by omega), show decide ((l1.length : Int) > 60) = false by simp; omega]
        simpa [wageofficeref22_Usable.j0] using hk
      · obtain ⟨⟨q0, q1⟩, q2, q3⟩ := hc h
        exact ⟨by omega, by omega, okFrom_of l0 0 (fun h => (q0 0 h (by omega)).1) (fun j hj => q0 j hj (by omega)) (fun j hj => q1 j hj (by omega)), okP_of l1 0 (fun h => (q2 0 h).1) q2 q3⟩
/-- 'usable' answers, and true only of what is usable -/
theorem use_f (l0 : List S48) (l1 : List S45) : ∃ k b, wageofficelaw22_usable.f k l0 l1 = some b ∧ (b = true → Usable l0 l1) := by
  unfold wageofficelaw22_usable.f wageofficelaw22_short.f
  by_cases h0 : (l0.length : Int) ≤ 26
  · by_cases h1 : (l1.length : Int) ≤ 62
    · obtain ⟨k, c, hk, hc⟩ := ref_f l0 l1 (by omega) (by omega)
      refine ⟨k, c == 0, ?_, fun h => hc (by simpa using h)⟩
      simp [h0, h1, hk]
    · exact ⟨0, false, by simp [h0, h1], fun h => by cases h⟩
  · exact ⟨0, false, by simp [h0], fun h => by cases h⟩
end Go.Proofs.Ytpbamfoaoeicgaa.PAll

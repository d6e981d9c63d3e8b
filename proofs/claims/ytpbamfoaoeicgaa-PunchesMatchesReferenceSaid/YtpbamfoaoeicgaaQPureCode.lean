/- The program's check and the reference's tell the same of any arguments. -/
import Derived.Test.YtpbamfoaoeicgaaQUse2
set_option linter.unusedVariables false
set_option linter.unusedSimpArgs false
namespace Go.Proofs.Ytpbamfoaoeicgaa.PAll
open Go Go.RowKit Go.Proofs.YtpbamfoaoeicgaaW.PrintWords Go.Proofs.YtpbamfoaoeicgaaW.PrintLast Go.Proofs.YtpbamfoaoeicgaaW.PrintMore

theorem len_wrap (a b : Int) (h0 : 0 ≤ a) (h1 : a < b) (h2 : b ≤ 52596000) : wrap64 (b - a) = b - a := by simp only [wrap64]; omega
theorem valid_p (s : S48) : shifts_Valid.f s.f0 s.f1 s.f2 = some (decide (okS s)) := by
  unfold shifts_Valid.f
  by_cases h0 : s.f0 ≥ 0
  · rw [if_pos h0]
    by_cases h1 : s.f0 < s.f1
    · rw [if_pos h1]
      by_cases h2 : s.f1 ≤ 52596000
      · rw [if_pos h2, len_wrap _ _ h0 h1 h2]
        by_cases h3 : s.f1 - s.f0 ≤ 1440
        · rw [if_pos h3]
          by_cases h4 : s.f2 ≥ 0
          · rw [if_pos h4]; congr 1; rw [decide_eq_decide]; unfold okS; omega
          · rw [if_neg h4, decide_eq_false (by unfold okS; omega)]
        · rw [if_neg h3, decide_eq_false (by unfold okS; omega)]
      · rw [if_neg h2, decide_eq_false (by unfold okS; omega)]
    · rw [if_neg h1, decide_eq_false (by unfold okS; omega)]
  · rw [if_neg h0, decide_eq_false (by unfold okS; omega)]
theorem valid_r (s : S48) : wageofficeref17_Valid.f s.f0 s.f1 s.f2 = some (decide (okS s)) := by
  unfold wageofficeref17_Valid.f
  by_cases h0 : s.f0 < 0
  · rw [if_pos h0, decide_eq_false (by unfold okS; omega)]
  · rw [if_neg h0]
    by_cases h2 : s.f1 > 52596000
    · rw [if_pos h2, decide_eq_false (by unfold okS; omega)]
    · rw [if_neg h2]
      by_cases h1 : s.f0 ≥ s.f1
      · rw [if_pos h1, decide_eq_false (by unfold okS; omega)]
      · rw [if_neg h1, len_wrap _ _ (by omega) (by omega) (by omega)]
        by_cases h3 : s.f1 - s.f0 ≤ 1440
        · rw [if_pos h3]
          by_cases h4 : s.f2 ≥ 0
          · rw [if_pos h4]; congr 1; rw [decide_eq_decide]; unfold okS; omega
          · rw [if_neg h4, decide_eq_false (by unfold okS; omega)]
        · rw [if_neg h3, decide_eq_false (by unfold okS; omega)]

def progP : Int → Int → List S45 → Int
  | _, e, [] => e
  | c, e, p :: r => if p.f0 < 0 ∨ p.f0 > 52596000 then 1 else if p.f0 < c then progP p.f0 6 r else progP p.f0 e r
def progD : Int → List S48 → List S45 → Int
  | _, [], l1 => progP 0 0 l1
  | e, s :: r, l1 => if okS s then (if s.f0 < e then 171 else progD s.f1 r l1) else 171
def code (l0 : List S48) (l1 : List S45) : Int := if l0.length > 24 ∨ l1.length > 60 then 2 else progD 0 l0 l1
def srt : Int → List S45 → Int
  | _, [] => 0
  | c, p :: r => if p.f0 < c then 6 else srt p.f0 r
def srt1 : List S45 → Int
  | [] => 0
  | p :: r => srt p.f0 r
def rng (l : List S45) : List S45 → Int
  | [] => srt1 l
  | p :: r => if p.f0 < 0 ∨ p.f0 > 52596000 then 1 else rng l r
theorem prog_six : ∀ (l : List S45) (c : Int), progP c 6 l = 6 ∨ progP c 6 l = 1
  | [], _ => .inl rfl
  | p :: r, c => by
    unfold progP
    split
    · exact .inr rfl
    · split <;> exact prog_six r _
theorem prog_rng (l : List S45) : ∀ (r : List S45) (c : Int), (progP c 0 r = 1 ∧ rng l r = 1) ∨ (progP c 0 r = srt c r ∧ rng l r = srt1 l ∧ (progP c 6 r = 6)) ∨ (progP c 0 r = 1 ∧ rng l r = 1)
  | [], c => .inr (.inl ⟨rfl, rfl, rfl⟩)
  | p :: r, c => by
    by_cases h : p.f0 < 0 ∨ p.f0 > 52596000
    · exact .inl ⟨by unfold progP; rw [if_pos h], by unfold rng; rw [if_pos h]⟩
    · have e1 : rng l (p :: r) = rng l r := by rw [rng, if_neg h]
      have e2 : progP c 6 (p :: r) = progP p.f0 6 r := by rw [progP, if_neg h]; split <;> rfl
      rcases prog_rng l r p.f0 with ⟨g1, g2⟩ | ⟨g1, g2, g3⟩ | ⟨g1, g2⟩
      · left
        refine ⟨?_, by rw [e1, g2]⟩
        rw [progP, if_neg h]
        split
        · have six : ∀ (r : List S45) (c : Int), progP c 0 r = 1 → progP c 6 r = 1 := by
            intro r
            induction r with
            | nil => intro c h; simp [progP] at h
            | cons q r ih =>
              intro c h
              rw [progP] at h ⊢
              split
              · rfl
              · rename_i h'
                rw [if_neg h'] at h
                split
                · rename_i h2; rw [if_pos h2] at h; exact h
                · rename_i h2; rw [if_neg h2] at h; exact ih _ h
          exact six r _ g1
        · exact g1
      · right; left
        refine ⟨?_, by rw [e1, g2], by rw [e2, g3]⟩
        rw [progP, if_neg h, srt]
        split
        · exact g3
        · exact g1
      · left
        refine ⟨?_, by rw [e1, g2]⟩
        rw [progP, if_neg h]
        split
        · have six : ∀ (r : List S45) (c : Int), progP c 0 r = 1 → progP c 6 r = 1 := by
            intro r
            induction r with
            | nil => intro c h; simp [progP] at h
            | cons q r ih =>
              intro c h
              rw [progP] at h ⊢
              split
              · rfl
              · rename_i h'
                rw [if_neg h'] at h
                split
                · rename_i h2; rw [if_pos h2] at h; exact h
                · rename_i h2; rw [if_neg h2] at h; exact ih _ h
          exact six r _ g1
        · exact g1
theorem prog_ref (l : List S45) : progP 0 0 l = rng l l := by
  cases l with
  | nil => rfl
  | cons p r =>
    rcases prog_rng (p :: r) (p :: r) 0 with ⟨g1, g2⟩ | ⟨g1, g2, _⟩ | ⟨g1, g2⟩
    · rw [g1, g2]
    · rw [g1, g2]
      by_cases h : p.f0 < 0 ∨ p.f0 > 52596000
      · have : progP 0 0 (p :: r) = 1 := by rw [progP, if_pos h]
        have e2 : rng (p :: r) (p :: r) = 1 := by rw [rng, if_pos h]
        omega
      · rw [srt, srt1, if_neg (by omega)]
    · rw [g1, g2]
theorem check_l1 (l : List S45) (hl : l.length ≤ 62) : ∀ n i (c e : Int), l.length - i = n → i ≤ l.length → ∃ k, k ≤ 2 * n + 1 ∧ punches_check.l1 k c e l (l.length : Int) (i : Int) = some (progP c e (l.drop i)) := by
  intro n
  induction n with
  | zero =>
    intro i c e hN hi
    refine ⟨1, by omega, ?_⟩
    rw [punches_check.l1, if_neg (by omega), List.drop_eq_nil_of_le (by omega)]; rfl
  | succ n ih =>
    intro i c e hN hi
    have hlt : i < l.length := by omega
    have e2 : wrap64 ((i : Int) + 1) = ((i + 1 : Nat) : Int) := by simp only [wrap64]; omega
    have E2 := Lib.hid e2
    clear e2
    obtain ⟨k1, hk1, h1⟩ := ih (i + 1) l[i].f0 6 (by omega) hlt
    obtain ⟨k2, hk2, h2⟩ := ih (i + 1) l[i].f0 e (by omega) hlt
    rw [List.drop_eq_getElem_cons hlt, progP]
    by_cases hb : l[i].f0 < 0 ∨ l[i].f0 > 52596000
    · refine ⟨2, by omega, ?_⟩
      rw [punches_check.l1, if_pos (by omega), if_pos (by omega), if_pos (by omega), rd45_eq hlt, if_pos hb]
      by_cases h0 : l[i].f0 < 0
      · rw [if_pos h0, punches_check.j3, if_pos rfl]
      · rw [if_neg h0, decide_eq_true (by omega), punches_check.j3, if_pos rfl]
    · rw [if_neg hb]
      by_cases hc : l[i].f0 < c
      · refine ⟨k1 + 1 + 1, by omega, ?_⟩
        rw [punches_check.l1, if_pos (by omega), if_pos (by omega), if_pos (by omega), rd45_eq hlt, if_neg (by omega), decide_eq_false (by omega), punches_check.j3, if_neg (by simp), if_pos hc, if_pos hc, E2.out]
        exact h1
      · refine ⟨k2 + 1 + 1, by omega, ?_⟩
        rw [punches_check.l1, if_pos (by omega), if_pos (by omega), if_pos (by omega), rd45_eq hlt, if_neg (by omega), decide_eq_false (by omega), punches_check.j3, if_neg (by simp), if_neg hc, if_neg hc, E2.out]
        exact h2
theorem check_l0 (l1 : List S45) (hl1 : l1.length ≤ 62) (l : List S48) (hl : l.length ≤ 26) : ∀ n i (e : Int), l.length - i = n → i ≤ l.length → ∃ k, k ≤ n + 126 ∧ punches_check.l0 k l1 e l (l.length : Int) (i : Int) = some (progD e (l.drop i) l1) := by
  intro n
  induction n with
  | zero =>
    intro i e hN hi
    obtain ⟨k, hk, h⟩ := check_l1 l1 hl1 l1.length 0 0 0 (by omega) (by omega)
    refine ⟨k + 1, by omega, ?_⟩
    rw [punches_check.l0, if_neg (by omega), List.drop_eq_nil_of_le (by omega)]; exact h
  | succ n ih =>
    intro i e hN hi
    have hlt : i < l.length := by omega
    have E2 := Lib.hid (show wrap64 ((i : Int) + 1) = ((i + 1 : Nat) : Int) by simp only [wrap64]; omega)
    obtain ⟨k1, hk1, h1⟩ := ih (i + 1) l[i].f1 (by omega) hlt
    rw [List.drop_eq_getElem_cons hlt, progD]
    by_cases hv : okS l[i]
    · rw [if_pos hv]
      by_cases hc : l[i].f0 < e
      · refine ⟨1, by omega, ?_⟩
        rw [punches_check.l0, if_pos (by omega), if_pos (by omega), if_pos (by omega), rd48_eq hlt, valid_p, decide_eq_true hv, Option.bind_some, if_pos rfl, if_pos hc, if_pos hc]
      · refine ⟨k1 + 1, by omega, ?_⟩
        rw [punches_check.l0, if_pos (by omega), if_pos (by omega), if_pos (by omega), rd48_eq hlt, valid_p, decide_eq_true hv, Option.bind_some, if_pos rfl, if_neg hc, if_neg hc, E2.out]
        exact h1
    · refine ⟨1, by omega, ?_⟩
      rw [punches_check.l0, if_pos (by omega), if_pos (by omega), if_pos (by omega), rd48_eq hlt, valid_p, decide_eq_false hv, Option.bind_some, if_neg (by simp), if_neg hv]
theorem check_code (l0 : List S48) (l1 : List S45) (h0 : l0.length ≤ 26) (h1 : l1.length ≤ 62) : punches_check.f 1000 l0 l1 = some (code l0 l1) := by
  obtain ⟨k, hk, h⟩ : ∃ k, k ≤ 200 ∧ punches_check.f k l0 l1 = some (code l0 l1) := by
    unfold punches_check.f code
    by_cases a0 : l0.length > 24
    · have c1 : (l0.length : Int) > 24 := by omega
      exact ⟨1, by omega, by rw [if_pos c1, if_pos (Or.inl a0), punches_check.j0, if_pos rfl]⟩
    · have c1 : ¬ (l0.length : Int) > 24 := by omega
      simp only [if_neg c1]
      by_cases a1 : l1.length > 60
      · exact ⟨1, by omega, by rw [decide_eq_true (show (l1.length : Int) > 60 by omega), punches_check.j0, if_pos rfl, if_pos (Or.inr a1)]⟩
      · have c2 : ¬ (l0.length > 24 ∨ l1.length > 60) := by omega
        obtain ⟨k, hk, h⟩ := check_l0 l1 h1 l0 h0 l0.length 0 0 (by omega) (by omega)
        refine ⟨k + 1, by omega, ?_⟩
        rw [if_neg c2, decide_eq_false (show ¬ (l1.length : Int) > 60 by omega), punches_check.j0, if_neg (by simp)]
        exact h
  have := check_up h (1000 - k)
  rwa [show k + (1000 - k) = 1000 by omega] at this
theorem use_l2 (l : List S45) (hl : l.length ≤ 62) : ∀ n i, l.length - i = n → 1 ≤ i → (hi : i ≤ l.length) → ∃ k, wageofficeref22_Usable.l2 k l (i : Int) = some (srt (rd_T45 l ((i - 1 : Nat) : Int)).f0 (l.drop i)) := by
  intro n
  induction n with
  | zero => intro i hN h1 hi; exact ⟨1, by rw [wageofficeref22_Usable.l2, if_neg (by omega), List.drop_eq_nil_of_le (by omega)]; rfl⟩
  | succ n ih =>
    intro i hN h1 hi
    have hlt : i < l.length := by omega
    have E1 := Lib.hid (show wrap64 ((i : Int) - 1) = ((i - 1 : Nat) : Int) by simp only [wrap64]; omega)
    have E2 := Lib.hid (show wrap64 ((i : Int) + 1) = ((i + 1 : Nat) : Int) by simp only [wrap64]; omega)
    obtain ⟨k, hk⟩ := ih (i + 1) (by omega) (by omega) (by omega)
    rw [Nat.add_sub_cancel, rd45_eq hlt] at hk
    rw [List.drop_eq_getElem_cons hlt, srt]
    by_cases hc : l[i].f0 < (rd_T45 l ((i - 1 : Nat) : Int)).f0
    · refine ⟨1, ?_⟩
      rw [wageofficeref22_Usable.l2, if_pos (by omega), if_pos (by omega), E1.out, if_pos (by omega), if_pos (by omega), rd45_eq hlt, if_pos hc, if_pos hc]
    · refine ⟨k + 1, ?_⟩
      rw [wageofficeref22_Usable.l2, if_pos (by omega), if_pos (by omega), E1.out, if_pos (by omega), if_pos (by omega), rd45_eq hlt, if_neg hc, if_neg hc, E2.out]
      exact hk
theorem use_l1 (l : List S45) (hl : l.length ≤ 62) : ∀ n i, l.length - i = n → i ≤ l.length → ∃ k, wageofficeref22_Usable.l1 k l (i : Int) = some (rng l (l.drop i)) := by
  intro n
  induction n with
  | zero =>
    intro i hN hi
    rw [List.drop_eq_nil_of_le (by omega), rng]
    cases l with
    | nil => exact ⟨2, by rw [wageofficeref22_Usable.l1, if_neg (by simp only [List.length_nil] at *; omega), wageofficeref22_Usable.l2, if_neg (by simp)]; rfl⟩
    | cons p r =>
      obtain ⟨k, hk⟩ := use_l2 (p :: r) hl (p :: r).length.pred 1 (by simp) (by omega) (by simp)
      refine ⟨k + 1, ?_⟩
      rw [wageofficeref22_Usable.l1, if_neg (by omega)]
      exact hk
  | succ n ih =>
    intro i hN hi
    have hlt : i < l.length := by omega
    have E2 := Lib.hid (show wrap64 ((i : Int) + 1) = ((i + 1 : Nat) : Int) by simp only [wrap64]; omega)
    obtain ⟨k, hk⟩ := ih (i + 1) (by omega) hlt
    rw [List.drop_eq_getElem_cons hlt, rng]
    by_cases h0 : l[i].f0 < 0
    · exact ⟨1, by rw [wageofficeref22_Usable.l1, if_pos (by omega), if_pos (by omega), rd45_eq hlt, if_pos h0, if_pos (.inl h0)]⟩
    · by_cases h1 : l[i].f0 > 52596000
      · exact ⟨1, by rw [wageofficeref22_Usable.l1, if_pos (by omega), if_pos (by omega), rd45_eq hlt, if_neg h0, if_pos h1, if_pos (.inr h1)]⟩
      · refine ⟨k + 1, ?_⟩
        rw [wageofficeref22_Usable.l1, if_pos (by omega), if_pos (by omega), rd45_eq hlt, if_neg h0, if_neg h1, if_neg (by omega), E2.out]
        exact hk
/-- the end of the duty before -/
def ended (l : List S48) (i : Nat) : Int := if i = 0 then 0 else (rd_T48 l ((i - 1 : Nat) : Int)).f1
theorem use_l0 (l1 : List S45) (hl1 : l1.length ≤ 62) (l : List S48) (hl : l.length ≤ 26) : ∀ n i, l.length - i = n → i ≤ l.length → ∃ k, wageofficeref22_Usable.l0 k l l1 (i : Int) = some (progD (ended l i) (l.drop i) l1) := by
  intro n
  induction n with
  | zero =>
    intro i hN hi
    obtain ⟨k, hk⟩ := use_l1 l1 hl1 l1.length 0 (by omega) (by omega)
    refine ⟨k + 1, ?_⟩
    rw [wageofficeref22_Usable.l0, if_neg (by omega), List.drop_eq_nil_of_le (by omega), progD, prog_ref]; exact hk
  | succ n ih =>
    intro i hN hi
    have hlt : i < l.length := by omega
    have E2 := Lib.hid (show wrap64 ((i : Int) + 1) = ((i + 1 : Nat) : Int) by simp only [wrap64]; omega)
    obtain ⟨k, hk⟩ := ih (i + 1) (by omega) hlt
    have ee : ended l (i + 1) = l[i].f1 := by unfold ended; rw [if_neg (by omega), Nat.add_sub_cancel, rd48_eq hlt]
    rw [ee] at hk
    rw [List.drop_eq_getElem_cons hlt, progD]
    by_cases hv : okS l[i]
    · rw [if_pos hv]
      by_cases h0 : 0 < i
      · have E1 := Lib.hid (show wrap64 ((i : Int) - 1) = ((i - 1 : Nat) : Int) by simp only [wrap64]; omega)
        have e0 : ended l i = (rd_T48 l ((i - 1 : Nat) : Int)).f1 := by unfold ended; rw [if_neg (by omega)]
        rw [e0]
        by_cases hc : l[i].f0 < (rd_T48 l ((i - 1 : Nat) : Int)).f1
        · refine ⟨1, ?_⟩
          rw [wageofficeref22_Usable.l0, if_pos (by omega), if_pos (by omega), rd48_eq hlt, valid_r, decide_eq_true hv, Option.bind_some, if_pos rfl, if_pos (by omega), E1.out, if_pos (by omega), if_pos (by omega), if_pos hc, if_pos hc]
        · refine ⟨k + 1, ?_⟩
          rw [wageofficeref22_Usable.l0, if_pos (by omega), if_pos (by omega), rd48_eq hlt, valid_r, decide_eq_true hv, Option.bind_some, if_pos rfl, if_pos (by omega), E1.out, if_pos (by omega), if_pos (by omega), if_neg hc, if_neg hc, E2.out]
          exact hk
      · have hz : ended l i = 0 := by unfold ended; rw [if_pos (by omega)]
        have hv0 := hv.1
        refine ⟨k + 1, ?_⟩
        rw [hz, if_neg (by omega), wageofficeref22_Usable.l0, if_pos (by omega), if_pos (by omega), rd48_eq hlt, valid_r, decide_eq_true hv, Option.bind_some, if_pos rfl, if_neg (by omega), E2.out]
        exact hk
    · refine ⟨1, ?_⟩
      rw [wageofficeref22_Usable.l0, if_pos (by omega), if_pos (by omega), rd48_eq hlt, valid_r, decide_eq_false hv, Option.bind_some, if_neg (by simp), if_neg hv]
theorem use_code (l0 : List S48) (l1 : List S45) (h0 : l0.length ≤ 26) (h1 : l1.length ≤ 62) : ∃ k, wageofficeref22_Usable.f k l0 l1 = some (code l0 l1) := by
  unfold wageofficeref22_Usable.f code
  by_cases a0 : l0.length > 24
  · have c1 : (l0.length : Int) > 24 := by omega
    exact ⟨1, by rw [if_pos c1, if_pos (Or.inl a0), wageofficeref22_Usable.j0, if_pos rfl]⟩
  · have c1 : ¬ (l0.length : Int) > 24 := by omega
    simp only [if_neg c1]
    by_cases a1 : l1.length > 60
    · exact ⟨1, by rw [decide_eq_true (show (l1.length : Int) > 60 by omega), wageofficeref22_Usable.j0, if_pos rfl, if_pos (Or.inr a1)]⟩
    · have c2 : ¬ (l0.length > 24 ∨ l1.length > 60) := by omega
      obtain ⟨k, hk⟩ := use_l0 l1 h1 l0 h0 l0.length 0 (by omega) (by omega)
      refine ⟨k + 1, ?_⟩
      rw [if_neg c2, decide_eq_false (show ¬ (l1.length : Int) > 60 by omega), wageofficeref22_Usable.j0, if_neg (by simp)]
      exact hk
theorem code_usable (l0 : List S48) (l1 : List S45) (h0 : l0.length ≤ 26) (h1 : l1.length ≤ 62) : code l0 l1 = 0 ↔ Usable l0 l1 := by
  constructor
  · intro h
    obtain ⟨k1, hk1⟩ := use_code l0 l1 h0 h1
    obtain ⟨k2, c, hk2, hc⟩ := ref_f l0 l1 h0 h1
    have e1 := upto (g := fun k => wageofficeref22_Usable.f k l0 l1) (wageofficeref22_Usable.mono l0 l1) hk1 (k1 + k2) (by omega)
    have e2 := upto (g := fun k => wageofficeref22_Usable.f k l0 l1) (wageofficeref22_Usable.mono l0 l1) hk2 (k1 + k2) (by omega)
    rw [e1] at e2
    exact hc (by rw [← Option.some.inj e2]; exact h)
  · intro h
    obtain ⟨k, hk⟩ := check_f l0 l1 h
    have e := check_code l0 l1 h0 h1
    have e1 := upto (g := fun k => punches_check.f k l0 l1) (punches_check.mono l0 l1) hk (k + 1000) (by omega)
    have e2 := upto (g := fun k => punches_check.f k l0 l1) (punches_check.mono l0 l1) e (k + 1000) (by omega)
    rw [e1] at e2
    exact (Option.some.inj e2).symm
end Go.Proofs.Ytpbamfoaoeicgaa.PAll

/- PunchesDays answers true. -/
import Derived.Test.YtpbamfoaoeicgaaPAllx15
import Derived.Test.YtpbamfoaoeicgaaPureMv
set_option linter.unusedVariables false
set_option linter.unusedSimpArgs false
namespace Go.Proofs.Ytpbamfoaoeicgaa.PAll
open Go Go.RowKit Go.Proofs.YtpbamfoaoeicgaaW.PrintWords Go.Proofs.YtpbamfoaoeicgaaW.PrintLast Go.Proofs.YtpbamfoaoeicgaaW.PrintMore

theorem Ali.join {A : List S68} {P : List S45} {c : Int} (h : Ali A P c) {B : List S68} {Q : List S45} {d : Int} (g : Ali B Q d) : Ali (A ++ B) (P ++ Q) (c + d) := by
  induction h with
  | nil => simpa using g
  | @both m q ms ps c h ih => have := ih.both (m := m) (p := q); rw [show cst m q + c + d = cst m q + (c + d) by omega]; exact this
  | @lost m ms ps c h ih => have := ih.lost (m := m); rw [show 120 + c + d = 120 + (c + d) by omega]; exact this
  | @extra q ms ps c h ih => have := ih.extra (p := q); rw [show 120 + c + d = 120 + (c + d) by omega]; exact this
theorem Ali.part {ms : List S68} {ps : List S45} {c : Int} (h : Ali ms ps c) : ∀ (A B : List S68) (P Q : List S45), ms = A ++ B → ps = P ++ Q → (∀ m ∈ A, ∀ p ∈ Q, 240 ≤ cst m p) → (∀ m ∈ B, ∀ p ∈ P, 240 ≤ cst m p) → ∃ c1 c2, c1 + c2 ≤ c ∧ Ali A P c1 ∧ Ali B Q c2 := by
  induction h with
  | nil =>
    intro A B P Q e1 e2 _ _
    obtain ⟨rfl, rfl⟩ := List.append_eq_nil_iff.1 e1.symm
    obtain ⟨rfl, rfl⟩ := List.append_eq_nil_iff.1 e2.symm
    exact ⟨0, 0, by omega, .nil, .nil⟩
  | @both m q ms ps c h ih =>
    intro A B P Q e1 e2 g1 g2
    cases A with
    | nil =>
      simp only [List.nil_append] at e1; subst e1
      cases P with
      | nil =>
        simp only [List.nil_append] at e2; subst e2
        obtain ⟨c1, c2, hc, h1, h2⟩ := ih [] ms [] ps rfl rfl (by simp) (by simp)
        exact ⟨c1, cst m q + c2, by omega, h1, h2.both⟩
      | cons p P =>
        simp only [List.cons_append, List.cons.injEq] at e2
        obtain ⟨rfl, rfl⟩ := e2
        obtain ⟨c1, c2, hc, h1, h2⟩ := ih [] ms P Q rfl rfl (by simp) (fun m' hm p' hp => g2 m' (by simp [hm]) p' (by simp [hp]))
        have := g2 m (by simp) q (by simp)
        exact ⟨120 + c1, 120 + c2, by omega, h1.extra, h2.lost⟩
    | cons a A =>
      simp only [List.cons_append, List.cons.injEq] at e1
      obtain ⟨rfl, rfl⟩ := e1
      cases P with
      | nil =>
        simp only [List.nil_append] at e2; subst e2
        obtain ⟨c1, c2, hc, h1, h2⟩ := ih A B [] ps rfl rfl (fun m' hm p' hp => g1 m' (by simp [hm]) p' (by simp [hp])) (by simp)
        have := g1 m (by simp) q (by simp)
        exact ⟨120 + c1, 120 + c2, by omega, h1.lost, h2.extra⟩
      | cons p P =>
        simp only [List.cons_append, List.cons.injEq] at e2
        obtain ⟨rfl, rfl⟩ := e2
        obtain ⟨c1, c2, hc, h1, h2⟩ := ih A B P Q rfl rfl (fun m' hm p' hp => g1 m' (by simp [hm]) p' hp) (fun m' hm p' hp => g2 m' hm p' (by simp [hp]))
        exact ⟨cst m q + c1, c2, by omega, h1.both, h2⟩
  | @lost m ms ps c h ih =>
    intro A B P Q e1 e2 g1 g2
    cases A with
    | nil =>
      simp only [List.nil_append] at e1; subst e1
      obtain ⟨c1, c2, hc, h1, h2⟩ := ih [] ms P Q rfl e2 (by simp) (fun m' hm p' hp => g2 m' (by simp [hm]) p' hp)
      exact ⟨c1, 120 + c2, by omega, h1, h2.lost⟩
    | cons a A =>
      simp only [List.cons_append, List.cons.injEq] at e1
      obtain ⟨rfl, rfl⟩ := e1
      obtain ⟨c1, c2, hc, h1, h2⟩ := ih A B P Q rfl e2 (fun m' hm p' hp => g1 m' (by simp [hm]) p' hp) g2
      exact ⟨120 + c1, c2, by omega, h1.lost, h2⟩
  | @extra q ms ps c h ih =>
    intro A B P Q e1 e2 g1 g2
    cases P with
    | nil =>
      simp only [List.nil_append] at e2; subst e2
      obtain ⟨c1, c2, hc, h1, h2⟩ := ih A B [] ps e1 rfl (fun m' hm p' hp => g1 m' hm p' (by simp [hp])) (by simp)
      exact ⟨c1, 120 + c2, by omega, h1, h2.extra⟩
    | cons p P =>
      simp only [List.cons_append, List.cons.injEq] at e2
      obtain ⟨rfl, rfl⟩ := e2
      obtain ⟨c1, c2, hc, h1, h2⟩ := ih A B P Q e1 rfl g1 (fun m' hm p' hp => g2 m' hm p' (by simp [hp]))
      exact ⟨120 + c1, c2, by omega, h1.extra, h2⟩
theorem ed_join (A B : List S68) (P Q : List S45) (g1 : ∀ m ∈ A, ∀ p ∈ Q, 240 ≤ cst m p) (g2 : ∀ m ∈ B, ∀ p ∈ P, 240 ≤ cst m p) : ed (A ++ B) (P ++ Q) = ed A P + ed B Q := by
  have h1 := ((Ali.least A P).join (Ali.least B Q)).le
  obtain ⟨c1, c2, hc, a1, a2⟩ := (Ali.least (A ++ B) (P ++ Q)).part A B P Q rfl rfl g1 g2
  have := a1.le
  have := a2.le
  omega
/-- what a mark's cost reads -/
theorem ed_keys {ms ms' : List S68} (h : ms.map (fun m => (m.f1, m.f2)) = ms'.map (fun m => (m.f1, m.f2))) : ∀ ps, ed ms ps = ed ms' ps := by
  intro ps
  have key : ∀ (ms ms' : List S68), ms.map (fun m => (m.f1, m.f2)) = ms'.map (fun m => (m.f1, m.f2)) → ∀ c, Ali ms ps c → Ali ms' ps c := by
    intro ms ms' h c hA
    induction hA generalizing ms' with
    | nil => cases ms' <;> simp at h; exact .nil
    | @both a q ms ps c hA ih =>
      cases ms' with
      | nil => simp at h
      | cons b r =>
        simp only [List.map_cons, List.cons.injEq, Prod.mk.injEq] at h
        have e : cst a q = cst b q := by unfold cst; rw [h.1.1, h.1.2]
        rw [e]; exact (ih r h.2).both
    | @lost a ms ps c hA ih =>
      cases ms' with
      | nil => simp at h
      | cons b r =>
        simp only [List.map_cons, List.cons.injEq] at h
        exact (ih r h.2).lost
    | @extra q ms ps c hA ih => exact (ih ms' h).extra
  have h1 := (key ms ms' h _ (Ali.least ms ps)).le
  have h2 := (key ms' ms h.symm _ (Ali.least ms' ps)).le
  omega
theorem keys_of : ∀ (l : List S48) (i : Nat), (mkl i l).map (fun m => (m.f1, m.f2)) = l.flatMap (fun s => [(true, s.f0), (false, s.f1)])
  | [], _ => rfl
  | s :: r, i => by simp [mkl, keys_of r (i + 1)]
theorem mkl_at : ∀ (l : List S48) (i : Nat), ∀ x ∈ mkl i l, ∃ s ∈ l, x.f2 = s.f0 ∨ x.f2 = s.f1
  | [], _ => by simp [mkl]
  | s :: r, i => by
    intro x hx
    simp only [mkl, List.mem_cons] at hx
    rcases hx with rfl | rfl | hx
    · exact ⟨s, by simp, .inl rfl⟩
    · exact ⟨s, by simp, .inr rfl⟩
    · obtain ⟨t, ht, h⟩ := mkl_at r (i + 1) x hx
      exact ⟨t, by simp [ht], h⟩
theorem okS_all {l : List S48} {e : Int} (h : okFrom e l) : ∀ s ∈ l, okS s := fun s hs => by
  obtain ⟨i, hi, rfl⟩ := List.getElem_of_mem hs
  exact (okFrom_get l e h).1 i hi
theorem okP_all {l : List S45} {e : Int} (h : okP e l) : ∀ s ∈ l, 0 ≤ s.f0 ∧ s.f0 ≤ 52596000 := fun s hs => by
  obtain ⟨i, hi, rfl⟩ := List.getElem_of_mem hs
  exact (okP_get l e h).1 i hi
theorem days_ed {l0 l2 : List S48} {l1 l3 : List S45} (h : Usable l0 l1) (g : Usable l2 l3) (last : Int) (h0 : ∀ s ∈ l0, s.f1 ≤ last) (h1 : ∀ p ∈ l1, p.f0 ≤ last) : ed (marksOf (l0 ++ l2.map (mvD (last + 241)))) (l1 ++ l3.map (mvP (last + 241))) = ed (marksOf l0) l1 + ed (marksOf l2) l3 := by
  have ek : (marksOf (l0 ++ l2.map (mvD (last + 241)))).map (fun m => (m.f1, m.f2)) = (marksOf l0 ++ (marksOf l2).map (mvM (last + 241))).map (fun m => (m.f1, m.f2)) := by
    have e : (marksOf l2).map (mvM (last + 241)) = mkl 0 (l2.map (mvD (last + 241))) := (marks_mv _ l2 0).symm
    rw [e]
    unfold marksOf
    rw [keys_of, List.map_append, keys_of, keys_of, List.flatMap_append]
  rw [ed_keys ek, ed_join, ed_mv]
  · intro m hm q hq
    obtain ⟨s, hs, e⟩ := mkl_at l0 0 m hm
    obtain ⟨p, hp, rfl⟩ := List.mem_map.1 hq
    have k1 := okS_all h.2.2.1 s hs
    have k2 := okP_all g.2.2.2 p hp
    have k3 := h0 s hs
    unfold okS at k1
    unfold cst mvP
    simp only
    split <;> split <;> omega
  · intro m hm p hp
    obtain ⟨m', hm', rfl⟩ := List.mem_map.1 hm
    obtain ⟨s, hs, e⟩ := mkl_at l2 0 m' hm'
    have k1 := okS_all g.2.2.1 s hs
    have k3 := h1 p hp
    unfold okS at k1
    unfold cst mvM
    simp only
    split <;> split <;> omega
theorem days_l1 (l0 l2 : List S48) (l1 l3 : List S45) (h : Usable l0 l1) (g : Usable l2 l3) : ∀ n i (last : Int), l1.length - i ≤ n → i ≤ l1.length → 0 ≤ last → last ≤ 52596000 → (∀ s ∈ l0, s.f1 ≤ last) → (∀ p ∈ l1.take i, p.f0 ≤ last) → ∃ k, wageofficelaw22_PunchesDays.l1 k l0 l1 l2 l3 true last l1 (l1.length : Int) (i : Int) = some true := by
  have hl0 := h.1
  have hl1 := h.2.1
  have hl2 := g.1
  have hl3 := g.2.1
  intro n
  have fin : ∀ i (last : Int), i = l1.length → 0 ≤ last → last ≤ 52596000 → (∀ s ∈ l0, s.f1 ≤ last) → (∀ p ∈ l1.take i, p.f0 ≤ last) → ∃ k, wageofficelaw22_PunchesDays.l1 k l0 l1 l2 l3 true last l1 (l1.length : Int) (i : Int) = some true := by
    intro i last hi b0 b1 hs hp
    rw [hi, List.take_length] at hp
    obtain ⟨k2, hk2⟩ := moved_f g (last + 241) (by omega)
    obtain ⟨k3, c, hk3, hc⟩ := use_f (l0 ++ l2.map (mvD (last + 241))) (l1 ++ l3.map (mvP (last + 241)))
    refine ⟨k2 + k3 + 1, ?_⟩
    rw [wageofficelaw22_PunchesDays.l1, if_neg (by omega), show wrap64 (last + 241) = last + 241 by simp only [wrap64]; omega, hk2 _ (by omega)]
    simp only [Option.bind_some, List.nil_append, List.length_nil, List.length_map]
    rw [if_pos (by omega), if_pos (by omega), if_pos (by omega), if_pos (by omega), um _ _ hk3 _ (by omega)]
    cases c with
    | false => simp
    | true =>
      have hv := hc rfl
      have e := days_ed h g last hs hp
      have r1 := ed_range h
      have r2 := ed_range g
      simp only [Option.bind_some, if_true]
      rw [pair_ed h, pair_ed g, pair_ed hv, e]
      simp only [Option.bind_some, if_true]
      rw [show wrap64 (ed (marksOf l0) l1 + ed (marksOf l2) l3) = ed (marksOf l0) l1 + ed (marksOf l2) l3 by simp only [wrap64]; omega]
      simp
  induction n with
  | zero => intro i last hn hi b0 b1 hs hp; exact fin i last (by omega) b0 b1 hs hp
  | succ n ih =>
    intro i last hn hi b0 b1 hs hp
    by_cases hlt : i < l1.length
    · have kp := okP_all h.2.2.2 l1[i] (List.getElem_mem hlt)
      have e : mx last l1[i].f0 = max last l1[i].f0 := by unfold mx; omega
      obtain ⟨k, hk⟩ := ih (i + 1) (max last l1[i].f0) (by omega) hlt (by omega) (by omega) (fun s hs' => by have := hs s hs'; omega) (fun p hp' => by
        rw [List.take_succ_eq_append_getElem hlt, List.mem_append, List.mem_singleton] at hp'
        rcases hp' with hp' | rfl
        · have := hp p hp'; omega
        · omega)
      refine ⟨k + 1, ?_⟩
      rw [wageofficelaw22_PunchesDays.l1, if_pos (by omega), if_pos (by omega), if_pos (by omega), rd45_eq hlt, e, show wrap64 ((i : Int) + 1) = ((i + 1 : Nat) : Int) by simp only [wrap64]; omega]
      exact hk
    · exact fin i last (by omega) b0 b1 hs hp
theorem days_l0 (l0 l2 : List S48) (l1 l3 : List S45) (h : Usable l0 l1) (g : Usable l2 l3) : ∀ n i (last : Int), l0.length - i ≤ n → i ≤ l0.length → 0 ≤ last → last ≤ 52596000 → (∀ s ∈ l0.take i, s.f1 ≤ last) → ∃ k, wageofficelaw22_PunchesDays.l0 k l0 l1 l2 l3 true last l0 (l0.length : Int) (i : Int) = some true := by
  have hl0 := h.1
  intro n
  have fin : ∀ i (last : Int), i = l0.length → 0 ≤ last → last ≤ 52596000 → (∀ s ∈ l0.take i, s.f1 ≤ last) → ∃ k, wageofficelaw22_PunchesDays.l0 k l0 l1 l2 l3 true last l0 (l0.length : Int) (i : Int) = some true := by
    intro i last hi b0 b1 hs
    rw [hi, List.take_length] at hs
    obtain ⟨k, hk⟩ := days_l1 l0 l2 l1 l3 h g l1.length 0 last (by omega) (by omega) b0 b1 hs (by simp)
    refine ⟨k + 1, ?_⟩
    rw [wageofficelaw22_PunchesDays.l0, if_neg (by omega)]
    exact hk
  induction n with
  | zero => intro i last hn hi b0 b1 hs; exact fin i last (by omega) b0 b1 hs
  | succ n ih =>
    intro i last hn hi b0 b1 hs
    by_cases hlt : i < l0.length
    · have kp := okS_all h.2.2.1 l0[i] (List.getElem_mem hlt)
      unfold okS at kp
      have e : mx last l0[i].f1 = max last l0[i].f1 := by unfold mx; omega
      obtain ⟨k, hk⟩ := ih (i + 1) (max last l0[i].f1) (by omega) hlt (by omega) (by omega) (fun p hp' => by
        rw [List.take_succ_eq_append_getElem hlt, List.mem_append, List.mem_singleton] at hp'
        rcases hp' with hp' | rfl
        · have := hs p hp'; omega
        · omega)
      refine ⟨k + 1, ?_⟩
      rw [wageofficelaw22_PunchesDays.l0, if_pos (by omega), if_pos (by omega), if_pos (by omega), rd48_eq hlt, e, show wrap64 ((i : Int) + 1) = ((i + 1 : Nat) : Int) by simp only [wrap64]; omega]
      exact hk
    · exact fin i last (by omega) b0 b1 hs
theorem days_pure (l0 : List S48) (l1 : List S45) (l2 : List S48) (l3 : List S45) : ∃ k, wageofficelaw22_PunchesDays.f k l0 l1 l2 l3 = some true := by
  obtain ⟨k1, b, hk1, hb⟩ := use_f l0 l1
  obtain ⟨k2, c, hk2, hc⟩ := use_f l2 l3
  cases b with
  | false =>
    refine ⟨k1 + 1, ?_⟩
    unfold wageofficelaw22_PunchesDays.f
    rw [um _ _ hk1 _ (by omega)]
    simp [wageofficelaw22_head.f, wageofficelaw22_PunchesDays.j0]
  | true =>
    cases c with
    | false =>
      refine ⟨k1 + k2 + 1, ?_⟩
      unfold wageofficelaw22_PunchesDays.f
      rw [um _ _ hk1 _ (by omega), um _ _ hk2 _ (by omega)]
      simp [wageofficelaw22_head.f, wageofficelaw22_PunchesDays.j0]
    | true =>
      obtain ⟨k3, hk3⟩ := days_l0 l0 l2 l1 l3 (hb rfl) (hc rfl) l0.length 0 0 (by omega) (by omega) (by omega) (by omega) (by simp)
      have up := upto (g := fun k => wageofficelaw22_PunchesDays.l0 k l0 l1 l2 l3 true 0 l0 (l0.length : Int) 0) (fun k => (wageofficelaw22_PunchesDays.mono_l k).2.1 _ _ _ _ _ _ _ _ _) hk3 (k1 + k2 + k3) (by omega)
      refine ⟨k1 + k2 + k3 + 1, ?_⟩
      unfold wageofficelaw22_PunchesDays.f
      rw [um _ _ hk1 _ (by omega), um _ _ hk2 _ (by omega)]
      simp only [wageofficelaw22_head.f, Option.bind_some, if_true, wageofficelaw22_PunchesDays.j0, Bool.not_true, Bool.false_eq_true, if_false]
      exact up
end Go.Proofs.Ytpbamfoaoeicgaa.PAll

/- The reference's Aligned answers as 'ral' tells; it tells what the program's aligned tells. -/
import Derived.Test.YtpbamfoaoeicgaaQMt10a
import Derived.Test.YtpbamfoaoeicgaaQRefAl0
import Derived.Test.YtpbamfoaoeicgaaQWkM
import Derived.Test.YtpbamfoaoeicgaaQPureWk
set_option linter.unusedVariables false
set_option linter.unusedSimpArgs false
namespace Go.Proofs.Ytpbamfoaoeicgaa.PAll
open Go Go.RowKit Go.Proofs.YtpbamfoaoeicgaaW.PrintWords Go.Proofs.YtpbamfoaoeicgaaW.PrintLast Go.Proofs.YtpbamfoaoeicgaaW.PrintMore

def badA (m : S57) : Prop := (m.f0 < 0 ∧ m.f2 < 0) ∨ m.f0 < -1 ∨ m.f2 < -1 ∨ (m.f0 = -1 ∧ m.f1 = true)
instance (m : S57) : Decidable (badA m) := by unfold badA; infer_instance
theorem al57_eq {l : List S57} {i : Nat} (h : i < l.length) : rd_T57 l (i : Int) = l[i] := by simp [rd_T57, List.getD_eq_getElem?_getD, h]
theorem al_first (l1 : List S45) (L : List S57) (ms : List S43) (a b c : Int) (k : Nat) (hk : k < L.length) (K : Nat) : rAl.l0 (K + 1) l1 L ms a b c (k : Int) = rAl.j1 K l1 L ms a b c (k : Int) (decide (badA L[k])) L[k].f0 L[k].f1 L[k].f2 := by
  rw [rAl.l0, if_pos (by omega), if_pos (by omega), al57_eq hk]
  generalize L[k] = m
  obtain ⟨m0, m1, m2⟩ := m
  simp only
  by_cases h0 : m0 < 0
  · rw [if_pos h0]
    by_cases h1 : m2 < 0
    · rw [if_pos h1, decide_eq_true (show badA ⟨m0, m1, m2⟩ from Or.inl ⟨h0, h1⟩)]
    · rw [if_neg h1]
      by_cases h2 : m0 < -1
      · rw [if_pos h2, decide_eq_true (show badA ⟨m0, m1, m2⟩ from Or.inr (Or.inl h2))]
      · rw [if_neg h2, if_neg (by omega), if_pos (by omega)]
        cases m1 with
        | true => rw [decide_eq_true (show badA ⟨m0, true, m2⟩ from Or.inr (Or.inr (Or.inr ⟨by simp only; omega, rfl⟩)))]
        | false => rw [decide_eq_false (show ¬ badA ⟨m0, false, m2⟩ by unfold badA; simp only [Bool.false_eq_true, and_false, or_false]; omega)]
  · rw [if_neg h0, if_neg (by omega)]
    by_cases h3 : m2 < -1
    · rw [if_pos h3, decide_eq_true (show badA ⟨m0, m1, m2⟩ from Or.inr (Or.inr (Or.inl h3)))]
    · rw [if_neg h3, if_neg (by omega), decide_eq_false (show ¬ badA ⟨m0, m1, m2⟩ by unfold badA; simp only; omega)]
/-- the loop -/
theorem al_loop (ms : List S68) (l1 : List S45) (L : List S57) (hn : Near ms l1) (hm : ms.length ≤ 48) (hl1 : l1.length ≤ 60) (hL : L.length ≤ 200) : ∀ n k i j (c : Int), L.length - k = n → k ≤ L.length → i ≤ ms.length → j ≤ l1.length → CB c k → ∃ K, rAl.l0 K l1 L (ms.map to43) (i : Int) (j : Int) c (k : Int) = some (ral ms l1 i j c (L.drop k)) := by
  have hml : (ms.map to43).length = ms.length := List.length_map _
  intro n
  induction n with
  | zero =>
    intro k i j c hN hk hi hj hc
    rw [List.drop_eq_nil_of_le (by omega), ral]
    refine ⟨1, ?_⟩
    rw [rAl.l0, if_neg (by omega)]
    by_cases q1 : i = ms.length
    · rw [if_pos (by omega), decide_eq_true q1]
      by_cases q2 : j = l1.length
      · rw [decide_eq_true q2]; simp [q2]
      · rw [decide_eq_false q2]; simp; omega
    · rw [if_neg (by omega), decide_eq_false q1]; rfl
  | succ n ih =>
    intro k i j c hN hk hi hj hc
    have hlt : k < L.length := by omega
    have e1 := Lib.hid (show wrap64 ((i : Int) + 1) = ((i + 1 : Nat) : Int) by simp only [wrap64]; omega)
    have e2 := Lib.hid (show wrap64 ((j : Int) + 1) = ((j + 1 : Nat) : Int) by simp only [wrap64]; omega)
    have e3 := Lib.hid (show wrap64 ((k : Int) + 1) = ((k + 1 : Nat) : Int) by simp only [wrap64]; omega)
    have e4 := Lib.hid (hc.wrap (t := 120) hlt hL (by omega) (by omega))
    rw [List.drop_eq_getElem_cons hlt]
    have first := al_first l1 L (ms.map to43) (i : Int) (j : Int) c k hlt
    generalize hmk : L[k] = m at first ⊢
    by_cases hb : badA m
    · refine ⟨1 + 1, ?_⟩
      rw [first, decide_eq_true hb, rAl.j1, if_pos rfl]
      unfold badA at hb
      unfold ral
      rw [if_neg (by omega), if_neg (by omega), if_neg ?_]
      rintro ⟨h1, h2, h3⟩
      rw [h2] at hb
      simp only [Bool.false_eq_true, and_false, or_false] at hb
      omega
    · obtain ⟨m0, m1, m2⟩ := m
      have hb' : ¬ (m0 < 0 ∧ m2 < 0) ∧ ¬ m0 < -1 ∧ ¬ m2 < -1 ∧ ¬ (m0 = -1 ∧ m1 = true) := by
        unfold badA at hb
        simp only at hb
        exact ⟨fun h => hb (.inl h), fun h => hb (.inr (.inl h)), fun h => hb (.inr (.inr (.inl h))), fun h => hb (.inr (.inr (.inr h)))⟩
      obtain ⟨g1, g2, g3, g4⟩ := hb'
      unfold ral
      by_cases p0 : 0 ≤ m0
      · -- a mark
        by_cases hil : i < ms.length
        · have er : rd_T43 (ms.map to43) (i : Int) = to43 (rd_T68 ms (i : Int)) := rd43_eq ms hil
          by_cases q0 : m0 = (rd_T68 ms (i : Int)).f0
          · by_cases q1 : m1 = (rd_T68 ms (i : Int)).f1
            · have qb : (m1 != (rd_T68 ms (i : Int)).f1) = false := by simpa using q1
              by_cases p2 : 0 ≤ m2
              · rw [if_pos ⟨p0, p2⟩]
                by_cases q2 : m2 = (j : Int)
                · have q2b : (m2 != (j : Int)) = false := by simpa using q2
                  by_cases q3 : j < l1.length
                  · have hx := hn.1 _ (show rd_T68 ms (i : Int) ∈ ms by rw [rd68_eq hil]; exact List.getElem_mem hil)
                    have hy := hn.2 _ (show rd_T45 l1 (j : Int) ∈ l1 by rw [rd45_eq q3]; exact List.getElem_mem q3)
                    have hcc := ref_cost _ _ hx hy
                    have c0 := cst_nonneg (rd_T68 ms (i : Int)) (rd_T45 l1 (j : Int))
                    have c1 : cst (rd_T68 ms (i : Int)) (rd_T45 l1 (j : Int)) ≤ 52596061 := by unfold cst; split <;> split <;> omega
                    have e5 := Lib.hid (hc.wrap (t := cst (rd_T68 ms (i : Int)) (rd_T45 l1 (j : Int))) hlt hL c0 c1)
                    obtain ⟨K, hK⟩ := ih (k + 1) (i + 1) (j + 1) _ (by omega) hlt hil q3 (hc.step (t := cst (rd_T68 ms (i : Int)) (rd_T45 l1 (j : Int))) hlt hL c0 c1)
                    refine ⟨K + 1 + 1 + 1 + 1 + 1 + 1, ?_⟩
                    rw [if_pos ⟨hil, q0, q1, q2, q3⟩, first, decide_eq_false hb, rAl.j1, if_neg (by simp), if_pos p0, if_neg (by omega), if_pos (by omega), if_pos (by omega), er]
                    simp only [to43]
                    rw [if_pos q0, qb, if_neg (by simp), if_pos p2, q2b, rAl.j2, if_neg (by simp), if_pos p2, decide_eq_false (by omega), rAl.j3, if_neg (by simp), if_pos p0, decide_eq_true p2, rAl.j4, if_pos rfl, if_pos (by omega), if_pos (by omega), if_pos (by omega), if_pos (by omega), er]
                    simp only [to43, hcc, Option.bind_some]
                    rw [e5.out, rAl.j5, if_pos p0, if_pos p2, e1.out, e2.out, e3.out]
                    exact hK
                  · refine ⟨1 + 1 + 1 + 1, ?_⟩
                    rw [if_neg (fun h => q3 h.2.2.2.2), first, decide_eq_false hb, rAl.j1, if_neg (by simp), if_pos p0, if_neg (by omega), if_pos (by omega), if_pos (by omega), er]
                    simp only [to43]
                    rw [if_pos q0, qb, if_neg (by simp), if_pos p2, q2b, rAl.j2, if_neg (by simp), if_pos p2, decide_eq_true (by omega), rAl.j3, if_pos rfl]
                · have q2b : (m2 != (j : Int)) = true := by simpa using q2
                  refine ⟨1 + 1 + 1, ?_⟩
                  rw [if_neg (fun h => q2 h.2.2.2.1), first, decide_eq_false hb, rAl.j1, if_neg (by simp), if_pos p0, if_neg (by omega), if_pos (by omega), if_pos (by omega), er]
                  simp only [to43]
                  rw [if_pos q0, qb, if_neg (by simp), if_pos p2, q2b, rAl.j2, if_pos rfl]
              · obtain ⟨K, hK⟩ := ih (k + 1) (i + 1) j _ (by omega) hlt hil hj (hc.step (t := 120) hlt hL (by omega) (by omega))
                have em2 : m2 = -1 := by omega
                refine ⟨K + 1 + 1 + 1 + 1 + 1 + 1, ?_⟩
                rw [if_neg (fun h => p2 h.2), if_pos ⟨p0, em2⟩, if_pos ⟨hil, q0, q1⟩, first, decide_eq_false hb, rAl.j1, if_neg (by simp), if_pos p0, if_neg (by omega), if_pos (by omega), if_pos (by omega), er]
                simp only [to43]
                rw [if_pos q0, qb, if_neg (by simp), if_neg p2, rAl.j2, if_neg (by simp), if_neg p2, rAl.j3, if_neg (by simp), if_pos p0, decide_eq_false p2, rAl.j4, if_neg (by simp), e4.out, rAl.j5, if_pos p0, if_neg p2, e1.out, e3.out]
                exact hK
            · have qb : (m1 != (rd_T68 ms (i : Int)).f1) = true := by simpa using q1
              have hv : (if 0 ≤ m0 ∧ 0 ≤ m2 then (if i < ms.length ∧ m0 = (rd_T68 ms (i : Int)).f0 ∧ m1 = (rd_T68 ms (i : Int)).f1 ∧ m2 = (j : Int) ∧ j < l1.length then ral ms l1 (i + 1) (j + 1) (c + cst (rd_T68 ms (i : Int)) (rd_T45 l1 (j : Int))) (L.drop (k + 1)) else (0, false)) else if 0 ≤ m0 ∧ m2 = -1 then (if i < ms.length ∧ m0 = (rd_T68 ms (i : Int)).f0 ∧ m1 = (rd_T68 ms (i : Int)).f1 then ral ms l1 (i + 1) j (c + 120) (L.drop (k + 1)) else (0, false)) else if m0 = -1 ∧ m1 = false ∧ 0 ≤ m2 then (if m2 = (j : Int) ∧ j < l1.length then ral ms l1 i (j + 1) (c + 120) (L.drop (k + 1)) else (0, false)) else (0, false)) = ((0 : Int), false) := by
                by_cases p2 : 0 ≤ m2
                · rw [if_pos ⟨p0, p2⟩, if_neg (fun h => q1 h.2.2.1)]
                · rw [if_neg (fun h => p2 h.2), if_pos ⟨p0, by omega⟩, if_neg (fun h => q1 h.2.2)]
              refine ⟨1 + 1 + 1, ?_⟩
              simp only
              rw [hv, first, decide_eq_false hb, rAl.j1, if_neg (by simp), if_pos p0, if_neg (by omega), if_pos (by omega), if_pos (by omega), er]
              simp only [to43]
              rw [if_pos q0, qb, if_pos rfl, rAl.j2, if_pos rfl]
          · have hv : (if 0 ≤ m0 ∧ 0 ≤ m2 then (if i < ms.length ∧ m0 = (rd_T68 ms (i : Int)).f0 ∧ m1 = (rd_T68 ms (i : Int)).f1 ∧ m2 = (j : Int) ∧ j < l1.length then ral ms l1 (i + 1) (j + 1) (c + cst (rd_T68 ms (i : Int)) (rd_T45 l1 (j : Int))) (L.drop (k + 1)) else (0, false)) else if 0 ≤ m0 ∧ m2 = -1 then (if i < ms.length ∧ m0 = (rd_T68 ms (i : Int)).f0 ∧ m1 = (rd_T68 ms (i : Int)).f1 then ral ms l1 (i + 1) j (c + 120) (L.drop (k + 1)) else (0, false)) else if m0 = -1 ∧ m1 = false ∧ 0 ≤ m2 then (if m2 = (j : Int) ∧ j < l1.length then ral ms l1 i (j + 1) (c + 120) (L.drop (k + 1)) else (0, false)) else (0, false)) = ((0 : Int), false) := by
              by_cases p2 : 0 ≤ m2
              · rw [if_pos ⟨p0, p2⟩, if_neg (fun h => q0 h.2.1)]
              · rw [if_neg (fun h => p2 h.2), if_pos ⟨p0, by omega⟩, if_neg (fun h => q0 h.2.1)]
            refine ⟨1 + 1 + 1, ?_⟩
            simp only
            rw [hv, first, decide_eq_false hb, rAl.j1, if_neg (by simp), if_pos p0, if_neg (by omega), if_pos (by omega), if_pos (by omega), er]
            simp only [to43]
            rw [if_neg q0, rAl.j2, if_pos rfl]
        · have hv : (if 0 ≤ m0 ∧ 0 ≤ m2 then (if i < ms.length ∧ m0 = (rd_T68 ms (i : Int)).f0 ∧ m1 = (rd_T68 ms (i : Int)).f1 ∧ m2 = (j : Int) ∧ j < l1.length then ral ms l1 (i + 1) (j + 1) (c + cst (rd_T68 ms (i : Int)) (rd_T45 l1 (j : Int))) (L.drop (k + 1)) else (0, false)) else if 0 ≤ m0 ∧ m2 = -1 then (if i < ms.length ∧ m0 = (rd_T68 ms (i : Int)).f0 ∧ m1 = (rd_T68 ms (i : Int)).f1 then ral ms l1 (i + 1) j (c + 120) (L.drop (k + 1)) else (0, false)) else if m0 = -1 ∧ m1 = false ∧ 0 ≤ m2 then (if m2 = (j : Int) ∧ j < l1.length then ral ms l1 i (j + 1) (c + 120) (L.drop (k + 1)) else (0, false)) else (0, false)) = ((0 : Int), false) := by
            by_cases p2 : 0 ≤ m2
            · rw [if_pos ⟨p0, p2⟩, if_neg (fun h => hil h.1)]
            · rw [if_neg (fun h => p2 h.2), if_pos ⟨p0, by omega⟩, if_neg (fun h => hil h.1)]
          refine ⟨1 + 1 + 1, ?_⟩
          simp only
          rw [hv, first, decide_eq_false hb, rAl.j1, if_neg (by simp), if_pos p0, if_pos (by omega), rAl.j2, if_pos rfl]
      · -- a punch alone
        have em0 : m0 = -1 := by omega
        have p2 : 0 ≤ m2 := by omega
        have em1 : m1 = false := by
          cases m1 with
          | true => exact absurd ⟨em0, rfl⟩ g4
          | false => rfl
        rw [if_neg (fun h => p0 h.1), if_neg (fun h => p0 h.1), if_pos ⟨em0, em1, p2⟩]
        by_cases q2 : m2 = (j : Int)
        · have q2b : (m2 != (j : Int)) = false := by simpa using q2
          by_cases q3 : j < l1.length
          · obtain ⟨K, hK⟩ := ih (k + 1) i (j + 1) _ (by omega) hlt hi q3 (hc.step (t := 120) hlt hL (by omega) (by omega))
            refine ⟨K + 1 + 1 + 1 + 1 + 1 + 1, ?_⟩
            rw [if_pos ⟨q2, q3⟩, first, decide_eq_false hb, rAl.j1, if_neg (by simp), if_neg p0, if_pos p2, q2b, rAl.j2, if_neg (by simp), if_pos p2, decide_eq_false (by omega), rAl.j3, if_neg (by simp), if_neg p0, rAl.j4, if_neg (by simp), e4.out, rAl.j5, if_neg p0, if_pos p2, e2.out, e3.out]
            exact hK
          · refine ⟨1 + 1 + 1 + 1, ?_⟩
            rw [if_neg (fun h => q3 h.2), first, decide_eq_false hb, rAl.j1, if_neg (by simp), if_neg p0, if_pos p2, q2b, rAl.j2, if_neg (by simp), if_pos p2, decide_eq_true (by omega), rAl.j3, if_pos rfl]
        · have q2b : (m2 != (j : Int)) = true := by simpa using q2
          refine ⟨1 + 1 + 1, ?_⟩
          rw [if_neg (fun h => q2 h.1), first, decide_eq_false hb, rAl.j1, if_neg (by simp), if_neg p0, if_pos p2, q2b, rAl.j2, if_pos rfl]
theorem ral_pal (ms : List S68) (ps : List S45) (hp : ∀ x ∈ ms, 0 ≤ x.f0) : ∀ (L : List S57) (i j : Nat) (c : Int), i ≤ ms.length → j ≤ ps.length → (ral ms ps i j c L).2 = pal ms ps.length i j L
  | [], i, j, c, _, _ => rfl
  | m :: r, i, j, c, hi, hj => by
    obtain ⟨m0, m1, m2⟩ := m
    have pos : i < ms.length → 0 ≤ (rd_T68 ms (i : Int)).f0 := fun h => hp _ (by rw [rd68_eq h]; exact List.getElem_mem h)
    unfold ral pal
    simp only
    by_cases p0 : 0 ≤ m0
    · rw [if_neg (show ¬ m0 = -1 by omega)]
      by_cases hb : i < ms.length ∧ (rd_T68 ms (i : Int)).f0 = m0 ∧ (rd_T68 ms (i : Int)).f1 = m1
      · rw [if_pos hb]
        by_cases p2 : 0 ≤ m2
        · rw [if_pos ⟨p0, p2⟩, if_neg (show ¬ m2 = -1 by omega)]
          by_cases q : m2 = (j : Int) ∧ j < ps.length
          · rw [if_pos ⟨hb.1, hb.2.1.symm, hb.2.2.symm, q⟩, if_pos ⟨q.1, by omega⟩]
            exact ral_pal ms ps hp r _ _ _ (by omega) (by omega)
          · rw [if_neg (fun h => q h.2.2.2), if_neg (fun h => q ⟨h.1, by omega⟩)]
        · rw [if_neg (fun h => p2 h.2)]
          by_cases q : m2 = -1
          · rw [if_pos ⟨p0, q⟩, if_pos ⟨hb.1, hb.2.1.symm, hb.2.2.symm⟩, if_pos q]
            exact ral_pal ms ps hp r _ _ _ (by omega) hj
          · rw [if_neg (fun h => q h.2), if_neg (by omega), if_neg q, if_neg (by omega)]
      · rw [if_neg hb]
        split
        · rw [if_neg (fun h => hb ⟨h.1, h.2.1.symm, h.2.2.1.symm⟩)]
        · split
          · rw [if_neg (fun h => hb ⟨h.1, h.2.1.symm, h.2.2.symm⟩)]
          · rw [if_neg (by omega)]
    · rw [if_neg (fun h => p0 h.1), if_neg (fun h => p0 h.1)]
      by_cases e : m0 = -1
      · rw [if_pos e]
        by_cases q : m1 = false ∧ m2 = (j : Int) ∧ j < ps.length
        · rw [if_pos ⟨e, q.1, by omega⟩, if_pos ⟨q.2.1, q.2.2⟩, if_pos ⟨q.1, by omega, q.2.1, by omega⟩]
          exact ral_pal ms ps hp r _ _ _ hi (by omega)
        · rw [if_neg (show ¬ (m1 = false ∧ m2 ≠ -1 ∧ m2 = (j : Int) ∧ j ≠ ps.length) from fun h => q ⟨h.1, h.2.2.1, by omega⟩)]
          split
          · rename_i h1; rw [if_neg (fun h => q ⟨h1.2.1, h.1, h.2⟩)]
          · rfl
      · rw [if_neg e, if_neg (fun h => e h.1), if_neg (fun h => by have := pos h.1; omega)]
theorem refal_ok {l0 : List S48} {l1 : List S45} (h : Usable l0 l1) (L : List S57) (hL : L.length ≤ 200) : ∃ k c, rAl.f k l0 l1 L = some (c, pal (marksOf l0) l1.length 0 0 L) := by
  have hml : (marksOf l0).length = 2 * l0.length := mkl_length _ _
  have h0 := h.1
  obtain ⟨k1, hk1⟩ := ref_marks l0 (by omega)
  obtain ⟨k2, hk2⟩ := al_loop (marksOf l0) l1 L (near_usable h) (by omega) h.2.1 hL L.length 0 0 0 0 (by omega) (by omega) (by omega) (by omega) CB.zero
  have u1 := upto (g := fun k => wageofficeref22_Marks.f k l0) (wageofficeref22_Marks.mono l0) hk1 (k1 + k2) (by omega)
  have u2 := upto (g := fun k => rAl.l0 k l1 L ((marksOf l0).map to43) ((0 : Nat) : Int) ((0 : Nat) : Int) 0 ((0 : Nat) : Int)) (fun k => (rAl.mono_l k).1 _ _ _ _ _ _ _) hk2 (k1 + k2) (by omega)
  refine ⟨k1 + k2, (ral (marksOf l0) l1 0 0 0 L).1, ?_⟩
  unfold rAl.f
  rw [u1, Option.bind_some]
  have e := ral_pal (marksOf l0) l1 (mkl_pos l0 0) L 0 0 0 (by omega) (by omega)
  rw [← e]
  exact u2
end Go.Proofs.Ytpbamfoaoeicgaa.PAll

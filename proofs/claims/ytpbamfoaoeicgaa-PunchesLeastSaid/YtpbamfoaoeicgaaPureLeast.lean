/- PunchesLeast answers true. -/
import Derived.Test.YtpbamfoaoeicgaaPAllx10
import Derived.Test.YtpbamfoaoeicgaaPureWk
set_option linter.unusedVariables false
set_option linter.unusedSimpArgs false
namespace Go.Proofs.Ytpbamfoaoeicgaa.PAll
open Go Go.RowKit Go.Proofs.YtpbamfoaoeicgaaW.PrintWords Go.Proofs.YtpbamfoaoeicgaaW.PrintLast Go.Proofs.YtpbamfoaoeicgaaW.PrintMore

theorem tab_zero_at (ms : List S68) (ps : List S45) : tab ms ps ms.length ps.length = 0 := by
  rw [tab_edge ms ps _ _ (Nat.le_refl _) (Nat.le_refl _) (.inl rfl)]; simp
theorem tab_both (ms : List S68) (ps : List S45) (i j : Nat) (hi : i < ms.length) (hj : j < ps.length) : tab ms ps i j ≤ cst (rd_T68 ms i) (rd_T45 ps j) + tab ms ps (i + 1) (j + 1) := by
  rw [tab_step ms ps i j hi hj]; omega
theorem tab_lost (ms : List S68) (ps : List S45) (i j : Nat) (hi : i < ms.length) (hj : j ≤ ps.length) : tab ms ps i j ≤ 120 + tab ms ps (i + 1) j := by
  by_cases h : j < ps.length
  · rw [tab_step ms ps i j hi h]; omega
  · rw [tab_edge ms ps i j (by omega) hj (.inr (by omega)), tab_edge ms ps (i + 1) j (by omega) hj (.inr (by omega))]; omega
theorem tab_extra (ms : List S68) (ps : List S45) (i j : Nat) (hi : i ≤ ms.length) (hj : j < ps.length) : tab ms ps i j ≤ 120 + tab ms ps i (j + 1) := by
  by_cases h : i < ms.length
  · rw [tab_step ms ps i j h hj]; omega
  · rw [tab_edge ms ps i j hi (by omega) (.inl (by omega)), tab_edge ms ps i (j + 1) hi (by omega) (.inl (by omega))]; omega
theorem ral_wk (ms : List S68) (ps : List S45) (hp : ∀ x ∈ ms, 0 ≤ x.f0) : ∀ n i j (c : Int), (ms.length - i) + (ps.length - j) ≤ n → i ≤ ms.length → j ≤ ps.length → ral ms ps i j c (wk ms ps i j) = (c + tab ms ps i j, true) := by
  intro n
  have fin : ∀ i j (c : Int), i = ms.length → j = ps.length → ral ms ps i j c (wk ms ps i j) = (c + tab ms ps i j, true) := by
    intro i j c hi hj
    rw [wk, if_neg (by omega), if_neg (by omega), if_neg (by omega), ral, hi, hj, tab_zero_at]; simp
  induction n with
  | zero => intro i j c h hi hj; exact fin i j c (by omega) (by omega)
  | succ n ih =>
    intro i j c h hi hj
    rw [wk]
    split
    · rename_i hc
      have h0 := hp _ (show rd_T68 ms (i : Int) ∈ ms by rw [rd68_eq hc.1]; exact List.getElem_mem hc.1)
      rw [ral, if_pos ⟨h0, by simp only; omega⟩, if_pos ⟨hc.1, rfl, rfl, rfl, hc.2.1⟩, ih (i + 1) (j + 1) _ (by omega) (by omega) (by omega), hc.2.2, Int.add_assoc]
    · split
      · rename_i hc
        have h0 := hp _ (show rd_T68 ms (i : Int) ∈ ms by rw [rd68_eq hc.1]; exact List.getElem_mem hc.1)
        rw [ral, if_neg (by simp), if_pos ⟨h0, rfl⟩, if_pos ⟨hc.1, rfl, rfl⟩, ih (i + 1) j _ (by omega) (by omega) (by omega), hc.2, Int.add_assoc]
      · split
        · rename_i h1 h2 h3
          have e : tab ms ps i j = 120 + tab ms ps i (j + 1) := by
            by_cases hlt : i < ms.length
            · have e := tab_step ms ps i j hlt h3
              have n1 : tab ms ps i j ≠ cst (rd_T68 ms i) (rd_T45 ps j) + tab ms ps (i + 1) (j + 1) := fun h => h1 ⟨hlt, h3, h⟩
              have n2 : tab ms ps i j ≠ 120 + tab ms ps (i + 1) j := fun h => h2 ⟨hlt, h⟩
              omega
            · rw [tab_edge ms ps i j hi hj (.inl (by omega)), tab_edge ms ps i (j + 1) hi (by omega) (.inl (by omega))]; omega
          rw [ral, if_neg (by simp), if_neg (by simp), if_pos ⟨rfl, rfl, by simp only; omega⟩, if_pos ⟨rfl, h3⟩, ih i (j + 1) _ (by omega) (by omega) (by omega), e, Int.add_assoc]
        · rename_i h1 h2 h3
          have hj' : j = ps.length := by omega
          have hi' : i = ms.length := by
            by_cases hlt : i < ms.length
            · exact absurd ⟨hlt, by rw [tab_edge ms ps i j hi hj (.inr hj'), tab_edge ms ps (i + 1) j (by omega) hj (.inr hj')]; omega⟩ h2
            · omega
          rw [ral, hi', hj', tab_zero_at]; simp
theorem least_l0 (ms : List S68) (l1 : List S45) (l2 : List Int) (hn : Near ms l1) (hm : ms.length ≤ 48) (hl : l1.length ≤ 60) (hl2 : l2.length ≤ 200) : ∀ n i j (o a : Int), (ms.length - i) + (l1.length - j) ≤ n → i ≤ ms.length → j ≤ l1.length → 0 ≤ o → o ≤ 60000000 * ((i : Int) + j) → 0 ≤ a → a ≤ (i : Int) + j → ed ms l1 ≤ o + tab ms l1 i j →
    ∃ k, wageofficelaw22_PunchesLeast.l0 k l1 l2 true (ed ms l1) (ms.map to43) (i : Int) (j : Int) o a = some true := by
  intro n
  have hml : (ms.map to43).length = ms.length := List.length_map _
  have fin : ∀ i j (o a : Int), i = ms.length → j = l1.length → ed ms l1 ≤ o + tab ms l1 i j → ∃ k, wageofficelaw22_PunchesLeast.l0 k l1 l2 true (ed ms l1) (ms.map to43) (i : Int) (j : Int) o a = some true := by
    intro i j o a hi hj h
    have h0 := ed_nonneg ms l1
    rw [hi, hj, tab_zero_at] at h
    refine ⟨2, ?_⟩
    rw [wageofficelaw22_PunchesLeast.l0, if_neg (by omega), wageofficelaw22_PunchesLeast.j3, if_neg (by simp; omega), if_pos rfl, if_pos (by omega), decide_eq_true (by omega)]
  induction n with
  | zero => intro i j o a h hi hj h0 h1 h2 h3 h4; exact fin i j o a (by omega) (by omega) h4
  | succ n ih =>
    intro i j o a h hi hj h0 h1 h2 h3 h4
    by_cases hend : i = ms.length ∧ j = l1.length
    · exact fin i j o a hend.1 hend.2 h4
    · have ea := Lib.hid (show wrap64 (a + 1) = a + 1 by simp only [wrap64]; omega)
      have ei := Lib.hid (show wrap64 ((i : Int) + 1) = ((i + 1 : Nat) : Int) by simp only [wrap64]; omega)
      have ej := Lib.hid (show wrap64 ((j : Int) + 1) = ((j + 1 : Nat) : Int) by simp only [wrap64]; omega)
      have eo := Lib.hid (show wrap64 (o + 120) = o + 120 by simp only [wrap64]; omega)
      have key : ∀ x : Int, ∃ k, wageofficelaw22_PunchesLeast.j4 k l1 l2 true (ed ms l1) (ms.map to43) (i : Int) (j : Int) o a x = some true := by
        intro x
        have lost : i < ms.length → ∃ k, wageofficelaw22_PunchesLeast.l0 k l1 l2 true (ed ms l1) (ms.map to43) ((i + 1 : Nat) : Int) (j : Int) (o + 120) (a + 1) = some true := fun hlt => by
          have := tab_lost ms l1 i j hlt hj
          exact ih (i + 1) j (o + 120) (a + 1) (by omega) (by omega) hj (by omega) (by omega) (by omega) (by omega) (by omega)
        have extra : j < l1.length → ∃ k, wageofficelaw22_PunchesLeast.l0 k l1 l2 true (ed ms l1) (ms.map to43) (i : Int) ((j + 1 : Nat) : Int) (o + 120) (a + 1) = some true := fun hlt => by
          have := tab_extra ms l1 i j hi hlt
          exact ih i (j + 1) (o + 120) (a + 1) (by omega) hi (by omega) (by omega) (by omega) (by omega) (by omega) (by omega)
        -- behind the first case
        have rest : ∃ k, wageofficelaw22_PunchesLeast.j5 k l1 l2 true (ed ms l1) (ms.map to43) (i : Int) (j : Int) o (a + 1) x false = some true := by
          by_cases hlt : i < ms.length
          · have six : ∀ b : Bool, (b = true ∨ j < l1.length) → ∃ k, wageofficelaw22_PunchesLeast.j6 k l1 l2 true (ed ms l1) (ms.map to43) (i : Int) (j : Int) o (a + 1) b = some true := by
              intro b hb
              cases b with
              | true =>
                obtain ⟨k, hk⟩ := lost hlt
                refine ⟨k + 1, ?_⟩
                rw [wageofficelaw22_PunchesLeast.j6, if_pos rfl, ei.out, eo.out]; exact hk
              | false =>
                have hj1 : j < l1.length := by rcases hb with h | h; cases h; exact h
                obtain ⟨k, hk⟩ := extra hj1
                refine ⟨k + 1, ?_⟩
                rw [wageofficelaw22_PunchesLeast.j6, if_neg (by simp), if_pos (by omega), ej.out, eo.out]; exact hk
            by_cases hx : x = 2
            · obtain ⟨k, hk⟩ := six true (.inl rfl)
              refine ⟨k + 1, ?_⟩
              rw [wageofficelaw22_PunchesLeast.j5, if_neg (by simp), if_pos (by omega), if_pos hx]; exact hk
            · obtain ⟨k, hk⟩ := six ((j : Int) == (l1.length : Int)) (by by_cases h : j < l1.length; exact .inr h; exact .inl (by simp; omega))
              refine ⟨k + 1, ?_⟩
              rw [wageofficelaw22_PunchesLeast.j5, if_neg (by simp), if_pos (by omega), if_neg hx]; exact hk
          · obtain ⟨k, hk⟩ := extra (by omega)
            refine ⟨k + 1 + 1, ?_⟩
            rw [wageofficelaw22_PunchesLeast.j5, if_neg (by simp), if_neg (by omega), wageofficelaw22_PunchesLeast.j6, if_neg (by simp), if_pos (by omega), ej.out, eo.out]; exact hk
        by_cases hb : i < ms.length ∧ j < l1.length ∧ x < 2
        · obtain ⟨b1, b2, b3⟩ := hb
          have hx := hn.1 _ (show rd_T68 ms (i : Int) ∈ ms by rw [rd68_eq b1]; exact List.getElem_mem b1)
          have hy := hn.2 _ (show rd_T45 l1 (j : Int) ∈ l1 by rw [rd45_eq b2]; exact List.getElem_mem b2)
          have hc := ref_cost _ _ hx hy
          have c0 := cst_nonneg (rd_T68 ms (i : Int)) (rd_T45 l1 (j : Int))
          have c1 : cst (rd_T68 ms (i : Int)) (rd_T45 l1 (j : Int)) ≤ 52596061 := by unfold cst; split <;> split <;> omega
          have hs := tab_both ms l1 i j b1 b2
          have ec := Lib.hid (show wrap64 (o + cst (rd_T68 ms (i : Int)) (rd_T45 l1 (j : Int))) = o + cst (rd_T68 ms (i : Int)) (rd_T45 l1 (j : Int)) by simp only [wrap64]; omega)
          obtain ⟨k, hk⟩ := ih (i + 1) (j + 1) (o + cst (rd_T68 ms (i : Int)) (rd_T45 l1 (j : Int))) (a + 1) (by omega) (by omega) (by omega) (by omega) (by omega) (by omega) (by omega) (by omega)
          refine ⟨k + 1 + 1, ?_⟩
          rw [wageofficelaw22_PunchesLeast.j4, if_pos (by omega), if_pos (by omega), ea.out, decide_eq_true b3, wageofficelaw22_PunchesLeast.j5, if_pos rfl, if_pos (by omega), if_pos (by omega), if_pos (by omega), if_pos (by omega), rd43_eq ms b1]
          simp only [to43, hc, Option.bind_some, ei.out, ej.out, ec.out]
          exact hk
        · obtain ⟨k, hk⟩ := rest
          refine ⟨k + 1, ?_⟩
          rw [wageofficelaw22_PunchesLeast.j4, ea.out]
          by_cases b1 : i < ms.length
          · rw [if_pos (by omega)]
            by_cases b2 : j < l1.length
            · rw [if_pos (by omega), decide_eq_false (fun h => hb ⟨b1, b2, h⟩)]; exact hk
            · rw [if_neg (by omega)]; exact hk
          · rw [if_neg (by omega)]; exact hk
      have three : ∃ k, wageofficelaw22_PunchesLeast.j3 k l1 l2 true (ed ms l1) (ms.map to43) (i : Int) (j : Int) o a true = some true := by
        by_cases hx : a < (l2.length : Int)
        · obtain ⟨k, hk⟩ := key (Int.tmod (wrap64 (rd l2 a)) 4)
          refine ⟨k + 1, ?_⟩
          rw [wageofficelaw22_PunchesLeast.j3, if_pos rfl, if_pos hx, if_pos h2]; exact hk
        · obtain ⟨k, hk⟩ := key 0
          refine ⟨k + 1, ?_⟩
          rw [wageofficelaw22_PunchesLeast.j3, if_pos rfl, if_neg hx]; exact hk
      obtain ⟨k, hk⟩ := three
      refine ⟨k + 1, ?_⟩
      rw [wageofficelaw22_PunchesLeast.l0]
      by_cases hlt : i < ms.length
      · rw [if_pos (by omega)]; exact hk
      · rw [if_neg (by omega), decide_eq_true (by omega)]; exact hk
theorem least_pure (l0 : List S48) (l1 : List S45) (l2 : List Int) : ∃ k, wageofficelaw22_PunchesLeast.f k l0 l1 l2 = some true := by
  obtain ⟨k1, b, hk1, hb⟩ := use_f l0 l1
  have out : ∀ x, x = true → wageofficelaw22_PunchesLeast.j0 1 l0 l1 l2 true x = some true := by
    intro x hx; subst hx; rw [wageofficelaw22_PunchesLeast.j0, if_pos rfl]
  cases b with
  | false =>
    refine ⟨k1 + 1, ?_⟩
    unfold wageofficelaw22_PunchesLeast.f
    rw [um _ _ hk1 _ (by omega)]
    simp [wageofficelaw22_head.f, wageofficelaw22_PunchesLeast.j0]
  | true =>
    have hu := hb rfl
    by_cases hl : l2.length ≤ 200
    · have hml : (marksOf l0).length = 2 * l0.length := mkl_length _ _
      have hu1 := hu.1
      have hu2 := hu.2.1
      obtain ⟨k2, hk2⟩ := ref_marks l0 (by omega)
      obtain ⟨k3, hk3⟩ := least_l0 (marksOf l0) l1 l2 (near_usable hu) (by omega) hu2 hl _ 0 0 0 0 (Nat.le_refl _) (by omega) (by omega) (by omega) (by omega) (by omega) (by omega) (by unfold tab; rw [List.drop_zero, List.drop_zero]; omega)
      have m2 := upto (g := fun k => wageofficeref22_Marks.f k l0) (wageofficeref22_Marks.mono l0) hk2 (k1 + k2 + k3) (by omega)
      have m3 := upto (g := fun k => wageofficelaw22_PunchesLeast.l0 k l1 l2 true (ed (marksOf l0) l1) ((marksOf l0).map to43) 0 0 0 0) (fun k => (wageofficelaw22_PunchesLeast.mono_l k).2.2.1 _ _ _ _ _ _ _ _ _) hk3 (k1 + k2 + k3) (by omega)
      have ha : wageofficeref22_Aligned.f l0 l1 (wk (marksOf l0) l1 0 0) = some (ed (marksOf l0) l1, true) := by
        unfold wageofficeref22_Aligned.f
        have er := ral_wk (marksOf l0) l1 (fun x hx => mkl_pos l0 0 x hx) _ 0 0 0 (Nat.le_refl _) (by omega) (by omega)
        rw [if_pos ⟨hu, by have := (wk_usable hu).2; omega, by rw [er]⟩, er]
        unfold tab; simp
      refine ⟨k1 + k2 + k3 + 1 + 1, ?_⟩
      unfold wageofficelaw22_PunchesLeast.f
      rw [um _ _ hk1 _ (by omega)]
      simp only [wageofficelaw22_head.f, Option.bind_some, if_true]
      rw [decide_eq_false (by omega), wageofficelaw22_PunchesLeast.j0, if_neg (by simp), pair_ed hu]
      simp only [Option.bind_some, ha, if_true]
      rw [show (ed (marksOf l0) l1 != ed (marksOf l0) l1) = false by simp, wageofficelaw22_PunchesLeast.j1, if_neg (by simp), m2]
      exact m3
    · refine ⟨k1 + 1, ?_⟩
      unfold wageofficelaw22_PunchesLeast.f
      rw [um _ _ hk1 _ (by omega)]
      simp only [wageofficelaw22_head.f, Option.bind_some, if_true]
      rw [decide_eq_true (by omega), wageofficelaw22_PunchesLeast.j0, if_pos rfl]
end Go.Proofs.Ytpbamfoaoeicgaa.PAll

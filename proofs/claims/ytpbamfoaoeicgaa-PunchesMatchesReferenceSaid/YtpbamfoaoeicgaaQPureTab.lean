/- The reference's table and Pair answer as the program's. -/
import Derived.Test.YtpbamfoaoeicgaaQMt9
import Derived.Test.YtpbamfoaoeicgaaQRefAl0
import Derived.Test.YtpbamfoaoeicgaaQPureCode
import Derived.Test.YtpbamfoaoeicgaaQPureWk
set_option linter.unusedVariables false
set_option linter.unusedSimpArgs false
namespace Go.Proofs.Ytpbamfoaoeicgaa.PAll
open Go Go.RowKit Go.Proofs.YtpbamfoaoeicgaaW.PrintWords Go.Proofs.YtpbamfoaoeicgaaW.PrintLast Go.Proofs.YtpbamfoaoeicgaaW.PrintMore

theorem L9_set_same {t : List (List Int)} {i : Nat} (h : i < t.length) (r : List Int) : rd_L9 (t.set i r) (i : Int) = r := by
  simp [rd_L9, List.getD_eq_getElem?_getD, h]
theorem L9_set_ne {t : List (List Int)} {i a : Nat} (h : i ≠ a) (r : List Int) : rd_L9 (t.set i r) (a : Int) = rd_L9 t (a : Int) := by
  simp [rd_L9, List.getD_eq_getElem?_getD, List.getElem?_set, h]
theorem rd_set_same {r : List Int} {j : Nat} (h : j < r.length) (v : Int) : rd (r.set j v) (j : Int) = v := by
  simp [rd, List.getD_eq_getElem?_getD, h]
theorem rd_set_ne {r : List Int} {j b : Nat} (h : j ≠ b) (v : Int) : rd (r.set j v) (b : Int) = rd r (b : Int) := by
  simp [rd, List.getD_eq_getElem?_getD, List.getElem?_set, h]
/-- row a of the table lies ready from column j on -/
def RowOk (ms : List S68) (ps : List S45) (a j : Nat) (r : List Int) : Prop := r.length = ps.length + 1 ∧ ∀ b, j ≤ b → b ≤ ps.length → rd r (b : Int) = tab ms ps a b
def TabOk (ms : List S68) (ps : List S45) (i : Nat) (t : List (List Int)) : Prop := t.length = ms.length + 1 ∧ ∀ a, i ≤ a → a ≤ ms.length → RowOk ms ps a 0 (rd_L9 t (a : Int))
theorem mn_min (a b : Int) : mn a b = min a b := by unfold mn; split <;> omega
/-- the loop over a row -/
theorem row_loop (ms : List S68) (ps : List S45) (hn : Near ms ps) (hm : ms.length ≤ 48) (hp : ps.length ≤ 60) (i : Nat) (hi : i ≤ ms.length) (G : List (List Int) → Prop)
    (hG : ∀ t, TabOk ms ps i t → ∃ k r, wageofficeref22_table.l0 k (ms.map to43) ps t ((i : Int) - 1) = some r ∧ G r) :
    ∀ j (t : List (List Int)), j ≤ ps.length + 1 → TabOk ms ps (i + 1) t → RowOk ms ps i j (rd_L9 t (i : Int)) → ∃ k r, wageofficeref22_table.l1 k (ms.map to43) ps t (i : Int) ((j : Int) - 1) = some r ∧ G r := by
  have hml : (ms.map to43).length = ms.length := List.length_map _
  intro j
  induction j with
  | zero =>
    intro t hj ht hr
    obtain ⟨k, r, hk, hg⟩ := hG t ⟨ht.1, fun a ha hb => by
      by_cases e : a = i
      · subst e; exact hr
      · exact ht.2 a (by omega) hb⟩
    refine ⟨k + 1, r, ?_, hg⟩
    have e1 := Lib.hid (show wrap64 ((i : Int) - 1) = (i : Int) - 1 by simp only [wrap64]; omega)
    rw [wageofficeref22_table.l1, if_neg (by omega), e1.out]
    exact hk
  | succ j ih =>
    intro t hj ht hr
    have ej : ((j + 1 : Nat) : Int) - 1 = (j : Int) := by omega
    have e0 := Lib.hid (show wrap64 ((j : Int) - 1) = (j : Int) - 1 by simp only [wrap64]; omega)
    have e1 := Lib.hid (show wrap64 (120 * wrap64 (wrap64 (wrap64 ((ms.length : Int) - (i : Int)) + (ps.length : Int)) - (j : Int))) = 120 * (((ms.length - i) + (ps.length - j) : Nat) : Int) by simp only [wrap64]; omega)
    have htl := ht.1
    have hrl := hr.1
    have hil : i < t.length := by omega
    have hjl : j < (rd_L9 t (i : Int)).length := by omega
    rw [ej]
    by_cases hb : i < ms.length ∧ j < ps.length
    · obtain ⟨b1, b2⟩ := hb
      have hx := hn.1 _ (show rd_T68 ms (i : Int) ∈ ms by rw [rd68_eq b1]; exact List.getElem_mem b1)
      have hy := hn.2 _ (show rd_T45 ps (j : Int) ∈ ps by rw [rd45_eq b2]; exact List.getElem_mem b2)
      have hc := ref_cost _ _ hx hy
      have c0 := cst_nonneg (rd_T68 ms (i : Int)) (rd_T45 ps (j : Int))
      have c1 : cst (rd_T68 ms (i : Int)) (rd_T45 ps (j : Int)) ≤ 52596061 := by unfold cst; split <;> split <;> omega
      have n1 := (ht.2 (i + 1) (by omega) (by omega))
      have v1 := n1.2 (j + 1) (by omega) (by omega)
      have v2 := n1.2 j (by omega) (by omega)
      have v3 := hr.2 (j + 1) (by omega) (by omega)
      have w1 := tab_bd ms ps (i + 1) (j + 1) hm hp
      have w2 := tab_bd ms ps (i + 1) j hm hp
      have w3 := tab_bd ms ps i (j + 1) hm hp
      have st := tab_step ms ps i j b1 b2
      have f1 := Lib.hid (show wrap64 ((i : Int) + 1) = ((i + 1 : Nat) : Int) by simp only [wrap64]; omega)
      have f2 := Lib.hid (show wrap64 ((j : Int) + 1) = ((j + 1 : Nat) : Int) by simp only [wrap64]; omega)
      have g1 := Lib.hid (show wrap64 (cst (rd_T68 ms (i : Int)) (rd_T45 ps (j : Int)) + tab ms ps (i + 1) (j + 1)) = cst (rd_T68 ms (i : Int)) (rd_T45 ps (j : Int)) + tab ms ps (i + 1) (j + 1) by simp only [wrap64]; omega)
      have g2 := Lib.hid (show wrap64 (120 + tab ms ps (i + 1) j) = 120 + tab ms ps (i + 1) j by simp only [wrap64]; omega)
      have g3 := Lib.hid (show wrap64 (120 + tab ms ps i (j + 1)) = 120 + tab ms ps i (j + 1) by simp only [wrap64]; omega)
      obtain ⟨y, hy1⟩ : ∃ y, y = t.set i ((rd_L9 t (i : Int)).set j (120 * (((ms.length - i) + (ps.length - j) : Nat) : Int))) := ⟨_, rfl⟩
      have y1 : rd_L9 y (i : Int) = (rd_L9 t (i : Int)).set j (120 * (((ms.length - i) + (ps.length - j) : Nat) : Int)) := by rw [hy1]; exact L9_set_same hil _
      have y2 : rd_L9 y ((i + 1 : Nat) : Int) = rd_L9 t ((i + 1 : Nat) : Int) := by rw [hy1]; exact L9_set_ne (by omega) _
      have yl : y.length = t.length := by rw [hy1, List.length_set]
      obtain ⟨k, r, hk, hg⟩ := ih (y.set i ((rd_L9 y (i : Int)).set j (tab ms ps i j))) (by omega)
        ⟨by rw [List.length_set]; omega, fun a ha hb' => by
          rw [L9_set_ne (by omega), hy1, L9_set_ne (by omega)]; exact ht.2 a ha hb'⟩
        (by
          rw [L9_set_same (by omega), y1, List.set_set]
          refine ⟨by rw [List.length_set]; exact hrl, fun b hb1 hb2 => ?_⟩
          by_cases e : j = b
          · subst e; exact rd_set_same hjl _
          · rw [rd_set_ne e]; exact hr.2 b (by omega) hb2)
      refine ⟨k + 1, r, ?_, hg⟩
      rw [wageofficeref22_table.l1, if_pos (by omega), if_pos (by omega), if_pos (by omega), if_pos (by omega), if_pos (by omega), hml, e1.out]
      simp only [Option.bind_some, Int.toNat_natCast]
      rw [← hy1, if_pos (by omega), if_pos (by omega), rd43_eq ms b1]
      simp only [to43, hc, Option.bind_some, f1.out, f2.out]
      rw [y2, if_pos (by omega), if_pos (by omega), if_pos (by omega), if_pos (by rw [n1.1]; omega), if_pos (by rw [n1.1]; omega), if_pos (by rw [y1, List.length_set]; omega), if_pos (by rw [y1, List.length_set]; omega)]
      rw [v1, v2, show rd (rd_L9 y (i : Int)) ((j + 1 : Nat) : Int) = tab ms ps i (j + 1) by rw [y1, rd_set_ne (by omega)]; exact v3]
      rw [g1.out, g2.out, g3.out, mn_min, mn_min, ← st, e0.out]
      exact hk
    · have te := tab_edge ms ps i j hi (by omega) (by omega)
      obtain ⟨k, r, hk, hg⟩ := ih (t.set i ((rd_L9 t (i : Int)).set j (120 * (((ms.length - i) + (ps.length - j) : Nat) : Int)))) (by omega)
        ⟨by rw [List.length_set]; omega, fun a ha hb' => by rw [L9_set_ne (by omega)]; exact ht.2 a ha hb'⟩
        (by
          rw [L9_set_same hil]
          refine ⟨by rw [List.length_set]; exact hrl, fun b hb1 hb2 => ?_⟩
          by_cases e : j = b
          · subst e; rw [rd_set_same hjl, te]
          · rw [rd_set_ne e]; exact hr.2 b (by omega) hb2)
      refine ⟨k + 1, r, ?_, hg⟩
      rw [wageofficeref22_table.l1, if_pos (by omega), if_pos (by omega), if_pos (by omega), if_pos (by omega), if_pos (by omega), hml, e1.out]
      simp only [Option.bind_some, Int.toNat_natCast]
      by_cases b1 : i < ms.length
      · rw [if_pos (by omega), if_neg (by omega), e0.out]; exact hk
      · rw [if_neg (by omega), e0.out]; exact hk
/-- the loop over the rows -/
theorem tab_loop (ms : List S68) (ps : List S45) (hn : Near ms ps) (hm : ms.length ≤ 48) (hp : ps.length ≤ 60) : ∀ i (t : List (List Int)), i ≤ ms.length + 1 → TabOk ms ps i t → ∃ k r, wageofficeref22_table.l0 k (ms.map to43) ps t ((i : Int) - 1) = some r ∧ TabOk ms ps 0 r := by
  intro i
  induction i with
  | zero => intro t hi ht; exact ⟨1, t, by rw [wageofficeref22_table.l0, if_neg (by omega)], ht⟩
  | succ i ih =>
    intro t hi ht
    have ej : ((i + 1 : Nat) : Int) - 1 = (i : Int) := by omega
    have e1 := Lib.hid (show wrap64 ((ps.length : Int) + 1) = ((ps.length + 1 : Nat) : Int) by simp only [wrap64]; omega)
    have htl := ht.1
    have hl : (List.replicate (ps.length + 1) (0 : Int)).length = ps.length + 1 := List.length_replicate
    obtain ⟨k, r, hk, hg⟩ := row_loop ms ps hn hm hp i (by omega) (TabOk ms ps 0) (fun t' ht' => ih t' (by omega) ht') (ps.length + 1) (t.set i (List.replicate (ps.length + 1) 0)) (Nat.le_refl _)
      ⟨by rw [List.length_set]; omega, fun a ha hb' => by rw [L9_set_ne (by omega)]; exact ht.2 a ha hb'⟩
      (by rw [L9_set_same (by omega)]; exact ⟨hl, fun b hb1 hb2 => by omega⟩)
    refine ⟨k + 1, r, ?_, hg⟩
    rw [ej, wageofficeref22_table.l0, if_pos (by omega), e1.out, if_pos (by omega), Int.toNat_natCast, if_pos (by omega), if_pos (by omega), if_pos (by omega), Int.toNat_natCast]
    rw [show ((ps.length + 1 : Nat) : Int) - 1 = (ps.length : Int) by omega] at hk
    exact hk
theorem ref_table (ms : List S68) (ps : List S45) (hn : Near ms ps) (hm : ms.length ≤ 48) (hp : ps.length ≤ 60) : ∃ k t, wageofficeref22_table.f k (ms.map to43) ps = some t ∧ TabOk ms ps 0 t := by
  have hml : (ms.map to43).length = ms.length := List.length_map _
  have e1 := Lib.hid (show wrap64 ((ms.length : Int) + 1) = ((ms.length + 1 : Nat) : Int) by simp only [wrap64]; omega)
  obtain ⟨k, t, hk, ht⟩ := tab_loop ms ps hn hm hp (ms.length + 1) (List.replicate (ms.length + 1) []) (Nat.le_refl _) ⟨List.length_replicate, fun a ha hb => by omega⟩
  refine ⟨k, t, ?_, ht⟩
  unfold wageofficeref22_table.f
  rw [hml, e1.out, if_pos (by omega), Int.toNat_natCast, if_pos (by omega)]
  rw [show ((ms.length + 1 : Nat) : Int) - 1 = (ms.length : Int) by omega] at hk
  exact hk
/-- the loop that tells the matches -/
theorem pair_loop (ms : List S68) (ps : List S45) (hn : Near ms ps) (hm : ms.length ≤ 48) (hp : ps.length ≤ 60) (t : List (List Int)) (ht : TabOk ms ps 0 t) : ∀ n i j (out : List S57), (ms.length - i) + (ps.length - j) ≤ n → i ≤ ms.length → j ≤ ps.length → out.length ≤ i + j →
    ∃ k, wageofficeref22_Pair.l0 k ps (ms.map to43) t out (i : Int) (j : Int) = some (out ++ wk ms ps i j, ed ms ps, 0) := by
  have hml : (ms.map to43).length = ms.length := List.length_map _
  have htl := ht.1
  have row : ∀ a, a ≤ ms.length → RowOk ms ps a 0 (rd_L9 t (a : Int)) := fun a ha => ht.2 a (by omega) ha
  have at_ : ∀ a b, a ≤ ms.length → b ≤ ps.length → rd (rd_L9 t (a : Int)) (b : Int) = tab ms ps a b := fun a b ha hb => (row a ha).2 b (by omega) hb
  have len_ : ∀ a, a ≤ ms.length → (rd_L9 t (a : Int)).length = ps.length + 1 := fun a ha => (row a ha).1
  intro n
  have fin : ∀ i j (out : List S57), i = ms.length → j = ps.length → ∃ k, wageofficeref22_Pair.l0 k ps (ms.map to43) t out (i : Int) (j : Int) = some (out ++ wk ms ps i j, ed ms ps, 0) := by
    intro i j out hi hj
    have z := at_ 0 0 (by omega) (by omega)
    have zl := len_ 0 (by omega)
    refine ⟨2, ?_⟩
    have ez : tab ms ps 0 0 = ed ms ps := by unfold tab; rw [List.drop_zero, List.drop_zero]
    rw [ez] at z
    have z' : rd (rd_L9 t 0) 0 = ed ms ps := z
    have zl' : (rd_L9 t 0).length = ps.length + 1 := zl
    rw [wageofficeref22_Pair.l0, if_neg (by omega), decide_eq_false (by omega), wageofficeref22_Pair.j1, if_neg (by simp), if_pos (by omega), if_pos (by rw [zl']; omega), z']
    rw [wk, if_neg (by omega), if_neg (by omega), if_neg (by omega), List.append_nil]
  induction n with
  | zero => intro i j out h hi hj ho; exact fin i j out (by omega) (by omega)
  | succ n ih =>
    intro i j out h hi hj ho
    by_cases hend : i = ms.length ∧ j = ps.length
    · exact fin i j out hend.1 hend.2
    · have f1 := Lib.hid (show wrap64 ((i : Int) + 1) = ((i + 1 : Nat) : Int) by simp only [wrap64]; omega)
      have f2 := Lib.hid (show wrap64 ((j : Int) + 1) = ((j + 1 : Nat) : Int) by simp only [wrap64]; omega)
      -- the second choice
      have two : ¬ (i < ms.length ∧ j < ps.length ∧ tab ms ps i j = cst (rd_T68 ms i) (rd_T45 ps j) + tab ms ps (i + 1) (j + 1)) → ∃ k, wageofficeref22_Pair.j2 k ps (ms.map to43) t out (i : Int) (j : Int) false = some (out ++ wk ms ps i j, ed ms ps, 0) := by
        intro h1
        rw [wk, if_neg h1]
        have extra : j < ps.length → ∃ k, wageofficeref22_Pair.l0 k ps (ms.map to43) t (out ++ [⟨-1, false, (j : Int)⟩]) (i : Int) ((j + 1 : Nat) : Int) = some (out ++ (⟨-1, false, (j : Int)⟩ : S57) :: wk ms ps i (j + 1), ed ms ps, 0) := fun hlt => by
          obtain ⟨k, hk⟩ := ih i (j + 1) (out ++ [⟨-1, false, (j : Int)⟩]) (by omega) hi (by omega) (by simp; omega)
          exact ⟨k, by rw [hk]; simp⟩
        by_cases b1 : i < ms.length
        · have a1 := at_ i j hi hj
          have a2 := at_ (i + 1) j (by omega) hj
          have q1 := len_ i hi
          have q2 := len_ (i + 1) (by omega)
          have w2 := tab_bd ms ps (i + 1) j hm hp
          have g2 := Lib.hid (show wrap64 (120 + tab ms ps (i + 1) j) = 120 + tab ms ps (i + 1) j by simp only [wrap64]; omega)
          by_cases c2 : tab ms ps i j = 120 + tab ms ps (i + 1) j
          · obtain ⟨k, hk⟩ := ih (i + 1) j (out ++ [⟨(rd_T68 ms i).f0, (rd_T68 ms i).f1, -1⟩]) (by omega) (by omega) hj (by simp; omega)
            refine ⟨k + 1, ?_⟩
            rw [if_pos ⟨b1, c2⟩, wageofficeref22_Pair.j2, if_neg (by simp), if_pos (by omega), if_pos (by omega), if_pos (by omega), if_pos (by omega), if_pos (by rw [q1]; omega), f1.out, if_pos (by omega), if_pos (by omega), if_pos (by rw [q2]; omega), a1, a2, g2.out, if_pos c2, if_pos (by omega), rd43_eq ms b1]
            simp only [to43]
            rw [hk]; simp
          · have hj' : j < ps.length := by
              by_cases hlt : j < ps.length
              · exact hlt
              · exact absurd (by rw [tab_edge ms ps i j hi hj (.inr (by omega)), tab_edge ms ps (i + 1) j (by omega) hj (.inr (by omega))]; omega) c2
            obtain ⟨k, hk⟩ := extra hj'
            refine ⟨k + 1, ?_⟩
            rw [if_neg (fun h => c2 h.2), if_pos hj', wageofficeref22_Pair.j2, if_neg (by simp), if_pos (by omega), if_pos (by omega), if_pos (by omega), if_pos (by omega), if_pos (by rw [q1]; omega), f1.out, if_pos (by omega), if_pos (by omega), if_pos (by rw [q2]; omega), a1, a2, g2.out, if_neg c2, if_pos (by omega), f2.out]
            exact hk
        · obtain ⟨k, hk⟩ := extra (by omega)
          refine ⟨k + 1, ?_⟩
          rw [if_neg (fun h => b1 h.1), if_pos (by omega), wageofficeref22_Pair.j2, if_neg (by simp), if_neg (by omega), if_pos (by omega), f2.out]
          exact hk
      have one : ∃ k, wageofficeref22_Pair.j1 k ps (ms.map to43) t out (i : Int) (j : Int) true = some (out ++ wk ms ps i j, ed ms ps, 0) := by
        by_cases b1 : i < ms.length
        · by_cases b2 : j < ps.length
          · have hx := hn.1 _ (show rd_T68 ms (i : Int) ∈ ms by rw [rd68_eq b1]; exact List.getElem_mem b1)
            have hy := hn.2 _ (show rd_T45 ps (j : Int) ∈ ps by rw [rd45_eq b2]; exact List.getElem_mem b2)
            have hc := ref_cost _ _ hx hy
            have c0 := cst_nonneg (rd_T68 ms (i : Int)) (rd_T45 ps (j : Int))
            have c1 : cst (rd_T68 ms (i : Int)) (rd_T45 ps (j : Int)) ≤ 52596061 := by unfold cst; split <;> split <;> omega
            have w1 := tab_bd ms ps (i + 1) (j + 1) hm hp
            have g1 := Lib.hid (show wrap64 (cst (rd_T68 ms (i : Int)) (rd_T45 ps (j : Int)) + tab ms ps (i + 1) (j + 1)) = cst (rd_T68 ms (i : Int)) (rd_T45 ps (j : Int)) + tab ms ps (i + 1) (j + 1) by simp only [wrap64]; omega)
            have a1 := at_ i j hi hj
            have a2 := at_ (i + 1) (j + 1) (by omega) (by omega)
            have q1 := len_ i hi
            have q2 := len_ (i + 1) (by omega)
            have step : ∀ k b, wageofficeref22_Pair.j2 k ps (ms.map to43) t out (i : Int) (j : Int) b = some (out ++ wk ms ps i j, ed ms ps, 0) → (tab ms ps i j == (cst (rd_T68 ms (i : Int)) (rd_T45 ps (j : Int)) + tab ms ps (i + 1) (j + 1))) = b → wageofficeref22_Pair.j1 (k + 1) ps (ms.map to43) t out (i : Int) (j : Int) true = some (out ++ wk ms ps i j, ed ms ps, 0) := by
              intro k b hk hb
              rw [wageofficeref22_Pair.j1, if_pos rfl, if_pos (by omega), if_pos (by omega), if_pos (by omega), if_pos (by omega), if_pos (by omega), if_pos (by rw [q1]; omega), rd43_eq ms b1]
              simp only [to43, hc, Option.bind_some, f1.out, f2.out]
              rw [if_pos (by omega), if_pos (by omega), if_pos (by omega), if_pos (by rw [q2]; omega), a1, a2, g1.out, hb]
              exact hk
            by_cases c2 : tab ms ps i j = cst (rd_T68 ms (i : Int)) (rd_T45 ps (j : Int)) + tab ms ps (i + 1) (j + 1)
            · obtain ⟨k, hk⟩ := ih (i + 1) (j + 1) (out ++ [⟨(rd_T68 ms i).f0, (rd_T68 ms i).f1, (j : Int)⟩]) (by omega) (by omega) (by omega) (by simp; omega)
              refine ⟨k + 1 + 1, step (k + 1) true ?_ (by simpa using c2)⟩
              rw [wk, if_pos ⟨b1, b2, c2⟩, wageofficeref22_Pair.j2, if_pos rfl, if_pos (by omega), if_pos (by omega), if_pos (by omega), rd43_eq ms b1, f1.out, f2.out]
              simp only [to43]
              rw [hk]; simp
            · obtain ⟨k, hk⟩ := two (fun h => c2 h.2.2)
              exact ⟨k + 1, step k false hk (by simpa using c2)⟩
          · obtain ⟨k, hk⟩ := two (fun h => b2 h.2.1)
            refine ⟨k + 1, ?_⟩
            rw [wageofficeref22_Pair.j1, if_pos rfl, if_pos (by omega), if_neg (by omega)]
            exact hk
        · obtain ⟨k, hk⟩ := two (fun h => b1 h.1)
          refine ⟨k + 1, ?_⟩
          rw [wageofficeref22_Pair.j1, if_pos rfl, if_neg (by omega)]
          exact hk
      obtain ⟨k, hk⟩ := one
      refine ⟨k + 1, ?_⟩
      rw [wageofficeref22_Pair.l0]
      by_cases b1 : i < ms.length
      · rw [if_pos (by omega)]; exact hk
      · rw [if_neg (by omega), decide_eq_true (by omega)]; exact hk
theorem refpair_ok {l0 : List S48} {l1 : List S45} (h : Usable l0 l1) : ∃ k, wageofficeref22_Pair.f k l0 l1 = some (wk (marksOf l0) l1 0 0, ed (marksOf l0) l1, 0) := by
  have hml : (marksOf l0).length = 2 * l0.length := mkl_length _ _
  have h0 := h.1
  have h1 := h.2.1
  obtain ⟨k1, hk1⟩ := use_code l0 l1 (by omega) (by omega)
  rw [(code_usable l0 l1 (by omega) (by omega)).2 h] at hk1
  obtain ⟨k2, hk2⟩ := ref_marks l0 (by omega)
  obtain ⟨k3, t, hk3, ht⟩ := ref_table (marksOf l0) l1 (near_usable h) (by omega) h1
  obtain ⟨k4, hk4⟩ := pair_loop (marksOf l0) l1 (near_usable h) (by omega) h1 t ht _ 0 0 [] (Nat.le_refl _) (by omega) (by omega) (by simp)
  have u1 := upto (g := fun k => wageofficeref22_Usable.f k l0 l1) (wageofficeref22_Usable.mono l0 l1) hk1 (k1 + k2 + k3 + k4) (by omega)
  have u2 := upto (g := fun k => wageofficeref22_Marks.f k l0) (wageofficeref22_Marks.mono l0) hk2 (k1 + k2 + k3 + k4) (by omega)
  have u3 := upto (g := fun k => wageofficeref22_table.f k ((marksOf l0).map to43) l1) (wageofficeref22_table.mono _ _) hk3 (k1 + k2 + k3 + k4) (by omega)
  have u4 := upto (g := fun k => wageofficeref22_Pair.l0 k l1 ((marksOf l0).map to43) t [] ((0 : Nat) : Int) ((0 : Nat) : Int)) (fun k => (wageofficeref22_Pair.mono_l k).1 _ _ _ _ _ _) hk4 (k1 + k2 + k3 + k4) (by omega)
  refine ⟨k1 + k2 + k3 + k4, ?_⟩
  unfold wageofficeref22_Pair.f
  rw [u1, Option.bind_some, if_pos rfl, u2, Option.bind_some, u3, Option.bind_some]
  exact u4
theorem refpair_bad {l0 : List S48} {l1 : List S45} (h0 : l0.length ≤ 26) (h1 : l1.length ≤ 62) (h : ¬ Usable l0 l1) : ∃ k, wageofficeref22_Pair.f k l0 l1 = some ([], 0, code l0 l1) := by
  obtain ⟨k1, hk1⟩ := use_code l0 l1 h0 h1
  have hc : ¬ code l0 l1 = 0 := fun e => h ((code_usable l0 l1 h0 h1).1 e)
  refine ⟨k1, ?_⟩
  unfold wageofficeref22_Pair.f
  rw [hk1, Option.bind_some, if_neg hc]
end Go.Proofs.Ytpbamfoaoeicgaa.PAll

/- What is moved by some minutes. -/
import Derived.Test.YtpbamfoaoeicgaaPAllx13
import Derived.Test.YtpbamfoaoeicgaaPureWk
set_option linter.unusedVariables false
set_option linter.unusedSimpArgs false
namespace Go.Proofs.Ytpbamfoaoeicgaa.PAll
open Go Go.RowKit Go.Proofs.YtpbamfoaoeicgaaW.PrintWords Go.Proofs.YtpbamfoaoeicgaaW.PrintLast Go.Proofs.YtpbamfoaoeicgaaW.PrintMore

def mvD (y : Int) (s : S48) : S48 := ⟨s.f0 + y, s.f1 + y, s.f2⟩
def mvP (y : Int) (p : S45) : S45 := ⟨p.f0 + y, p.f1⟩
def mvM (y : Int) (m : S68) : S68 := ⟨m.f0, m.f1, m.f2 + y⟩
theorem cst_mv (y : Int) (m : S68) (p : S45) : cst (mvM y m) (mvP y p) = cst m p := by
  unfold cst mvM mvP; simp only; split <;> split <;> split <;> omega
theorem ed_mv (y : Int) : ∀ (ms : List S68) (ps : List S45), ed (ms.map (mvM y)) (ps.map (mvP y)) = ed ms ps
  | [], ps => by rw [List.map_nil, ed_nil_left, ed_nil_left, List.length_map]
  | m :: ms, [] => by rw [List.map_nil, ed_nil_right, ed_nil_right, List.length_map]
  | m :: ms, p :: ps => by
    have h1 := ed_mv y ms ps
    have h2 := ed_mv y ms (p :: ps)
    have h3 := ed_mv y (m :: ms) ps
    simp only [List.map_cons] at h1 h2 h3 ⊢
    rw [ed_cons, ed_cons, h1, h2, h3, cst_mv]
termination_by ms ps => ms.length + ps.length
theorem marks_mv (y : Int) : ∀ (l : List S48) (i : Nat), mkl i (l.map (mvD y)) = (mkl i l).map (mvM y)
  | [], _ => rfl
  | s :: r, i => by simp only [List.map_cons, mkl, marks_mv y r (i + 1)]; rfl
theorem tab_mv (y : Int) (ms : List S68) (ps : List S45) (i j : Nat) : tab (ms.map (mvM y)) (ps.map (mvP y)) i j = tab ms ps i j := by
  unfold tab; rw [← List.map_drop, ← List.map_drop, ed_mv]
theorem rd68_mv (y : Int) {ms : List S68} {i : Nat} (h : i < ms.length) : rd_T68 (ms.map (mvM y)) (i : Int) = mvM y (rd_T68 ms (i : Int)) := by
  rw [rd68_eq h, rd68_eq (by simpa using h), List.getElem_map]
theorem rd45_mv (y : Int) {ps : List S45} {i : Nat} (h : i < ps.length) : rd_T45 (ps.map (mvP y)) (i : Int) = mvP y (rd_T45 ps (i : Int)) := by
  rw [rd45_eq h, rd45_eq (by simpa using h), List.getElem_map]
theorem rd48_mv (y : Int) {ps : List S48} {i : Nat} (h : i < ps.length) : rd_T48 (ps.map (mvD y)) (i : Int) = mvD y (rd_T48 ps (i : Int)) := by
  rw [rd48_eq h, rd48_eq (by simpa using h), List.getElem_map]
theorem wk_mv (y : Int) (ms : List S68) (ps : List S45) : ∀ n i j, (ms.length - i) + (ps.length - j) ≤ n → wk (ms.map (mvM y)) (ps.map (mvP y)) i j = wk ms ps i j := by
  intro n
  induction n with
  | zero =>
    intro i j h
    rw [wk.eq_1 ms ps i j, if_neg (by omega), if_neg (by omega), if_neg (by omega), wk, List.length_map, List.length_map, if_neg (by omega), if_neg (by omega), if_neg (by omega)]
  | succ n ih =>
    intro i j h
    rw [wk, wk.eq_1 ms ps i j]
    simp only [List.length_map, tab_mv]
    by_cases h1 : i < ms.length
    · simp only [rd68_mv y h1]
      by_cases h2 : j < ps.length
      · simp only [rd45_mv y h2, cst_mv]
        rw [ih (i + 1) (j + 1) (by omega), ih (i + 1) j (by omega), ih i (j + 1) (by omega)]
        rfl
      · rw [ih (i + 1) j (by omega)]
        simp only [h2, false_and, and_false, if_false]
        rfl
    · by_cases h2 : j < ps.length
      · rw [ih i (j + 1) (by omega)]
        simp only [h1, false_and, if_false]
      · simp only [h1, h2, false_and, if_false]
theorem step_mv (y : Int) (l1 : List S45) (st : List S48 × List Bool) (m : S57) (h : (m.f0 < 0 ∨ m.f2 < 0) ∨ ∃ d p : Nat, m.f0 = d ∧ m.f2 = p ∧ d < st.1.length ∧ p < l1.length) :
    stepW (l1.map (mvP y)) (st.1.map (mvD y), st.2) m = ((stepW l1 st m).1.map (mvD y), (stepW l1 st m).2) := by
  unfold stepW
  rcases h with h | ⟨d, p, e1, e2, hd, hp⟩
  · rw [if_pos h, if_pos h]
  · have hn : ¬ (m.f0 < 0 ∨ m.f2 < 0) := by omega
    rw [if_neg hn, if_neg hn, e1, e2, rd48_mv y hd, rd45_mv y hp, Int.toNat_natCast]
    simp only
    split <;> rw [List.map_set] <;> rfl
theorem fold_mv (y : Int) (l1 : List S45) : ∀ (l2 : List S57) (st : List S48 × List Bool), (∀ m ∈ l2, (m.f0 < 0 ∨ m.f2 < 0) ∨ ∃ d p : Nat, m.f0 = d ∧ m.f2 = p ∧ d < st.1.length ∧ p < l1.length) →
    l2.foldl (stepW (l1.map (mvP y))) (st.1.map (mvD y), st.2) = ((l2.foldl (stepW l1) st).1.map (mvD y), (l2.foldl (stepW l1) st).2)
  | [], st, _ => rfl
  | m :: r, st, h => by
    rw [List.foldl_cons, List.foldl_cons, step_mv y l1 st m (h m (by simp))]
    refine fold_mv y l1 r (stepW l1 st m) (fun m' hm' => ?_)
    have e := (fold_len l1 [m] st).1
    simp only [List.foldl_cons, List.foldl_nil] at e
    rw [e]; exact h m' (by simp [hm'])
theorem out_mv (y : Int) : ∀ (T : List S48) (K : List Bool), outW (T.map (mvD y)) K = outW T K
  | [], _ => by simp [outW]
  | t :: T, [] => by simp [outW]
  | t :: T, k :: K => by
    have := out_mv y T K
    unfold outW at this ⊢
    simp only [List.map_cons, List.zipWith_cons_cons, this]
    have e : (mvD y t).f1 - (mvD y t).f0 = t.f1 - t.f0 := by simp only [mvD]; omega
    rw [e]
theorem workL_mv (y : Int) (l0 : List S48) (l1 : List S45) (l2 : List S57) (h : ∀ m ∈ l2, (m.f0 < 0 ∨ m.f2 < 0) ∨ ∃ d p : Nat, m.f0 = d ∧ m.f2 = p ∧ d < l0.length ∧ p < l1.length) : workL (l0.map (mvD y)) (l1.map (mvP y)) l2 = workL l0 l1 l2 := by
  have := fold_mv y l1 l2 (l0, List.replicate l0.length false) h
  simp only at this
  unfold workL foldW
  rw [List.length_map, this, out_mv]
theorem moved_l1 (l1 : List S45) (y : Int) (hy : -60000000 ≤ y ∧ y ≤ 60000000) (hl : l1.length ≤ 62) (hv : ∀ j (h : j < l1.length), 0 ≤ l1[j].f0 ∧ l1[j].f0 ≤ 52596000) (a : List S48) : ∀ n i (acc : List S45), l1.length - i ≤ n → i ≤ l1.length → acc.length ≤ i → ∃ k, wageofficelaw22_moved.l1 k y a acc l1 (l1.length : Int) (i : Int) = some (a, acc ++ (l1.drop i).map (mvP y)) := by
  intro n
  induction n with
  | zero =>
    intro i acc h hi ha
    refine ⟨1, ?_⟩
    rw [wageofficelaw22_moved.l1, if_neg (by omega), show i = l1.length by omega]; simp
  | succ n ih =>
    intro i acc h hi ha
    by_cases hlt : i < l1.length
    · obtain ⟨k, hk⟩ := ih (i + 1) (acc ++ [mvP y l1[i]]) (by omega) hlt (by simp; omega)
      refine ⟨k + 1, ?_⟩
      have := hv i hlt
      rw [wageofficelaw22_moved.l1, if_pos (by omega), if_pos (by omega), if_pos (by omega), if_pos (by omega), rd45_eq hlt, show wrap64 ((i : Int) + 1) = ((i + 1 : Nat) : Int) by simp only [wrap64]; omega, show wrap64 (l1[i].f0 + y) = l1[i].f0 + y by simp only [wrap64]; omega]
      rw [show (⟨l1[i].f0 + y, l1[i].f1⟩ : S45) = mvP y l1[i] from rfl, hk, List.drop_eq_getElem_cons hlt, List.map_cons]; simp only [List.append_assoc, List.cons_append, List.nil_append]
    · refine ⟨1, ?_⟩
      rw [wageofficelaw22_moved.l1, if_neg (by omega), show i = l1.length by omega]; simp
theorem moved_l0 (l0 : List S48) (l1 : List S45) (y : Int) (hy : -60000000 ≤ y ∧ y ≤ 60000000) (hl0 : l0.length ≤ 26) (hl : l1.length ≤ 62) (hv : ∀ j (h : j < l1.length), 0 ≤ l1[j].f0 ∧ l1[j].f0 ≤ 52596000) (hw : ∀ j (h : j < l0.length), okS l0[j]) : ∀ n i (acc : List S48), l0.length - i ≤ n → i ≤ l0.length → acc.length ≤ i → ∃ k, wageofficelaw22_moved.l0 k l1 y acc l0 (l0.length : Int) (i : Int) = some (acc ++ (l0.drop i).map (mvD y), l1.map (mvP y)) := by
  intro n
  have fin : ∀ i (acc : List S48), i = l0.length → ∃ k, wageofficelaw22_moved.l0 k l1 y acc l0 (l0.length : Int) (i : Int) = some (acc ++ (l0.drop i).map (mvD y), l1.map (mvP y)) := by
    intro i acc hi
    obtain ⟨k, hk⟩ := moved_l1 l1 y hy hl hv acc l1.length 0 [] (by omega) (by omega) (by simp)
    refine ⟨k + 1, ?_⟩
    rw [wageofficelaw22_moved.l0, if_neg (by omega), hi]; simpa using hk
  induction n with
  | zero => intro i acc h hi ha; exact fin i acc (by omega)
  | succ n ih =>
    intro i acc h hi ha
    by_cases hlt : i < l0.length
    · obtain ⟨k, hk⟩ := ih (i + 1) (acc ++ [mvD y l0[i]]) (by omega) hlt (by simp; omega)
      refine ⟨k + 1, ?_⟩
      have := hw i hlt
      unfold okS at this
      rw [wageofficelaw22_moved.l0, if_pos (by omega), if_pos (by omega), if_pos (by omega), if_pos (by omega), rd48_eq hlt, show wrap64 ((i : Int) + 1) = ((i + 1 : Nat) : Int) by simp only [wrap64]; omega, show wrap64 (l0[i].f0 + y) = l0[i].f0 + y by simp only [wrap64]; omega, show wrap64 (l0[i].f1 + y) = l0[i].f1 + y by simp only [wrap64]; omega]
      rw [show (⟨l0[i].f0 + y, l0[i].f1 + y, l0[i].f2⟩ : S48) = mvD y l0[i] from rfl, hk, List.drop_eq_getElem_cons hlt, List.map_cons]; simp only [List.append_assoc, List.cons_append, List.nil_append]
    · exact fin i acc (by omega)
theorem okFrom_get : ∀ (l : List S48) (e : Int), okFrom e l → (∀ j (h : j < l.length), okS l[j]) ∧ ∀ j (h : j + 1 < l.length), l[j].f1 ≤ l[j + 1].f0
  | [], _, _ => ⟨fun j h => by simp at h, fun j h => by simp at h⟩
  | s :: r, e, ⟨h0, h1, h2⟩ => by
    obtain ⟨g0, g1⟩ := okFrom_get r s.f1 h2
    refine ⟨fun j h => ?_, fun j h => ?_⟩
    · cases j with
      | zero => exact h0
      | succ j => exact g0 j (by simpa using h)
    · cases j with
      | zero =>
        cases r with
        | nil => simp at h
        | cons t r => exact h2.2.1
      | succ j => exact g1 j (by simpa using h)
theorem okP_get : ∀ (l : List S45) (e : Int), okP e l → (∀ j (h : j < l.length), 0 ≤ l[j].f0 ∧ l[j].f0 ≤ 52596000) ∧ ∀ j (h : j + 1 < l.length), l[j].f0 ≤ l[j + 1].f0
  | [], _, _ => ⟨fun j h => by simp at h, fun j h => by simp at h⟩
  | s :: r, e, ⟨h0, h1, h2, h3⟩ => by
    obtain ⟨g0, g1⟩ := okP_get r s.f0 h3
    refine ⟨fun j h => ?_, fun j h => ?_⟩
    · cases j with
      | zero => exact ⟨h0, h1⟩
      | succ j => exact g0 j (by simpa using h)
    · cases j with
      | zero =>
        cases r with
        | nil => simp at h
        | cons t r => exact h3.2.2.1
      | succ j => exact g1 j (by simpa using h)
theorem moved_f {l0 : List S48} {l1 : List S45} (h : Usable l0 l1) (y : Int) (hy : -60000000 ≤ y ∧ y ≤ 60000000) : ∃ k0, ∀ k, k0 ≤ k → wageofficelaw22_moved.f k l0 l1 y = some (l0.map (mvD y), l1.map (mvP y)) := by
  obtain ⟨k, hk⟩ := moved_l0 l0 l1 y hy (by have := h.1; omega) (by have := h.2.1; omega) (okP_get l1 0 h.2.2.2).1 (okFrom_get l0 0 h.2.2.1).1 l0.length 0 [] (by omega) (by omega) (by simp)
  exact ⟨k, fun m hm => upto (g := fun k => wageofficelaw22_moved.f k l0 l1 y) (wageofficelaw22_moved.mono l0 l1 y) (j := k) (by simp only [wageofficelaw22_moved.f]; simpa using hk) m hm⟩
end Go.Proofs.Ytpbamfoaoeicgaa.PAll

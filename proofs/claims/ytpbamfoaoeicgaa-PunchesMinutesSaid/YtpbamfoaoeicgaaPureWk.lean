/- The matches of the right alignment are an alignment; equal lists are equal. -/
import Derived.Test.YtpbamfoaoeicgaaPAllx4
import Derived.Test.YtpbamfoaoeicgaaPureBase
set_option linter.unusedVariables false
set_option linter.unusedSimpArgs false
namespace Go.Proofs.Ytpbamfoaoeicgaa.PAll
open Go Go.RowKit Go.Proofs.YtpbamfoaoeicgaaW.PrintWords Go.Proofs.YtpbamfoaoeicgaaW.PrintLast Go.Proofs.YtpbamfoaoeicgaaW.PrintMore

theorem wk_all (ms : List S68) (ps : List S45) : ∀ n i j, (ms.length - i) + (ps.length - j) ≤ n → i ≤ ms.length → j ≤ ps.length → AlOk ms ps.length i j (wk ms ps i j) ∧ (wk ms ps i j).length ≤ (ms.length - i) + (ps.length - j) := by
  intro n
  induction n with
  | zero =>
    intro i j h hi hj
    rw [wk, if_neg (by omega), if_neg (by omega), if_neg (by omega)]
    exact ⟨⟨by omega, by omega⟩, by simp⟩
  | succ n ih =>
    intro i j h hi hj
    rw [wk]
    split
    · rename_i hc
      obtain ⟨h1, h2⟩ := ih (i + 1) (j + 1) (by omega) (by omega) (by omega)
      exact ⟨.inl ⟨hc.1, hc.2.1, rfl, h1⟩, by simp only [List.length_cons]; omega⟩
    · split
      · rename_i hc
        obtain ⟨h1, h2⟩ := ih (i + 1) j (by omega) (by omega) (by omega)
        exact ⟨.inr (.inl ⟨hc.1, rfl, h1⟩), by simp only [List.length_cons]; omega⟩
      · split
        · rename_i hc
          obtain ⟨h1, h2⟩ := ih i (j + 1) (by omega) (by omega) (by omega)
          exact ⟨.inr (.inr ⟨hc, rfl, h1⟩), by simp only [List.length_cons]; omega⟩
        · rename_i h1 h2 h3
          have hj' : j = ps.length := by omega
          have hi' : i = ms.length := by
            by_cases hlt : i < ms.length
            · exact absurd ⟨hlt, by rw [tab_edge ms ps i j hi hj (.inr hj'), tab_edge ms ps (i + 1) j (by omega) hj (.inr hj')]; omega⟩ h2
            · omega
          exact ⟨⟨hi', hj'⟩, by simp⟩
theorem wk_usable {l0 : List S48} {l1 : List S45} (h : Usable l0 l1) : AlOk (marksOf l0) l1.length 0 0 (wk (marksOf l0) l1 0 0) ∧ (wk (marksOf l0) l1 0 0).length ≤ 108 := by
  obtain ⟨h1, h2⟩ := wk_all (marksOf l0) l1 _ 0 0 (Nat.le_refl _) (by omega) (by omega)
  refine ⟨h1, ?_⟩
  have h3 : (marksOf l0).length = 2 * l0.length := mkl_length _ _
  have := h.1
  have := h.2.1
  omega
theorem worked_wk {l0 l0' : List S48} {l1 l1' : List S45} (h : Usable l0 l1) : punches_Worked.f l0 l1 (wk (marksOf l0) l1 0 0) = some (workL l0 l1 (wk (marksOf l0) l1 0 0), 0) :=
  worked_usable h (wk_usable h).1 (by have := (wk_usable h).2; omega)
theorem same_l0 (l : List S57) (hl : l.length ≤ 200) : ∀ n i, l.length - i ≤ n → ∃ k, wageofficeref22_Same.l0 k l l (i : Int) = some true := by
  intro n
  induction n with
  | zero => intro i h; exact ⟨1, by rw [wageofficeref22_Same.l0, if_neg (by omega)]⟩
  | succ n ih =>
    intro i h
    by_cases hi : i < l.length
    · obtain ⟨k, hk⟩ := ih (i + 1) (by omega)
      refine ⟨k + 1, ?_⟩
      rw [wageofficeref22_Same.l0, if_pos (by omega), if_pos (by omega), if_pos (by omega), if_neg (by simp), show wrap64 ((i : Int) + 1) = ((i + 1 : Nat) : Int) by simp only [wrap64]; omega]
      exact hk
    · exact ⟨1, by rw [wageofficeref22_Same.l0, if_neg (by omega)]⟩
theorem same_f (l : List S57) (hl : l.length ≤ 200) : ∃ k0, ∀ k, k0 ≤ k → wageofficeref22_Same.f k l l = some true := by
  obtain ⟨k, hk⟩ := same_l0 l hl l.length 0 (by omega)
  exact ⟨k, fun m hm => upto (g := fun k => wageofficeref22_Same.f k l l) (wageofficeref22_Same.mono l l) (j := k) (by simp only [wageofficeref22_Same.f, if_true]; exact hk) m hm⟩
theorem ints_l0 (l : List Int) (hl : l.length ≤ 200) : ∀ n i, l.length - i ≤ n → ∃ k, wageofficeref22_SameInts.l0 k l l (i : Int) = some true := by
  intro n
  induction n with
  | zero => intro i h; exact ⟨1, by rw [wageofficeref22_SameInts.l0, if_neg (by omega)]⟩
  | succ n ih =>
    intro i h
    by_cases hi : i < l.length
    · obtain ⟨k, hk⟩ := ih (i + 1) (by omega)
      refine ⟨k + 1, ?_⟩
      rw [wageofficeref22_SameInts.l0, if_pos (by omega), if_pos (by omega), if_pos (by omega), if_pos rfl, show wrap64 ((i : Int) + 1) = ((i + 1 : Nat) : Int) by simp only [wrap64]; omega]
      exact hk
    · exact ⟨1, by rw [wageofficeref22_SameInts.l0, if_neg (by omega)]⟩
theorem ints_f (l : List Int) (hl : l.length ≤ 200) : ∃ k0, ∀ k, k0 ≤ k → wageofficeref22_SameInts.f k l l = some true := by
  obtain ⟨k, hk⟩ := ints_l0 l hl l.length 0 (by omega)
  exact ⟨k, fun m hm => upto (g := fun k => wageofficeref22_SameInts.f k l l) (wageofficeref22_SameInts.mono l l) (j := k) (by simp only [wageofficeref22_SameInts.f, if_true]; exact hk) m hm⟩
theorem fold_len (l1 : List S45) : ∀ (l2 : List S57) (st : List S48 × List Bool), (l2.foldl (stepW l1) st).1.length = st.1.length ∧ (l2.foldl (stepW l1) st).2.length = st.2.length
  | [], st => ⟨rfl, rfl⟩
  | m :: r, st => by
    obtain ⟨h1, h2⟩ := fold_len l1 r (stepW l1 st m)
    rw [List.foldl_cons, h1, h2]
    unfold stepW
    split
    · exact ⟨rfl, rfl⟩
    · simp only; refine ⟨?_, by simp⟩
      split <;> simp
theorem workL_length (l0 : List S48) (l1 : List S45) (l2 : List S57) : (workL l0 l1 l2).length = l0.length := by
  obtain ⟨h1, h2⟩ := fold_len l1 l2 (l0, List.replicate l0.length false)
  unfold workL outW foldW
  simp only [List.length_zipWith, h1, h2, List.length_replicate, Nat.min_self]
end Go.Proofs.Ytpbamfoaoeicgaa.PAll

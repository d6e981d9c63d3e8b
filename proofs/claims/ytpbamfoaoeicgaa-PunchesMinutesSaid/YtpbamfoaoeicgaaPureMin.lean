/- PunchesMinutes answers true. -/
import Derived.Test.YtpbamfoaoeicgaaPMin0
import Derived.Test.YtpbamfoaoeicgaaPureWk
set_option linter.unusedVariables false
set_option linter.unusedSimpArgs false
namespace Go.Proofs.Ytpbamfoaoeicgaa.PAll
open Go Go.RowKit Go.Proofs.YtpbamfoaoeicgaaW.PrintWords Go.Proofs.YtpbamfoaoeicgaaW.PrintLast Go.Proofs.YtpbamfoaoeicgaaW.PrintMore

theorem mark_at : ∀ (l : List S48) (i0 i : Nat) (h : i < (mkl i0 l).length), (mkl i0 l)[i].f0 = ((i0 + i / 2 : Nat) : Int) ∧ (mkl i0 l)[i].f1 = decide (i % 2 = 0)
  | [], _, i, h => by simp [mkl] at h
  | s :: r, i0, 0, _ => by simp [mkl]
  | s :: r, i0, 1, _ => by simp [mkl]
  | s :: r, i0, i + 2, h => by
    have h' : i < (mkl (i0 + 1) r).length := by simpa [mkl] using h
    obtain ⟨a, b⟩ := mark_at r (i0 + 1) i h'
    have e : (mkl i0 (s :: r))[i + 2] = (mkl (i0 + 1) r)[i] := by simp [mkl]
    rw [e, a, b]
    refine ⟨?_, ?_⟩
    · congr 1; omega
    · simp
theorem al_ge (ms : List S68) (n : Nat) : ∀ (r : List S57) (i j : Nat), AlOk ms n i j r → ∀ m ∈ r, (m.f2 = -1 ∨ (j : Int) ≤ m.f2) ∧ (m.f0 = -1 ∨ ∃ i', i ≤ i' ∧ i' < ms.length ∧ m.f0 = (rd_T68 ms (i' : Int)).f0 ∧ m.f1 = (rd_T68 ms (i' : Int)).f1)
  | [], _, _, _ => by simp
  | x :: r, i, j, h => by
    intro m hm
    rcases h with ⟨h1, h2, rfl, h⟩ | ⟨h1, rfl, h⟩ | ⟨h2, rfl, h⟩
    · rcases List.mem_cons.1 hm with rfl | hm
      · exact ⟨.inr (Int.le_refl _), .inr ⟨i, Nat.le_refl _, h1, rfl, rfl⟩⟩
      · obtain ⟨a, b⟩ := al_ge ms n r _ _ h m hm
        refine ⟨a.imp id (fun h => by omega), b.imp id (fun ⟨i', g1, g2⟩ => ⟨i', by omega, g2⟩)⟩
    · rcases List.mem_cons.1 hm with rfl | hm
      · exact ⟨.inl rfl, .inr ⟨i, Nat.le_refl _, h1, rfl, rfl⟩⟩
      · obtain ⟨a, b⟩ := al_ge ms n r _ _ h m hm
        refine ⟨a, b.imp id (fun ⟨i', g1, g2⟩ => ⟨i', by omega, g2⟩)⟩
    · rcases List.mem_cons.1 hm with rfl | hm
      · exact ⟨.inr (Int.le_refl _), .inl rfl⟩
      · obtain ⟨a, b⟩ := al_ge ms n r _ _ h m hm
        exact ⟨a.imp id (fun h => by omega), b⟩
theorem mark_rd (l0 : List S48) (i : Nat) (h : i < (marksOf l0).length) : (rd_T68 (marksOf l0) (i : Int)).f0 = ((i / 2 : Nat) : Int) ∧ (rd_T68 (marksOf l0) (i : Int)).f1 = decide (i % 2 = 0) := by
  rw [rd68_eq h]
  obtain ⟨a, b⟩ := mark_at l0 0 i h
  rw [Nat.zero_add] at a
  exact ⟨a, b⟩
/-- a match with both, and what else there is -/
theorem al_split (l0 : List S48) (n : Nat) : ∀ (L : List S57) (i j : Nat), AlOk (marksOf l0) n i j L → ∀ m ∈ L, 0 ≤ m.f0 → 0 ≤ m.f2 → ∃ A B, L = A ++ m :: B ∧ (∀ x ∈ A, x.f2 ≠ m.f2) ∧ ∀ x ∈ B, x.f2 ≠ m.f2 ∧ ¬ (x.f0 = m.f0 ∧ x.f1 = m.f1)
  | [], _, _, _ => by simp
  | x :: r, i, j, h => by
    intro m hm h0 h2
    rcases h with ⟨a1, a2, ex, h⟩ | ⟨a1, ex, h⟩ | ⟨a2, ex, h⟩
    · rcases List.mem_cons.1 hm with rfl | hm
      · refine ⟨[], r, rfl, by simp, fun y hy => ?_⟩
        obtain ⟨b1, b2⟩ := al_ge _ n r _ _ h y hy
        obtain ⟨c1, c2⟩ := mark_rd l0 i a1
        subst ex
        simp only at h0 h2 ⊢
        refine ⟨by omega, fun ⟨e1, e2⟩ => ?_⟩
        rcases b2 with b2 | ⟨i', g1, g2, g3, g4⟩
        · omega
        · obtain ⟨d1, d2⟩ := mark_rd l0 i' g2
          rw [g3, d1, c1] at e1
          rw [g4, d2, c2] at e2
          simp only [decide_eq_decide] at e2
          omega
      · obtain ⟨A, B, e, k1, k2⟩ := al_split l0 n r _ _ h m hm h0 h2
        obtain ⟨b1, _⟩ := al_ge _ n r _ _ h m hm
        refine ⟨x :: A, B, by rw [e]; rfl, fun y hy => ?_, k2⟩
        rcases List.mem_cons.1 hy with rfl | hy
        · subst ex; simp only; omega
        · exact k1 y hy
    · rcases List.mem_cons.1 hm with rfl | hm
      · subst ex; simp at h2
      · obtain ⟨A, B, e, k1, k2⟩ := al_split l0 n r _ _ h m hm h0 h2
        refine ⟨x :: A, B, by rw [e]; rfl, fun y hy => ?_, k2⟩
        rcases List.mem_cons.1 hy with rfl | hy
        · subst ex; simp only; omega
        · exact k1 y hy
    · rcases List.mem_cons.1 hm with rfl | hm
      · subst ex; simp at h0
      · obtain ⟨A, B, e, k1, k2⟩ := al_split l0 n r _ _ h m hm h0 h2
        obtain ⟨b1, _⟩ := al_ge _ n r _ _ h m hm
        refine ⟨x :: A, B, by rw [e]; rfl, fun y hy => ?_, k2⟩
        rcases List.mem_cons.1 hy with rfl | hy
        · subst ex; simp only; omega
        · exact k1 y hy
/-- a time begun earlier -/
def early (y : Int) (T : List S48) (d : Nat) : List S48 := T.set d { rd_T48 T (d : Int) with f0 := (rd_T48 T (d : Int)).f0 - y }
theorem rd48_ne {T : List S48} {d e : Nat} (h : d ≠ e) (x : S48) : rd_T48 (T.set d x) (e : Int) = rd_T48 T (e : Int) := by
  simp [rd_T48, List.getD_eq_getElem?_getD, List.getElem?_set, h]
theorem rd48_set {T : List S48} {d : Nat} (h : d < T.length) (x : S48) : rd_T48 (T.set d x) (d : Int) = x := by
  simp [rd_T48, List.getD_eq_getElem?_getD, h]
theorem rd45_ne {l : List S45} {d e : Nat} (h : d ≠ e) (x : S45) : rd_T45 (l.set d x) (e : Int) = rd_T45 l (e : Int) := by
  simp [rd_T45, List.getD_eq_getElem?_getD, List.getElem?_set, h]
theorem rd45_set {l : List S45} {d : Nat} (h : d < l.length) (x : S45) : rd_T45 (l.set d x) (d : Int) = x := by
  simp [rd_T45, List.getD_eq_getElem?_getD, h]
/-- a match of another punch -/
theorem step_other (l1 : List S45) (p : Nat) (x : S45) (st : List S48 × List Bool) (m : S57) (h : m.f2 ≠ (p : Int)) : stepW (l1.set p x) st m = stepW l1 st m := by
  unfold stepW
  split
  · rfl
  · rename_i hn
    obtain ⟨q, hq⟩ : ∃ q : Nat, m.f2 = q := ⟨m.f2.toNat, by omega⟩
    rw [hq, rd45_ne (show p ≠ q by rintro rfl; exact h hq)]
theorem fold_other (l1 : List S45) (p : Nat) (x : S45) : ∀ (A : List S57) (st : List S48 × List Bool), (∀ m ∈ A, m.f2 ≠ (p : Int)) → A.foldl (stepW (l1.set p x)) st = A.foldl (stepW l1) st
  | [], _, _ => rfl
  | m :: r, st, h => by
    rw [List.foldl_cons, List.foldl_cons, step_other l1 p x st m (h m (by simp))]
    exact fold_other l1 p x r _ (fun y hy => h y (by simp [hy]))
theorem step_early (l1 : List S45) (y : Int) (d : Nat) (st : List S48 × List Bool) (hd : d < st.1.length) (m : S57) (h : ¬ (m.f0 = (d : Int) ∧ m.f1 = true)) :
    stepW l1 (early y st.1 d, st.2) m = (early y (stepW l1 st m).1 d, (stepW l1 st m).2) := by
  unfold stepW
  split
  · rfl
  · rename_i hn
    obtain ⟨e, he⟩ : ∃ e : Nat, m.f0 = e := ⟨m.f0.toNat, by omega⟩
    rw [he, Int.toNat_natCast]
    simp only
    by_cases hde : d = e
    · subst hde
      have hf : ¬ m.f1 = true := fun hf => h ⟨he, hf⟩
      rw [if_neg hf, if_neg hf]
      unfold early
      rw [rd48_set hd, rd48_set hd, List.set_set, List.set_set]
    · unfold early
      split
      · rw [rd48_ne hde, rd48_ne (Ne.symm hde), List.set_comm _ _ (Ne.symm hde)]
      · rw [rd48_ne hde, rd48_ne (Ne.symm hde), List.set_comm _ _ (Ne.symm hde)]
theorem step_len (l1 : List S45) (st : List S48 × List Bool) (m : S57) : (stepW l1 st m).1.length = st.1.length := by
  have := (fold_len l1 [m] st).1
  simpa using this
theorem fold_early (l1 : List S45) (y : Int) (d : Nat) : ∀ (B : List S57) (st : List S48 × List Bool), d < st.1.length → (∀ m ∈ B, ¬ (m.f0 = (d : Int) ∧ m.f1 = true)) → B.foldl (stepW l1) (early y st.1 d, st.2) = (early y (B.foldl (stepW l1) st).1 d, (B.foldl (stepW l1) st).2)
  | [], _, _, _ => rfl
  | m :: r, st, hd, h => by
    rw [List.foldl_cons, List.foldl_cons, step_early l1 y d st hd m (h m (by simp))]
    exact fold_early l1 y d r _ (by rw [step_len]; exact hd) (fun x hx => h x (by simp [hx]))
theorem fold_moved (l0 : List S48) (l1 : List S45) (L : List S57) (hal : AlOk (marksOf l0) l1.length 0 0 L) (m : S57) (hm : m ∈ L) (d p : Nat) (e0 : m.f0 = d) (e2 : m.f2 = p) (e1 : m.f1 = true) (hd : d < l0.length) (hp : p < l1.length) (y : Int) :
    foldW l0 (l1.set p ⟨(rd_T45 l1 (p : Int)).f0 - y, (rd_T45 l1 (p : Int)).f1⟩) L = (early y (foldW l0 l1 L).1 d, (foldW l0 l1 L).2) := by
  obtain ⟨A, B, rfl, hA, hB⟩ := al_split l0 l1.length L 0 0 hal m hm (by omega) (by omega)
  unfold foldW
  rw [List.foldl_append, List.foldl_append, List.foldl_cons, List.foldl_cons, fold_other l1 p _ A _ (fun x hx => by rw [← e2]; exact hA x hx)]
  generalize hst : A.foldl (stepW l1) (l0, List.replicate l0.length false) = st
  have hlen : st.1.length = l0.length := by rw [← hst]; exact (fold_len l1 A _).1
  rw [fold_other l1 p _ B _ (fun x hx => by rw [← e2]; exact (hB x hx).1)]
  have hn : ¬ (m.f0 < 0 ∨ m.f2 < 0) := by omega
  have s1 : stepW l1 st m = (st.1.set d { rd_T48 st.1 (d : Int) with f0 := (rd_T45 l1 (p : Int)).f0 }, st.2.set d true) := by
    unfold stepW; rw [if_neg hn, e0, e2, e1, Int.toNat_natCast]; rfl
  have es : stepW (l1.set p ⟨(rd_T45 l1 (p : Int)).f0 - y, (rd_T45 l1 (p : Int)).f1⟩) st m = (early y (stepW l1 st m).1 d, (stepW l1 st m).2) := by
    rw [s1]
    unfold stepW early
    rw [if_neg hn, e0, e2, e1, rd45_set hp, Int.toNat_natCast]
    simp only [if_true]
    rw [rd48_set (by omega), List.set_set]
  rw [es]
  exact fold_early l1 y d B _ (by rw [step_len]; omega) (fun x hx hh => (hB x hx).2 ⟨by rw [e0]; exact hh.1, by rw [e1]; exact hh.2⟩)
/-- times lie in the calendar -/
def inCal (T : List S48) : Prop := ∀ s ∈ T, 0 ≤ s.f0 ∧ s.f0 ≤ 52596000 ∧ 0 ≤ s.f1 ∧ s.f1 ≤ 52596000
theorem step_cal (l1 : List S45) (h1 : ∀ p ∈ l1, 0 ≤ p.f0 ∧ p.f0 ≤ 52596000) (st : List S48 × List Bool) (h : inCal st.1) (m : S57) (hin : (m.f0 < 0 ∨ m.f2 < 0) ∨ ∃ d p : Nat, m.f0 = d ∧ m.f2 = p ∧ d < st.1.length ∧ p < l1.length) : inCal (stepW l1 st m).1 := by
  unfold stepW
  rcases hin with hin | ⟨d, p, e0, e2, hd, hp⟩
  · rw [if_pos hin]; exact h
  · have hn : ¬ (m.f0 < 0 ∨ m.f2 < 0) := by omega
    rw [if_neg hn, e0, e2, Int.toNat_natCast, rd48_eq hd, rd45_eq hp]
    have k1 := h _ (List.getElem_mem hd)
    have k2 := h1 _ (List.getElem_mem hp)
    simp only
    split <;> intro s hs <;> rcases List.mem_or_eq_of_mem_set hs with hs | rfl <;> first | exact h s hs | (simp only; omega)
theorem fold_cal (l1 : List S45) (h1 : ∀ p ∈ l1, 0 ≤ p.f0 ∧ p.f0 ≤ 52596000) : ∀ (L : List S57) (st : List S48 × List Bool), inCal st.1 → (∀ m ∈ L, (m.f0 < 0 ∨ m.f2 < 0) ∨ ∃ d p : Nat, m.f0 = d ∧ m.f2 = p ∧ d < st.1.length ∧ p < l1.length) → inCal (L.foldl (stepW l1) st).1
  | [], _, h, _ => h
  | m :: r, st, h, hin => by
    rw [List.foldl_cons]
    exact fold_cal l1 h1 r _ (step_cal l1 h1 st h m (hin m (by simp))) (fun x hx => by rw [step_len]; exact hin x (by simp [hx]))
theorem okS_in : ∀ (l : List S48) (e : Int), okFrom e l → ∀ s ∈ l, okS s
  | [], _, _ => by simp
  | s :: r, e, ⟨h0, h1, h2⟩ => by
    intro x hx
    rcases List.mem_cons.1 hx with rfl | hx
    · exact h0
    · exact okS_in r _ h2 x hx
theorem okP_in : ∀ (l : List S45) (e : Int), okP e l → ∀ s ∈ l, 0 ≤ s.f0 ∧ s.f0 ≤ 52596000
  | [], _, _ => by simp
  | s :: r, e, ⟨h0, h1, _, h2⟩ => by
    intro x hx
    rcases List.mem_cons.1 hx with rfl | hx
    · exact ⟨h0, h1⟩
    · exact okP_in r _ h2 x hx
theorem out_rd (T : List S48) (K : List Bool) (i : Nat) (h1 : i < T.length) (h2 : i < K.length) : rd (outW T K) (i : Int) = if K[i] = true then max 0 (T[i].f1 - T[i].f0) else 0 := by
  unfold outW rd
  simp [List.getD_eq_getElem?_getD, List.getElem?_zipWith, h1, h2]
theorem rdOf_get (K : List Bool) (i : Nat) (h : i < K.length) : rdOf false K (i : Int) = K[i] := by
  simp [rdOf, List.getD_eq_getElem?_getD, h]
theorem rd57_eq {l : List S57} {i : Nat} (h : i < l.length) : rd_T57 l (i : Int) = l[i] := by simp [rd_T57, List.getD_eq_getElem?_getD, h]
/-- the last loop -/
theorem min_l2 (T : List S48) (K : List Bool) (d : Nat) (y : Int) (hy : 0 ≤ y ∧ y ≤ 255) (hc : inCal T) (hK : K.length = T.length) (hT : T.length ≤ 24) (hd : d < T.length) (b : Bool) (z : Int) : ∀ n i, T.length - i ≤ n → i ≤ T.length → ∃ k, pMin.l2 k y true (outW T K) (outW (early y T d) K) (T.length : Int) (i : Int) (d : Int) b z = some true := by
  have l1 : (outW T K).length = T.length := by unfold outW; rw [List.length_zipWith]; omega
  have l2 : (outW (early y T d) K).length = T.length := by unfold outW early; rw [List.length_zipWith, List.length_set]; omega
  have ey : wrap64 y = y := by simp only [wrap64]; omega
  intro n
  induction n with
  | zero => intro i hn hi; exact ⟨1, by rw [pMin.l2, if_neg (by clear ey; omega)]⟩
  | succ n ih =>
    intro i hn hi
    by_cases hlt : i < T.length
    · obtain ⟨k, hk⟩ := ih (i + 1) (by omega) hlt
      refine ⟨k + 1, ?_⟩
      have hKi : i < K.length := by clear ey; omega
      have g1 := out_rd T K i hlt hKi
      have g2 := out_rd (early y T d) K i (by unfold early; rw [List.length_set]; exact hlt) hKi
      have hcal := hc _ (List.getElem_mem hlt)
      have e1 : wrap64 ((i : Int) + 1) = ((i + 1 : Nat) : Int) := by clear ey; simp only [wrap64]; omega
      have w0 : 0 ≤ rd (outW T K) (i : Int) ∧ rd (outW T K) (i : Int) ≤ 52596000 := by rw [g1]; clear ey e1; split <;> omega
      have ew : wrap64 (rd (outW T K) (i : Int) + y) = rd (outW T K) (i : Int) + y := by clear ey e1; simp only [wrap64]; omega
      rw [pMin.l2, if_pos (by clear ey e1 ew; omega)]
      by_cases hid : i = d
      · subst hid
        have ee : (early y T i)[i]'(by unfold early; rw [List.length_set]; exact hlt) = ⟨T[i].f0 - y, T[i].f1, T[i].f2⟩ := by
          unfold early; rw [List.getElem_set_self, rd48_eq hlt]
        rw [ee] at g2
        simp only at g2
        have r1 : rd (outW T K) (i : Int) ≤ rd (outW (early y T i) K) (i : Int) ∧ rd (outW (early y T i) K) (i : Int) ≤ rd (outW T K) (i : Int) + y ∧ (0 < rd (outW T K) (i : Int) → rd (outW (early y T i) K) (i : Int) = rd (outW T K) (i : Int) + y) := by
          rw [g1, g2]; clear ey e1 ew g1 g2 w0; split <;> omega
        rw [if_pos rfl, if_pos (by clear ey e1 ew; omega), if_pos (by clear ey e1 ew; omega), if_pos (by clear ey e1 ew; omega), ey, ew, e1, if_neg (by clear ey e1 ew; omega), if_neg (by clear ey e1 ew; omega)]
        by_cases hp : rd (outW T K) (i : Int) > 0
        · rw [if_pos hp, if_pos (r1.2.2 hp)]; exact hk
        · rw [if_neg hp]; exact hk
      · have ee : (early y T d)[i]'(by unfold early; rw [List.length_set]; exact hlt) = T[i] := by
          unfold early; rw [List.getElem_set_ne (Ne.symm hid)]
        rw [ee, ← g1] at g2
        rw [if_neg (by clear ey e1 ew; omega), if_pos (by clear ey e1 ew; omega), if_pos (by clear ey e1 ew; omega), if_pos (by clear ey e1 ew; omega), if_pos g2, e1]; exact hk
    · exact ⟨1, by rw [pMin.l2, if_neg (by clear ey; omega)]⟩
/-- what begins a duty -/
def starts (L : List S57) : List S57 := L.filter fun m => decide (0 ≤ m.f0) && decide (0 ≤ m.f2) && m.f1
/-- the loop over the minutes -/
theorem min_l1 (l0 : List S48) (l1 : List S45) (L : List S57) (hu : Usable l0 l1) (hal : AlOk (marksOf l0) l1.length 0 0 L) (hL : L.length ≤ 108) (a2 a3 : Int) (h2 : 0 ≤ a2 ∧ a2 ≤ 255) (h3 : 0 ≤ a3 ∧ a3 ≤ 255) :
    ∀ n i, l0.length - i ≤ n → i ≤ l0.length → ∃ k, pMin.l1 k l0 l1 a2 a3 true L (workL l0 l1 L) (foldW l0 l1 L).2 (starts L) (workL l0 l1 L) (l0.length : Int) (i : Int) = some true := by
  have hw := workL_length l0 l1 L
  obtain ⟨ft, fk⟩ := fold_len l1 L (l0, List.replicate l0.length false)
  have ft' : (foldW l0 l1 L).1.length = l0.length := ft
  have fk' : (foldW l0 l1 L).2.length = l0.length := by have : (foldW l0 l1 L).2.length = _ := fk; simpa using this
  have hin := al_in l0 l1.length L 0 0 hal
  have hcal : inCal (foldW l0 l1 L).1 := by
    refine fold_cal l1 (okP_in l1 0 hu.2.2.2) L _ (fun s hs => ?_) hin
    have := okS_in l0 0 hu.2.2.1 s hs
    unfold okS at this; omega
  have hl0 := hu.1
  have hl1 := hu.2.1
  intro n
  have fin : ∀ i, i = l0.length → ∃ k, pMin.l1 k l0 l1 a2 a3 true L (workL l0 l1 L) (foldW l0 l1 L).2 (starts L) (workL l0 l1 L) (l0.length : Int) (i : Int) = some true := by
    intro i hi
    by_cases hs : (starts L).length = 0
    · refine ⟨1, ?_⟩
      rw [pMin.l1, if_neg (by omega), if_pos (by omega)]
    · obtain ⟨c, hc⟩ : ∃ c : Nat, a2 = c := ⟨a2.toNat, by omega⟩
      obtain ⟨g, hg⟩ : ∃ g, g = c % (starts L).length := ⟨_, rfl⟩
      have hgl : g < (starts L).length := by rw [hg]; exact Nat.mod_lt _ (by omega)
      have em : Int.tmod (wrap64 a2) ((starts L).length : Int) = (g : Int) := by
        have ew : wrap64 a2 = a2 := by simp only [wrap64]; omega
        rw [ew, hc, hg, ← Int.ofNat_tmod]
      have hm := List.getElem_mem hgl
      obtain ⟨m, hmm⟩ : ∃ m, m = (starts L)[g] := ⟨_, rfl⟩
      rw [← hmm] at hm
      unfold starts at hm
      rw [List.mem_filter] at hm
      simp only [Bool.and_eq_true, decide_eq_true_eq] at hm
      obtain ⟨hmL, ⟨m0, m2⟩, m1⟩ := hm
      obtain ⟨d, p, e0, e2, hd, hp⟩ : ∃ d p : Nat, m.f0 = d ∧ m.f2 = p ∧ d < l0.length ∧ p < l1.length := by
        rcases hin m hmL with h | h
        · omega
        · exact h
      have er : rd_T57 (starts L) (g : Int) = m := by rw [hmm]; exact rd57_eq hgl
      have hpc := okP_in l1 0 hu.2.2.2 _ (List.getElem_mem hp)
      have ea : wrap64 (l1[p].f0 - wrap64 a3) = l1[p].f0 - a3 := by
        have e : wrap64 a3 = a3 := by simp only [wrap64]; omega
        rw [e]; clear e; simp only [wrap64]; omega
      have eset : (⟨l1[p].f0 - a3, l1[p].f1⟩ : S45) = ⟨(rd_T45 l1 (p : Int)).f0 - a3, (rd_T45 l1 (p : Int)).f1⟩ := by rw [rd45_eq hp]
      obtain ⟨k1, b, hk1, hb⟩ := use_f l0 (l1.set p ⟨l1[p].f0 - a3, l1[p].f1⟩)
      have hf := fold_moved l0 l1 L hal m hmL d p e0 e2 m1 hd hp a3
      rw [← eset] at hf
      have hl2 := min_l2 (foldW l0 l1 L).1 (foldW l0 l1 L).2 d a3 h3 hcal (by rw [ft', fk']) (by omega) (by omega) m.f1 m.f2 l0.length 0 (by omega) (by omega)
      obtain ⟨k2, hk2⟩ := hl2
      have hv : workL l0 (l1.set p ⟨l1[p].f0 - a3, l1[p].f1⟩) L = outW (early a3 (foldW l0 l1 L).1 d) (foldW l0 l1 L).2 := by
        unfold workL; rw [hf]
      have hv2 := workL_length l0 (l1.set p ⟨l1[p].f0 - a3, l1[p].f1⟩) L
      have up2 := upto (g := fun k => pMin.l2 k a3 true (outW (foldW l0 l1 L).1 (foldW l0 l1 L).2) (outW (early a3 (foldW l0 l1 L).1 d) (foldW l0 l1 L).2) ((foldW l0 l1 L).1.length : Int) ((0 : Nat) : Int) (d : Int) m.f1 m.f2) (fun k => (pMin.mono_l k).2.2.2.2.2 _ _ _ _ _ _ _ _ _) hk2 (k1 + k2) (by omega)
      refine ⟨k1 + k2 + 1 + 1, ?_⟩
      rw [pMin.l1, if_neg (by omega), if_neg (by omega), em, if_pos (by omega), if_pos (by omega)]
      simp only [Option.bind_some, List.length_nil, List.nil_append, er, e2, Int.toNat_natCast]
      rw [if_pos (by omega), if_pos (by omega), if_pos (by omega), rd45_eq hp, ea, um _ _ hk1 _ (by omega)]
      cases b with
      | false => simp
      | true =>
        have hu' := hb rfl
        simp only [Option.bind_some, if_true]
        rw [worked_usable hu' (by rw [List.length_set]; exact hal) (by omega)]
        simp only [Option.bind_some, if_true]
        rw [show (((workL l0 (l1.set p ⟨l1[p].f0 - a3, l1[p].f1⟩) L).length : Int) != ((workL l0 l1 L).length : Int)) = false by rw [hv2, hw]; simp, pMin.j4, if_neg (by simp), hw, hv, e0]
        rw [ft', e2] at up2
        exact up2
  induction n with
  | zero => intro i hn hi; exact fin i (by omega)
  | succ n ih =>
    intro i hn hi
    by_cases hlt : i < l0.length
    · obtain ⟨k, hk⟩ := ih (i + 1) (by omega) hlt
      have e1 : wrap64 ((i : Int) + 1) = ((i + 1 : Nat) : Int) := by simp only [wrap64]; omega
      have hg := out_rd (foldW l0 l1 L).1 (foldW l0 l1 L).2 i (by clear e1; omega) (by clear e1; omega)
      have hg' : rd (workL l0 l1 L) (i : Int) = _ := hg
      refine ⟨k + 1, ?_⟩
      rw [pMin.l1, if_pos (by clear e1; omega), if_pos (by clear e1; omega), if_pos (by clear e1; omega), if_neg (by rw [hg']; clear e1; split <;> omega), if_pos (by clear e1; omega), rdOf_get _ i (by clear e1; omega), e1]
      by_cases hK : (foldW l0 l1 L).2[i]'(by clear e1; omega) = true
      · rw [if_pos hK]; exact hk
      · rw [if_neg hK, if_pos (by rw [hg', if_neg hK])]; exact hk
    · exact fin i (by omega)
/-- the loop over the matches -/
theorem min_l0 (l0 : List S48) (l1 : List S45) (L : List S57) (hu : Usable l0 l1) (hal : AlOk (marksOf l0) l1.length 0 0 L) (hL : L.length ≤ 108) (a2 a3 : Int) (h2 : 0 ≤ a2 ∧ a2 ≤ 255) (h3 : 0 ≤ a3 ∧ a3 ≤ 255) :
    ∀ n i, L.length - i ≤ n → i ≤ L.length → ∃ k, pMin.l0 k l0 l1 a2 a3 true L (workL l0 l1 L) ((L.take i).foldl (stepW l1) (l0, List.replicate l0.length false)).2 (starts (L.take i)) L (L.length : Int) (i : Int) = some true := by
  have hin := al_in l0 l1.length L 0 0 hal
  intro n
  have fin : ∀ i, i = L.length → ∃ k, pMin.l0 k l0 l1 a2 a3 true L (workL l0 l1 L) ((L.take i).foldl (stepW l1) (l0, List.replicate l0.length false)).2 (starts (L.take i)) L (L.length : Int) (i : Int) = some true := by
    intro i hi
    obtain ⟨k, hk⟩ := min_l1 l0 l1 L hu hal hL a2 a3 h2 h3 l0.length 0 (by omega) (by omega)
    refine ⟨k + 1, ?_⟩
    rw [pMin.l0, if_neg (by omega), hi, List.take_length, workL_length]
    exact hk
  induction n with
  | zero => intro i hn hi; exact fin i (by omega)
  | succ n ih =>
    intro i hn hi
    by_cases hlt : i < L.length
    · obtain ⟨k, hk⟩ := ih (i + 1) (by omega) hlt
      rw [List.take_succ_eq_append_getElem hlt, List.foldl_append, List.foldl_cons, List.foldl_nil] at hk
      unfold starts at hk ⊢
      rw [List.filter_append] at hk
      generalize hst : (L.take i).foldl (stepW l1) (l0, List.replicate l0.length false) = st at hk ⊢
      have hsl : st.2.length = l0.length := by rw [← hst]; have := (fold_len l1 (L.take i) (l0, List.replicate l0.length false)).2; simpa using this
      generalize hsa : (L.take i).filter (fun m => decide (0 ≤ m.f0) && decide (0 ≤ m.f2) && m.f1) = sa at hk ⊢
      have hsal : sa.length ≤ i := by rw [← hsa]; exact Nat.le_trans (List.length_filter_le _ _) (by rw [List.length_take]; omega)
      have hi' := hin _ (List.getElem_mem hlt)
      have er : rd_T57 L (i : Int) = L[i] := rd57_eq hlt
      generalize L[i] = m at hk hi' er
      refine ⟨k + 1 + 1, ?_⟩
      rw [pMin.l0, if_pos (by omega), if_pos (by omega), if_pos (by omega), er]
      have e1 : wrap64 ((i : Int) + 1) = ((i + 1 : Nat) : Int) := by simp only [wrap64]; omega
      have skip : (m.f0 < 0 ∨ m.f2 < 0) → pMin.j2 (k + 1) l0 l1 a2 a3 true L (workL l0 l1 L) st.2 sa L (L.length : Int) (i : Int) true m.f0 m.f1 m.f2 = some true := by
        intro h
        have hs : stepW l1 st m = st := by unfold stepW; rw [if_pos h]
        have hf : [m].filter (fun m => decide (0 ≤ m.f0) && decide (0 ≤ m.f2) && m.f1) = [] := by
          rw [List.filter_cons_of_neg]; rfl
          simp only [Bool.and_eq_true, decide_eq_true_eq]; clear e1; omega
        rw [hs, hf, List.append_nil] at hk
        rw [pMin.j2, if_pos rfl, e1]; exact hk
      by_cases c0 : m.f0 < 0
      · rw [if_pos c0]; exact skip (.inl c0)
      · rw [if_neg c0]
        by_cases c2 : m.f2 < 0
        · rcases Int.lt_or_le m.f0 (l0.length : Int) with hx | hx
          · rw [if_neg (by clear e1; omega), if_pos c2]; exact skip (.inr c2)
          · rw [if_pos (by clear e1; omega)]; exact skip (.inr c2)
        · obtain ⟨d, p, e0, e2, hd, hp⟩ : ∃ d p : Nat, m.f0 = d ∧ m.f2 = p ∧ d < l0.length ∧ p < l1.length := by
            rcases hi' with h | h
            · clear e1; omega
            · exact h
          have hs : (stepW l1 st m).2 = st.2.set d true := by
            unfold stepW; rw [if_neg (by clear e1; omega), e0, Int.toNat_natCast]
          rw [if_neg (by clear e1; omega), if_neg c2, decide_eq_false (by clear e1; omega), pMin.j2, if_neg (by simp), if_pos (by clear e1; omega), if_pos (by clear e1; omega), e0, Int.toNat_natCast]
          simp only [Option.bind_some]
          rw [hs] at hk
          by_cases c1 : m.f1 = true
          · have hf : [m].filter (fun m => decide (0 ≤ m.f0) && decide (0 ≤ m.f2) && m.f1) = [m] := by
              rw [List.filter_cons_of_pos]; rfl
              simp only [Bool.and_eq_true, decide_eq_true_eq]; exact ⟨⟨by clear e1; omega, by clear e1; omega⟩, c1⟩
            rw [hf] at hk
            rw [if_pos c1, if_pos (by clear e1; omega), e1]
            have em : (⟨(d : Int), m.f1, m.f2⟩ : S57) = m := by rw [← e0]
            rw [em]; exact hk
          · have hf : [m].filter (fun m => decide (0 ≤ m.f0) && decide (0 ≤ m.f2) && m.f1) = [] := by
              rw [List.filter_cons_of_neg]; rfl
              simp only [Bool.and_eq_true, decide_eq_true_eq]; exact fun h => c1 h.2
            rw [hf, List.append_nil] at hk
            rw [if_neg c1, e1]; exact hk
    · exact fin i (by omega)
theorem min_pure (l0 : List S48) (l1 : List S45) (a2 a3 : Int) (h2 : 0 ≤ a2 ∧ a2 ≤ 255) (h3 : 0 ≤ a3 ∧ a3 ≤ 255) : ∃ k, pMin.f k l0 l1 a2 a3 = some true := by
  obtain ⟨k1, b, hk1, hb⟩ := use_f l0 l1
  cases b with
  | false =>
    refine ⟨k1, ?_⟩
    unfold pMin.f
    rw [hk1]
    simp [wageofficelaw22_head.f]
  | true =>
    have hu := hb rfl
    have hw := wk_usable hu
    have hl0 := hu.1
    obtain ⟨k2, hk2⟩ := min_l0 l0 l1 (wk (marksOf l0) l1 0 0) hu hw.1 hw.2 a2 a3 h2 h3 _ 0 (Nat.le_refl _) (by omega)
    have up := upto (g := fun k => pMin.l0 k l0 l1 a2 a3 true (wk (marksOf l0) l1 0 0) (workL l0 l1 (wk (marksOf l0) l1 0 0)) (List.replicate l0.length false) [] (wk (marksOf l0) l1 0 0) ((wk (marksOf l0) l1 0 0).length : Int) ((0 : Nat) : Int)) (fun k => (pMin.mono_l k).2.1 _ _ _ _ _ _ _ _ _ _ _ _) hk2 (k1 + k2) (by omega)
    refine ⟨k1 + k2 + 1, ?_⟩
    unfold pMin.f
    rw [um _ _ hk1 _ (by omega)]
    simp only [wageofficelaw22_head.f, Option.bind_some, if_true]
    rw [pair_ed hu]
    simp only [Option.bind_some, if_true]
    rw [worked_wk (l0' := []) (l1' := []) hu]
    simp only [Option.bind_some, if_true]
    rw [show (((workL l0 l1 (wk (marksOf l0) l1 0 0)).length : Int) != (l0.length : Int)) = false by rw [workL_length]; simp, pMin.j0, if_neg (by simp), if_pos (by omega), if_pos (by rw [Int.toNat_natCast]; omega), Int.toNat_natCast]
    exact up
end Go.Proofs.Ytpbamfoaoeicgaa.PAll

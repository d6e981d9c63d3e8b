/- PunchesMatchesReference answers true. -/
import Derived.Test.YtpbamfoaoeicgaaQMt11a
import Derived.Test.YtpbamfoaoeicgaaQPureAl
import Derived.Test.YtpbamfoaoeicgaaQPureTab
set_option linter.unusedVariables false
set_option linter.unusedSimpArgs false
namespace Go.Proofs.Ytpbamfoaoeicgaa.PAll
open Go Go.RowKit Go.Proofs.YtpbamfoaoeicgaaW.PrintWords Go.Proofs.YtpbamfoaoeicgaaW.PrintLast Go.Proofs.YtpbamfoaoeicgaaW.PrintMore

/-- one duty's times -/
def stepD (l1 : List S45) (i : Nat) (st : Int × Int × Bool) (m : S57) : Int × Int × Bool :=
  if m.f0 = (i : Int) ∧ ¬ m.f2 < 0 then (if m.f1 = true then ((rd_T45 l1 m.f2).f0, st.2.1, true) else (st.1, (rd_T45 l1 m.f2).f0, true)) else st
def seeD (st : List S48 × List Bool) (i : Nat) : Int × Int × Bool := ((rd_T48 st.1 (i : Int)).f0, (rd_T48 st.1 (i : Int)).f1, rdOf false st.2 (i : Int))
theorem r48_ne {T : List S48} {d e : Nat} (h : d ≠ e) (x : S48) : rd_T48 (T.set d x) (e : Int) = rd_T48 T (e : Int) := by
  simp [rd_T48, List.getD_eq_getElem?_getD, List.getElem?_set, h]
theorem r48_same {T : List S48} {d : Nat} (h : d < T.length) (x : S48) : rd_T48 (T.set d x) (d : Int) = x := by
  simp [rd_T48, List.getD_eq_getElem?_getD, h]
theorem rB_ne {T : List Bool} {d e : Nat} (h : d ≠ e) (x : Bool) : rdOf false (T.set d x) (e : Int) = rdOf false T (e : Int) := by
  simp [rdOf, List.getD_eq_getElem?_getD, List.getElem?_set, h]
theorem rB_same {T : List Bool} {d : Nat} (h : d < T.length) (x : Bool) : rdOf false (T.set d x) (d : Int) = x := by
  simp [rdOf, List.getD_eq_getElem?_getD, h]
theorem see_step (l1 : List S45) (st : List S48 × List Bool) (i : Nat) (h1 : i < st.1.length) (h2 : i < st.2.length) (m : S57) : seeD (stepW l1 st m) i = stepD l1 i (seeD st i) m := by
  unfold stepW stepD
  by_cases hs : m.f0 < 0 ∨ m.f2 < 0
  · have hc : ¬ (m.f0 = (i : Int) ∧ ¬ m.f2 < 0) := by omega
    rw [if_pos hs, if_neg hc]
  · rw [if_neg hs]
    obtain ⟨d, hd⟩ : ∃ d : Nat, m.f0 = d := ⟨m.f0.toNat, by omega⟩
    by_cases e : d = i
    · subst e
      have hc : m.f0 = (d : Int) ∧ ¬ m.f2 < 0 := ⟨hd, by omega⟩
      rw [if_pos hc, hd, Int.toNat_natCast]
      unfold seeD
      simp only
      rw [rB_same h2]
      by_cases c1 : m.f1 = true
      · rw [if_pos c1, if_pos c1, r48_same h1]
      · rw [if_neg c1, if_neg c1, r48_same h1]
    · have hc : ¬ (m.f0 = (i : Int) ∧ ¬ m.f2 < 0) := by omega
      rw [if_neg hc, hd, Int.toNat_natCast]
      unfold seeD
      simp only
      rw [rB_ne e]
      by_cases c1 : m.f1 = true
      · rw [if_pos c1, r48_ne e]
      · rw [if_neg c1, r48_ne e]
theorem see_fold (l1 : List S45) (i : Nat) : ∀ (L : List S57) (st : List S48 × List Bool), i < st.1.length → i < st.2.length → seeD (L.foldl (stepW l1) st) i = L.foldl (stepD l1 i) (seeD st i)
  | [], _, _, _ => rfl
  | m :: r, st, h1, h2 => by
    rw [List.foldl_cons, List.foldl_cons, ← see_step l1 st i h1 h2 m]
    have e := fold_len l1 [m] st
    simp only [List.foldl_cons, List.foldl_nil] at e
    exact see_fold l1 i r _ (by rw [e.1]; exact h1) (by rw [e.2]; exact h2)
/-- times lie in the calendar -/
def calD (st : Int × Int × Bool) : Prop := 0 ≤ st.1 ∧ st.1 ≤ 52596000 ∧ 0 ≤ st.2.1 ∧ st.2.1 ≤ 52596000
theorem cal_stepD (l1 : List S45) (hp : ∀ p ∈ l1, 0 ≤ p.f0 ∧ p.f0 ≤ 52596000) (i : Nat) (st : Int × Int × Bool) (h : calD st) (m : S57) (hm : ¬ m.f2 < 0 → m.f0 = (i : Int) → m.f2 < (l1.length : Int)) : calD (stepD l1 i st m) := by
  unfold stepD
  by_cases c : m.f0 = (i : Int) ∧ ¬ m.f2 < 0
  · rw [if_pos c]
    obtain ⟨p, hp'⟩ : ∃ p : Nat, m.f2 = p := ⟨m.f2.toNat, by omega⟩
    have hl := hm c.2 c.1
    have hpl : p < l1.length := by omega
    have hv := hp _ (List.getElem_mem hpl)
    rw [hp', rd45_eq hpl]
    unfold calD at h ⊢
    split <;> simp only <;> omega
  · rw [if_neg c]; exact h
theorem okS_inM : ∀ (l : List S48) (e : Int), okFrom e l → ∀ s ∈ l, okS s
  | [], _, _ => by simp
  | s :: r, e, ⟨h0, h1, h2⟩ => by
    intro x hx
    rcases List.mem_cons.1 hx with rfl | hx
    · exact h0
    · exact okS_inM r _ h2 x hx
theorem okP_inM : ∀ (l : List S45) (e : Int), okP e l → ∀ s ∈ l, 0 ≤ s.f0 ∧ s.f0 ≤ 52596000
  | [], _, _ => by simp
  | s :: r, e, ⟨h0, h1, _, h2⟩ => by
    intro x hx
    rcases List.mem_cons.1 hx with rfl | hx
    · exact ⟨h0, h1⟩
    · exact okP_inM r _ h2 x hx
theorem work_at (l0 : List S48) (l1 : List S45) (L : List S57) (i : Nat) (hi : i < l0.length) (h : i < (workL l0 l1 L).length) :
    (workL l0 l1 L)[i] = if (seeD (foldW l0 l1 L) i).2.2 = true then max 0 ((seeD (foldW l0 l1 L) i).2.1 - (seeD (foldW l0 l1 L) i).1) else 0 := by
  obtain ⟨f1, f2⟩ := fold_len l1 L (l0, List.replicate l0.length false)
  have g1 : i < (foldW l0 l1 L).1.length := by unfold foldW; rw [f1]; exact hi
  have g2 : i < (foldW l0 l1 L).2.length := by unfold foldW; rw [f2]; simpa using hi
  have h2 : (workL l0 l1 L)[i]? = some _ := out_get (foldW l0 l1 L).1 (foldW l0 l1 L).2 i g1 g2
  rw [List.getElem?_eq_getElem h] at h2
  have e : rdOf false (foldW l0 l1 L).2 (i : Int) = (foldW l0 l1 L).2[i] := by simp [rdOf, List.getD_eq_getElem?_getD, g2]
  rw [Option.some.inj h2]
  unfold seeD
  simp only
  rw [e, rd48_eq g1]
/-- the loop over the matches, for one duty -/
theorem wk_l1 (l0 : List S48) (l1 : List S45) (L : List S57) (hL : L.length ≤ 200) (hp : ∀ p ∈ l1, 0 ≤ p.f0 ∧ p.f0 ≤ 52596000) (i : Nat) (hin : ∀ m ∈ L, ¬ m.f2 < 0 → m.f0 = (i : Int) → m.f2 < (l1.length : Int)) (out : List Int) (ho : out.length ≤ 30) (G : List Int × Int)
    (hG : ∀ v, v = (let st := L.foldl (stepD l1 i) ((rd_T48 l0 (i : Int)).f0, (rd_T48 l0 (i : Int)).f1, false); if st.2.2 = true then max 0 (st.2.1 - st.1) else 0) → ∃ k, wageofficeref22_Worked.l0 k l0 l1 L (out ++ [v]) (wrap64 ((i : Int) + 1)) = some G)
    (h0 : calD ((rd_T48 l0 (i : Int)).f0, (rd_T48 l0 (i : Int)).f1, false)) :
    ∀ n j, L.length - j = n → j ≤ L.length → calD ((L.take j).foldl (stepD l1 i) ((rd_T48 l0 (i : Int)).f0, (rd_T48 l0 (i : Int)).f1, false)) → ∃ k, wageofficeref22_Worked.l1 k l0 l1 L out (i : Int) ((L.take j).foldl (stepD l1 i) ((rd_T48 l0 (i : Int)).f0, (rd_T48 l0 (i : Int)).f1, false)).1 ((L.take j).foldl (stepD l1 i) ((rd_T48 l0 (i : Int)).f0, (rd_T48 l0 (i : Int)).f1, false)).2.1 ((L.take j).foldl (stepD l1 i) ((rd_T48 l0 (i : Int)).f0, (rd_T48 l0 (i : Int)).f1, false)).2.2 (j : Int) = some G := by
  intro n
  induction n with
  | zero =>
    intro j hN hj hc
    have ej : j = L.length := by omega
    rw [ej, List.take_length] at hc ⊢
    have hG' := hG _ rfl
    simp only at hG'
    generalize L.foldl (stepD l1 i) ((rd_T48 l0 (i : Int)).f0, (rd_T48 l0 (i : Int)).f1, false) = st at hc hG' ⊢
    obtain ⟨a, b, c⟩ := st
    obtain ⟨k, hk⟩ := hG'
    unfold calD at hc
    simp only at hc hk ⊢
    refine ⟨k + 1, ?_⟩
    rw [wageofficeref22_Worked.l1, if_neg (by omega)]
    cases c with
    | true =>
      have ew := Lib.hid (show wrap64 (b - a) = b - a by simp only [wrap64]; omega)
      have em : mx 0 (b - a) = max 0 (b - a) := by unfold mx; split <;> omega
      rw [if_pos rfl, if_pos (by omega), ew.out, em]
      rw [if_pos rfl] at hk
      exact hk
    | false =>
      rw [if_neg (by simp), if_pos (by omega)]
      rw [if_neg (by simp)] at hk
      exact hk
  | succ n ih =>
    intro j hN hj hc
    have hlt : j < L.length := by omega
    have e1 := Lib.hid (show wrap64 ((j : Int) + 1) = ((j + 1 : Nat) : Int) by simp only [wrap64]; omega)
    have es : (L.take (j + 1)).foldl (stepD l1 i) ((rd_T48 l0 (i : Int)).f0, (rd_T48 l0 (i : Int)).f1, false) = stepD l1 i ((L.take j).foldl (stepD l1 i) ((rd_T48 l0 (i : Int)).f0, (rd_T48 l0 (i : Int)).f1, false)) L[j] := by
      rw [List.take_succ_eq_append_getElem hlt, List.foldl_append, List.foldl_cons, List.foldl_nil]
    have hm := hin _ (List.getElem_mem hlt)
    have hc' := cal_stepD l1 hp i _ hc L[j] hm
    obtain ⟨k, hk⟩ := ih (j + 1) (by omega) hlt (by rw [es]; exact hc')
    rw [es] at hk
    generalize (L.take j).foldl (stepD l1 i) ((rd_T48 l0 (i : Int)).f0, (rd_T48 l0 (i : Int)).f1, false) = st at hk ⊢
    have er := al57_eq hlt
    unfold stepD at hk
    refine ⟨k + 1 + 1, ?_⟩
    rw [wageofficeref22_Worked.l1, if_pos (by omega), if_pos (by omega), er]
    by_cases c0 : L[j].f0 = (i : Int)
    · rw [if_pos c0]
      by_cases c2 : L[j].f2 < 0
      · rw [if_neg (fun h => h.2 c2)] at hk
        rw [decide_eq_true c2, wageofficeref22_Worked.j2, if_pos rfl, e1.out]
        exact hk
      · have hl := hm c2 c0
        rw [if_pos ⟨c0, c2⟩] at hk
        rw [decide_eq_false c2, wageofficeref22_Worked.j2, if_neg (by simp), if_pos (by omega), if_pos (by omega), er]
        by_cases c1 : L[j].f1 = true
        · rw [if_pos c1] at hk
          rw [if_pos c1, if_pos (by omega), if_pos hl, e1.out]
          exact hk
        · rw [if_neg c1] at hk
          rw [if_neg c1, if_pos (by omega), if_pos hl, e1.out]
          exact hk
    · rw [if_neg (fun h => c0 h.1)] at hk
      rw [if_neg c0, wageofficeref22_Worked.j2, if_pos rfl, e1.out]
      exact hk
theorem wk_l0 (l0 : List S48) (l1 : List S45) (L : List S57) (hu : Usable l0 l1) (hL : L.length ≤ 200) (hin : ∀ m ∈ L, (m.f0 < 0 ∨ m.f2 < 0) ∨ ∃ d p : Nat, m.f0 = d ∧ m.f2 = p ∧ d < l0.length ∧ p < l1.length) : ∀ n i, l0.length - i = n → i ≤ l0.length → ∃ k, wageofficeref22_Worked.l0 k l0 l1 L ((workL l0 l1 L).take i) (i : Int) = some (workL l0 l1 L, 0) := by
  have hw := workL_length l0 l1 L
  have hl0 := hu.1
  intro n
  induction n with
  | zero =>
    intro i hN hi
    refine ⟨1, ?_⟩
    rw [wageofficeref22_Worked.l0, if_neg (by omega), show i = (workL l0 l1 L).length by omega, List.take_length]
  | succ n ih =>
    intro i hN hi
    have hlt : i < l0.length := by omega
    have e1 := Lib.hid (show wrap64 ((i : Int) + 1) = ((i + 1 : Nat) : Int) by simp only [wrap64]; omega)
    obtain ⟨k, hk⟩ := ih (i + 1) (by omega) hlt
    have hwi : i < (workL l0 l1 L).length := by omega
    rw [List.take_succ_eq_append_getElem hwi] at hk
    have hs := okS_inM l0 0 hu.2.2.1 _ (List.getElem_mem hlt)
    have hcal : calD ((rd_T48 l0 (i : Int)).f0, (rd_T48 l0 (i : Int)).f1, false) := by
      rw [rd48_eq hlt]
      unfold okS at hs
      unfold calD
      simp only
      omega
    have see : seeD (foldW l0 l1 L) i = L.foldl (stepD l1 i) ((rd_T48 l0 (i : Int)).f0, (rd_T48 l0 (i : Int)).f1, false) := by
      have e := see_fold l1 i L (l0, List.replicate l0.length false) hlt (by simpa using hlt)
      unfold foldW
      rw [e]
      unfold seeD
      simp only
      congr 3
      simp [rdOf, List.getD_eq_getElem?_getD, hlt]
    obtain ⟨k2, hk2⟩ := wk_l1 l0 l1 L hL (okP_inM l1 0 hu.2.2.2) i (fun m hm h2 h0 => by
        rcases hin m hm with h | ⟨d, p, a, b, _, h⟩
        · omega
        · omega) ((workL l0 l1 L).take i) (by rw [List.length_take]; omega) (workL l0 l1 L, 0) (fun v hv => by
          refine ⟨k, ?_⟩
          rw [hv, e1.out, ← see]
          simp only
          rw [← work_at l0 l1 L i hlt hwi]
          exact hk) hcal L.length 0 (by omega) (by omega) hcal
    refine ⟨k2 + 1, ?_⟩
    rw [wageofficeref22_Worked.l0, if_pos (by omega), if_pos (by omega)]
    exact hk2
theorem refworked_ok {l0 : List S48} {l1 : List S45} (h : Usable l0 l1) (L : List S57) (hL : L.length ≤ 200) : ∃ k, wageofficeref22_Worked.f k l0 l1 L = if pal (marksOf l0) l1.length 0 0 L = true then some (workL l0 l1 L, 0) else some ([], 1) := by
  have h0 := h.1
  have h1 := h.2.1
  obtain ⟨k1, hk1⟩ := use_code l0 l1 (by omega) (by omega)
  rw [(code_usable l0 l1 (by omega) (by omega)).2 h] at hk1
  obtain ⟨k2, c, hk2⟩ := refal_ok h L hL
  by_cases hp : pal (marksOf l0) l1.length 0 0 L = true
  · have ha := (pal_ok l0 l1.length L 0 0 (by omega)).1 hp
    obtain ⟨k3, hk3⟩ := wk_l0 l0 l1 L h hL (al_in l0 l1.length L 0 0 ha) l0.length 0 (by omega) (by omega)
    have u1 := upto (g := fun k => wageofficeref22_Usable.f k l0 l1) (wageofficeref22_Usable.mono l0 l1) hk1 (k1 + k2 + k3) (by omega)
    have u2 := upto (g := fun k => rAl.f k l0 l1 L) (rAl.mono l0 l1 L) hk2 (k1 + k2 + k3) (by omega)
    have u3 := upto (g := fun k => wageofficeref22_Worked.l0 k l0 l1 L [] ((0 : Nat) : Int)) (fun k => (wageofficeref22_Worked.mono_l k).1 _ _ _ _ _) hk3 (k1 + k2 + k3) (by omega)
    refine ⟨k1 + k2 + k3, ?_⟩
    unfold wageofficeref22_Worked.f
    rw [u1, Option.bind_some, if_pos rfl, u2, Option.bind_some]
    simp only
    rw [if_pos hp, if_pos hp]
    exact u3
  · have u1 := upto (g := fun k => wageofficeref22_Usable.f k l0 l1) (wageofficeref22_Usable.mono l0 l1) hk1 (k1 + k2) (by omega)
    have u2 := upto (g := fun k => rAl.f k l0 l1 L) (rAl.mono l0 l1 L) hk2 (k1 + k2) (by omega)
    refine ⟨k1 + k2, ?_⟩
    unfold wageofficeref22_Worked.f
    rw [u1, Option.bind_some, if_pos rfl, u2, Option.bind_some]
    simp only
    rw [if_neg hp, if_neg hp]
theorem refworked_bad {l0 : List S48} {l1 : List S45} (h0 : l0.length ≤ 26) (h1 : l1.length ≤ 62) (h : ¬ Usable l0 l1) (L : List S57) : ∃ k, wageofficeref22_Worked.f k l0 l1 L = some ([], code l0 l1) := by
  obtain ⟨k1, hk1⟩ := use_code l0 l1 h0 h1
  have hc : ¬ code l0 l1 = 0 := fun e => h ((code_usable l0 l1 h0 h1).1 e)
  refine ⟨k1, ?_⟩
  unfold wageofficeref22_Worked.f
  rw [hk1, Option.bind_some, if_neg hc]
theorem pair_badcode {l0 : List S48} {l1 : List S45} (h0 : l0.length ≤ 26) (h1 : l1.length ≤ 62) (h : ¬ Usable l0 l1) : punches_Pair.f l0 l1 = some ([], 0, code l0 l1) := by
  have hc : ¬ code l0 l1 = 0 := fun e => h ((code_usable l0 l1 h0 h1).1 e)
  unfold punches_Pair.f
  rw [if_neg h, check_code l0 l1 h0 h1, Option.bind_some, if_neg hc]
theorem worked_badcode {l0 : List S48} {l1 : List S45} (h0 : l0.length ≤ 26) (h1 : l1.length ≤ 62) (h : ¬ Usable l0 l1) (L : List S57) : punches_WorkedM.f l0 l1 L = some ([], code l0 l1) := by
  have hc : ¬ code l0 l1 = 0 := fun e => h ((code_usable l0 l1 h0 h1).1 e)
  unfold punches_WorkedM.f
  rw [if_neg h, check_code l0 l1 h0 h1, Option.bind_some, if_neg hc]
theorem mat_pure (l0 : List S48) (l1 : List S45) (L : List S57) : ∃ k, wageofficelaw22_PunchesMatchesReference.f k l0 l1 L = some true := by
  have out : wageofficelaw22_PunchesMatchesReference.j0 1 l0 l1 L true true = some true := by rw [wageofficelaw22_PunchesMatchesReference.j0, if_pos rfl]
  unfold wageofficelaw22_PunchesMatchesReference.f wageofficelaw22_short.f
  simp only [wageofficelaw22_head.f, Option.bind_some]
  by_cases c0 : (l0.length : Int) ≤ 26
  · simp only [if_pos c0, Option.bind_some]
    by_cases c1 : (l1.length : Int) ≤ 62
    · simp only [decide_eq_true c1, if_true]
      by_cases c2 : (L.length : Int) > 200
      · simp only [decide_eq_true c2]; exact ⟨1, out⟩
      · simp only [decide_eq_false c2]
        have h0 : l0.length ≤ 26 := by omega
        have h1 : l1.length ≤ 62 := by omega
        have hL : L.length ≤ 200 := by omega
        by_cases hu : Usable l0 l1
        · have hw := wk_usable hu
          have hwl : (wk (marksOf l0) l1 0 0).length ≤ 200 := by have := hw.2; omega
          have hwp : pal (marksOf l0) l1.length 0 0 (wk (marksOf l0) l1 0 0) = true := (pal_ok l0 l1.length _ 0 0 (by omega)).2 hw.1
          obtain ⟨k1, hk1⟩ := refpair_ok hu
          obtain ⟨k2, hk2⟩ := refworked_ok hu L hL
          obtain ⟨k3, hk3⟩ := refworked_ok hu (wk (marksOf l0) l1 0 0) hwl
          obtain ⟨k4, hk4⟩ := same_f (wk (marksOf l0) l1 0 0) hwl
          obtain ⟨k5, hk5⟩ := ints_f (workL l0 l1 (wk (marksOf l0) l1 0 0)) (by rw [workL_length]; omega)
          obtain ⟨k6, hk6⟩ := ints_f (workL l0 l1 L) (by rw [workL_length]; omega)
          obtain ⟨k7, hk7⟩ := ints_f [] (by simp)
          rw [if_pos hwp] at hk3
          have wL : punches_WorkedM.f l0 l1 L = if pal (marksOf l0) l1.length 0 0 L = true then some (workL l0 l1 L, 0) else some ([], 1) := by
            unfold punches_WorkedM.f; rw [if_pos hu, if_pos hL]
          have wW : punches_WorkedM.f l0 l1 (wk (marksOf l0) l1 0 0) = some (workL l0 l1 (wk (marksOf l0) l1 0 0), 0) := by
            unfold punches_WorkedM.f; rw [if_pos hu, if_pos hwl, if_pos hwp]
          obtain ⟨K, hK⟩ : ∃ K, K = k1 + k2 + k3 + k4 + k5 + k6 + k7 := ⟨_, rfl⟩
          have u1 := upto (g := fun k => wageofficeref22_Pair.f k l0 l1) (wageofficeref22_Pair.mono l0 l1) hk1 K (by omega)
          have u3 := upto (g := fun k => wageofficeref22_Worked.f k l0 l1 (wk (marksOf l0) l1 0 0)) (wageofficeref22_Worked.mono l0 l1 _) hk3 K (by omega)
          have v4 := hk4 K (by omega)
          have v5 := hk5 K (by omega)
          refine ⟨K + 1, ?_⟩
          rw [wageofficelaw22_PunchesMatchesReference.j0, if_neg (by simp), pair_ed hu]
          simp only [Option.bind_some]
          rw [u1]
          simp only [Option.bind_some]
          rw [wL, wW]
          by_cases hp : pal (marksOf l0) l1.length 0 0 L = true
          · rw [if_pos hp] at hk2 ⊢
            have u2 := upto (g := fun k => wageofficeref22_Worked.f k l0 l1 L) (wageofficeref22_Worked.mono l0 l1 _) hk2 K (by omega)
            have v6 := hk6 K (by omega)
            simp only [Option.bind_some]
            rw [u2]
            simp only [Option.bind_some]
            rw [u3]
            simp only [Option.bind_some, if_true, v4, v5, v6]
          · rw [if_neg hp] at hk2 ⊢
            have u2 := upto (g := fun k => wageofficeref22_Worked.f k l0 l1 L) (wageofficeref22_Worked.mono l0 l1 _) hk2 K (by omega)
            have v7 := hk7 K (by omega)
            simp only [Option.bind_some]
            rw [u2]
            simp only [Option.bind_some]
            rw [u3]
            simp only [Option.bind_some, if_true, v4, v5, v7]
        · obtain ⟨k1, hk1⟩ := refpair_bad h0 h1 hu
          obtain ⟨k2, hk2⟩ := refworked_bad h0 h1 hu L
          obtain ⟨k3, hk3⟩ := refworked_bad h0 h1 hu []
          obtain ⟨k4, hk4⟩ := same_f [] (by simp)
          obtain ⟨k5, hk5⟩ := ints_f [] (by simp)
          obtain ⟨K, hK⟩ : ∃ K, K = k1 + k2 + k3 + k4 + k5 := ⟨_, rfl⟩
          have u1 := upto (g := fun k => wageofficeref22_Pair.f k l0 l1) (wageofficeref22_Pair.mono l0 l1) hk1 K (by omega)
          have u2 := upto (g := fun k => wageofficeref22_Worked.f k l0 l1 L) (wageofficeref22_Worked.mono l0 l1 _) hk2 K (by omega)
          have u3 := upto (g := fun k => wageofficeref22_Worked.f k l0 l1 []) (wageofficeref22_Worked.mono l0 l1 _) hk3 K (by omega)
          have v4 := hk4 K (by omega)
          have v5 := hk5 K (by omega)
          refine ⟨K + 1, ?_⟩
          rw [wageofficelaw22_PunchesMatchesReference.j0, if_neg (by simp), pair_badcode h0 h1 hu]
          simp only [Option.bind_some]
          rw [u1]
          simp only [Option.bind_some, worked_badcode h0 h1 hu]
          rw [u2]
          simp only [Option.bind_some]
          rw [u3]
          simp only [Option.bind_some, if_true, v4, v5]
    · simp only [decide_eq_false c1, Bool.false_eq_true, if_false]; exact ⟨1, out⟩
  · simp only [if_neg c0, Option.bind_some, Bool.false_eq_true, if_false]; exact ⟨1, out⟩
end Go.Proofs.Ytpbamfoaoeicgaa.PAll

/- PunchesExact answers true. -/
import Derived.Test.YtpbamfoaoeicgaaPAllx11
import Derived.Test.YtpbamfoaoeicgaaPureWk
set_option linter.unusedVariables false
set_option linter.unusedSimpArgs false
namespace Go.Proofs.Ytpbamfoaoeicgaa.PAll
open Go Go.RowKit Go.Proofs.YtpbamfoaoeicgaaW.PrintWords Go.Proofs.YtpbamfoaoeicgaaW.PrintLast Go.Proofs.YtpbamfoaoeicgaaW.PrintMore

/-- the punches that are the beginnings and ends -/
def exP (l : List S48) : List S45 := l.flatMap fun s => [⟨s.f0, true⟩, ⟨s.f1, false⟩]
theorem exP_length : ∀ l : List S48, (exP l).length = 2 * l.length
  | [] => rfl
  | s :: r => by have := exP_length r; simp only [exP, List.flatMap_cons, List.length_append, List.length_cons, List.length_nil] at *; omega
theorem exP_get : ∀ (l : List S48) (i : Nat) (h : i < l.length), (exP l)[2 * i]? = some ⟨l[i].f0, true⟩ ∧ (exP l)[2 * i + 1]? = some ⟨l[i].f1, false⟩
  | [], i, h => by simp at h
  | s :: r, 0, _ => by simp [exP]
  | s :: r, i + 1, h => by
    have := exP_get r i (by simpa using h)
    simpa [exP, Nat.mul_add] using this
theorem mkl_get : ∀ (l : List S48) (i0 i : Nat) (h : i < l.length), (mkl i0 l)[2 * i]? = some ⟨((i0 + i : Nat) : Int), true, l[i].f0⟩ ∧ (mkl i0 l)[2 * i + 1]? = some ⟨((i0 + i : Nat) : Int), false, l[i].f1⟩
  | [], _, i, h => by simp at h
  | s :: r, i0, 0, _ => by simp [mkl]
  | s :: r, i0, i + 1, h => by
    have := mkl_get r (i0 + 1) i (by simpa using h)
    rw [show i0 + 1 + i = i0 + (i + 1) by omega] at this
    simpa [mkl, Nat.mul_add] using this
theorem rd68_some {l : List S68} {i : Nat} {x : S68} (h : l[i]? = some x) : rd_T68 l (i : Int) = x := by
  obtain ⟨hi, rfl⟩ := List.getElem?_eq_some_iff.1 h
  exact rd68_eq hi
theorem rd45_some {l : List S45} {i : Nat} {x : S45} (h : l[i]? = some x) : rd_T45 l (i : Int) = x := by
  obtain ⟨hi, rfl⟩ := List.getElem?_eq_some_iff.1 h
  exact rd45_eq hi
theorem ex_keys : ∀ (l : List S48) (i : Nat), (mkl i l).map (fun m => (m.f1, m.f2)) = (exP l).map (fun p => (p.f1, p.f0))
  | [], _ => rfl
  | s :: r, i => by have := ex_keys r (i + 1); simp only [mkl, exP, List.flatMap_cons, List.map_cons, List.map_append, this] at *; simp
theorem ed_zero : ∀ (ms : List S68) (ps : List S45), ms.map (fun m => (m.f1, m.f2)) = ps.map (fun p => (p.f1, p.f0)) → ed ms ps = 0
  | [], [], _ => by rw [ed_nil_left]; rfl
  | [], _ :: _, h => by simp at h
  | _ :: _, [], h => by simp at h
  | m :: ms, p :: ps, h => by
    simp only [List.map_cons, List.cons.injEq, Prod.mk.injEq] at h
    have h0 := ed_zero ms ps h.2
    have h1 := ed_nonneg ms (p :: ps)
    have h2 := ed_nonneg (m :: ms) ps
    have h3 : cst m p = 0 := by unfold cst; rw [if_pos h.1.1, h.1.2]; simp
    rw [ed_cons, h0, h3]; omega
theorem tab_zero (l : List S48) (i : Nat) : tab (marksOf l) (exP l) i i = 0 := by
  unfold tab
  apply ed_zero
  rw [List.map_drop, List.map_drop]
  unfold marksOf
  rw [ex_keys]
theorem rep_set (n i : Nat) (h : i < n) : (List.replicate i true ++ List.replicate (n - i) false).set i true = List.replicate (i + 1) true ++ List.replicate (n - (i + 1)) false := by
  refine List.ext_getElem (by simp; omega) (fun a h1 h2 => ?_)
  rw [List.getElem_set]
  simp only [List.getElem_append, List.getElem_replicate, List.length_replicate]
  split <;> split <;> (try split) <;> first | rfl | (exfalso; omega)
theorem fold_ex (l : List S48) (hl : ∀ s ∈ l, okS s) : ∀ n i, l.length - i ≤ n → i ≤ l.length → (wk (marksOf l) (exP l) (2 * i) (2 * i)).foldl (stepW (exP l)) (l, List.replicate i true ++ List.replicate (l.length - i) false) = (l, List.replicate l.length true) := by
  intro n
  have hm : (marksOf l).length = 2 * l.length := mkl_length _ _
  have hp := exP_length l
  have fin : ∀ i, i = l.length → (wk (marksOf l) (exP l) (2 * i) (2 * i)).foldl (stepW (exP l)) (l, List.replicate i true ++ List.replicate (l.length - i) false) = (l, List.replicate l.length true) := by
    intro i hi
    rw [wk, if_neg (by omega), if_neg (by omega), if_neg (by omega), hi]
    simp
  induction n with
  | zero => intro i h hi; exact fin i (by omega)
  | succ n ih =>
    intro i h hi
    by_cases hlt : i < l.length
    · have ih' := ih (i + 1) (by omega) hlt
      obtain ⟨m0, m1⟩ := mkl_get l 0 i hlt
      obtain ⟨p0, p1⟩ := exP_get l i hlt
      have a0 : rd_T68 (marksOf l) ((2 * i : Nat) : Int) = _ := rd68_some m0
      have a1 : rd_T68 (marksOf l) ((2 * i + 1 : Nat) : Int) = _ := rd68_some m1
      have b0 := rd45_some p0
      have b1 := rd45_some p1
      rw [Nat.zero_add] at a0 a1
      rw [wk, if_pos ⟨by omega, by omega, by rw [tab_zero, tab_zero, a0, b0]; simp [cst]⟩]
      rw [wk, if_pos ⟨by omega, by omega, by rw [tab_zero, tab_zero, a1, b1]; simp [cst]⟩]
      rw [a0, a1, List.foldl_cons, List.foldl_cons]
      have s0 : stepW (exP l) (l, List.replicate i true ++ List.replicate (l.length - i) false) ⟨(i : Int), true, ((2 * i : Nat) : Int)⟩ = (l, List.replicate (i + 1) true ++ List.replicate (l.length - (i + 1)) false) := by
        unfold stepW
        rw [if_neg (by simp only; omega)]
        simp only [Int.toNat_natCast, if_true, b0, rd48_eq hlt]
        congr 1
        · have : ({l[i] with f0 := l[i].f0} : S48) = l[i] := rfl
          rw [this]; exact List.set_getElem_self hlt
        · exact rep_set l.length i hlt
      have s1 : stepW (exP l) (l, List.replicate (i + 1) true ++ List.replicate (l.length - (i + 1)) false) ⟨(i : Int), false, ((2 * i + 1 : Nat) : Int)⟩ = (l, List.replicate (i + 1) true ++ List.replicate (l.length - (i + 1)) false) := by
        unfold stepW
        rw [if_neg (by simp only; omega)]
        simp only [Int.toNat_natCast, b1, rd48_eq hlt, Bool.false_eq_true, if_false]
        congr 1
        · have : ({l[i] with f1 := l[i].f1} : S48) = l[i] := rfl
          rw [this]; exact List.set_getElem_self hlt
        · rw [List.set_append_left _ _ (by simp)]
          congr 1
          refine List.ext_getElem (by simp) (fun a h1 h2 => ?_)
          rw [List.getElem_set]
          split <;> simp
      rw [s0, s1]
      exact ih'
    · exact fin i (by omega)
theorem out_true : ∀ (l : List S48), (∀ s ∈ l, okS s) → outW l (List.replicate l.length true) = l.map (fun s => s.f1 - s.f0)
  | [], _ => rfl
  | s :: r, h => by
    have := out_true r (fun t ht => h t (by simp [ht]))
    have h0 := h s (by simp)
    unfold okS at h0
    unfold outW at this ⊢
    rw [List.length_cons, List.replicate_succ, List.zipWith_cons_cons, this, List.map_cons, if_pos rfl]
    congr 1; omega
theorem out_false : ∀ (l : List S48), outW l (List.replicate l.length false) = List.replicate l.length 0
  | [] => rfl
  | s :: r => by
    have := out_false r
    unfold outW at this ⊢
    rw [List.length_cons, List.replicate_succ, List.zipWith_cons_cons, this, if_neg (by simp), List.replicate_succ]
theorem work_ex (l : List S48) (hl : ∀ s ∈ l, okS s) : workL l (exP l) (wk (marksOf l) (exP l) 0 0) = l.map (fun s => s.f1 - s.f0) := by
  have := fold_ex l hl l.length 0 (by omega) (by omega)
  simp only [Nat.mul_zero, List.replicate_zero, List.nil_append, Nat.sub_zero] at this
  unfold workL foldW
  rw [this]; exact out_true l hl
theorem al_none (ms : List S68) : ∀ (l : List S57) (i : Nat), AlOk ms 0 i 0 l → ∀ m ∈ l, m.f2 < 0
  | [], _, _ => by simp
  | m :: r, i, h => by
    intro x hx
    rcases h with ⟨_, h2, _⟩ | ⟨h1, rfl, h⟩ | ⟨h2, _⟩
    · omega
    · rcases List.mem_cons.1 hx with rfl | hx
      · simp
      · exact al_none ms r _ h x hx
    · omega
theorem fold_none (l1 : List S45) (st : List S48 × List Bool) : ∀ (l : List S57), (∀ m ∈ l, m.f2 < 0) → l.foldl (stepW l1) st = st
  | [], _ => rfl
  | m :: r, h => by
    rw [List.foldl_cons, show stepW l1 st m = st by unfold stepW; rw [if_pos (.inr (h m (by simp)))]]
    exact fold_none l1 st r (fun x hx => h x (by simp [hx]))
theorem work_none (l : List S48) (h : Usable l []) : workL l [] (wk (marksOf l) [] 0 0) = List.replicate l.length 0 := by
  unfold workL foldW
  rw [fold_none [] _ _ (al_none _ _ 0 (wk_usable h).1)]
  exact out_false l
theorem okP_ex : ∀ (l : List S48) (e : Int), okFrom e l → okP e (exP l)
  | [], _, _ => trivial
  | s :: r, e, ⟨h0, h1, h2⟩ => by
    unfold okS at h0
    exact ⟨by simp only; omega, by simp only; omega, h1, by simp only; omega, by simp only; omega, by simp only; omega, okP_ex r _ h2⟩
theorem okS_mem : ∀ (l : List S48) (e : Int), okFrom e l → ∀ s ∈ l, okS s
  | [], _, _ => by simp
  | s :: r, e, ⟨h0, h1, h2⟩ => by
    intro x hx
    rcases List.mem_cons.1 hx with rfl | hx
    · exact h0
    · exact okS_mem r _ h2 x hx
theorem exact_end (l : List S48) (h : Usable l []) : ∃ k, wageofficelaw22_PunchesExact.l0 k l true (exP l) (l.map (fun s => s.f1 - s.f0)) (List.replicate l.length 0) l (l.length : Int) (l.length : Int) = some true := by
  have hl := h.1
  have hs := okS_mem l 0 h.2.2.1
  have hu : Usable l (exP l) := ⟨hl, by rw [exP_length]; omega, h.2.2.1, okP_ex l 0 h.2.2.1⟩
  obtain ⟨k1, hk1⟩ := ints_f (l.map (fun s => s.f1 - s.f0)) (by simp; omega)
  obtain ⟨k2, hk2⟩ := ints_f (List.replicate l.length 0) (by simp; omega)
  have w1 := worked_wk (l0' := []) (l1' := []) hu
  have w2 := worked_wk (l0' := []) (l1' := []) h
  rw [work_ex l hs] at w1
  rw [work_none l h] at w2
  have e1 : ed (marksOf l) (exP l) = 0 := ed_zero _ _ (ex_keys l 0)
  have e2 : ed (marksOf l) [] = 240 * (l.length : Int) := by
    have hm : (marksOf l).length = 2 * l.length := mkl_length _ _
    rw [ed_nil_right, hm]; omega
  have e3 : wrap64 (240 * (l.length : Int)) = 240 * (l.length : Int) := by simp only [wrap64]; omega
  refine ⟨k1 + k2 + 1, ?_⟩
  rw [wageofficelaw22_PunchesExact.l0, if_neg (Int.lt_irrefl _), pair_ed hu, pair_ed h, e1, e2, e3]
  simp only [Option.bind_some, w1, w2, if_true, hk1 _ (show k1 ≤ k1 + k2 by omega), hk2 _ (show k2 ≤ k1 + k2 by omega)]
theorem exact_step (l : List S48) (h : Usable l []) (i : Nat) (hlt : i < l.length) (k : Nat) (hk : wageofficelaw22_PunchesExact.l0 k l true (exP (l.take (i + 1))) ((l.take (i + 1)).map (fun s => s.f1 - s.f0)) (List.replicate (i + 1) 0) l (l.length : Int) ((i + 1 : Nat) : Int) = some true) :
    wageofficelaw22_PunchesExact.l0 (k + 1) l true (exP (l.take i)) ((l.take i).map (fun s => s.f1 - s.f0)) (List.replicate i 0) l (l.length : Int) (i : Int) = some true := by
  have hl := h.1
  have ok := okS_mem l 0 h.2.2.1 l[i] (List.getElem_mem hlt)
  unfold okS at ok
  have e0 : (exP (l.take i)).length = 2 * i := by rw [exP_length, List.length_take]; omega
  have e1 : wrap64 ((i : Int) + 1) = ((i + 1 : Nat) : Int) := by simp only [wrap64]; omega
  have e2 : wrap64 (l[i].f1 - l[i].f0) = l[i].f1 - l[i].f0 := by simp only [wrap64]; omega
  have e3 : exP (l.take (i + 1)) = exP (l.take i) ++ [⟨l[i].f0, true⟩, ⟨l[i].f1, false⟩] := by
    rw [List.take_succ_eq_append_getElem hlt]; unfold exP; rw [List.flatMap_append]; rfl
  have e4 : (l.take (i + 1)).map (fun s => s.f1 - s.f0) = (l.take i).map (fun s => s.f1 - s.f0) ++ [l[i].f1 - l[i].f0] := by
    rw [List.take_succ_eq_append_getElem hlt, List.map_append]; rfl
  rw [e3, e4, List.replicate_succ'] at hk
  have n1 : (exP (l.take i)).length + [(⟨l[i].f0, true⟩ : S45), ⟨l[i].f1, false⟩].length < 8796093022208 := by rw [e0]; simp only [List.length_cons, List.length_nil]; omega
  have n2 : ((l.take i).map (fun s => s.f1 - s.f0)).length < 17592186044416 := by rw [List.length_map, List.length_take]; omega
  have n3 : (List.replicate i (0 : Int)).length < 17592186044416 := by rw [List.length_replicate]; omega
  rw [wageofficelaw22_PunchesExact.l0, if_pos (by omega), if_pos (by omega), if_pos (by omega), Option.bind_some, rd48_eq hlt, if_pos n1, if_pos n2, if_pos n3, e1, e2]
  exact hk
theorem exact_l0 (l : List S48) (h : Usable l []) : ∀ n i, l.length - i ≤ n → i ≤ l.length → ∃ k, wageofficelaw22_PunchesExact.l0 k l true (exP (l.take i)) ((l.take i).map (fun s => s.f1 - s.f0)) (List.replicate i 0) l (l.length : Int) (i : Int) = some true := by
  intro n
  induction n with
  | zero =>
    intro i hn hi
    obtain rfl : i = l.length := by omega
    rw [List.take_length]; exact exact_end l h
  | succ n ih =>
    intro i hn hi
    by_cases hlt : i < l.length
    · obtain ⟨k, hk⟩ := ih (i + 1) (by omega) hlt
      exact ⟨k + 1, exact_step l h i hlt k hk⟩
    · obtain rfl : i = l.length := by omega
      rw [List.take_length]; exact exact_end l h
theorem exact_pure (l0 : List S48) : ∃ k, wageofficelaw22_PunchesExact.f k l0 = some true := by
  obtain ⟨k1, b, hk1, hb⟩ := use_f l0 []
  cases b with
  | false =>
    refine ⟨k1, ?_⟩
    unfold wageofficelaw22_PunchesExact.f
    rw [hk1]
    simp [wageofficelaw22_head.f]
  | true =>
    obtain ⟨k2, hk2⟩ := exact_l0 l0 (hb rfl) l0.length 0 (by omega) (by omega)
    have up := upto (g := fun k => wageofficelaw22_PunchesExact.l0 k l0 true [] [] [] l0 (l0.length : Int) 0) (fun k => wageofficelaw22_PunchesExact.mono_l k _ _ _ _ _ _ _ _) hk2 (k1 + k2) (by omega)
    refine ⟨k1 + k2, ?_⟩
    unfold wageofficelaw22_PunchesExact.f
    rw [um _ _ hk1 _ (by omega)]
    simp only [wageofficelaw22_head.f, Option.bind_some, if_true]
    exact up
end Go.Proofs.Ytpbamfoaoeicgaa.PAll

/- PunchesMirror answers true. -/
import Derived.Test.YtpbamfoaoeicgaaPAllx14
import Derived.Test.YtpbamfoaoeicgaaPureBase
set_option linter.unusedVariables false
set_option linter.unusedSimpArgs false
namespace Go.Proofs.Ytpbamfoaoeicgaa.PAll
open Go Go.RowKit Go.Proofs.YtpbamfoaoeicgaaW.PrintWords Go.Proofs.YtpbamfoaoeicgaaW.PrintLast Go.Proofs.YtpbamfoaoeicgaaW.PrintMore

/-- an input seen in a mirror -/
def mirD (s : S48) : S48 := ⟨52596000 - s.f1, 52596000 - s.f0, s.f2⟩
def mirP (p : S45) : S45 := ⟨52596000 - p.f0, !p.f1⟩

theorem Ali.snoc_both {ms ps c} (h : Ali ms ps c) (m : S68) (p : S45) : Ali (ms ++ [m]) (ps ++ [p]) (c + cst m p) := by
  induction h with
  | nil => have := Ali.nil.both (m := m) (p := p); simpa using this
  | @both a q ms ps c h ih => have := ih.both (m := a) (p := q); rw [show cst a q + c + cst m p = cst a q + (c + cst m p) by omega]; exact this
  | @lost a ms ps c h ih => have := ih.lost (m := a); rw [show 120 + c + cst m p = 120 + (c + cst m p) by omega]; exact this
  | @extra q ms ps c h ih => have := ih.extra (p := q); rw [show 120 + c + cst m p = 120 + (c + cst m p) by omega]; exact this
theorem Ali.snoc_lost {ms ps c} (h : Ali ms ps c) (m : S68) : Ali (ms ++ [m]) ps (c + 120) := by
  induction h with
  | nil => have := Ali.nil.lost (m := m); simpa using this
  | @both a q ms ps c h ih => have := ih.both (m := a) (p := q); rw [show cst a q + c + 120 = cst a q + (c + 120) by omega]; exact this
  | @lost a ms ps c h ih => have := ih.lost (m := a); rw [show 120 + c + 120 = 120 + (c + 120) by omega]; exact this
  | @extra q ms ps c h ih => have := ih.extra (p := q); rw [show 120 + c + 120 = 120 + (c + 120) by omega]; exact this
theorem Ali.snoc_extra {ms ps c} (h : Ali ms ps c) (p : S45) : Ali ms (ps ++ [p]) (c + 120) := by
  have := h.insert ps [] p (by simp)
  rw [show c + 120 = 120 + c by omega]; exact this
/-- two lists of marks that cost alike -/
theorem Ali.mir {ms ps c} (h : Ali ms ps c) (f : S68 → S68) (g : S45 → S45) (hc : ∀ m ∈ ms, ∀ p ∈ ps, cst (f m) (g p) = cst m p) : Ali (ms.map f).reverse (ps.map g).reverse c := by
  induction h with
  | nil => exact .nil
  | @both a q ms ps c h ih =>
    have := (ih (fun m hm p hp => hc m (by simp [hm]) p (by simp [hp]))).snoc_both (f a) (g q)
    rw [hc a (by simp) q (by simp)] at this
    simpa [Int.add_comm] using this
  | @lost a ms ps c h ih =>
    have := (ih (fun m hm p hp => hc m (by simp [hm]) p hp)).snoc_lost (f a)
    simpa [Int.add_comm] using this
  | @extra q ms ps c h ih =>
    have := (ih (fun m hm p hp => hc m hm p (by simp [hp]))).snoc_extra (g q)
    simpa [Int.add_comm] using this
/-- what a mark's cost reads -/
theorem ed_marks {ms ms' : List S68} (h : ms.map (fun m => (m.f1, m.f2)) = ms'.map (fun m => (m.f1, m.f2))) : ∀ ps, ed ms ps = ed ms' ps := by
  intro ps
  have key : ∀ (ms ms' : List S68), ms.map (fun m => (m.f1, m.f2)) = ms'.map (fun m => (m.f1, m.f2)) → ∀ c, Ali ms ps c → Ali ms' ps c := by
    intro ms ms' h c hA
    induction hA generalizing ms' with
    | nil => cases ms' <;> simp at h; exact .nil
    | @both a q ms ps c hA ih =>
      cases ms' with
      | nil => simp at h
      | cons b r =>
        simp only [List.map_cons, List.cons.injEq, Prod.mk.injEq] at h
        have e : cst a q = cst b q := by unfold cst; rw [h.1.1, h.1.2]
        rw [e]; exact (ih r h.2).both
    | @lost a ms ps c hA ih =>
      cases ms' with
      | nil => simp at h
      | cons b r =>
        simp only [List.map_cons, List.cons.injEq] at h
        exact (ih r h.2).lost
    | @extra q ms ps c hA ih => exact (ih ms' h).extra
  have h1 := (key ms ms' h _ (Ali.least ms ps)).le
  have h2 := (key ms' ms h.symm _ (Ali.least ms' ps)).le
  omega
def mirM (m : S68) : S68 := ⟨m.f0, !m.f1, 52596000 - m.f2⟩
theorem cst_mir (m : S68) (p : S45) : cst (mirM m) (mirP p) = cst m p := by
  unfold cst mirM mirP
  simp only
  have : ((!m.f1) = (!p.f1)) ↔ m.f1 = p.f1 := by cases m.f1 <;> cases p.f1 <;> simp
  simp only [this]
  split <;> split <;> split <;> omega
theorem mkl_keys : ∀ (l : List S48) (i : Nat), (mkl i l).map (fun m => (m.f1, m.f2)) = l.flatMap (fun s => [(true, s.f0), (false, s.f1)])
  | [], _ => rfl
  | s :: r, i => by simp [mkl, mkl_keys r (i + 1)]
theorem mir_keys (l : List S48) : (marksOf (l.map mirD).reverse).map (fun m => (m.f1, m.f2)) = (((marksOf l).map mirM).reverse).map (fun m => (m.f1, m.f2)) := by
  unfold marksOf
  rw [mkl_keys, List.map_reverse]
  have e : ((mkl 0 l).map mirM).map (fun m : S68 => (m.f1, m.f2)) = ((mkl 0 l).map (fun m => (m.f1, m.f2))).map (fun x : Bool × Int => (!x.1, 52596000 - x.2)) := by
    rw [List.map_map, List.map_map]; rfl
  rw [e, mkl_keys]
  clear e
  induction l with
  | nil => rfl
  | cons s r ih => simp [ih, mirD]
theorem ed_mirror (l : List S48) (ps : List S45) : ed (marksOf (l.map mirD).reverse) (ps.map mirP).reverse = ed (marksOf l) ps := by
  rw [ed_marks (mir_keys l)]
  have h1 := ((Ali.least (marksOf l) ps).mir mirM mirP (fun m _ p _ => cst_mir m p)).le
  have h2 := ((Ali.least ((marksOf l).map mirM).reverse (ps.map mirP).reverse).mir mirM mirP (fun m _ p _ => cst_mir m p)).le
  have ii : ∀ ms : List S68, (ms.map mirM).map mirM = ms := fun ms => by rw [List.map_map]; conv => rhs; rw [← List.map_id ms]
                                                                         apply List.map_congr_left; intro m _; simp [mirM]; cases m; simp; omega
  have jj : ∀ ms : List S45, (ms.map mirP).map mirP = ms := fun ms => by rw [List.map_map]; conv => rhs; rw [← List.map_id ms]
                                                                         apply List.map_congr_left; intro m _; simp [mirP]; cases m; simp; omega
  rw [List.map_reverse, List.map_reverse, List.reverse_reverse, List.reverse_reverse, ii, jj] at h2
  omega

theorem okFrom_get : ∀ (l : List S48) (e : Int), okFrom e l → (∀ j (h : j < l.length), okS l[j]) ∧ ∀ j (h : j + 1 < l.length), l[j].f1 ≤ l[j + 1].f0
  | [], _, _ => ⟨fun j h => by simp at h, fun j h => by simp at h⟩
  | s :: r, e, ⟨h0, h1, h2⟩ => by
    obtain ⟨g0, g1⟩ := okFrom_get r s.f1 h2
    refine ⟨fun j h => ?_, fun j h => ?_⟩
    · cases j with
      | zero => exact h0
      | succ j => exact g0 j (by simpa using h)
    · cases j with
      | zero =>
        cases r with
        | nil => simp at h
        | cons t r => exact h2.2.1
      | succ j => exact g1 j (by simpa using h)
theorem okP_get : ∀ (l : List S45) (e : Int), okP e l → (∀ j (h : j < l.length), 0 ≤ l[j].f0 ∧ l[j].f0 ≤ 52596000) ∧ ∀ j (h : j + 1 < l.length), l[j].f0 ≤ l[j + 1].f0
  | [], _, _ => ⟨fun j h => by simp at h, fun j h => by simp at h⟩
  | s :: r, e, ⟨h0, h1, h2, h3⟩ => by
    obtain ⟨g0, g1⟩ := okP_get r s.f0 h3
    refine ⟨fun j h => ?_, fun j h => ?_⟩
    · cases j with
      | zero => exact ⟨h0, h1⟩
      | succ j => exact g0 j (by simpa using h)
    · cases j with
      | zero =>
        cases r with
        | nil => simp at h
        | cons t r => exact h3.2.2.1
      | succ j => exact g1 j (by simpa using h)
theorem usable_mirror {l0 : List S48} {l1 : List S45} (h : Usable l0 l1) : Usable (l0.map mirD).reverse (l1.map mirP).reverse := by
  obtain ⟨h0, h1, h2, h3⟩ := h
  obtain ⟨g0, g1⟩ := okFrom_get l0 0 h2
  obtain ⟨g2, g3⟩ := okP_get l1 0 h3
  have k0 : ∀ j (h : j < l0.length), okS (mirD l0[j]) := fun j h => by
    have := g0 j h
    unfold okS at this ⊢
    simp only [mirD]
    omega
  refine ⟨by simpa using h0, by simpa using h1, okFrom_of _ _ (fun h => ?_) (fun j h => ?_) (fun j h => ?_), okP_of _ _ (fun h => ?_) (fun j h => ?_) (fun j h => ?_)⟩
  · simp only [List.getElem_reverse, List.getElem_map]
    exact (k0 _ _).1
  · simp only [List.getElem_reverse, List.getElem_map]
    exact k0 _ _
  · simp only [List.length_reverse, List.length_map] at h
    simp only [List.getElem_reverse, List.getElem_map, List.length_map, mirD]
    have := g1 (l0.length - 1 - (j + 1)) (by omega)
    simp only [show l0.length - 1 - (j + 1) + 1 = l0.length - 1 - j by omega] at this
    omega
  · simp only [List.length_reverse, List.length_map] at h
    simp only [List.getElem_reverse, List.getElem_map, List.length_map, mirP]
    have := g2 (l1.length - 1 - 0) (by omega)
    omega
  · simp only [List.length_reverse, List.length_map] at h
    simp only [List.getElem_reverse, List.getElem_map, List.length_map, mirP]
    have := g2 (l1.length - 1 - j) (by omega)
    omega
  · simp only [List.length_reverse, List.length_map] at h
    simp only [List.getElem_reverse, List.getElem_map, List.length_map, mirP]
    have := g3 (l1.length - 1 - (j + 1)) (by omega)
    simp only [show l1.length - 1 - (j + 1) + 1 = l1.length - 1 - j by omega] at this
    omega

theorem mirror_l1 (l0 : List S48) (l1 : List S45) (hu : Usable l0 l1) (x6 : List S48) : ∀ i (acc : List S45), i ≤ l1.length → acc.length + i ≤ 62 → Usable x6 (acc ++ ((l1.take i).map mirP).reverse) → ed (marksOf x6) (acc ++ ((l1.take i).map mirP).reverse) = ed (marksOf l0) l1 → ∃ k, wageofficelaw22_PunchesMirror.l1 k l0 l1 true x6 acc ((i : Int) - 1) = some true := by
  intro i
  induction i with
  | zero =>
    intro acc hi hl hux he
    refine ⟨1, ?_⟩
    simp only [List.take_zero, List.map_nil, List.reverse_nil, List.append_nil] at hux he
    simp only [wageofficelaw22_PunchesMirror.l1]
    rw [if_neg (by omega), pair_ed hu, Option.bind_some, pair_ed hux, Option.bind_some]
    simp [he]
  | succ i ih =>
    intro acc hi hl hux he
    have hlt : i < l1.length := by omega
    have e1 : acc ++ ((l1.take (i + 1)).map mirP).reverse = (acc ++ [mirP l1[i]]) ++ ((l1.take i).map mirP).reverse := by
      rw [List.take_succ_eq_append_getElem hlt, List.map_append, List.reverse_append]; simp only [List.map_cons, List.map_nil, List.reverse_cons, List.reverse_nil, List.nil_append, List.append_assoc, List.cons_append]
    rw [e1] at hux he
    obtain ⟨k, hk⟩ := ih (acc ++ [mirP l1[i]]) (by omega) (by simp; omega) hux he
    have hp := (okP_get l1 0 hu.2.2.2).1 i hlt
    refine ⟨k + 1, ?_⟩
    simp only [wageofficelaw22_PunchesMirror.l1]
    have e2 : ((i + 1 : Nat) : Int) - 1 = (i : Int) := by omega
    rw [e2, if_pos (by omega), if_pos (by omega), if_pos (by omega), if_pos (by omega), rd45_eq hlt]
    rw [show wrap64 ((i : Int) - 1) = (i : Int) - 1 by simp only [wrap64]; omega, show wrap64 (52596000 - l1[i].f0) = 52596000 - l1[i].f0 by simp only [wrap64]; omega]
    exact hk
theorem mirror_l0 (l0 : List S48) (l1 : List S45) (hu : Usable l0 l1) : ∀ i (acc : List S48), i ≤ l0.length → acc.length + i ≤ 26 → acc ++ ((l0.take i).map mirD).reverse = (l0.map mirD).reverse → ∃ k, wageofficelaw22_PunchesMirror.l0 k l0 l1 true acc ((i : Int) - 1) = some true := by
  intro i
  induction i with
  | zero =>
    intro acc hi hl he
    simp only [List.take_zero, List.map_nil, List.reverse_nil, List.append_nil] at he
    have hn := hu.2.1
    obtain ⟨k, hk⟩ := mirror_l1 l0 l1 hu acc l1.length [] (by omega) (by simp; omega) (by rw [List.take_length, List.nil_append, he]; exact usable_mirror hu) (by rw [List.take_length, List.nil_append, he]; exact ed_mirror l0 l1)
    refine ⟨k + 1, ?_⟩
    simp only [wageofficelaw22_PunchesMirror.l0]
    rw [if_neg (by omega), show wrap64 ((l1.length : Int) - 1) = (l1.length : Int) - 1 by simp only [wrap64]; omega]
    exact hk
  | succ i ih =>
    intro acc hi hl he
    have hlt : i < l0.length := by omega
    have e1 : acc ++ ((l0.take (i + 1)).map mirD).reverse = (acc ++ [mirD l0[i]]) ++ ((l0.take i).map mirD).reverse := by
      rw [List.take_succ_eq_append_getElem hlt, List.map_append, List.reverse_append]; simp only [List.map_cons, List.map_nil, List.reverse_cons, List.reverse_nil, List.nil_append, List.append_assoc, List.cons_append]
    rw [e1] at he
    obtain ⟨k, hk⟩ := ih (acc ++ [mirD l0[i]]) (by omega) (by simp; omega) he
    obtain ⟨q0, q1, q2, q3, q4, q5⟩ := (okFrom_get l0 0 hu.2.2.1).1 i hlt
    refine ⟨k + 1, ?_⟩
    simp only [wageofficelaw22_PunchesMirror.l0]
    have e2 : ((i + 1 : Nat) : Int) - 1 = (i : Int) := by omega
    rw [e2, if_pos (by omega), if_pos (by omega), if_pos (by omega), if_pos (by omega), rd48_eq hlt]
    rw [show wrap64 ((i : Int) - 1) = (i : Int) - 1 by simp only [wrap64]; omega, show wrap64 (52596000 - l0[i].f0) = 52596000 - l0[i].f0 by simp only [wrap64]; omega, show wrap64 (52596000 - l0[i].f1) = 52596000 - l0[i].f1 by simp only [wrap64]; omega]
    exact hk
theorem mirror_pure (l0 : List S48) (l1 : List S45) : ∃ k, wageofficelaw22_PunchesMirror.f k l0 l1 = some true := by
  obtain ⟨k1, b, hk1, hb⟩ := use_f l0 l1
  cases b with
  | false =>
    refine ⟨k1, ?_⟩
    unfold wageofficelaw22_PunchesMirror.f
    rw [hk1]
    simp [wageofficelaw22_head.f]
  | true =>
    have hu := hb rfl
    have hn := hu.1
    obtain ⟨k2, hk2⟩ := mirror_l0 l0 l1 hu l0.length [] (by omega) (by simp; omega) (by simp)
    have hup := upto (g := fun k => wageofficelaw22_PunchesMirror.l0 k l0 l1 true [] ((l0.length : Int) - 1)) (fun k => (wageofficelaw22_PunchesMirror.mono_l k).1 _ _ _ _ _) hk2 (k1 + k2) (by omega)
    refine ⟨k1 + k2, ?_⟩
    unfold wageofficelaw22_PunchesMirror.f
    rw [um _ _ hk1 (k1 + k2) (by omega)]
    simp only [wageofficelaw22_head.f, Option.bind_some, if_true]
    rw [show wrap64 ((l0.length : Int) - 1) = (l0.length : Int) - 1 by simp only [wrap64]; omega]
    exact hup
end Go.Proofs.Ytpbamfoaoeicgaa.PAll

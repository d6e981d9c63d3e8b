/- PunchesLost answers true. -/
import Derived.Test.YtpbamfoaoeicgaaPAllx12
import Derived.Test.YtpbamfoaoeicgaaUse2
import Derived.Test.YtpbamfoaoeicgaaAlg
set_option linter.unusedVariables false
set_option linter.unusedSimpArgs false
namespace Go.Proofs.Ytpbamfoaoeicgaa.PAll
open Go Go.RowKit Go.Proofs.YtpbamfoaoeicgaaW.PrintWords Go.Proofs.YtpbamfoaoeicgaaW.PrintLast Go.Proofs.YtpbamfoaoeicgaaW.PrintMore

theorem okP_remove : ∀ (A B : List S45) (p : S45) (e : Int), okP e (A ++ p :: B) → okP e (A ++ B)
  | [], [], p, e, h => trivial
  | [], b :: B, p, e, ⟨h0, h1, h2, h3, h4, h5, h6⟩ => ⟨h3, h4, by omega, h6⟩
  | a :: A, B, p, e, ⟨h0, h1, h2, h3⟩ => ⟨h0, h1, h2, okP_remove A B p _ h3⟩
theorem pair_ed {l0 : List S48} {l1 : List S45} (h : Usable l0 l1) : punches_Pair.f l0 l1 = some (wk (marksOf l0) l1 0 0, ed (marksOf l0) l1, 0) := pair_usable h
theorem ed_range {l0 : List S48} {l1 : List S45} (h : Usable l0 l1) : 0 ≤ ed (marksOf l0) l1 ∧ ed (marksOf l0) l1 ≤ 12960 := by
  have h1 := ed_le (marksOf l0) l1
  have h2 := ed_nonneg (marksOf l0) l1
  have h3 : (marksOf l0).length = 2 * l0.length := mkl_length _ _
  have := h.1
  have := h.2.1
  omega
theorem split_at {α : Type} (l : List α) (i : Nat) (h : i < l.length) : l = l.take i ++ l[i] :: l.drop (i + 1) := by
  rw [← List.drop_eq_getElem_cons h, List.take_append_drop]

theorem um (a : List S48) (b : List S45) {j : Nat} {r : Bool} (h : wageofficelaw22_usable.f j a b = some r) (k : Nat) (hk : j ≤ k) : wageofficelaw22_usable.f k a b = some r := upto (wageofficelaw22_usable.mono a b) h k hk
theorem lost_pure (l0 : List S48) (l1 : List S45) (a2 a3 : Int) (h2 : 0 ≤ a2 ∧ a2 ≤ 255) (h3 : -9223372036854775808 ≤ a3 ∧ a3 ≤ 9223372036854775807) : ∃ k, wageofficelaw22_PunchesLost.f k l0 l1 a2 a3 = some true := by
  obtain ⟨k1, b, hk1, hb⟩ := use_f l0 l1
  cases b with
  | false =>
    refine ⟨k1 + 1, ?_⟩
    unfold wageofficelaw22_PunchesLost.f
    rw [um _ _ hk1 (k1 + 1) (by omega)]
    simp [wageofficelaw22_head.f, wageofficelaw22_PunchesLost.j0]
  | true =>
    have hu := hb rfl
    by_cases h0 : l1.length = 0
    · refine ⟨k1 + 1, ?_⟩
      unfold wageofficelaw22_PunchesLost.f
      rw [um _ _ hk1 (k1 + 1) (by omega)]
      simp [wageofficelaw22_head.f, wageofficelaw22_PunchesLost.j0, h0]
    · have hn := hu.2.1
      obtain ⟨n, hna⟩ : ∃ n : Nat, a2 = n := ⟨a2.toNat, by omega⟩
      obtain ⟨i, hi⟩ : ∃ i, i = n % l1.length := ⟨_, rfl⟩
      have hil : i < l1.length := by rw [hi]; exact Nat.mod_lt _ (by omega)
      have ew : wrap64 a2 = a2 := by simp only [wrap64]; omega
      have em : Int.tmod (wrap64 a2) (l1.length : Int) = (i : Int) := by
        rw [ew, hna, hi, ← Int.ofNat_tmod]
      have e1 : wrap64 ((i : Int) + 1) = ((i + 1 : Nat) : Int) := by simp only [wrap64]; omega
      have hsp := split_at l1 i hil
      have hur : Usable l0 (l1.take i ++ l1.drop (i + 1)) := by
        refine ⟨hu.1, by simp; omega, hu.2.2.1, okP_remove _ _ l1[i] _ ?_⟩
        rw [← hsp]; exact hu.2.2.2
      have hr := ed_range hu
      have hrr := ed_range hur
      have hd := ed_remove (marksOf l0) (l1.take i) (l1.drop (i + 1)) l1[i]
      rw [← hsp] at hd
      obtain ⟨k2, b2, hk2, hb2⟩ := use_f l0 (l1.set i ⟨a3, l1[i].f1⟩)
      refine ⟨k1 + k2 + 2, ?_⟩
      unfold wageofficelaw22_PunchesLost.f
      rw [um _ _ hk1 (k1 + k2 + 2) (by omega)]
      simp only [wageofficelaw22_head.f, Option.bind_some, if_true]
      rw [show ((l1.length : Int) == 0) = false by simpa using h0]
      rw [show k1 + k2 + 2 = (k1 + k2 + 1) + 1 from rfl]
      simp only [wageofficelaw22_PunchesLost.j0]
      rw [if_neg (by simp), if_neg (by omega), pair_ed hu]
      simp only [Option.bind_some, em, e1]
      rw [if_pos (by omega), if_pos (by omega)]
      simp only [List.length_nil, List.length_take, List.nil_append, Int.toNat_natCast]
      rw [if_pos (by omega), if_pos (by omega), if_pos (by omega)]
      simp only [List.length_take, List.length_drop]
      rw [if_pos (by omega), pair_ed hur]
      simp only [Option.bind_some, if_true]
      rw [if_neg (by simp only [wrap64]; omega), show decide (wrap64 (ed (marksOf l0) (List.take i l1 ++ List.drop (i + 1) l1) - ed (marksOf l0) l1) > 120) = false by simp only [wrap64]; simp; omega]
      simp only [wageofficelaw22_PunchesLost.j1]
      rw [if_neg (by simp)]
      simp only [Option.bind_some, List.length_nil, List.nil_append]
      rw [if_pos (by omega), if_pos (by omega), if_pos (by omega)]
      simp only [Int.toNat_natCast, rd45_eq hil]
      rw [um _ _ hk2 (k1 + k2) (by omega)]
      cases b2 with
      | false => simp
      | true =>
        have hu2 := hb2 rfl
        have hr2 := ed_range hu2
        have hset : l1.set i ⟨a3, l1[i].f1⟩ = l1.take i ++ ⟨a3, l1[i].f1⟩ :: l1.drop (i + 1) := by
          rw [List.set_eq_take_append_cons_drop, if_pos hil]
        have hp := near_punches _ _ hu.2.2.2 _ (List.getElem_mem hil)
        have hq := near_punches _ _ hu2.2.2.2 ⟨a3, l1[i].f1⟩ (by rw [hset]; simp)
        simp only at hq
        have hc := ed_change (marksOf l0) (l1.take i) (l1.drop (i + 1)) l1[i] ⟨a3, l1[i].f1⟩ (mx (wrap64 (a3 - l1[i].f0)) (wrap64 (l1[i].f0 - a3))) rfl (by simp only [wrap64, mx]; split <;> omega) (by simp only [wrap64, mx]; split <;> omega)
        rw [← hsp, ← hset] at hc
        rw [pair_ed hu2]
        simp only [Option.bind_some, if_true]
        have w1 : wrap64 (ed (marksOf l0) (l1.set i ⟨a3, l1[i].f1⟩) - ed (marksOf l0) l1) = ed (marksOf l0) (l1.set i ⟨a3, l1[i].f1⟩) - ed (marksOf l0) l1 := by simp only [wrap64]; omega
        have w2 : wrap64 (ed (marksOf l0) l1 - ed (marksOf l0) (l1.set i ⟨a3, l1[i].f1⟩)) = ed (marksOf l0) l1 - ed (marksOf l0) (l1.set i ⟨a3, l1[i].f1⟩) := by simp only [wrap64]; omega
        rw [w1, w2, if_pos (by omega), if_pos (by omega), decide_eq_true (by omega)]
end Go.Proofs.Ytpbamfoaoeicgaa.PAll

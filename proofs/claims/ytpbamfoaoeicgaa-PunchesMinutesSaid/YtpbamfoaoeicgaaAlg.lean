/- The least cost of an alignment, by alignments. -/
import Derived.Test.YtpbamfoaoeicgaaUse
set_option linter.unusedVariables false
set_option linter.unusedSimpArgs false
namespace Go.Proofs.Ytpbamfoaoeicgaa.PAll
open Go Go.RowKit

/-- an alignment of that cost -/
inductive Ali : List S68 → List S45 → Int → Prop
  | nil : Ali [] [] 0
  | both {m p ms ps c} : Ali ms ps c → Ali (m :: ms) (p :: ps) (cst m p + c)
  | lost {m ms ps c} : Ali ms ps c → Ali (m :: ms) ps (120 + c)
  | extra {p ms ps c} : Ali ms ps c → Ali ms (p :: ps) (120 + c)

theorem ed_extra : ∀ (ms : List S68) (p : S45) (ps : List S45), ed ms (p :: ps) ≤ 120 + ed ms ps
  | [], p, ps => by rw [ed_nil_left, ed_nil_left]; simp; omega
  | m :: ms, p, ps => by rw [ed_cons]; omega
theorem ed_lost : ∀ (m : S68) (ms : List S68) (ps : List S45), ed (m :: ms) ps ≤ 120 + ed ms ps
  | m, ms, [] => by rw [ed_nil_right, ed_nil_right]; simp; omega
  | m, ms, p :: ps => by rw [ed_cons]; omega
theorem ed_both (m : S68) (ms : List S68) (p : S45) (ps : List S45) : ed (m :: ms) (p :: ps) ≤ cst m p + ed ms ps := by rw [ed_cons]; omega
/-- no alignment costs less -/
theorem Ali.le {ms : List S68} {ps : List S45} {c : Int} (h : Ali ms ps c) : ed ms ps ≤ c := by
  induction h with
  | nil => rw [ed_nil_left]; simp
  | both _ ih => exact Int.le_trans (ed_both _ _ _ _) (by omega)
  | lost _ ih => exact Int.le_trans (ed_lost _ _ _) (by omega)
  | extra _ ih => exact Int.le_trans (ed_extra _ _ _) (by omega)
/-- an alignment costs the least -/
theorem Ali.least : ∀ (ms : List S68) (ps : List S45), Ali ms ps (ed ms ps)
  | [], [] => by rw [ed_nil_left]; exact .nil
  | [], p :: ps => by
    have h := (Ali.least [] ps).extra (p := p)
    rw [ed_nil_left] at h ⊢
    have e : 120 * ((p :: ps).length : Int) = 120 + 120 * (ps.length : Int) := by simp; omega
    rw [e]; exact h
  | m :: ms, [] => by
    have h := (Ali.least ms []).lost (m := m)
    rw [ed_nil_right] at h ⊢
    have e : 120 * ((m :: ms).length : Int) = 120 + 120 * (ms.length : Int) := by simp; omega
    rw [e]; exact h
  | m :: ms, p :: ps => by
    have h1 := (Ali.least ms ps).both (m := m) (p := p)
    have h2 := (Ali.least ms (p :: ps)).lost (m := m)
    have h3 := (Ali.least (m :: ms) ps).extra (p := p)
    have e := ed_cons m ms p ps
    by_cases c1 : ed (m :: ms) (p :: ps) = cst m p + ed ms ps
    · rw [c1]; exact h1
    · by_cases c2 : ed (m :: ms) (p :: ps) = 120 + ed ms (p :: ps)
      · rw [c2]; exact h2
      · have c3 : ed (m :: ms) (p :: ps) = 120 + ed (m :: ms) ps := by omega
        rw [c3]; exact h3
termination_by ms ps => ms.length + ps.length

theorem Ali.insert {ms : List S68} {qs : List S45} {c : Int} (h : Ali ms qs c) : ∀ (A B : List S45) (p : S45), qs = A ++ B → Ali ms (A ++ p :: B) (120 + c) := by
  induction h with
  | nil =>
    intro A B p e
    obtain ⟨rfl, rfl⟩ := List.append_eq_nil_iff.1 e.symm
    exact .extra .nil
  | @both m q ms ps c h ih =>
    intro A B p e
    cases A with
    | nil =>
      simp only [List.nil_append] at e ⊢
      subst e
      exact .extra (.both h)
    | cons a A =>
      simp only [List.cons_append, List.cons.injEq] at e ⊢
      obtain ⟨rfl, rfl⟩ := e
      have := (ih A B p rfl).both (m := m) (p := q)
      rw [show 120 + (cst m q + c) = cst m q + (120 + c) by omega]; exact this
  | @lost m ms ps c h ih =>
    intro A B p e
    have := (ih A B p e).lost (m := m)
    exact this
  | @extra q ms ps c h ih =>
    intro A B p e
    cases A with
    | nil =>
      simp only [List.nil_append] at e ⊢
      subst e
      exact .extra (.extra h)
    | cons a A =>
      simp only [List.cons_append, List.cons.injEq] at e ⊢
      obtain ⟨rfl, rfl⟩ := e
      exact (ih A B p rfl).extra
theorem Ali.remove {ms : List S68} {qs : List S45} {c : Int} (h : Ali ms qs c) : ∀ (A B : List S45) (p : S45), qs = A ++ p :: B → ∃ d, d ≤ c + 120 ∧ Ali ms (A ++ B) d := by
  induction h with
  | nil => intro A B p e; cases A <;> simp at e
  | @both m q ms ps c h ih =>
    intro A B p e
    cases A with
    | nil =>
      simp only [List.nil_append, List.cons.injEq] at e ⊢
      obtain ⟨rfl, rfl⟩ := e
      exact ⟨120 + c, by have := cst_nonneg m q; omega, .lost h⟩
    | cons a A =>
      simp only [List.cons_append, List.cons.injEq] at e ⊢
      obtain ⟨rfl, rfl⟩ := e
      obtain ⟨d, hd, hA⟩ := ih A B p rfl
      exact ⟨_, by omega, hA.both⟩
  | @lost m ms ps c h ih =>
    intro A B p e
    obtain ⟨d, hd, hA⟩ := ih A B p e
    exact ⟨_, by omega, hA.lost⟩
  | @extra q ms ps c h ih =>
    intro A B p e
    cases A with
    | nil =>
      simp only [List.nil_append, List.cons.injEq] at e ⊢
      obtain ⟨rfl, rfl⟩ := e
      exact ⟨c, by omega, h⟩
    | cons a A =>
      simp only [List.cons_append, List.cons.injEq] at e ⊢
      obtain ⟨rfl, rfl⟩ := e
      obtain ⟨d, hd, hA⟩ := ih A B p rfl
      exact ⟨_, by omega, hA.extra⟩
theorem cst_move (m : S68) (p q : S45) (hf : p.f1 = q.f1) (D : Int) (h1 : p.f0 - q.f0 ≤ D) (h2 : q.f0 - p.f0 ≤ D) : cst m q ≤ cst m p + D := by
  unfold cst; rw [hf]; split <;> split <;> split <;> omega
theorem Ali.change {ms : List S68} {qs : List S45} {c : Int} (h : Ali ms qs c) : ∀ (A B : List S45) (p q : S45) (D : Int), p.f1 = q.f1 → p.f0 - q.f0 ≤ D → q.f0 - p.f0 ≤ D → 0 ≤ D → qs = A ++ p :: B → ∃ d, d ≤ c + D ∧ Ali ms (A ++ q :: B) d := by
  induction h with
  | nil => intro A B p q D _ _ _ _ e; cases A <;> simp at e
  | @both m r ms ps c h ih =>
    intro A B p q D hf h1 h2 h0 e
    cases A with
    | nil =>
      simp only [List.nil_append, List.cons.injEq] at e ⊢
      obtain ⟨rfl, rfl⟩ := e
      exact ⟨_, by have := cst_move m r q hf D h1 h2; omega, .both h⟩
    | cons a A =>
      simp only [List.cons_append, List.cons.injEq] at e ⊢
      obtain ⟨rfl, rfl⟩ := e
      obtain ⟨d, hd, hA⟩ := ih A B p q D hf h1 h2 h0 rfl
      exact ⟨_, by omega, hA.both⟩
  | @lost m ms ps c h ih =>
    intro A B p q D hf h1 h2 h0 e
    obtain ⟨d, hd, hA⟩ := ih A B p q D hf h1 h2 h0 e
    exact ⟨_, by omega, hA.lost⟩
  | @extra r ms ps c h ih =>
    intro A B p q D hf h1 h2 h0 e
    cases A with
    | nil =>
      simp only [List.nil_append, List.cons.injEq] at e ⊢
      obtain ⟨rfl, rfl⟩ := e
      exact ⟨_, by omega, .extra h⟩
    | cons a A =>
      simp only [List.cons_append, List.cons.injEq] at e ⊢
      obtain ⟨rfl, rfl⟩ := e
      obtain ⟨d, hd, hA⟩ := ih A B p q D hf h1 h2 h0 rfl
      exact ⟨_, by omega, hA.extra⟩

/-- one punch lost: at most 120 between -/
theorem ed_remove (ms : List S68) (A B : List S45) (p : S45) : ed ms (A ++ B) ≤ ed ms (A ++ p :: B) + 120 ∧ ed ms (A ++ p :: B) ≤ ed ms (A ++ B) + 120 := by
  constructor
  · obtain ⟨d, hd, h⟩ := (Ali.least ms (A ++ p :: B)).remove A B p rfl
    have := h.le; omega
  · have := ((Ali.least ms (A ++ B)).insert A B p rfl).le; omega
theorem ed_change (ms : List S68) (A B : List S45) (p q : S45) (D : Int) (hf : p.f1 = q.f1) (h1 : p.f0 - q.f0 ≤ D) (h2 : q.f0 - p.f0 ≤ D) : ed ms (A ++ q :: B) ≤ ed ms (A ++ p :: B) + D ∧ ed ms (A ++ p :: B) ≤ ed ms (A ++ q :: B) + D := by
  constructor
  · obtain ⟨d, hd, h⟩ := (Ali.least ms (A ++ p :: B)).change A B p q D hf h1 h2 (by omega) rfl
    have := h.le; omega
  · obtain ⟨d, hd, h⟩ := (Ali.least ms (A ++ q :: B)).change A B q p D hf.symm h2 h1 (by omega) rfl
    have := h.le; omega
end Go.Proofs.Ytpbamfoaoeicgaa.PAll

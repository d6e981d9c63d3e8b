/- The law that compares Lex with the reference, over lists of bytes. -/
import Derived.Test.YticmjkjojhcdpaaDoorRefBr
set_option linter.unusedVariables false
set_option linter.unusedSimpArgs false
namespace Go.Proofs.YticmjkjojhcdpaaDoor.Pure
open Go Go.RowKit Go.Proofs.YticmjkjojhcdpaaDoor.PAll Go.Proofs.YticmjkjojhcdpaaDoor.Lx Go.Proofs.YticmjkjojhcdpaaDoorW.PrintWords Go.Proofs.YticmjkjojhcdpaaDoorW.PrintLast

theorem LexerMatchesReference : wageofficelaw06_LexerMatchesReference.Pure := by
  intro s hsz
  obtain ⟨K, hK⟩ : ∃ K, K = 40000 := ⟨_, rfl⟩
  refine ⟨K, ?_⟩
  unfold wageofficelaw06_LexerMatchesReference.f
  rw [head_true K (by omega), Option.bind_some]
  by_cases h7 : (s.size : Int) > 7000
  · rw [if_pos h7]
  rw [if_neg h7]
  by_cases h6 : 6000 < s.size
  · rw [Lex_long_f s h6, Option.bind_some]
    unfold wageofficeref06_Lex.f
    rw [if_pos (by omega), Option.bind_some, if_pos rfl, if_pos rfl, if_pos rfl, same_true _ (by simp) K (by simp; omega)]
    rfl
  · obtain ⟨P, hP, hc⟩ := Lex_any s (by omega)
    obtain ⟨l, e, p, hL, hl⟩ : ∃ l e p, lexer_Lex.f s = some (l, e, p) ∧ l.length ≤ 2000 := by
      rcases hc with ⟨_, h1, h⟩ | ⟨_, _, _, _, _, h, _⟩
      · exact ⟨_, _, _, h, by rw [List.length_map]; exact h1⟩
      · exact ⟨_, _, _, h, by simp⟩
    rw [rLex_eq s (by omega) hP K (by omega), hL, Option.bind_some, Option.bind_some]
    dsimp only
    rw [if_pos rfl, if_pos rfl, if_pos rfl, same_true _ (by omega) K (by omega)]
    rfl
end Go.Proofs.YticmjkjojhcdpaaDoor.Pure

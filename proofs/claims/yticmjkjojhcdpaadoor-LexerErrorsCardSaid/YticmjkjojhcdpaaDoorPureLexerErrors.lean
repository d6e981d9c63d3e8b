/- The law on errors, over lists of bytes. -/
import Derived.Test.YticmjkjojhcdpaaDoorHd
import Derived.Test.YticmjkjojhcdpaaDoorPAllx16
set_option linter.unusedVariables false
set_option linter.unusedSimpArgs false
namespace Go.Proofs.YticmjkjojhcdpaaDoor.Pure
open Go Go.RowKit Go.Proofs.YticmjkjojhcdpaaDoor.PAll Go.Proofs.YticmjkjojhcdpaaDoor.Lx Go.Proofs.YticmjkjojhcdpaaDoorW.PrintWords Go.Proofs.YticmjkjojhcdpaaDoorW.PrintLast

theorem LexerErrors : wageofficelaw06_LexerErrors.Pure := by
  intro s hsz
  refine ⟨20, ?_⟩
  unfold wageofficelaw06_LexerErrors.f
  rw [head_true 20 (by omega), Option.bind_some]
  by_cases h7 : (s.size : Int) > 7000
  · rw [if_pos h7]
  rw [if_neg h7]
  by_cases h6 : 6000 < s.size
  · rw [Lex_long_f s h6, Option.bind_some]
    dsimp only
    rw [if_neg (by omega), if_neg (by simp), if_neg (by omega), decide_eq_false (by omega)]
    simp only [wageofficelaw06_LexerErrors.j0]
    rw [if_neg (by simp), if_pos (by omega), if_pos trivial, if_pos trivial]
    rfl
  · obtain ⟨P, hP, ⟨ho, hl, hL⟩ | ⟨j, x, e, hj, hok, hL, he⟩⟩ := Lex_any s (by omega)
    · rw [hL, Option.bind_some]
      dsimp only
      rw [if_pos rfl, if_pos rfl, if_pos rfl, decide_eq_true (by omega)]
    · have hx := hP.at_lt x (List.mem_of_getElem? hj)
      rw [bs_len] at hx
      have hlt := (List.getElem?_eq_some_iff.1 hj).1
      have hb := hP.before j x hj
      have hLb : lexer_Lex.f (s.extract 0 x.2.2) = some ((P.take j).map toT, 0, 0) := by
        refine Lex_ok _ (by rw [ByteArray.size_extract]; omega) ?_ hok (by rw [List.length_take]; omega)
        rw [bs_ext, List.drop_zero]; exact hb
      rw [hL, Option.bind_some]
      dsimp only
      rw [if_neg (by omega), if_neg (by simp), if_neg (by omega), decide_eq_false (by omega)]
      simp only [wageofficelaw06_LexerErrors.j0]
      rw [if_neg (by simp), if_neg (by omega), if_pos (by omega), if_pos (by omega), Int.toNat_natCast, hLb, Option.bind_some, if_pos trivial]
      dsimp only
      rw [if_pos rfl]
      rcases he with ⟨hj2, rfl⟩ | ⟨_, _, rfl⟩
      · rw [if_neg (by decide), if_pos rfl]
        have : (((P.take j).map toT).length : Int) = 2000 := by rw [List.length_map, List.length_take]; omega
        rw [this]; rfl
      · rw [if_pos rfl]
end Go.Proofs.YticmjkjojhcdpaaDoor.Pure

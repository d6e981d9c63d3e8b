/- The law on prefixes, over lists of bytes. -/
import Derived.Test.YticmjkjojhcdpaaDoorSame
import Derived.Test.YticmjkjojhcdpaaDoorPAllx13
import Derived.OpenShut
set_option linter.unusedVariables false
set_option linter.unusedSimpArgs false
namespace Go.Proofs.YticmjkjojhcdpaaDoor.Pure
open Go Go.RowKit Go.Proofs.YticmjkjojhcdpaaDoor.PAll Go.Proofs.YticmjkjojhcdpaaDoor.Lx Go.Proofs.YticmjkjojhcdpaaDoorW.PrintWords Go.Proofs.YticmjkjojhcdpaaDoorW.PrintLast

theorem LexerPrefixes : wageofficelaw06_LexerPrefixes.Pure := by
  intro s c hsz hc
  obtain ⟨K, hK⟩ : ∃ K, K = 3000 := ⟨_, rfl⟩
  refine ⟨K + 2, ?_⟩
  have hc' : 0 ≤ c ∧ c < 65536 := by have := bounds_u16 hc; omega
  unfold wageofficelaw06_LexerPrefixes.f
  rw [head_true (K + 2) (by omega), Option.bind_some]
  by_cases h7 : (s.size : Int) > 7000
  · rw [if_pos h7]
  rw [if_neg h7]
  have hup : ∀ l : List S30, wageofficelaw06_LexerPrefixes.j0 (K + 2) s c true l true = some true := by
    intro l
    simp only [wageofficelaw06_LexerPrefixes.j0]
    rw [if_pos trivial]
  by_cases h6 : 6000 < s.size
  · rw [Lex_long_f s h6, Option.bind_some]
    dsimp only
    rw [if_neg (by omega)]
    exact hup _
  · obtain ⟨P, hP, ⟨ho, hl, hL⟩ | ⟨j, x, e, hj, hok, hL, he⟩⟩ := Lex_any s (by omega)
    · rw [hL, Option.bind_some]
      dsimp only
      rw [if_pos rfl, List.length_map]
      by_cases h0 : P.length = 0
      · rw [show ((P.length : Int) == 0) = true by simp [h0]]
        exact hup _
      · rw [show ((P.length : Int) == 0) = false by simpa using h0]
        simp only [wageofficelaw06_LexerPrefixes.j0]
        have hwc : wrap64 c = c := w64 (by omega) (by omega)
        rw [hwc]
        clear hwc
        rw [if_neg (by simp), List.length_map, if_neg (by omega)]
        have hm : Int.tmod c (P.length : Int) = ((c.toNat % P.length : Nat) : Int) := by
          rw [Int.tmod_eq_emod_of_nonneg (by omega), Int.natCast_emod]
          congr 1; omega
        have hlt : c.toNat % P.length < P.length := Nat.mod_lt _ (by omega)
        rw [hm]
        generalize c.toNat % P.length = i at hlt
        have hx : P[i]? = some P[i] := List.getElem?_eq_getElem hlt
        rw [if_pos (by omega), if_pos (by omega), rdT_map P i hx, toT_f1, toT_f2]
        have hmem := List.mem_of_getElem? hx
        have hat := hP.at_le _ hmem
        have hu := hP.upto ho i _ hx
        rw [bs_len] at hat
        have hsz1 : ((⟨P[i].2.1.toArray⟩ : ByteArray).size : Int) = (P[i].2.1.length : Int) := by
          show ((P[i].2.1.toArray.size : Nat) : Int) = _
          rw [List.size_toArray]
        rw [hsz1]
        have hw : wrap64 ((P[i].2.2 : Int) + (P[i].2.1.length : Int)) = ((endOf P[i] : Nat) : Int) := by
          rw [w64 (by unfold endOf at hat; omega) (by unfold endOf at hat; omega)]; unfold endOf; omega
        rw [hw]
        clear hw
        rw [if_neg (by omega), decide_eq_false (show ¬ (((endOf P[i] : Nat) : Int) > (s.size : Int)) by omega)]
        simp only [wageofficelaw06_LexerPrefixes.j1]
        have hLb : lexer_Lex.f (s.extract 0 (endOf P[i])) = some ((P.take (i + 1)).map toT, 0, 0) := by
          refine Lex_ok _ (by rw [ByteArray.size_extract]; omega) ?_ (fun y hy => ho y (List.mem_of_mem_take hy)) (by rw [List.length_take]; omega)
          rw [bs_ext, List.drop_zero]; exact hu
        have hwi : wrap64 ((i : Int) + 1) = ((i + 1 : Nat) : Int) := by rw [w64 (by omega) (by omega)]; omega
        rw [hwi]
        clear hwi
        rw [if_neg (by simp), if_pos (by omega), if_pos (by omega), Int.toNat_natCast, hLb, Option.bind_some, if_pos trivial]
        dsimp only
        rw [if_pos rfl, if_pos (by omega), List.length_map, if_pos (by omega), Int.toNat_natCast, ← List.map_take, same_true _ (by rw [List.length_map, List.length_take]; omega) K (by rw [List.length_map, List.length_take]; omega)]
        rfl
    · rw [hL, Option.bind_some]
      dsimp only
      rw [if_neg (by rcases he with ⟨_, rfl⟩ | ⟨_, _, rfl⟩ <;> decide)]
      exact hup _
end Go.Proofs.YticmjkjojhcdpaaDoor.Pure

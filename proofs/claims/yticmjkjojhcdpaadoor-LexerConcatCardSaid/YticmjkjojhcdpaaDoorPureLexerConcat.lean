/- The law on joined texts, over lists of bytes. -/
import Derived.Test.YticmjkjojhcdpaaDoorSame
import Derived.Test.YticmjkjojhcdpaaDoorPAllx15
set_option linter.unusedVariables false
set_option linter.unusedSimpArgs false
namespace Go.Proofs.YticmjkjojhcdpaaDoor.Pure
open Go Go.RowKit Go.Proofs.YticmjkjojhcdpaaDoor.PAll Go.Proofs.YticmjkjojhcdpaaDoor.Lx Go.Proofs.YticmjkjojhcdpaaDoorW.PrintWords Go.Proofs.YticmjkjojhcdpaaDoorW.PrintLast

def sh (d : Nat) (x : PTok) : PTok := (x.1, x.2.1, x.2.2 + d)
theorem shift_l0 (Q : List PTok) (d : Nat) (hd : d < 100000) (hQ : Q.length ≤ 2000) (hb : ∀ x ∈ Q, x.2.2 < 100000) : ∀ (n i k : Nat) (out : List S30), Q.length = i + n → n < k → out.length = i →
    wageofficeref06_Shift.l0 k (Q.map toT) (d : Int) out (i : Int) = some (out ++ ((Q.drop i).map (sh d)).map toT) := by
  intro n
  induction n with
  | zero =>
    intro i k out hi hk ho
    obtain ⟨k, rfl⟩ : ∃ q, k = q + 1 := ⟨k - 1, by omega⟩
    simp only [wageofficeref06_Shift.l0]
    rw [if_neg (by rw [List.length_map]; omega), List.drop_of_length_le (by omega)]
    simp
  | succ n ih =>
    intro i k out hi hk ho
    obtain ⟨k, rfl⟩ : ∃ q, k = q + 1 := ⟨k - 1, by omega⟩
    have hx : Q[i]? = some Q[i] := List.getElem?_eq_getElem (by omega)
    have hbx := hb Q[i] (List.mem_of_getElem? hx)
    simp only [wageofficeref06_Shift.l0]
    have hw : wrap64 ((i : Int) + 1) = ((i + 1 : Nat) : Int) := by rw [w64 (by omega) (by omega)]; omega
    rw [hw]
    clear hw
    rw [if_pos (by rw [List.length_map]; omega), if_pos (by omega), if_pos (by omega), rdT_map Q i hx, toT_f0, toT_f1, toT_f2]
    have hw2 : wrap64 ((Q[i].2.2 : Int) + (d : Int)) = ((Q[i].2.2 + d : Nat) : Int) := by rw [w64 (by omega) (by omega)]; omega
    rw [hw2]
    clear hw2
    rw [ih (i + 1) k _ (by omega) (by omega) (by rw [List.length_append]; simp; omega), List.drop_eq_getElem_cons (show i < Q.length by omega)]
    rw [List.map_cons, List.map_cons, List.append_assoc]
    rfl
theorem shift_eq (Q : List PTok) (d : Nat) (hd : d < 100000) (hQ : Q.length ≤ 2000) (hb : ∀ x ∈ Q, x.2.2 < 100000) (k : Nat) (hk : Q.length < k) : wageofficeref06_Shift.f k (Q.map toT) (d : Int) = some ((Q.map (sh d)).map toT) := by
  unfold wageofficeref06_Shift.f
  have := shift_l0 Q d hd hQ hb Q.length 0 k [] (by omega) hk rfl
  rw [List.drop_zero, List.nil_append] at this
  exact this
theorem LexerConcat : wageofficelaw06_LexerConcat.Pure := by
  intro a b ha hb
  obtain ⟨K, hK⟩ : ∃ K, K = 5000 := ⟨_, rfl⟩
  refine ⟨K + 2, ?_⟩
  unfold wageofficelaw06_LexerConcat.f
  rw [head_true (K + 2) (by omega), Option.bind_some]
  have hw : wrap64 (wrap64 ((a.size : Int) + (b.size : Int)) + 1) = ((a.size + b.size + 1 : Nat) : Int) := by
    rw [w64 (x := (a.size : Int) + (b.size : Int)) (by omega) (by omega), w64 (by omega) (by omega)]; omega
  rw [hw]
  clear hw
  by_cases h6 : ((a.size + b.size + 1 : Nat) : Int) > 6000
  · rw [if_pos h6]
  rw [if_neg h6]
  have hup : ∀ l m : List S30, wageofficelaw06_LexerConcat.j0 (K + 2) a b true l m true = some true := by
    intro l m
    simp only [wageofficelaw06_LexerConcat.j0]
    rw [if_pos trivial]
  obtain ⟨P, hP, hPc⟩ := Lex_any a (by omega)
  obtain ⟨Q, hQ, hQc⟩ := Lex_any b (by omega)
  rcases hPc with ⟨hoP, hlP, hLP⟩ | ⟨j, x, e, hj, hok, hL, he⟩
  · rcases hQc with ⟨hoQ, hlQ, hLQ⟩ | ⟨j, x, e, hj, hok, hL, he⟩
    · rw [hLP, Option.bind_some, hLQ, Option.bind_some]
      dsimp only
      rw [if_pos rfl, if_pos rfl, List.length_map, List.length_map]
      have hw : wrap64 ((P.length : Int) + (Q.length : Int)) = ((P.length + Q.length : Nat) : Int) := by rw [w64 (by omega) (by omega)]; omega
      rw [hw]
      clear hw
      by_cases h2 : ((P.length + Q.length : Nat) : Int) > 2000
      · rw [decide_eq_true h2]; exact hup _ _
      · rw [decide_eq_false h2]
        simp only [wageofficelaw06_LexerConcat.j0]
        rw [if_neg (by simp), if_pos (by omega), if_pos (by rw [ByteArray.size_append]; show a.size + 1 + b.size ≤ _; omega)]
        have hbs : bs ((a ++ (⟨#[10]⟩ : ByteArray)) ++ b) = bs a ++ 10 :: bs b := by
          show ((a ++ (⟨#[10]⟩ : ByteArray)) ++ b).data.toList = _
          rw [ByteArray.data_append, ByteArray.data_append, Array.toList_append, Array.toList_append, List.append_assoc]
          rfl
        have hsz : ((a ++ (⟨#[10]⟩ : ByteArray)) ++ b).size = a.size + b.size + 1 := by
          rw [ByteArray.size_append, ByteArray.size_append]; show a.size + 1 + b.size = _; omega
        have hj := Lexes.join hP hoP (c := 10) (by decide) (M := Q.map (sh (a.size + 1))) (by
          have := hQ.shift (a.size + 1)
          rwa [show 0 + (a.size + 1) = 0 + (bs a).length + 1 by rw [bs_len]; omega] at this)
        have hLb : lexer_Lex.f ((a ++ (⟨#[10]⟩ : ByteArray)) ++ b) = some ((P ++ Q.map (sh (a.size + 1))).map toT, 0, 0) := by
          refine Lex_ok _ (by rw [hsz]; omega) (by rw [hbs]; exact hj) ?_ (by rw [List.length_append, List.length_map]; omega)
          intro y hy
          rcases List.mem_append.1 hy with hy | hy
          · exact hoP y hy
          · obtain ⟨z, hz, rfl⟩ := List.mem_map.1 hy
            exact hoQ z hz
        have hw : wrap64 ((a.size : Int) + 1) = ((a.size + 1 : Nat) : Int) := by rw [w64 (by omega) (by omega)]; omega
        rw [hw]
        clear hw
        have hbd : ∀ x ∈ Q, x.2.2 < 100000 := by
          intro x hx
          have := hQ.at_lt x hx
          rw [bs_len] at this
          omega
        rw [hLb, Option.bind_some, Option.bind_some, List.nil_append, if_pos (by rw [List.length_map]; simp; omega), Option.bind_some, shift_eq Q (a.size + 1) (by omega) hlQ hbd (K + 1) (by omega), Option.bind_some]
        rw [if_pos (by rw [List.length_map, List.length_map, List.length_map]; omega), if_pos trivial]
        dsimp only
        rw [if_pos rfl, ← List.map_append, same_true _ (by rw [List.length_map, List.length_append, List.length_map]; omega) (K + 1) (by rw [List.length_map, List.length_append, List.length_map]; omega)]
        rfl
    · rw [hLP, Option.bind_some, hL, Option.bind_some]
      dsimp only
      rw [if_pos rfl, if_neg (by rcases he with ⟨_, rfl⟩ | ⟨_, _, rfl⟩ <;> decide)]
      exact hup _ _
  · obtain ⟨lb, eb, pb, hb2⟩ : ∃ lb eb pb, lexer_Lex.f b = some (lb, eb, pb) := by
      rcases hQc with ⟨_, _, h⟩ | ⟨_, _, _, _, _, h, _⟩ <;> exact ⟨_, _, _, h⟩
    rw [hL, Option.bind_some, hb2, Option.bind_some]
    dsimp only
    rw [if_neg (by rcases he with ⟨_, rfl⟩ | ⟨_, _, rfl⟩ <;> decide)]
    exact hup _ _
end Go.Proofs.YticmjkjojhcdpaaDoor.Pure

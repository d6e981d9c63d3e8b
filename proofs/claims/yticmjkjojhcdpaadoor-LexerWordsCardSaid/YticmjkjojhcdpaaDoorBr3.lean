/- The program's Lex tells the plain lexer's tokens. -/
import Derived.Test.YticmjkjojhcdpaaDoorBr2
set_option linter.unusedVariables false
set_option linter.unusedSimpArgs false
namespace Go.Proofs.YticmjkjojhcdpaaDoor.PAll
open Go Go.RowKit Go.Proofs.YticmjkjojhcdpaaDoor.Lx Go.Proofs.YticmjkjojhcdpaaDoorW.PrintWords

def cv (x : PTok) : Tok := ((x.1 : Int), ⟨x.2.1.toArray⟩, (x.2.2 : Int))
def toT (x : PTok) : S30 := ⟨(x.1 : Int), ⟨x.2.1.toArray⟩, (x.2.2 : Int)⟩
theorem toks_eq (s : ByteArray) (hs : s.size < 100000) (k : Nat) (hk : s.size + 30 ≤ k) {a : Nat} {l : Bytes} {P : List PTok} (h : Lexes a l P) :
    ∀ m, l = (bs s).drop a → a ≤ s.size → l.length < m → toks k s m ((a + gapW l : Nat) : Int) = some (P.map cv) := by
  induction h with
  | @done a l h =>
    intro m hl ha hm
    obtain ⟨m, rfl⟩ : ∃ q, m = q + 1 := ⟨m - 1, by omega⟩
    have e : l.length = s.size - a := by rw [hl, List.length_drop, bs_len]
    unfold toks
    rw [if_neg (by omega)]; rfl
  | @tok a g r t kd L hg ht hk0 hr ih =>
    intro m hl ha hm
    obtain ⟨m, rfl⟩ : ∃ q, m = q + 1 := ⟨m - 1, by omega⟩
    have hlen := tok_len ht hk0
    have e : (g ++ (t ++ r)).length = s.size - a := by rw [hl, List.length_drop, bs_len]
    simp only [List.length_append] at e hm hlen
    have hd1 : (bs s).drop (a + g.length) = t ++ r := by rw [← List.drop_drop, ← hl, List.drop_left]
    have hd2 : (bs s).drop (a + g.length + t.length) = r := by rw [← List.drop_drop, hd1, List.drop_left]
    have hsz : ∀ i, (s.extract i s.size).size = s.size - i := fun i => by rw [ByteArray.size_extract]; omega
    have hf : lexer_first.f k (s.extract (a + g.length) s.size) = some ((kd : Int), (t.length : Int)) := by
      rw [first_eq _ (by rw [hsz]; omega) (by rw [hsz]; omega) k (by rw [hsz]; omega), bs_tail, hd1, ht]; rfl
    have hgp : lexer_gap.f k (s.extract (a + g.length + t.length) s.size) = some ((gapW r : Nat) : Int) := by
      rw [gap_eq _ (by rw [hsz]; omega) k (by rw [hsz]; omega), bs_tail, hd2]
    have hgr := (gap_le r).1
    have ht' : s.extract (a + g.length) (a + g.length + t.length) = ⟨t.toArray⟩ := by
      apply ba_ext
      rw [bs_ext, hd1, show a + g.length + t.length - (a + g.length) = t.length by omega, List.take_left]
    unfold toks
    rw [hg, if_pos (by omega), Int.toNat_natCast, hf, Option.bind_some]
    have n1 : (((a + g.length : Nat) : Int) + (t.length : Int)).toNat = a + g.length + t.length := by omega
    dsimp only
    rw [if_pos ⟨by omega, by omega, by omega⟩, if_neg (by omega), n1, hgp, Option.bind_some, if_pos ⟨by omega, by omega, by omega⟩]
    have n2 : ((a + g.length : Nat) : Int) + (t.length : Int) + ((gapW r : Nat) : Int) = ((a + g.length + t.length + gapW r : Nat) : Int) := by omega
    rw [n2, ih m hd2.symm (by omega) (by omega), ht']
    rfl
  | @bad a g r t hg ht h0 =>
    intro m hl ha hm
    obtain ⟨m, rfl⟩ : ∃ q, m = q + 1 := ⟨m - 1, by omega⟩
    have e : (g ++ (t ++ r)).length = s.size - a := by rw [hl, List.length_drop, bs_len]
    have hn : (t ++ r).length ≠ 0 := fun h => h0 (List.length_eq_zero_iff.1 h)
    simp only [List.length_append] at e hm hn
    have hd1 : (bs s).drop (a + g.length) = t ++ r := by rw [← List.drop_drop, ← hl, List.drop_left]
    have hsz : ∀ i, (s.extract i s.size).size = s.size - i := fun i => by rw [ByteArray.size_extract]; omega
    have hf : lexer_first.f k (s.extract (a + g.length) s.size) = some ((0 : Int), (t.length : Int)) := by
      rw [first_eq _ (by rw [hsz]; omega) (by rw [hsz]; omega) k (by rw [hsz]; omega), bs_tail, hd1, ht]; rfl
    have ht' : s.extract (a + g.length) (a + g.length + t.length) = ⟨t.toArray⟩ := by
      apply ba_ext
      rw [bs_ext, hd1, show a + g.length + t.length - (a + g.length) = t.length by omega, List.take_left]
    unfold toks
    rw [hg, if_pos (by omega), Int.toNat_natCast, hf, Option.bind_some]
    have n1 : (((a + g.length : Nat) : Int) + (t.length : Int)).toNat = a + g.length + t.length := by omega
    dsimp only
    rw [if_pos ⟨by omega, by omega, by omega⟩, if_pos rfl, n1, ht']
    rfl
theorem fin_cases (P : List PTok) : ∀ out : List Tok, out.length ≤ 2000 →
    (Ok P ∧ out.length + P.length ≤ 2000 ∧ fin out (P.map cv) = (out ++ P.map cv, 0, 0)) ∨
    ∃ (j : Nat) (x : PTok) (e : Int), P[j]? = some x ∧ Ok (P.take j) ∧ fin out (P.map cv) = ([], e, (x.2.2 : Int)) ∧ ((out.length + j = 2000 ∧ e = 2) ∨ (out.length + j < 2000 ∧ x.1 = 0 ∧ e = 61)) := by
  induction P with
  | nil => intro out h; exact .inl ⟨fun x hx => by simp at hx, by simpa using h, by simp [fin]⟩
  | cons x P ih =>
    intro out h
    rw [List.map_cons]
    by_cases h1 : out.length = 2000
    · refine .inr ⟨0, x, 2, rfl, fun y hy => by simp at hy, ?_, .inl ⟨by omega, rfl⟩⟩
      unfold fin; rw [if_pos h1]; rfl
    by_cases h2 : x.1 = 0
    · refine .inr ⟨0, x, 61, rfl, fun y hy => by simp at hy, ?_, .inr ⟨by omega, h2, rfl⟩⟩
      unfold fin; rw [if_neg h1, if_pos (by simp [cv, h2])]; rfl
    have e : fin out (cv x :: P.map cv) = fin (out ++ [cv x]) (P.map cv) := by
      conv => lhs; unfold fin
      rw [if_neg h1, if_neg (by simp [cv, h2])]
    rw [e]
    rcases ih (out ++ [cv x]) (by simp; omega) with ⟨ho, hl, hf⟩ | ⟨j, y, er, hj, ho, hf, hc⟩
    · refine .inl ⟨fun z hz => ?_, by simp at hl ⊢; omega, by rw [hf]; simp⟩
      rcases List.mem_cons.1 hz with rfl | hz
      · exact h2
      · exact ho z hz
    · refine .inr ⟨j + 1, y, er, by simpa using hj, fun z hz => ?_, hf, ?_⟩
      · rw [List.take_succ_cons] at hz
        rcases List.mem_cons.1 hz with rfl | hz
        · exact h2
        · exact ho z hz
      · simp at hc; omega
theorem Lex_is (s : ByteArray) (hs : s.size ≤ 6000) {P : List PTok} (h : Lexes 0 (bs s) P) :
    lexer_Lex.f s = some ((fin [] (P.map cv)).1.map toS, (fin [] (P.map cv)).2.1, (fin [] (P.map cv)).2.2) := by
  have hg := (gap_le (bs s)).1
  rw [bs_len] at hg
  unfold lexer_Lex.f rounds
  rw [if_neg (by omega), gap_eq s (by omega) (s.size + 100) (by omega), Option.bind_some, if_pos (by omega)]
  have := toks_eq s (by omega) (s.size + 100) (by omega) h (s.size + 100) rfl (by omega) (by rw [bs_len]; omega)
  rw [Nat.zero_add] at this
  rw [this]; rfl
theorem map_cv (P : List PTok) : (P.map cv).map toS = P.map toT := by rw [List.map_map]; rfl
theorem Lex_ok (s : ByteArray) (hs : s.size ≤ 6000) {P : List PTok} (h : Lexes 0 (bs s) P) (ho : Ok P) (hl : P.length ≤ 2000) : lexer_Lex.f s = some (P.map toT, 0, 0) := by
  rw [Lex_is s hs h]
  rcases fin_cases P [] (by simp) with ⟨_, _, hf⟩ | ⟨j, x, e, hj, hot, hf, hc⟩
  · rw [hf]; simp [map_cv]; intros; rfl
  · have hm := List.mem_of_getElem? hj
    have hlt := (List.getElem?_eq_some_iff.1 hj).1
    simp at hc
    rcases hc with ⟨h1, _⟩ | ⟨_, h1, _⟩
    · omega
    · exact absurd h1 (ho x hm)
theorem Lex_long_f (s : ByteArray) (hs : 6000 < s.size) : lexer_Lex.f s = some ([], 2, 0) := by
  unfold lexer_Lex.f; rw [if_pos (by omega)]
theorem Lex_any (s : ByteArray) (hs : s.size ≤ 6000) : ∃ P, Lexes 0 (bs s) P ∧ ((Ok P ∧ P.length ≤ 2000 ∧ lexer_Lex.f s = some (P.map toT, 0, 0)) ∨
    ∃ (j : Nat) (x : PTok) (e : Int), P[j]? = some x ∧ Ok (P.take j) ∧ lexer_Lex.f s = some ([], e, (x.2.2 : Int)) ∧ ((j = 2000 ∧ e = 2) ∨ (j < 2000 ∧ x.1 = 0 ∧ e = 61))) := by
  have hP := lexF_ok (s.size + 1) 0 (bs s) (by rw [bs_len]; omega)
  refine ⟨_, hP, ?_⟩
  rcases fin_cases (lexF (s.size + 1) 0 (bs s)) [] (by simp) with ⟨ho, hl, hf⟩ | ⟨j, x, e, hj, hot, hf, hc⟩
  · exact .inl ⟨ho, by simpa using hl, Lex_ok s hs hP ho (by simpa using hl)⟩
  · refine .inr ⟨j, x, e, hj, hot, ?_, by simpa using hc⟩
    rw [Lex_is s hs hP, hf]; rfl
end Go.Proofs.YticmjkjojhcdpaaDoor.PAll

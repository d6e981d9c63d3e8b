/- lexer.first, where the package variable 'symbols' lies as the program's text lays it. -/
import Derived.Test.YticmjkjojhcdpaaDoorPAllx4
import Derived.Lib.Hide
set_option linter.unusedVariables false
set_option linter.unusedSimpArgs false
namespace Go.Proofs.YticmjkjojhcdpaaDoor.PAll
open Go Go.RowKit Go.Proofs.YticmjkjojhcdpaaDoorW.PrintWords Go.Proofs.YticmjkjojhcdpaaDoorW.PrintLast Go.Proofs.YticmjkjojhcdpaaDoorW.PrintMore

/-- the symbols, in the program's order -/
def syms : List ByteArray := [(⟨#[61, 61]⟩ : ByteArray), (⟨#[33, 61]⟩ : ByteArray), (⟨#[60, 61]⟩ : ByteArray), (⟨#[62, 61]⟩ : ByteArray), (⟨#[60]⟩ : ByteArray), (⟨#[62]⟩ : ByteArray), (⟨#[43]⟩ : ByteArray), (⟨#[45]⟩ : ByteArray), (⟨#[42]⟩ : ByteArray), (⟨#[47]⟩ : ByteArray), (⟨#[40]⟩ : ByteArray), (⟨#[41]⟩ : ByteArray), (⟨#[123]⟩ : ByteArray), (⟨#[125]⟩ : ByteArray), (⟨#[58]⟩ : ByteArray), (⟨#[59]⟩ : ByteArray), (⟨#[44]⟩ : ByteArray)]
/-- the package variable lies as the program's text lays it -/
def Glob (w : World) : Prop := (w.cell? ⟨0, 0, none⟩ = some (.string ⟨#[61, 61]⟩) ∧ w.cell? ⟨0, 1, none⟩ = some (.string ⟨#[33, 61]⟩) ∧ w.cell? ⟨0, 2, none⟩ = some (.string ⟨#[60, 61]⟩) ∧ w.cell? ⟨0, 3, none⟩ = some (.string ⟨#[62, 61]⟩) ∧ w.cell? ⟨0, 4, none⟩ = some (.string ⟨#[60]⟩) ∧ w.cell? ⟨0, 5, none⟩ = some (.string ⟨#[62]⟩) ∧ w.cell? ⟨0, 6, none⟩ = some (.string ⟨#[43]⟩) ∧ w.cell? ⟨0, 7, none⟩ = some (.string ⟨#[45]⟩) ∧ w.cell? ⟨0, 8, none⟩ = some (.string ⟨#[42]⟩) ∧ w.cell? ⟨0, 9, none⟩ = some (.string ⟨#[47]⟩) ∧ w.cell? ⟨0, 10, none⟩ = some (.string ⟨#[40]⟩) ∧ w.cell? ⟨0, 11, none⟩ = some (.string ⟨#[41]⟩) ∧ w.cell? ⟨0, 12, none⟩ = some (.string ⟨#[123]⟩) ∧ w.cell? ⟨0, 13, none⟩ = some (.string ⟨#[125]⟩) ∧ w.cell? ⟨0, 14, none⟩ = some (.string ⟨#[58]⟩) ∧ w.cell? ⟨0, 15, none⟩ = some (.string ⟨#[59]⟩) ∧ w.cell? ⟨0, 16, none⟩ = some (.string ⟨#[44]⟩)) ∧ 0 < w.heap.size
theorem Glob.below {w W : World} (h : Glob w) (hb : Below w.heap.size w W) : Glob W := by
  obtain ⟨⟨g0, g1, g2, g3, g4, g5, g6, g7, g8, g9, g10, g11, g12, g13, g14, g15, g16⟩, hs⟩ := h
  exact ⟨⟨(hb.cell (p := ⟨0, 0, none⟩) hs).trans g0, (hb.cell (p := ⟨0, 1, none⟩) hs).trans g1, (hb.cell (p := ⟨0, 2, none⟩) hs).trans g2, (hb.cell (p := ⟨0, 3, none⟩) hs).trans g3, (hb.cell (p := ⟨0, 4, none⟩) hs).trans g4, (hb.cell (p := ⟨0, 5, none⟩) hs).trans g5, (hb.cell (p := ⟨0, 6, none⟩) hs).trans g6, (hb.cell (p := ⟨0, 7, none⟩) hs).trans g7, (hb.cell (p := ⟨0, 8, none⟩) hs).trans g8, (hb.cell (p := ⟨0, 9, none⟩) hs).trans g9, (hb.cell (p := ⟨0, 10, none⟩) hs).trans g10, (hb.cell (p := ⟨0, 11, none⟩) hs).trans g11, (hb.cell (p := ⟨0, 12, none⟩) hs).trans g12, (hb.cell (p := ⟨0, 13, none⟩) hs).trans g13, (hb.cell (p := ⟨0, 14, none⟩) hs).trans g14, (hb.cell (p := ⟨0, 15, none⟩) hs).trans g15, (hb.cell (p := ⟨0, 16, none⟩) hs).trans g16⟩, Nat.lt_of_lt_of_le hs hb.size⟩
theorem Glob.drewN {w : World} (h : Glob w) (n : Nat) : Glob (w.drewN n) := h
def hasPre (s t : ByteArray) : Bool := if s.size ≥ t.size then (s.extract 0 t.size).toList == t.toList else false
theorem hp_f (s t : ByteArray) : strings_HasPrefix.f s t = some (hasPre s t) := by
  unfold strings_HasPrefix.f stringslite_HasPrefix.f hasPre
  by_cases h : s.size ≥ t.size
  · rw [if_pos (by omega), if_pos (by omega), if_pos (by omega), if_pos h, Int.toNat_natCast]; rfl
  · rw [if_neg (by omega), if_neg h]; rfl
/-- the symbol that a text begins with -/
def symAt (s : ByteArray) : List ByteArray → Int × Int
  | [] => (0, 0)
  | t :: r => if hasPre s t = true then (6, (t.size : Int)) else symAt s r
def lexer_first.f (k : Nat) (a0 : ByteArray) : Option (Int × Int) :=
  (lexer_span.f k a0 15).bind fun n => if 0 < (a0.size : Int) then (lexer_class.f k (bt a0 0)).bind fun c =>
    if c = 4 then lexer_numeric.f k a0
    else if c = 1 then (if n ≤ 16 then (lexer_span.f k a0 13).bind fun m => if m = n then some (1, n) else some (0, 0) else some (0, 0))
    else if c = 2 then (if n = 3 then (lexer_span.f k a0 2).bind fun m => if m = n then some (2, n) else some (0, 0) else some (0, 0))
    else some (symAt a0 syms)
  else none
section
variable (W : World)
theorem idx0 : (Instr.index 58 (.agg #[.string ⟨#[61, 61]⟩, .string ⟨#[33, 61]⟩, .string ⟨#[60, 61]⟩, .string ⟨#[62, 61]⟩, .string ⟨#[60]⟩, .string ⟨#[62]⟩, .string ⟨#[43]⟩, .string ⟨#[45]⟩, .string ⟨#[42]⟩, .string ⟨#[47]⟩, .string ⟨#[40]⟩, .string ⟨#[41]⟩, .string ⟨#[123]⟩, .string ⟨#[125]⟩, .string ⟨#[58]⟩, .string ⟨#[59]⟩, .string ⟨#[44]⟩]) (.int .i64 0)).run Tryd.prog W = .ok (.string ⟨#[61, 61]⟩) W := by
  simp [Instr.index, run_underlying Tryd.underlying58, asIntOf, go_sem] <;> rfl
theorem idx1 : (Instr.index 58 (.agg #[.string ⟨#[61, 61]⟩, .string ⟨#[33, 61]⟩, .string ⟨#[60, 61]⟩, .string ⟨#[62, 61]⟩, .string ⟨#[60]⟩, .string ⟨#[62]⟩, .string ⟨#[43]⟩, .string ⟨#[45]⟩, .string ⟨#[42]⟩, .string ⟨#[47]⟩, .string ⟨#[40]⟩, .string ⟨#[41]⟩, .string ⟨#[123]⟩, .string ⟨#[125]⟩, .string ⟨#[58]⟩, .string ⟨#[59]⟩, .string ⟨#[44]⟩]) (.int .i64 1)).run Tryd.prog W = .ok (.string ⟨#[33, 61]⟩) W := by
  simp [Instr.index, run_underlying Tryd.underlying58, asIntOf, go_sem] <;> rfl
theorem idx2 : (Instr.index 58 (.agg #[.string ⟨#[61, 61]⟩, .string ⟨#[33, 61]⟩, .string ⟨#[60, 61]⟩, .string ⟨#[62, 61]⟩, .string ⟨#[60]⟩, .string ⟨#[62]⟩, .string ⟨#[43]⟩, .string ⟨#[45]⟩, .string ⟨#[42]⟩, .string ⟨#[47]⟩, .string ⟨#[40]⟩, .string ⟨#[41]⟩, .string ⟨#[123]⟩, .string ⟨#[125]⟩, .string ⟨#[58]⟩, .string ⟨#[59]⟩, .string ⟨#[44]⟩]) (.int .i64 2)).run Tryd.prog W = .ok (.string ⟨#[60, 61]⟩) W := by
  simp [Instr.index, run_underlying Tryd.underlying58, asIntOf, go_sem] <;> rfl
theorem idx3 : (Instr.index 58 (.agg #[.string ⟨#[61, 61]⟩, .string ⟨#[33, 61]⟩, .string ⟨#[60, 61]⟩, .string ⟨#[62, 61]⟩, .string ⟨#[60]⟩, .string ⟨#[62]⟩, .string ⟨#[43]⟩, .string ⟨#[45]⟩, .string ⟨#[42]⟩, .string ⟨#[47]⟩, .string ⟨#[40]⟩, .string ⟨#[41]⟩, .string ⟨#[123]⟩, .string ⟨#[125]⟩, .string ⟨#[58]⟩, .string ⟨#[59]⟩, .string ⟨#[44]⟩]) (.int .i64 3)).run Tryd.prog W = .ok (.string ⟨#[62, 61]⟩) W := by
  simp [Instr.index, run_underlying Tryd.underlying58, asIntOf, go_sem] <;> rfl
theorem idx4 : (Instr.index 58 (.agg #[.string ⟨#[61, 61]⟩, .string ⟨#[33, 61]⟩, .string ⟨#[60, 61]⟩, .string ⟨#[62, 61]⟩, .string ⟨#[60]⟩, .string ⟨#[62]⟩, .string ⟨#[43]⟩, .string ⟨#[45]⟩, .string ⟨#[42]⟩, .string ⟨#[47]⟩, .string ⟨#[40]⟩, .string ⟨#[41]⟩, .string ⟨#[123]⟩, .string ⟨#[125]⟩, .string ⟨#[58]⟩, .string ⟨#[59]⟩, .string ⟨#[44]⟩]) (.int .i64 4)).run Tryd.prog W = .ok (.string ⟨#[60]⟩) W := by
  simp [Instr.index, run_underlying Tryd.underlying58, asIntOf, go_sem] <;> rfl
theorem idx5 : (Instr.index 58 (.agg #[.string ⟨#[61, 61]⟩, .string ⟨#[33, 61]⟩, .string ⟨#[60, 61]⟩, .string ⟨#[62, 61]⟩, .string ⟨#[60]⟩, .string ⟨#[62]⟩, .string ⟨#[43]⟩, .string ⟨#[45]⟩, .string ⟨#[42]⟩, .string ⟨#[47]⟩, .string ⟨#[40]⟩, .string ⟨#[41]⟩, .string ⟨#[123]⟩, .string ⟨#[125]⟩, .string ⟨#[58]⟩, .string ⟨#[59]⟩, .string ⟨#[44]⟩]) (.int .i64 5)).run Tryd.prog W = .ok (.string ⟨#[62]⟩) W := by
  simp [Instr.index, run_underlying Tryd.underlying58, asIntOf, go_sem] <;> rfl
theorem idx6 : (Instr.index 58 (.agg #[.string ⟨#[61, 61]⟩, .string ⟨#[33, 61]⟩, .string ⟨#[60, 61]⟩, .string ⟨#[62, 61]⟩, .string ⟨#[60]⟩, .string ⟨#[62]⟩, .string ⟨#[43]⟩, .string ⟨#[45]⟩, .string ⟨#[42]⟩, .string ⟨#[47]⟩, .string ⟨#[40]⟩, .string ⟨#[41]⟩, .string ⟨#[123]⟩, .string ⟨#[125]⟩, .string ⟨#[58]⟩, .string ⟨#[59]⟩, .string ⟨#[44]⟩]) (.int .i64 6)).run Tryd.prog W = .ok (.string ⟨#[43]⟩) W := by
  simp [Instr.index, run_underlying Tryd.underlying58, asIntOf, go_sem] <;> rfl
theorem idx7 : (Instr.index 58 (.agg #[.string ⟨#[61, 61]⟩, .string ⟨#[33, 61]⟩, .string ⟨#[60, 61]⟩, .string ⟨#[62, 61]⟩, .string ⟨#[60]⟩, .string ⟨#[62]⟩, .string ⟨#[43]⟩, .string ⟨#[45]⟩, .string ⟨#[42]⟩, .string ⟨#[47]⟩, .string ⟨#[40]⟩, .string ⟨#[41]⟩, .string ⟨#[123]⟩, .string ⟨#[125]⟩, .string ⟨#[58]⟩, .string ⟨#[59]⟩, .string ⟨#[44]⟩]) (.int .i64 7)).run Tryd.prog W = .ok (.string ⟨#[45]⟩) W := by
  simp [Instr.index, run_underlying Tryd.underlying58, asIntOf, go_sem] <;> rfl
theorem idx8 : (Instr.index 58 (.agg #[.string ⟨#[61, 61]⟩, .string ⟨#[33, 61]⟩, .string ⟨#[60, 61]⟩, .string ⟨#[62, 61]⟩, .string ⟨#[60]⟩, .string ⟨#[62]⟩, .string ⟨#[43]⟩, .string ⟨#[45]⟩, .string ⟨#[42]⟩, .string ⟨#[47]⟩, .string ⟨#[40]⟩, .string ⟨#[41]⟩, .string ⟨#[123]⟩, .string ⟨#[125]⟩, .string ⟨#[58]⟩, .string ⟨#[59]⟩, .string ⟨#[44]⟩]) (.int .i64 8)).run Tryd.prog W = .ok (.string ⟨#[42]⟩) W := by
  simp [Instr.index, run_underlying Tryd.underlying58, asIntOf, go_sem] <;> rfl
theorem idx9 : (Instr.index 58 (.agg #[.string ⟨#[61, 61]⟩, .string ⟨#[33, 61]⟩, .string ⟨#[60, 61]⟩, .string ⟨#[62, 61]⟩, .string ⟨#[60]⟩, .string ⟨#[62]⟩, .string ⟨#[43]⟩, .string ⟨#[45]⟩, .string ⟨#[42]⟩, .string ⟨#[47]⟩, .string ⟨#[40]⟩, .string ⟨#[41]⟩, .string ⟨#[123]⟩, .string ⟨#[125]⟩, .string ⟨#[58]⟩, .string ⟨#[59]⟩, .string ⟨#[44]⟩]) (.int .i64 9)).run Tryd.prog W = .ok (.string ⟨#[47]⟩) W := by
  simp [Instr.index, run_underlying Tryd.underlying58, asIntOf, go_sem] <;> rfl
theorem idx10 : (Instr.index 58 (.agg #[.string ⟨#[61, 61]⟩, .string ⟨#[33, 61]⟩, .string ⟨#[60, 61]⟩, .string ⟨#[62, 61]⟩, .string ⟨#[60]⟩, .string ⟨#[62]⟩, .string ⟨#[43]⟩, .string ⟨#[45]⟩, .string ⟨#[42]⟩, .string ⟨#[47]⟩, .string ⟨#[40]⟩, .string ⟨#[41]⟩, .string ⟨#[123]⟩, .string ⟨#[125]⟩, .string ⟨#[58]⟩, .string ⟨#[59]⟩, .string ⟨#[44]⟩]) (.int .i64 10)).run Tryd.prog W = .ok (.string ⟨#[40]⟩) W := by
  simp [Instr.index, run_underlying Tryd.underlying58, asIntOf, go_sem] <;> rfl
theorem idx11 : (Instr.index 58 (.agg #[.string ⟨#[61, 61]⟩, .string ⟨#[33, 61]⟩, .string ⟨#[60, 61]⟩, .string ⟨#[62, 61]⟩, .string ⟨#[60]⟩, .string ⟨#[62]⟩, .string ⟨#[43]⟩, .string ⟨#[45]⟩, .string ⟨#[42]⟩, .string ⟨#[47]⟩, .string ⟨#[40]⟩, .string ⟨#[41]⟩, .string ⟨#[123]⟩, .string ⟨#[125]⟩, .string ⟨#[58]⟩, .string ⟨#[59]⟩, .string ⟨#[44]⟩]) (.int .i64 11)).run Tryd.prog W = .ok (.string ⟨#[41]⟩) W := by
  simp [Instr.index, run_underlying Tryd.underlying58, asIntOf, go_sem] <;> rfl
theorem idx12 : (Instr.index 58 (.agg #[.string ⟨#[61, 61]⟩, .string ⟨#[33, 61]⟩, .string ⟨#[60, 61]⟩, .string ⟨#[62, 61]⟩, .string ⟨#[60]⟩, .string ⟨#[62]⟩, .string ⟨#[43]⟩, .string ⟨#[45]⟩, .string ⟨#[42]⟩, .string ⟨#[47]⟩, .string ⟨#[40]⟩, .string ⟨#[41]⟩, .string ⟨#[123]⟩, .string ⟨#[125]⟩, .string ⟨#[58]⟩, .string ⟨#[59]⟩, .string ⟨#[44]⟩]) (.int .i64 12)).run Tryd.prog W = .ok (.string ⟨#[123]⟩) W := by
  simp [Instr.index, run_underlying Tryd.underlying58, asIntOf, go_sem] <;> rfl
theorem idx13 : (Instr.index 58 (.agg #[.string ⟨#[61, 61]⟩, .string ⟨#[33, 61]⟩, .string ⟨#[60, 61]⟩, .string ⟨#[62, 61]⟩, .string ⟨#[60]⟩, .string ⟨#[62]⟩, .string ⟨#[43]⟩, .string ⟨#[45]⟩, .string ⟨#[42]⟩, .string ⟨#[47]⟩, .string ⟨#[40]⟩, .string ⟨#[41]⟩, .string ⟨#[123]⟩, .string ⟨#[125]⟩, .string ⟨#[58]⟩, .string ⟨#[59]⟩, .string ⟨#[44]⟩]) (.int .i64 13)).run Tryd.prog W = .ok (.string ⟨#[125]⟩) W := by
  simp [Instr.index, run_underlying Tryd.underlying58, asIntOf, go_sem] <;> rfl
theorem idx14 : (Instr.index 58 (.agg #[.string ⟨#[61, 61]⟩, .string ⟨#[33, 61]⟩, .string ⟨#[60, 61]⟩, .string ⟨#[62, 61]⟩, .string ⟨#[60]⟩, .string ⟨#[62]⟩, .string ⟨#[43]⟩, .string ⟨#[45]⟩, .string ⟨#[42]⟩, .string ⟨#[47]⟩, .string ⟨#[40]⟩, .string ⟨#[41]⟩, .string ⟨#[123]⟩, .string ⟨#[125]⟩, .string ⟨#[58]⟩, .string ⟨#[59]⟩, .string ⟨#[44]⟩]) (.int .i64 14)).run Tryd.prog W = .ok (.string ⟨#[58]⟩) W := by
  simp [Instr.index, run_underlying Tryd.underlying58, asIntOf, go_sem] <;> rfl
theorem idx15 : (Instr.index 58 (.agg #[.string ⟨#[61, 61]⟩, .string ⟨#[33, 61]⟩, .string ⟨#[60, 61]⟩, .string ⟨#[62, 61]⟩, .string ⟨#[60]⟩, .string ⟨#[62]⟩, .string ⟨#[43]⟩, .string ⟨#[45]⟩, .string ⟨#[42]⟩, .string ⟨#[47]⟩, .string ⟨#[40]⟩, .string ⟨#[41]⟩, .string ⟨#[123]⟩, .string ⟨#[125]⟩, .string ⟨#[58]⟩, .string ⟨#[59]⟩, .string ⟨#[44]⟩]) (.int .i64 15)).run Tryd.prog W = .ok (.string ⟨#[59]⟩) W := by
  simp [Instr.index, run_underlying Tryd.underlying58, asIntOf, go_sem] <;> rfl
theorem idx16 : (Instr.index 58 (.agg #[.string ⟨#[61, 61]⟩, .string ⟨#[33, 61]⟩, .string ⟨#[60, 61]⟩, .string ⟨#[62, 61]⟩, .string ⟨#[60]⟩, .string ⟨#[62]⟩, .string ⟨#[43]⟩, .string ⟨#[45]⟩, .string ⟨#[42]⟩, .string ⟨#[47]⟩, .string ⟨#[40]⟩, .string ⟨#[41]⟩, .string ⟨#[123]⟩, .string ⟨#[125]⟩, .string ⟨#[58]⟩, .string ⟨#[59]⟩, .string ⟨#[44]⟩]) (.int .i64 16)).run Tryd.prog W = .ok (.string ⟨#[44]⟩) W := by
  simp [Instr.index, run_underlying Tryd.underlying58, asIntOf, go_sem] <;> rfl
end
set_option maxHeartbeats 16000000 in
set_option maxRecDepth 100000 in
theorem lexer_first.calls (k : Nat) (a0 : ByteArray) (r1 : Int) (r2 : Int) (w : World) (hG : Glob w) (h : lexer_first.f k a0 = some (r1, r2)) :
    Calls Tryd.prog 24 #[.string a0] w fun e w' => e = .returned (.tuple #[.int .i64 r1, .int .i64 r2]) ∧ Drawn0 w w' := by
  unfold lexer_first.f at h
  obtain ⟨n, hn, h⟩ := Option.bind_eq_some_iff.1 h
  have HN := Lib.hid hn
  clear hn
  by_cases hs : 0 < (a0.size : Int)
  · rw [if_pos hs] at h
    obtain ⟨c, hc, h⟩ := Option.bind_eq_some_iff.1 h
    have HCL := Lib.hid hc
    clear hc
    have HG := Lib.hid hG
    clear hG
    have H := Lib.hid h
    clear h
    have hx0 : ∀ h : 0 < a0.size, ((a0[0]'h).toNat : Int) = bt a0 0 := bt_at a0 0
    go_enter Tryd.func24, Tryd.ntmps24
    go_wp2_with (fail)
    refine (lexer_span.calls k a0 15 n _ HN.out).mono ?_
    rintro e w' ⟨rfl, ⟨n1, rfl⟩⟩
    go_wp2_with (fail)
    refine (lexer_class.calls k (bt a0 0) c _ HCL.out).mono ?_
    rintro e w' ⟨rfl, ⟨n2, rfl⟩⟩
    by_cases c4 : c = 4
    · have h := H.out
      rw [if_pos c4] at h
      have t4 : (c == 4) = true := by simpa using c4
      clear c4 H
      have H := Lib.hid h
      clear h
      go_wp2_with (fail)
      refine (lexer_numeric.calls k a0 r1 r2 _ H.out).mono ?_
      rintro e w' ⟨rfl, ⟨n3, rfl⟩⟩
      go_wp2
      go_ret2
      exact ⟨rfl, by repeat (first | exact Drawn0.refl _ | apply Drawn0.step)⟩
    · have h := H.out
      rw [if_neg c4] at h
      have t4 : (c == 4) = false := by simpa using c4
      clear c4 H
      by_cases c1 : c = 1
      · rw [if_pos c1] at h
        have t1 : (c == 1) = true := by simpa using c1
        clear c1
        by_cases c5 : n ≤ 16
        · rw [if_pos c5] at h
          obtain ⟨m, hm, h⟩ := Option.bind_eq_some_iff.1 h
          have HM := Lib.hid hm
          clear hm
          have t5 : decide (n ≤ 16) = true := decide_eq_true c5
          by_cases c6 : m = n
          · rw [if_pos c6] at h
            subst c6
            cases h
            have t6 : (r2 == r2) = true := by simp
            go_wp2_with (fail)
            refine (lexer_span.calls k a0 13 r2 _ HM.out).mono ?_
            rintro e' w' ⟨rfl, ⟨n3, rfl⟩⟩
            go_wp2_with (fail)
            try go_wp2
            go_ret2
            exact ⟨rfl, by repeat (first | exact Drawn0.refl _ | apply Drawn0.step)⟩
          · rw [if_neg c6] at h
            cases h
            have t6 : (m == n) = false := by simpa using c6
            go_wp2_with (fail)
            refine (lexer_span.calls k a0 13 m _ HM.out).mono ?_
            rintro e' w' ⟨rfl, ⟨n3, rfl⟩⟩
            go_wp2_with (fail)
            try go_wp2
            go_ret2
            exact ⟨rfl, by repeat (first | exact Drawn0.refl _ | apply Drawn0.step)⟩
        · rw [if_neg c5] at h
          cases h
          have t5 : decide (n ≤ 16) = false := decide_eq_false c5
          go_wp2_with (fail)
          repeat (go_quiet (fail); try go_wp2_with (fail))
          try go_wp2
          go_ret2
          exact ⟨rfl, by repeat (first | exact Drawn0.refl _ | apply Drawn0.step)⟩
      · rw [if_neg c1] at h
        have t1 : (c == 1) = false := by simpa using c1
        clear c1
        by_cases c2 : c = 2
        · rw [if_pos c2] at h
          have t2 : (c == 2) = true := by simpa using c2
          clear c2
          by_cases c5 : n = 3
          · rw [if_pos c5] at h
            obtain ⟨m, hm, h⟩ := Option.bind_eq_some_iff.1 h
            have HM := Lib.hid hm
            clear hm
            have t5 : (n == 3) = true := by simpa using c5
            have C5 := Lib.hid c5
            clear c5
            by_cases c6 : m = n
            · rw [if_pos c6] at h
              subst c6
              cases h
              have t6 : (r2 == r2) = true := by simp
              go_wp2_with (fail)
              refine (lexer_span.calls k a0 2 r2 _ HM.out).mono ?_
              rintro e' w' ⟨rfl, ⟨n3, rfl⟩⟩
              go_wp2_with (fail)
              try go_wp2
              go_ret2
              exact ⟨rfl, by repeat (first | exact Drawn0.refl _ | apply Drawn0.step)⟩
            · rw [if_neg c6] at h
              cases h
              have t6 : (m == n) = false := by simpa using c6
              go_wp2_with (fail)
              refine (lexer_span.calls k a0 2 m _ HM.out).mono ?_
              rintro e' w' ⟨rfl, ⟨n3, rfl⟩⟩
              go_wp2_with (fail)
              try go_wp2
              go_ret2
              exact ⟨rfl, by repeat (first | exact Drawn0.refl _ | apply Drawn0.step)⟩
          · rw [if_neg c5] at h
            cases h
            have t5 : (n == 3) = false := by simpa using c5
            go_wp2_with (fail)
            repeat (go_quiet (fail); try go_wp2_with (fail))
            try go_wp2
            go_ret2
            exact ⟨rfl, by repeat (first | exact Drawn0.refl _ | apply Drawn0.step)⟩
        · rw [if_neg c2] at h
          have t2 : (c == 2) = false := by simpa using c2
          clear c2
          have H := Lib.hid h
          clear h
          obtain ⟨⟨g0, g1, g2, g3, g4, g5, g6, g7, g8, g9, g10, g11, g12, g13, g14, g15, g16⟩, hsz⟩ := HG.out
          go_wp2_with (fail)
          clear hx0
          go_loopw [41] (fun s41 wr => ∃ i : Nat, s41 = .int .i64 (i : Int) ∧ i ≤ 17 ∧ Hid (symAt a0 syms = symAt a0 (syms.drop i)) ∧ Drawn0 w wr) (fun s41 _ => 17 - (intOf s41).toNat)
          case atStart => exact ⟨0, rfl, by omega, Lib.hid rfl, by repeat (first | exact Drawn0.refl _ | apply Drawn0.step)⟩
          case round =>
            obtain ⟨i, rfl, hi, HS, ⟨nw, rfl⟩⟩ := hrel
            by_cases hlt : i < 17
            · have hcases : i = 0 ∨ i = 1 ∨ i = 2 ∨ i = 3 ∨ i = 4 ∨ i = 5 ∨ i = 6 ∨ i = 7 ∨ i = 8 ∨ i = 9 ∨ i = 10 ∨ i = 11 ∨ i = 12 ∨ i = 13 ∨ i = 14 ∨ i = 15 ∨ i = 16 := by omega
              rcases hcases with rfl | rfl | rfl | rfl | rfl | rfl | rfl | rfl | rfl | rfl | rfl | rfl | rfl | rfl | rfl | rfl | rfl
              · have e : symAt a0 syms = if hasPre a0 ⟨#[61, 61]⟩ = true then (6, ((⟨#[61, 61]⟩ : ByteArray).size : Int)) else symAt a0 (syms.drop 1) := HS.out.trans rfl
                have hx := idx0
                cases hb : hasPre a0 ⟨#[61, 61]⟩ with
                | true =>
                  rw [hb, if_pos rfl] at e
                  have h := H.out
                  rw [e] at h
                  cases h
                  go_wp2_with (fail)
                  refine (strings_HasPrefix.calls a0 ⟨#[61, 61]⟩ true _ (by rw [hp_f, hb])).mono ?_
                  rintro e' w' ⟨rfl, ⟨n3, rfl⟩⟩
                  go_wp2_with (fail)
                  go_ret2
                  exact ⟨rfl, by repeat (first | exact Drawn0.refl _ | apply Drawn0.step)⟩
                | false =>
                  rw [hb, if_neg (by simp)] at e
                  have E := Lib.hid e
                  clear e
                  go_wp2_with (fail)
                  refine (strings_HasPrefix.calls a0 ⟨#[61, 61]⟩ false _ (by rw [hp_f, hb])).mono ?_
                  rintro e' w' ⟨rfl, ⟨n3, rfl⟩⟩
                  go_wp2_with (fail)
                  go_roundw
                  case rel => exact ⟨1, rfl, by omega, E, by repeat (first | exact Drawn0.refl _ | apply Drawn0.step)⟩
                  case measure => simp [intOf]
              · have e : symAt a0 syms = if hasPre a0 ⟨#[33, 61]⟩ = true then (6, ((⟨#[33, 61]⟩ : ByteArray).size : Int)) else symAt a0 (syms.drop 2) := HS.out.trans rfl
                have hx := idx1
                cases hb : hasPre a0 ⟨#[33, 61]⟩ with
                | true =>
                  rw [hb, if_pos rfl] at e
                  have h := H.out
                  rw [e] at h
                  cases h
                  go_wp2_with (fail)
                  refine (strings_HasPrefix.calls a0 ⟨#[33, 61]⟩ true _ (by rw [hp_f, hb])).mono ?_
                  rintro e' w' ⟨rfl, ⟨n3, rfl⟩⟩
                  go_wp2_with (fail)
                  go_ret2
                  exact ⟨rfl, by repeat (first | exact Drawn0.refl _ | apply Drawn0.step)⟩
                | false =>
                  rw [hb, if_neg (by simp)] at e
                  have E := Lib.hid e
                  clear e
                  go_wp2_with (fail)
                  refine (strings_HasPrefix.calls a0 ⟨#[33, 61]⟩ false _ (by rw [hp_f, hb])).mono ?_
                  rintro e' w' ⟨rfl, ⟨n3, rfl⟩⟩
                  go_wp2_with (fail)
                  go_roundw
                  case rel => exact ⟨2, rfl, by omega, E, by repeat (first | exact Drawn0.refl _ | apply Drawn0.step)⟩
                  case measure => simp [intOf]
              · have e : symAt a0 syms = if hasPre a0 ⟨#[60, 61]⟩ = true then (6, ((⟨#[60, 61]⟩ : ByteArray).size : Int)) else symAt a0 (syms.drop 3) := HS.out.trans rfl
                have hx := idx2
                cases hb : hasPre a0 ⟨#[60, 61]⟩ with
                | true =>
                  rw [hb, if_pos rfl] at e
                  have h := H.out
                  rw [e] at h
                  cases h
                  go_wp2_with (fail)
                  refine (strings_HasPrefix.calls a0 ⟨#[60, 61]⟩ true _ (by rw [hp_f, hb])).mono ?_
                  rintro e' w' ⟨rfl, ⟨n3, rfl⟩⟩
                  go_wp2_with (fail)
                  go_ret2
                  exact ⟨rfl, by repeat (first | exact Drawn0.refl _ | apply Drawn0.step)⟩
                | false =>
                  rw [hb, if_neg (by simp)] at e
                  have E := Lib.hid e
                  clear e
                  go_wp2_with (fail)
                  refine (strings_HasPrefix.calls a0 ⟨#[60, 61]⟩ false _ (by rw [hp_f, hb])).mono ?_
                  rintro e' w' ⟨rfl, ⟨n3, rfl⟩⟩
                  go_wp2_with (fail)
                  go_roundw
                  case rel => exact ⟨3, rfl, by omega, E, by repeat (first | exact Drawn0.refl _ | apply Drawn0.step)⟩
                  case measure => simp [intOf]
              · have e : symAt a0 syms = if hasPre a0 ⟨#[62, 61]⟩ = true then (6, ((⟨#[62, 61]⟩ : ByteArray).size : Int)) else symAt a0 (syms.drop 4) := HS.out.trans rfl
                have hx := idx3
                cases hb : hasPre a0 ⟨#[62, 61]⟩ with
                | true =>
                  rw [hb, if_pos rfl] at e
                  have h := H.out
                  rw [e] at h
                  cases h
                  go_wp2_with (fail)
                  refine (strings_HasPrefix.calls a0 ⟨#[62, 61]⟩ true _ (by rw [hp_f, hb])).mono ?_
                  rintro e' w' ⟨rfl, ⟨n3, rfl⟩⟩
                  go_wp2_with (fail)
                  go_ret2
                  exact ⟨rfl, by repeat (first | exact Drawn0.refl _ | apply Drawn0.step)⟩
                | false =>
                  rw [hb, if_neg (by simp)] at e
                  have E := Lib.hid e
                  clear e
                  go_wp2_with (fail)
                  refine (strings_HasPrefix.calls a0 ⟨#[62, 61]⟩ false _ (by rw [hp_f, hb])).mono ?_
                  rintro e' w' ⟨rfl, ⟨n3, rfl⟩⟩
                  go_wp2_with (fail)
                  go_roundw
                  case rel => exact ⟨4, rfl, by omega, E, by repeat (first | exact Drawn0.refl _ | apply Drawn0.step)⟩
                  case measure => simp [intOf]
              · have e : symAt a0 syms = if hasPre a0 ⟨#[60]⟩ = true then (6, ((⟨#[60]⟩ : ByteArray).size : Int)) else symAt a0 (syms.drop 5) := HS.out.trans rfl
                have hx := idx4
                cases hb : hasPre a0 ⟨#[60]⟩ with
                | true =>
                  rw [hb, if_pos rfl] at e
                  have h := H.out
                  rw [e] at h
                  cases h
                  go_wp2_with (fail)
                  refine (strings_HasPrefix.calls a0 ⟨#[60]⟩ true _ (by rw [hp_f, hb])).mono ?_
                  rintro e' w' ⟨rfl, ⟨n3, rfl⟩⟩
                  go_wp2_with (fail)
                  go_ret2
                  exact ⟨rfl, by repeat (first | exact Drawn0.refl _ | apply Drawn0.step)⟩
                | false =>
                  rw [hb, if_neg (by simp)] at e
                  have E := Lib.hid e
                  clear e
                  go_wp2_with (fail)
                  refine (strings_HasPrefix.calls a0 ⟨#[60]⟩ false _ (by rw [hp_f, hb])).mono ?_
                  rintro e' w' ⟨rfl, ⟨n3, rfl⟩⟩
                  go_wp2_with (fail)
                  go_roundw
                  case rel => exact ⟨5, rfl, by omega, E, by repeat (first | exact Drawn0.refl _ | apply Drawn0.step)⟩
                  case measure => simp [intOf]
              · have e : symAt a0 syms = if hasPre a0 ⟨#[62]⟩ = true then (6, ((⟨#[62]⟩ : ByteArray).size : Int)) else symAt a0 (syms.drop 6) := HS.out.trans rfl
                have hx := idx5
                cases hb : hasPre a0 ⟨#[62]⟩ with
                | true =>
                  rw [hb, if_pos rfl] at e
                  have h := H.out
                  rw [e] at h
                  cases h
                  go_wp2_with (fail)
                  refine (strings_HasPrefix.calls a0 ⟨#[62]⟩ true _ (by rw [hp_f, hb])).mono ?_
                  rintro e' w' ⟨rfl, ⟨n3, rfl⟩⟩
                  go_wp2_with (fail)
                  go_ret2
                  exact ⟨rfl, by repeat (first | exact Drawn0.refl _ | apply Drawn0.step)⟩
                | false =>
                  rw [hb, if_neg (by simp)] at e
                  have E := Lib.hid e
                  clear e
                  go_wp2_with (fail)
                  refine (strings_HasPrefix.calls a0 ⟨#[62]⟩ false _ (by rw [hp_f, hb])).mono ?_
                  rintro e' w' ⟨rfl, ⟨n3, rfl⟩⟩
                  go_wp2_with (fail)
                  go_roundw
                  case rel => exact ⟨6, rfl, by omega, E, by repeat (first | exact Drawn0.refl _ | apply Drawn0.step)⟩
                  case measure => simp [intOf]
              · have e : symAt a0 syms = if hasPre a0 ⟨#[43]⟩ = true then (6, ((⟨#[43]⟩ : ByteArray).size : Int)) else symAt a0 (syms.drop 7) := HS.out.trans rfl
                have hx := idx6
                cases hb : hasPre a0 ⟨#[43]⟩ with
                | true =>
                  rw [hb, if_pos rfl] at e
                  have h := H.out
                  rw [e] at h
                  cases h
                  go_wp2_with (fail)
                  refine (strings_HasPrefix.calls a0 ⟨#[43]⟩ true _ (by rw [hp_f, hb])).mono ?_
                  rintro e' w' ⟨rfl, ⟨n3, rfl⟩⟩
                  go_wp2_with (fail)
                  go_ret2
                  exact ⟨rfl, by repeat (first | exact Drawn0.refl _ | apply Drawn0.step)⟩
                | false =>
                  rw [hb, if_neg (by simp)] at e
                  have E := Lib.hid e
                  clear e
                  go_wp2_with (fail)
                  refine (strings_HasPrefix.calls a0 ⟨#[43]⟩ false _ (by rw [hp_f, hb])).mono ?_
                  rintro e' w' ⟨rfl, ⟨n3, rfl⟩⟩
                  go_wp2_with (fail)
                  go_roundw
                  case rel => exact ⟨7, rfl, by omega, E, by repeat (first | exact Drawn0.refl _ | apply Drawn0.step)⟩
                  case measure => simp [intOf]
              · have e : symAt a0 syms = if hasPre a0 ⟨#[45]⟩ = true then (6, ((⟨#[45]⟩ : ByteArray).size : Int)) else symAt a0 (syms.drop 8) := HS.out.trans rfl
                have hx := idx7
                cases hb : hasPre a0 ⟨#[45]⟩ with
                | true =>
                  rw [hb, if_pos rfl] at e
                  have h := H.out
                  rw [e] at h
                  cases h
                  go_wp2_with (fail)
                  refine (strings_HasPrefix.calls a0 ⟨#[45]⟩ true _ (by rw [hp_f, hb])).mono ?_
                  rintro e' w' ⟨rfl, ⟨n3, rfl⟩⟩
                  go_wp2_with (fail)
                  go_ret2
                  exact ⟨rfl, by repeat (first | exact Drawn0.refl _ | apply Drawn0.step)⟩
                | false =>
                  rw [hb, if_neg (by simp)] at e
                  have E := Lib.hid e
                  clear e
                  go_wp2_with (fail)
                  refine (strings_HasPrefix.calls a0 ⟨#[45]⟩ false _ (by rw [hp_f, hb])).mono ?_
                  rintro e' w' ⟨rfl, ⟨n3, rfl⟩⟩
                  go_wp2_with (fail)
                  go_roundw
                  case rel => exact ⟨8, rfl, by omega, E, by repeat (first | exact Drawn0.refl _ | apply Drawn0.step)⟩
                  case measure => simp [intOf]
              · have e : symAt a0 syms = if hasPre a0 ⟨#[42]⟩ = true then (6, ((⟨#[42]⟩ : ByteArray).size : Int)) else symAt a0 (syms.drop 9) := HS.out.trans rfl
                have hx := idx8
                cases hb : hasPre a0 ⟨#[42]⟩ with
                | true =>
                  rw [hb, if_pos rfl] at e
                  have h := H.out
                  rw [e] at h
                  cases h
                  go_wp2_with (fail)
                  refine (strings_HasPrefix.calls a0 ⟨#[42]⟩ true _ (by rw [hp_f, hb])).mono ?_
                  rintro e' w' ⟨rfl, ⟨n3, rfl⟩⟩
                  go_wp2_with (fail)
                  go_ret2
                  exact ⟨rfl, by repeat (first | exact Drawn0.refl _ | apply Drawn0.step)⟩
                | false =>
                  rw [hb, if_neg (by simp)] at e
                  have E := Lib.hid e
                  clear e
                  go_wp2_with (fail)
                  refine (strings_HasPrefix.calls a0 ⟨#[42]⟩ false _ (by rw [hp_f, hb])).mono ?_
                  rintro e' w' ⟨rfl, ⟨n3, rfl⟩⟩
                  go_wp2_with (fail)
                  go_roundw
                  case rel => exact ⟨9, rfl, by omega, E, by repeat (first | exact Drawn0.refl _ | apply Drawn0.step)⟩
                  case measure => simp [intOf]
              · have e : symAt a0 syms = if hasPre a0 ⟨#[47]⟩ = true then (6, ((⟨#[47]⟩ : ByteArray).size : Int)) else symAt a0 (syms.drop 10) := HS.out.trans rfl
                have hx := idx9
                cases hb : hasPre a0 ⟨#[47]⟩ with
                | true =>
                  rw [hb, if_pos rfl] at e
                  have h := H.out
                  rw [e] at h
                  cases h
                  go_wp2_with (fail)
                  refine (strings_HasPrefix.calls a0 ⟨#[47]⟩ true _ (by rw [hp_f, hb])).mono ?_
                  rintro e' w' ⟨rfl, ⟨n3, rfl⟩⟩
                  go_wp2_with (fail)
                  go_ret2
                  exact ⟨rfl, by repeat (first | exact Drawn0.refl _ | apply Drawn0.step)⟩
                | false =>
                  rw [hb, if_neg (by simp)] at e
                  have E := Lib.hid e
                  clear e
                  go_wp2_with (fail)
                  refine (strings_HasPrefix.calls a0 ⟨#[47]⟩ false _ (by rw [hp_f, hb])).mono ?_
                  rintro e' w' ⟨rfl, ⟨n3, rfl⟩⟩
                  go_wp2_with (fail)
                  go_roundw
                  case rel => exact ⟨10, rfl, by omega, E, by repeat (first | exact Drawn0.refl _ | apply Drawn0.step)⟩
                  case measure => simp [intOf]
              · have e : symAt a0 syms = if hasPre a0 ⟨#[40]⟩ = true then (6, ((⟨#[40]⟩ : ByteArray).size : Int)) else symAt a0 (syms.drop 11) := HS.out.trans rfl
                have hx := idx10
                cases hb : hasPre a0 ⟨#[40]⟩ with
                | true =>
                  rw [hb, if_pos rfl] at e
                  have h := H.out
                  rw [e] at h
                  cases h
                  go_wp2_with (fail)
                  refine (strings_HasPrefix.calls a0 ⟨#[40]⟩ true _ (by rw [hp_f, hb])).mono ?_
                  rintro e' w' ⟨rfl, ⟨n3, rfl⟩⟩
                  go_wp2_with (fail)
                  go_ret2
                  exact ⟨rfl, by repeat (first | exact Drawn0.refl _ | apply Drawn0.step)⟩
                | false =>
                  rw [hb, if_neg (by simp)] at e
                  have E := Lib.hid e
                  clear e
                  go_wp2_with (fail)
                  refine (strings_HasPrefix.calls a0 ⟨#[40]⟩ false _ (by rw [hp_f, hb])).mono ?_
                  rintro e' w' ⟨rfl, ⟨n3, rfl⟩⟩
                  go_wp2_with (fail)
                  go_roundw
                  case rel => exact ⟨11, rfl, by omega, E, by repeat (first | exact Drawn0.refl _ | apply Drawn0.step)⟩
                  case measure => simp [intOf]
              · have e : symAt a0 syms = if hasPre a0 ⟨#[41]⟩ = true then (6, ((⟨#[41]⟩ : ByteArray).size : Int)) else symAt a0 (syms.drop 12) := HS.out.trans rfl
                have hx := idx11
                cases hb : hasPre a0 ⟨#[41]⟩ with
                | true =>
                  rw [hb, if_pos rfl] at e
                  have h := H.out
                  rw [e] at h
                  cases h
                  go_wp2_with (fail)
                  refine (strings_HasPrefix.calls a0 ⟨#[41]⟩ true _ (by rw [hp_f, hb])).mono ?_
                  rintro e' w' ⟨rfl, ⟨n3, rfl⟩⟩
                  go_wp2_with (fail)
                  go_ret2
                  exact ⟨rfl, by repeat (first | exact Drawn0.refl _ | apply Drawn0.step)⟩
                | false =>
                  rw [hb, if_neg (by simp)] at e
                  have E := Lib.hid e
                  clear e
                  go_wp2_with (fail)
                  refine (strings_HasPrefix.calls a0 ⟨#[41]⟩ false _ (by rw [hp_f, hb])).mono ?_
                  rintro e' w' ⟨rfl, ⟨n3, rfl⟩⟩
                  go_wp2_with (fail)
                  go_roundw
                  case rel => exact ⟨12, rfl, by omega, E, by repeat (first | exact Drawn0.refl _ | apply Drawn0.step)⟩
                  case measure => simp [intOf]
              · have e : symAt a0 syms = if hasPre a0 ⟨#[123]⟩ = true then (6, ((⟨#[123]⟩ : ByteArray).size : Int)) else symAt a0 (syms.drop 13) := HS.out.trans rfl
                have hx := idx12
                cases hb : hasPre a0 ⟨#[123]⟩ with
                | true =>
                  rw [hb, if_pos rfl] at e
                  have h := H.out
                  rw [e] at h
                  cases h
                  go_wp2_with (fail)
                  refine (strings_HasPrefix.calls a0 ⟨#[123]⟩ true _ (by rw [hp_f, hb])).mono ?_
                  rintro e' w' ⟨rfl, ⟨n3, rfl⟩⟩
                  go_wp2_with (fail)
                  go_ret2
                  exact ⟨rfl, by repeat (first | exact Drawn0.refl _ | apply Drawn0.step)⟩
                | false =>
                  rw [hb, if_neg (by simp)] at e
                  have E := Lib.hid e
                  clear e
                  go_wp2_with (fail)
                  refine (strings_HasPrefix.calls a0 ⟨#[123]⟩ false _ (by rw [hp_f, hb])).mono ?_
                  rintro e' w' ⟨rfl, ⟨n3, rfl⟩⟩
                  go_wp2_with (fail)
                  go_roundw
                  case rel => exact ⟨13, rfl, by omega, E, by repeat (first | exact Drawn0.refl _ | apply Drawn0.step)⟩
                  case measure => simp [intOf]
              · have e : symAt a0 syms = if hasPre a0 ⟨#[125]⟩ = true then (6, ((⟨#[125]⟩ : ByteArray).size : Int)) else symAt a0 (syms.drop 14) := HS.out.trans rfl
                have hx := idx13
                cases hb : hasPre a0 ⟨#[125]⟩ with
                | true =>
                  rw [hb, if_pos rfl] at e
                  have h := H.out
                  rw [e] at h
                  cases h
                  go_wp2_with (fail)
                  refine (strings_HasPrefix.calls a0 ⟨#[125]⟩ true _ (by rw [hp_f, hb])).mono ?_
                  rintro e' w' ⟨rfl, ⟨n3, rfl⟩⟩
                  go_wp2_with (fail)
                  go_ret2
                  exact ⟨rfl, by repeat (first | exact Drawn0.refl _ | apply Drawn0.step)⟩
                | false =>
                  rw [hb, if_neg (by simp)] at e
                  have E := Lib.hid e
                  clear e
                  go_wp2_with (fail)
                  refine (strings_HasPrefix.calls a0 ⟨#[125]⟩ false _ (by rw [hp_f, hb])).mono ?_
                  rintro e' w' ⟨rfl, ⟨n3, rfl⟩⟩
                  go_wp2_with (fail)
                  go_roundw
                  case rel => exact ⟨14, rfl, by omega, E, by repeat (first | exact Drawn0.refl _ | apply Drawn0.step)⟩
                  case measure => simp [intOf]
              · have e : symAt a0 syms = if hasPre a0 ⟨#[58]⟩ = true then (6, ((⟨#[58]⟩ : ByteArray).size : Int)) else symAt a0 (syms.drop 15) := HS.out.trans rfl
                have hx := idx14
                cases hb : hasPre a0 ⟨#[58]⟩ with
                | true =>
                  rw [hb, if_pos rfl] at e
                  have h := H.out
                  rw [e] at h
                  cases h
                  go_wp2_with (fail)
                  refine (strings_HasPrefix.calls a0 ⟨#[58]⟩ true _ (by rw [hp_f, hb])).mono ?_
                  rintro e' w' ⟨rfl, ⟨n3, rfl⟩⟩
                  go_wp2_with (fail)
                  go_ret2
                  exact ⟨rfl, by repeat (first | exact Drawn0.refl _ | apply Drawn0.step)⟩
                | false =>
                  rw [hb, if_neg (by simp)] at e
                  have E := Lib.hid e
                  clear e
                  go_wp2_with (fail)
                  refine (strings_HasPrefix.calls a0 ⟨#[58]⟩ false _ (by rw [hp_f, hb])).mono ?_
                  rintro e' w' ⟨rfl, ⟨n3, rfl⟩⟩
                  go_wp2_with (fail)
                  go_roundw
                  case rel => exact ⟨15, rfl, by omega, E, by repeat (first | exact Drawn0.refl _ | apply Drawn0.step)⟩
                  case measure => simp [intOf]
              · have e : symAt a0 syms = if hasPre a0 ⟨#[59]⟩ = true then (6, ((⟨#[59]⟩ : ByteArray).size : Int)) else symAt a0 (syms.drop 16) := HS.out.trans rfl
                have hx := idx15
                cases hb : hasPre a0 ⟨#[59]⟩ with
                | true =>
                  rw [hb, if_pos rfl] at e
                  have h := H.out
                  rw [e] at h
                  cases h
                  go_wp2_with (fail)
                  refine (strings_HasPrefix.calls a0 ⟨#[59]⟩ true _ (by rw [hp_f, hb])).mono ?_
                  rintro e' w' ⟨rfl, ⟨n3, rfl⟩⟩
                  go_wp2_with (fail)
                  go_ret2
                  exact ⟨rfl, by repeat (first | exact Drawn0.refl _ | apply Drawn0.step)⟩
                | false =>
                  rw [hb, if_neg (by simp)] at e
                  have E := Lib.hid e
                  clear e
                  go_wp2_with (fail)
                  refine (strings_HasPrefix.calls a0 ⟨#[59]⟩ false _ (by rw [hp_f, hb])).mono ?_
                  rintro e' w' ⟨rfl, ⟨n3, rfl⟩⟩
                  go_wp2_with (fail)
                  go_roundw
                  case rel => exact ⟨16, rfl, by omega, E, by repeat (first | exact Drawn0.refl _ | apply Drawn0.step)⟩
                  case measure => simp [intOf]
              · have e : symAt a0 syms = if hasPre a0 ⟨#[44]⟩ = true then (6, ((⟨#[44]⟩ : ByteArray).size : Int)) else symAt a0 (syms.drop 17) := HS.out.trans rfl
                have hx := idx16
                cases hb : hasPre a0 ⟨#[44]⟩ with
                | true =>
                  rw [hb, if_pos rfl] at e
                  have h := H.out
                  rw [e] at h
                  cases h
                  go_wp2_with (fail)
                  refine (strings_HasPrefix.calls a0 ⟨#[44]⟩ true _ (by rw [hp_f, hb])).mono ?_
                  rintro e' w' ⟨rfl, ⟨n3, rfl⟩⟩
                  go_wp2_with (fail)
                  go_ret2
                  exact ⟨rfl, by repeat (first | exact Drawn0.refl _ | apply Drawn0.step)⟩
                | false =>
                  rw [hb, if_neg (by simp)] at e
                  have E := Lib.hid e
                  clear e
                  go_wp2_with (fail)
                  refine (strings_HasPrefix.calls a0 ⟨#[44]⟩ false _ (by rw [hp_f, hb])).mono ?_
                  rintro e' w' ⟨rfl, ⟨n3, rfl⟩⟩
                  go_wp2_with (fail)
                  go_roundw
                  case rel => exact ⟨17, rfl, by omega, E, by repeat (first | exact Drawn0.refl _ | apply Drawn0.step)⟩
                  case measure => simp [intOf]
            · obtain rfl : i = 17 := by omega
              have h := H.out
              rw [HS.out] at h
              cases h
              go_wp2_with (fail)
              go_ret2
              exact ⟨rfl, by repeat (first | exact Drawn0.refl _ | apply Drawn0.step)⟩
  · rw [if_neg hs] at h; cases h
end Go.Proofs.YticmjkjojhcdpaaDoor.PAll

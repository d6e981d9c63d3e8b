/- The package variable 'symbols', laid as the row lists it, lies as the walks ask. -/
import Derived.Test.YticmjkjojhcdpaaDoorRows
import Derived.Test.YticmjkjojhcdpaaDoorFirst
import Derived.Lib.LaidTab
set_option linter.unusedVariables false
set_option linter.unusedSimpArgs false
namespace Go.Proofs.YticmjkjojhcdpaaDoor
open Go Go.Lib

/-- AN ARRAY OF STRINGS THAT READS AS A LIST HOLDS THE LIST's STRINGS, CELL FOR CELL. -/
theorem cells_of_strs {H : Type} {enc : TypeId × Value → H} {P : Program} {w : World} {base : Nat} {sp : Nat → Bool} {held : Bool} {fuel : Nat} {t e : TypeId} {n : Nat} {cs : List Value} {zs : List (List UInt8)} {p : List MemPlace}
    (ht : P.underlying t = some (.array n e)) (he : P.underlying e = some .string) (hce : P.cellsOf e = 1) (hct : P.cellsOf t = n)
    (h : DataW.trod enc P w base sp held fuel t cs = some (.agg (zs.map fun z => .lit (.string z)), p)) : cs = zs.map fun z => Value.string ⟨z.toArray⟩ := by
  cases fuel with
  | zero => simp [DataW.trod] at h
  | succ fuel =>
    simp only [DataW.trod, ht, hce, hct, Nat.mul_one] at h
    split at h
    · rename_i hl
      obtain ⟨xs, hm, hx⟩ := Option.map_eq_some_iff.1 h
      have hxs : xs.map (·.1) = zs.map fun z => (DataW.lit (.string z) : DataW H) := by
        have := congrArg Prod.fst hx
        simpa using this
      have hxl : xs.length = n := by simpa using mapM_length hm
      have hzl : zs.length = n := by
        have := congrArg List.length hxs
        simp at this
        omega
      apply List.ext_getElem?
      intro i
      by_cases hi : i < n
      · obtain ⟨b, hb, hf⟩ := mapM_at hm i i (by simp [hi])
        obtain ⟨s, hc, rfl, _⟩ := DataW.trod_string he hf
        have h1 : cs[i]? = some (.string s) := by
          have := congrArg (·[0]?) hc
          simpa [List.getElem?_take, List.getElem?_drop] using this
        have h2 : (xs.map (·.1))[i]? = some (DataW.lit (.string s.data.toList) : DataW H) := by simp [hb]
        rw [hxs] at h2
        simp only [List.getElem?_map, Option.map_eq_some_iff, DataW.lit.injEq, Lit.string.injEq] at h2
        obtain ⟨z', hz', rfl⟩ := h2
        simp [h1, hz']
      · rw [List.getElem?_eq_none (by omega), List.getElem?_eq_none (by simp; omega)]
    · cases h

theorem gSym : Tryd.prog.globalNamed "wageoffice/lexer.symbols" = some 0 := by kernel_rfl
theorem gSymType : (Tryd.prog.globals[0]?).map (·.type) = some 58 := by kernel_rfl
theorem cells58 : Tryd.prog.cellsOf 58 = 17 := by kernel_rfl
theorem cells9 : Tryd.prog.cellsOf 9 = 1 := by kernel_rfl
def symL : List (List UInt8) := [[61, 61], [33, 61], [60, 61], [62, 61], [60], [62], [43], [45], [42], [47], [40], [41], [123], [125], [58], [59], [44]]

theorem glob_of {W : World} (h : laidMetH Tryd.prog [("wageoffice/lexer.symbols", Rows.laid_wageoffice_lexer_symbols)] W) : PAll.Glob W := by
  have hv : W.var? Tryd.prog "wageoffice/lexer.symbols" = some (symL.map fun z => Value.string ⟨z.toArray⟩).toArray := by
    obtain ⟨ps, ⟨g', t', cs, fuel, p, q, hg', ht', hvar, hd, _, _⟩, _⟩ := h
    obtain rfl := Option.some.inj (gSym.symm.trans hg')
    obtain rfl := Option.some.inj (gSymType.symm.trans ht')
    rw [hvar, ← cells_of_strs (zs := symL) Tryd.underlying58 Tryd.underlying9 cells9 cells58 hd]
  have k := fun i => World.var?_cell gSym hv i
  have k0 := k 0
  refine ⟨⟨?_, ?_, ?_, ?_, ?_, ?_, ?_, ?_, ?_, ?_, ?_, ?_, ?_, ?_, ?_, ?_, ?_⟩, World.block_lt_of_cell? W ⟨0, 0, none⟩ (u := .string ⟨#[61, 61]⟩) (by rw [k0]; rfl)⟩
  all_goals (first | (rw [k 0]; rfl) | (rw [k 1]; rfl) | (rw [k 2]; rfl) | (rw [k 3]; rfl) | (rw [k 4]; rfl) | (rw [k 5]; rfl) | (rw [k 6]; rfl) | (rw [k 7]; rfl) | (rw [k 8]; rfl) | (rw [k 9]; rfl) | (rw [k 10]; rfl) | (rw [k 11]; rfl) | (rw [k 12]; rfl) | (rw [k 13]; rfl) | (rw [k 14]; rfl) | (rw [k 15]; rfl) | (rw [k 16]; rfl))
end Go.Proofs.YticmjkjojhcdpaaDoor

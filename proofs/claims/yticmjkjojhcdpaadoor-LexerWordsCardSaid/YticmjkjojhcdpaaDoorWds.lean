/- The law on words: its closure, and the walk. -/
import Derived.Test.YticmjkjojhcdpaaDoorHd
set_option linter.unusedVariables false
set_option linter.unusedSimpArgs false
namespace Go.Proofs.YticmjkjojhcdpaaDoor.PAll
open Go Go.RowKit Go.Proofs.YticmjkjojhcdpaaDoor.Lx Go.Proofs.YticmjkjojhcdpaaDoorW.PrintWords Go.Proofs.YticmjkjojhcdpaaDoorW.PrintLast Go.Proofs.YticmjkjojhcdpaaDoorW.PrintMore

set_option maxRecDepth 100000 in
set_option maxHeartbeats 2000000 in
theorem one_no (s : ByteArray) (kind : Int) (w : World) (hG : Glob w) (p : Int) (hL : lexer_Lex.f s = some ([], 61, p)) :
    Calls Tryd.prog 16 #[.string s, .int .i64 kind, .bool false] w fun e w' => e = .returned (.bool true) ∧ Below w.heap.size w w' := by
  have HL := Lib.hid hL
  clear hL
  have HG := Lib.hid hG
  clear hG
  go_enter Tryd.func16, Tryd.ntmps16
  go_wp2_with (fail)
  refine (lexer_Lex.calls s _ _ _ _ HG.out HL.out).mono ?_
  rintro e w1 ⟨v, rfl, hR, hB⟩
  obtain ⟨A, c, rfl, hc, hC⟩ := Kd.R_reads hR
  have HR := Lib.hid hR
  have HC := Lib.hid hC
  have HB := Lib.hid hB
  clear hR hC hB
  go_wp2
  repeat (go_quiet (fail); try go_wp2)
  go_ret
  exact ⟨rfl, HB.out⟩

set_option maxRecDepth 100000 in
set_option maxHeartbeats 2000000 in
theorem one_yes (s : ByteArray) (kind : Int) (w : World) (hG : Glob w) (a p : Int) (hL : lexer_Lex.f s = some ([⟨kind, s, a⟩], 0, p)) :
    Calls Tryd.prog 16 #[.string s, .int .i64 kind, .bool true] w fun e w' => e = .returned (.bool true) ∧ Below w.heap.size w w' := by
  have HL := Lib.hid hL
  clear hL
  have HG := Lib.hid hG
  clear hG
  go_enter Tryd.func16, Tryd.ntmps16
  go_wp2_with (fail)
  refine (lexer_Lex.calls s _ _ _ _ HG.out HL.out).mono ?_
  rintro e w1 ⟨v, rfl, hR, hB⟩
  obtain ⟨A, c, rfl, hc, hC⟩ := Kd.R_reads hR
  obtain ⟨ad, rfl, h0, h1, h2⟩ := at_T30 hC 0 (by decide) (by rw [List.length_singleton]; decide)
  have e0 : (rd_T30 [(⟨kind, s, a⟩ : S30)] 0) = ⟨kind, s, a⟩ := rfl
  rw [e0] at h0 h1 h2
  simp only [Int.toNat_zero, Nat.zero_mul] at h0 h1 h2
  have ea : ad.add 0 = ad := by simp [Addr.add]
  rw [ea] at h0 h1 h2
  clear ea
  have HC := Lib.hid hC
  have HB := Lib.hid hB
  clear hR hC hB e0
  go_wp2
  repeat (go_quiet (fail); try go_wp2)
  go_ret
  exact ⟨rfl, HB.out⟩
theorem head_calls (w : World) (hG : Glob w) : Calls Tryd.prog 10 #[] w fun e w' => e = .returned (.bool true) ∧ Below w.heap.size w w' :=
  wageofficelaw06_head.calls 10 true w hG (head_true 10 (by omega))
end Go.Proofs.YticmjkjojhcdpaaDoor.PAll

/-
  NARROWER THAN 'FOR EVERY INPUT', by the rows' own cells (each row's printed sentence says how): LexerMatchesReference: laid · LexerCoverage: laid · LexerPrefixes: laid · LexerGaps: laid · LexerConcat: laid · LexerErrors: laid · LexerWords: laid.
  DERIVED. THE GIVEN ROWS OF THIS SEAT. 7 by the template 'for every input the law returns true; each argument reads behind the call as it read before'; 0 by the template 'total and deterministic' (their statements: YticmjkjojhcdpaaDoorTotals.lean).
  GIVEN WITH THE SEED: the statements are not yours to turn. If you find one false, say at which input.
  Laid BY PROGRAM, IN A SANDBOX (cutbox-rows.mjs): the forced cells as the released guide's own fill.sh prints them over the translation 94c2cde2934204c6… (all of the seat's roots in one cut). By AI agents, Wed Nov 11 2026. No macro, syntax, notation, axiom, sorry.
-/
import Derived.Test.YticmjkjojhcdpaaDoorChecked
import GoSem.Claim
import GoSem.ClaimJoined
import GoSem.ClaimMapViews
import Derived.JoinedTies
import Derived.KernelRfl
namespace Go.Proofs.YticmjkjojhcdpaaDoor
/- THE CELL 'sum', in the pinned program and in every row, IS THE sha256 OF THE DUMP (.gsa) THAT YticmjkjojhcdpaaDoorProg.lean LOADS. Nothing in Lean hashes anything: it is a label: what it is worth is what the hold of that sum in a sandbox is worth. -/
noncomputable def Tryd.pinned : Pinned := { name := "yticmjkjojhcdpaadoor", sum := "94c2cde2934204c60557c554cec82727973689d986c2f2717e007d4f07624947", checked := Tryd.checked }
namespace Rows
def none {H : Type} : Left H := { results := [], args := [] }

/- WHAT THE LISTED PACKAGE-LEVEL VARIABLES READ AS WHEN THE CALL BEGINS. Each datum BY PROGRAM (the guide's laid-datum.mjs) off the statement by which the dump's own 'gosem.cut.vars' lays the variable. In a bare row this is a premise. The card (YticmjkjojhcdpaaDoorCards.lean) ties it to the program's text. -/
def laid_wageoffice_lexer_symbols {H : Type} : DataW H := .agg [.lit (.string [61, 61]), .lit (.string [33, 61]), .lit (.string [60, 61]), .lit (.string [62, 61]), .lit (.string [60]), .lit (.string [62]), .lit (.string [43]), .lit (.string [45]), .lit (.string [42]), .lit (.string [47]), .lit (.string [40]), .lit (.string [41]), .lit (.string [123]), .lit (.string [125]), .lit (.string [58]), .lit (.string [59]), .lit (.string [44])]

/-- 'wageofficelaw06.LexerMatchesReference': WHATEVER THE INPUT: true; the input reads as it did. -/
def lexerMatchesReferenceSpec : ChangeSpec := { name := "lexerMatchesReference", fn := fun _ => fun
  | [d] => { results := [.lit (.bool true)], args := [d] }
  | _ => none }
def lexerMatchesReferenceRow : OpenClaim := { program := "yticmjkjojhcdpaadoor", sum := "94c2cde2934204c60557c554cec82727973689d986c2f2717e007d4f07624947", func := "wageoffice/wageofficelaw06.LexerMatchesReference", spec := "lexerMatchesReference", inPlace := ["internal/bytealg.IndexByteString"], unfollowed := true, recurses := true, named := ["wageoffice/lexer.symbols"], apart := false, laid := [("wageoffice/lexer.symbols", laid_wageoffice_lexer_symbols)] }
def LexerMatchesReferenceSaid : Prop := lexerMatchesReferenceRow.holds Tryd.pinned (OpenSpec.ofChange lexerMatchesReferenceSpec)

/-- ITS FALSE NEIGHBOUR: 'it returns false'. Refute it at one input. -/
def lexerMatchesReferenceWrong : ChangeSpec := { name := "lexerMatchesReference", fn := fun _ => fun
  | [d] => { results := [.lit (.bool false)], args := [d] }
  | _ => none }
def LexerMatchesReferenceWrongFalsely : Prop := lexerMatchesReferenceRow.holds Tryd.pinned (OpenSpec.ofChange lexerMatchesReferenceWrong)

/-- 'wageofficelaw06.LexerCoverage': WHATEVER THE INPUT: true; the input reads as it did. -/
def lexerCoverageSpec : ChangeSpec := { name := "lexerCoverage", fn := fun _ => fun
  | [d] => { results := [.lit (.bool true)], args := [d] }
  | _ => none }
def lexerCoverageRow : OpenClaim := { program := "yticmjkjojhcdpaadoor", sum := "94c2cde2934204c60557c554cec82727973689d986c2f2717e007d4f07624947", func := "wageoffice/wageofficelaw06.LexerCoverage", spec := "lexerCoverage", inPlace := ["internal/bytealg.IndexByteString"], unfollowed := true, recurses := true, named := ["wageoffice/lexer.symbols"], apart := false, laid := [("wageoffice/lexer.symbols", laid_wageoffice_lexer_symbols)] }
def LexerCoverageSaid : Prop := lexerCoverageRow.holds Tryd.pinned (OpenSpec.ofChange lexerCoverageSpec)

/-- ITS FALSE NEIGHBOUR: 'it returns false'. Refute it at one input. -/
def lexerCoverageWrong : ChangeSpec := { name := "lexerCoverage", fn := fun _ => fun
  | [d] => { results := [.lit (.bool false)], args := [d] }
  | _ => none }
def LexerCoverageWrongFalsely : Prop := lexerCoverageRow.holds Tryd.pinned (OpenSpec.ofChange lexerCoverageWrong)

/-- 'wageofficelaw06.LexerPrefixes': WHATEVER THE INPUT: true; the input reads as it did. -/
def lexerPrefixesSpec : ChangeSpec := { name := "lexerPrefixes", fn := fun _ => fun
  | [d1, d2] => { results := [.lit (.bool true)], args := [d1, d2] }
  | _ => none }
def lexerPrefixesRow : OpenClaim := { program := "yticmjkjojhcdpaadoor", sum := "94c2cde2934204c60557c554cec82727973689d986c2f2717e007d4f07624947", func := "wageoffice/wageofficelaw06.LexerPrefixes", spec := "lexerPrefixes", inPlace := ["internal/bytealg.IndexByteString"], unfollowed := true, recurses := true, named := ["wageoffice/lexer.symbols"], apart := false, laid := [("wageoffice/lexer.symbols", laid_wageoffice_lexer_symbols)] }
def LexerPrefixesSaid : Prop := lexerPrefixesRow.holds Tryd.pinned (OpenSpec.ofChange lexerPrefixesSpec)

/-- ITS FALSE NEIGHBOUR: 'it returns false'. Refute it at one input. -/
def lexerPrefixesWrong : ChangeSpec := { name := "lexerPrefixes", fn := fun _ => fun
  | [d1, d2] => { results := [.lit (.bool false)], args := [d1, d2] }
  | _ => none }
def LexerPrefixesWrongFalsely : Prop := lexerPrefixesRow.holds Tryd.pinned (OpenSpec.ofChange lexerPrefixesWrong)

/-- 'wageofficelaw06.LexerGaps': WHATEVER THE INPUT: true; the input reads as it did. -/
def lexerGapsSpec : ChangeSpec := { name := "lexerGaps", fn := fun _ => fun
  | [d1, d2] => { results := [.lit (.bool true)], args := [d1, d2] }
  | _ => none }
def lexerGapsRow : OpenClaim := { program := "yticmjkjojhcdpaadoor", sum := "94c2cde2934204c60557c554cec82727973689d986c2f2717e007d4f07624947", func := "wageoffice/wageofficelaw06.LexerGaps", spec := "lexerGaps", inPlace := ["internal/bytealg.IndexByteString"], unfollowed := true, recurses := true, named := ["wageoffice/lexer.symbols"], apart := false, laid := [("wageoffice/lexer.symbols", laid_wageoffice_lexer_symbols)] }
def LexerGapsSaid : Prop := lexerGapsRow.holds Tryd.pinned (OpenSpec.ofChange lexerGapsSpec)

/-- ITS FALSE NEIGHBOUR: 'it returns false'. Refute it at one input. -/
def lexerGapsWrong : ChangeSpec := { name := "lexerGaps", fn := fun _ => fun
  | [d1, d2] => { results := [.lit (.bool false)], args := [d1, d2] }
  | _ => none }
def LexerGapsWrongFalsely : Prop := lexerGapsRow.holds Tryd.pinned (OpenSpec.ofChange lexerGapsWrong)

/-- 'wageofficelaw06.LexerConcat': WHATEVER THE INPUT: true; the input reads as it did. -/
def lexerConcatSpec : ChangeSpec := { name := "lexerConcat", fn := fun _ => fun
  | [d1, d2] => { results := [.lit (.bool true)], args := [d1, d2] }
  | _ => none }
def lexerConcatRow : OpenClaim := { program := "yticmjkjojhcdpaadoor", sum := "94c2cde2934204c60557c554cec82727973689d986c2f2717e007d4f07624947", func := "wageoffice/wageofficelaw06.LexerConcat", spec := "lexerConcat", inPlace := ["internal/bytealg.IndexByteString"], unfollowed := true, recurses := true, named := ["wageoffice/lexer.symbols"], apart := false, laid := [("wageoffice/lexer.symbols", laid_wageoffice_lexer_symbols)] }
def LexerConcatSaid : Prop := lexerConcatRow.holds Tryd.pinned (OpenSpec.ofChange lexerConcatSpec)

/-- ITS FALSE NEIGHBOUR: 'it returns false'. Refute it at one input. -/
def lexerConcatWrong : ChangeSpec := { name := "lexerConcat", fn := fun _ => fun
  | [d1, d2] => { results := [.lit (.bool false)], args := [d1, d2] }
  | _ => none }
def LexerConcatWrongFalsely : Prop := lexerConcatRow.holds Tryd.pinned (OpenSpec.ofChange lexerConcatWrong)

/-- 'wageofficelaw06.LexerErrors': WHATEVER THE INPUT: true; the input reads as it did. -/
def lexerErrorsSpec : ChangeSpec := { name := "lexerErrors", fn := fun _ => fun
  | [d] => { results := [.lit (.bool true)], args := [d] }
  | _ => none }
def lexerErrorsRow : OpenClaim := { program := "yticmjkjojhcdpaadoor", sum := "94c2cde2934204c60557c554cec82727973689d986c2f2717e007d4f07624947", func := "wageoffice/wageofficelaw06.LexerErrors", spec := "lexerErrors", inPlace := ["internal/bytealg.IndexByteString"], unfollowed := true, recurses := true, named := ["wageoffice/lexer.symbols"], apart := false, laid := [("wageoffice/lexer.symbols", laid_wageoffice_lexer_symbols)] }
def LexerErrorsSaid : Prop := lexerErrorsRow.holds Tryd.pinned (OpenSpec.ofChange lexerErrorsSpec)

/-- ITS FALSE NEIGHBOUR: 'it returns false'. Refute it at one input. -/
def lexerErrorsWrong : ChangeSpec := { name := "lexerErrors", fn := fun _ => fun
  | [d] => { results := [.lit (.bool false)], args := [d] }
  | _ => none }
def LexerErrorsWrongFalsely : Prop := lexerErrorsRow.holds Tryd.pinned (OpenSpec.ofChange lexerErrorsWrong)

/-- 'wageofficelaw06.LexerWords': WHATEVER THE INPUT: true; the input reads as it did. -/
def lexerWordsSpec : ChangeSpec := { name := "lexerWords", fn := fun _ => fun
  | [d1, d2] => { results := [.lit (.bool true)], args := [d1, d2] }
  | _ => none }
def lexerWordsRow : OpenClaim := { program := "yticmjkjojhcdpaadoor", sum := "94c2cde2934204c60557c554cec82727973689d986c2f2717e007d4f07624947", func := "wageoffice/wageofficelaw06.LexerWords", spec := "lexerWords", inPlace := ["internal/bytealg.IndexByteString"], unfollowed := true, recurses := true, named := ["wageoffice/lexer.symbols"], apart := false, laid := [("wageoffice/lexer.symbols", laid_wageoffice_lexer_symbols)] }
def LexerWordsSaid : Prop := lexerWordsRow.holds Tryd.pinned (OpenSpec.ofChange lexerWordsSpec)

/-- ITS FALSE NEIGHBOUR: 'it returns false'. Refute it at one input. -/
def lexerWordsWrong : ChangeSpec := { name := "lexerWords", fn := fun _ => fun
  | [d1, d2] => { results := [.lit (.bool false)], args := [d1, d2] }
  | _ => none }
def LexerWordsWrongFalsely : Prop := lexerWordsRow.holds Tryd.pinned (OpenSpec.ofChange lexerWordsWrong)

/- THE SECOND FORM. 'bulk': how many values and letters a reading holds, each counted each time it is reached (what is shared counts as often as it is met; a slice's spare places count too). A statement '..UptoSaid' is the law's where the arguments, and the package variables that the reading takes, are together of bulk at most 1048576: NARROWER than '..Said'. Prove '..Said' where nothing that the law and all that it calls make is longer than what came in: it says more and counts as full. Else prove '..UptoSaid'. A law counts once. -/
mutual
def uptoBulk {H : Type} : DataW H → Nat
  | .lit (.string bytes) => bytes.length + 1
  | .lit _ => 1
  | .nil => 1
  | .ptr d => uptoBulk d + 1
  | .slice elems spare => uptoBulkAll elems + uptoBulkAll spare + 1
  | .agg parts => uptoBulkAll parts + 1
  | .iface _ d => uptoBulk d + 1
  | .map entries => uptoBulkEntries entries + 1
  | .held _ => 1
def uptoBulkAll {H : Type} : List (DataW H) → Nat
  | [] => 0
  | d :: r => uptoBulk d + uptoBulkAll r
def uptoBulkEntries {H : Type} : List (Lit × DataW H) → Nat
  | [] => 0
  | x :: r => uptoBulkEntry x + uptoBulkEntries r
def uptoBulkEntry {H : Type} : Lit × DataW H → Nat
  | (.string bytes, d) => bytes.length + uptoBulk d + 1
  | (_, d) => uptoBulk d + 1
 end
def uptoSmall : (H : Type) → List (DataW H) → Bool := fun _ ds => decide (uptoBulkAll ds ≤ 1048576)
def OpenSpec.upto (s : _root_.Go.ChangeSpec) : _root_.Go.OpenSpec := { _root_.Go.OpenSpec.ofChange s with cond := some uptoSmall }

/-- 'wageofficelaw06.LexerMatchesReference', WHERE WHAT IT READS IS OF BULK AT MOST 1048576: true; the input reads as it did. -/
def lexerMatchesReferenceUptoRow : OpenClaim := { program := "yticmjkjojhcdpaadoor", sum := "94c2cde2934204c60557c554cec82727973689d986c2f2717e007d4f07624947", func := "wageoffice/wageofficelaw06.LexerMatchesReference", spec := "lexerMatchesReference", inPlace := ["internal/bytealg.IndexByteString"], unfollowed := true, recurses := true, named := ["wageoffice/lexer.symbols"], apart := false, laid := [("wageoffice/lexer.symbols", laid_wageoffice_lexer_symbols)], narrowed := true }
def LexerMatchesReferenceUptoSaid : Prop := lexerMatchesReferenceUptoRow.holds Tryd.pinned (OpenSpec.upto lexerMatchesReferenceSpec)

/-- 'wageofficelaw06.LexerCoverage', WHERE WHAT IT READS IS OF BULK AT MOST 1048576: true; the input reads as it did. -/
def lexerCoverageUptoRow : OpenClaim := { program := "yticmjkjojhcdpaadoor", sum := "94c2cde2934204c60557c554cec82727973689d986c2f2717e007d4f07624947", func := "wageoffice/wageofficelaw06.LexerCoverage", spec := "lexerCoverage", inPlace := ["internal/bytealg.IndexByteString"], unfollowed := true, recurses := true, named := ["wageoffice/lexer.symbols"], apart := false, laid := [("wageoffice/lexer.symbols", laid_wageoffice_lexer_symbols)], narrowed := true }
def LexerCoverageUptoSaid : Prop := lexerCoverageUptoRow.holds Tryd.pinned (OpenSpec.upto lexerCoverageSpec)

/-- 'wageofficelaw06.LexerPrefixes', WHERE WHAT IT READS IS OF BULK AT MOST 1048576: true; the input reads as it did. -/
def lexerPrefixesUptoRow : OpenClaim := { program := "yticmjkjojhcdpaadoor", sum := "94c2cde2934204c60557c554cec82727973689d986c2f2717e007d4f07624947", func := "wageoffice/wageofficelaw06.LexerPrefixes", spec := "lexerPrefixes", inPlace := ["internal/bytealg.IndexByteString"], unfollowed := true, recurses := true, named := ["wageoffice/lexer.symbols"], apart := false, laid := [("wageoffice/lexer.symbols", laid_wageoffice_lexer_symbols)], narrowed := true }
def LexerPrefixesUptoSaid : Prop := lexerPrefixesUptoRow.holds Tryd.pinned (OpenSpec.upto lexerPrefixesSpec)

/-- 'wageofficelaw06.LexerGaps', WHERE WHAT IT READS IS OF BULK AT MOST 1048576: true; the input reads as it did. -/
def lexerGapsUptoRow : OpenClaim := { program := "yticmjkjojhcdpaadoor", sum := "94c2cde2934204c60557c554cec82727973689d986c2f2717e007d4f07624947", func := "wageoffice/wageofficelaw06.LexerGaps", spec := "lexerGaps", inPlace := ["internal/bytealg.IndexByteString"], unfollowed := true, recurses := true, named := ["wageoffice/lexer.symbols"], apart := false, laid := [("wageoffice/lexer.symbols", laid_wageoffice_lexer_symbols)], narrowed := true }
def LexerGapsUptoSaid : Prop := lexerGapsUptoRow.holds Tryd.pinned (OpenSpec.upto lexerGapsSpec)

/-- 'wageofficelaw06.LexerConcat', WHERE WHAT IT READS IS OF BULK AT MOST 1048576: true; the input reads as it did. -/
def lexerConcatUptoRow : OpenClaim := { program := "yticmjkjojhcdpaadoor", sum := "94c2cde2934204c60557c554cec82727973689d986c2f2717e007d4f07624947", func := "wageoffice/wageofficelaw06.LexerConcat", spec := "lexerConcat", inPlace := ["internal/bytealg.IndexByteString"], unfollowed := true, recurses := true, named := ["wageoffice/lexer.symbols"], apart := false, laid := [("wageoffice/lexer.symbols", laid_wageoffice_lexer_symbols)], narrowed := true }
def LexerConcatUptoSaid : Prop := lexerConcatUptoRow.holds Tryd.pinned (OpenSpec.upto lexerConcatSpec)

/-- 'wageofficelaw06.LexerErrors', WHERE WHAT IT READS IS OF BULK AT MOST 1048576: true; the input reads as it did. -/
def lexerErrorsUptoRow : OpenClaim := { program := "yticmjkjojhcdpaadoor", sum := "94c2cde2934204c60557c554cec82727973689d986c2f2717e007d4f07624947", func := "wageoffice/wageofficelaw06.LexerErrors", spec := "lexerErrors", inPlace := ["internal/bytealg.IndexByteString"], unfollowed := true, recurses := true, named := ["wageoffice/lexer.symbols"], apart := false, laid := [("wageoffice/lexer.symbols", laid_wageoffice_lexer_symbols)], narrowed := true }
def LexerErrorsUptoSaid : Prop := lexerErrorsUptoRow.holds Tryd.pinned (OpenSpec.upto lexerErrorsSpec)

/-- 'wageofficelaw06.LexerWords', WHERE WHAT IT READS IS OF BULK AT MOST 1048576: true; the input reads as it did. -/
def lexerWordsUptoRow : OpenClaim := { program := "yticmjkjojhcdpaadoor", sum := "94c2cde2934204c60557c554cec82727973689d986c2f2717e007d4f07624947", func := "wageoffice/wageofficelaw06.LexerWords", spec := "lexerWords", inPlace := ["internal/bytealg.IndexByteString"], unfollowed := true, recurses := true, named := ["wageoffice/lexer.symbols"], apart := false, laid := [("wageoffice/lexer.symbols", laid_wageoffice_lexer_symbols)], narrowed := true }
def LexerWordsUptoSaid : Prop := lexerWordsUptoRow.holds Tryd.pinned (OpenSpec.upto lexerWordsSpec)

end Rows
end Go.Proofs.YticmjkjojhcdpaaDoor

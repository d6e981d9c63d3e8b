/-
  DERIVED. GIVEN WITH THE SEED: THE CARDS: each row of YticmjkjojhcdpaaDoorRows.lean that lists a variable, with what it lists TIED to the program's text (the seventh form; the later family's looks); each row that meets fmt, with fmt's text TOLD by the authors' own Lean function (tested against real Go, not proved from fmt's source: count such statements apart). THE CARD IS WHAT COUNTS. Prove the row's statement (the work); the ties are given (YticmjkjojhcdpaaDoorTie.lean); close each card by the builder's one call (the guide's Derived/Test/ToyasCard.lean, 'card_holds'). Laid BY PROGRAM, IN A SANDBOX (cutbox-door.mjs). By AI agents, Wed Nov 11 2026. No macro, syntax, notation, axiom, sorry.
-/
import Derived.Test.YticmjkjojhcdpaaDoorRows
import GoSem.ClaimSeven
namespace Go.Proofs.YticmjkjojhcdpaaDoor
namespace Rows

/-- THE TIED CARD OF 'wageofficelaw06.LexerMatchesReference'. -/
def lexerMatchesReferenceCard : Claim7 := { stood := { row := lexerMatchesReferenceRow, standIns := [], harness := (true, "7f008afb4e37d108bfcd82af801be5e6c7974eaf8969ece3b2ed6379565e2df9"), looks := false }, kinds := [], alts := [], laidByText := true, laidKinds := [.data], laidTests := true, laidLooks := .later }
def LexerMatchesReferenceCardSaid : Prop := Claim7.holds Tryd.pinned (.plain (OpenSpec.ofChange lexerMatchesReferenceSpec)) lexerMatchesReferenceCard

/-- THE TIED CARD OF 'wageofficelaw06.LexerCoverage'. -/
def lexerCoverageCard : Claim7 := { stood := { row := lexerCoverageRow, standIns := [], harness := (true, "7f008afb4e37d108bfcd82af801be5e6c7974eaf8969ece3b2ed6379565e2df9"), looks := false }, kinds := [], alts := [], laidByText := true, laidKinds := [.data], laidTests := true, laidLooks := .later }
def LexerCoverageCardSaid : Prop := Claim7.holds Tryd.pinned (.plain (OpenSpec.ofChange lexerCoverageSpec)) lexerCoverageCard

/-- THE TIED CARD OF 'wageofficelaw06.LexerPrefixes'. -/
def lexerPrefixesCard : Claim7 := { stood := { row := lexerPrefixesRow, standIns := [], harness := (true, "7f008afb4e37d108bfcd82af801be5e6c7974eaf8969ece3b2ed6379565e2df9"), looks := false }, kinds := [], alts := [], laidByText := true, laidKinds := [.data], laidTests := true, laidLooks := .later }
def LexerPrefixesCardSaid : Prop := Claim7.holds Tryd.pinned (.plain (OpenSpec.ofChange lexerPrefixesSpec)) lexerPrefixesCard

/-- THE TIED CARD OF 'wageofficelaw06.LexerGaps'. -/
def lexerGapsCard : Claim7 := { stood := { row := lexerGapsRow, standIns := [], harness := (true, "7f008afb4e37d108bfcd82af801be5e6c7974eaf8969ece3b2ed6379565e2df9"), looks := false }, kinds := [], alts := [], laidByText := true, laidKinds := [.data], laidTests := true, laidLooks := .later }
def LexerGapsCardSaid : Prop := Claim7.holds Tryd.pinned (.plain (OpenSpec.ofChange lexerGapsSpec)) lexerGapsCard

/-- THE TIED CARD OF 'wageofficelaw06.LexerConcat'. -/
def lexerConcatCard : Claim7 := { stood := { row := lexerConcatRow, standIns := [], harness := (true, "7f008afb4e37d108bfcd82af801be5e6c7974eaf8969ece3b2ed6379565e2df9"), looks := false }, kinds := [], alts := [], laidByText := true, laidKinds := [.data], laidTests := true, laidLooks := .later }
def LexerConcatCardSaid : Prop := Claim7.holds Tryd.pinned (.plain (OpenSpec.ofChange lexerConcatSpec)) lexerConcatCard

/-- THE TIED CARD OF 'wageofficelaw06.LexerErrors'. -/
def lexerErrorsCard : Claim7 := { stood := { row := lexerErrorsRow, standIns := [], harness := (true, "7f008afb4e37d108bfcd82af801be5e6c7974eaf8969ece3b2ed6379565e2df9"), looks := false }, kinds := [], alts := [], laidByText := true, laidKinds := [.data], laidTests := true, laidLooks := .later }
def LexerErrorsCardSaid : Prop := Claim7.holds Tryd.pinned (.plain (OpenSpec.ofChange lexerErrorsSpec)) lexerErrorsCard

/-- THE TIED CARD OF 'wageofficelaw06.LexerWords'. -/
def lexerWordsCard : Claim7 := { stood := { row := lexerWordsRow, standIns := [], harness := (true, "7f008afb4e37d108bfcd82af801be5e6c7974eaf8969ece3b2ed6379565e2df9"), looks := false }, kinds := [], alts := [], laidByText := true, laidKinds := [.data], laidTests := true, laidLooks := .later }
def LexerWordsCardSaid : Prop := Claim7.holds Tryd.pinned (.plain (OpenSpec.ofChange lexerWordsSpec)) lexerWordsCard

/-- THE SECOND FORM's CARD OF 'wageofficelaw06.LexerMatchesReference'. -/
def lexerMatchesReferenceUptoCard : Claim7 := { stood := { row := lexerMatchesReferenceUptoRow, standIns := [], harness := (true, "7f008afb4e37d108bfcd82af801be5e6c7974eaf8969ece3b2ed6379565e2df9"), looks := false }, kinds := [], alts := [], laidByText := true, laidKinds := [.data], laidTests := true, laidLooks := .later }
def LexerMatchesReferenceUptoCardSaid : Prop := Claim7.holds Tryd.pinned (.plain (OpenSpec.upto lexerMatchesReferenceSpec)) lexerMatchesReferenceUptoCard

/-- THE SECOND FORM's CARD OF 'wageofficelaw06.LexerCoverage'. -/
def lexerCoverageUptoCard : Claim7 := { stood := { row := lexerCoverageUptoRow, standIns := [], harness := (true, "7f008afb4e37d108bfcd82af801be5e6c7974eaf8969ece3b2ed6379565e2df9"), looks := false }, kinds := [], alts := [], laidByText := true, laidKinds := [.data], laidTests := true, laidLooks := .later }
def LexerCoverageUptoCardSaid : Prop := Claim7.holds Tryd.pinned (.plain (OpenSpec.upto lexerCoverageSpec)) lexerCoverageUptoCard

/-- THE SECOND FORM's CARD OF 'wageofficelaw06.LexerPrefixes'. -/
def lexerPrefixesUptoCard : Claim7 := { stood := { row := lexerPrefixesUptoRow, standIns := [], harness := (true, "7f008afb4e37d108bfcd82af801be5e6c7974eaf8969ece3b2ed6379565e2df9"), looks := false }, kinds := [], alts := [], laidByText := true, laidKinds := [.data], laidTests := true, laidLooks := .later }
def LexerPrefixesUptoCardSaid : Prop := Claim7.holds Tryd.pinned (.plain (OpenSpec.upto lexerPrefixesSpec)) lexerPrefixesUptoCard

/-- THE SECOND FORM's CARD OF 'wageofficelaw06.LexerGaps'. -/
def lexerGapsUptoCard : Claim7 := { stood := { row := lexerGapsUptoRow, standIns := [], harness := (true, "7f008afb4e37d108bfcd82af801be5e6c7974eaf8969ece3b2ed6379565e2df9"), looks := false }, kinds := [], alts := [], laidByText := true, laidKinds := [.data], laidTests := true, laidLooks := .later }
def LexerGapsUptoCardSaid : Prop := Claim7.holds Tryd.pinned (.plain (OpenSpec.upto lexerGapsSpec)) lexerGapsUptoCard

/-- THE SECOND FORM's CARD OF 'wageofficelaw06.LexerConcat'. -/
def lexerConcatUptoCard : Claim7 := { stood := { row := lexerConcatUptoRow, standIns := [], harness := (true, "7f008afb4e37d108bfcd82af801be5e6c7974eaf8969ece3b2ed6379565e2df9"), looks := false }, kinds := [], alts := [], laidByText := true, laidKinds := [.data], laidTests := true, laidLooks := .later }
def LexerConcatUptoCardSaid : Prop := Claim7.holds Tryd.pinned (.plain (OpenSpec.upto lexerConcatSpec)) lexerConcatUptoCard

/-- THE SECOND FORM's CARD OF 'wageofficelaw06.LexerErrors'. -/
def lexerErrorsUptoCard : Claim7 := { stood := { row := lexerErrorsUptoRow, standIns := [], harness := (true, "7f008afb4e37d108bfcd82af801be5e6c7974eaf8969ece3b2ed6379565e2df9"), looks := false }, kinds := [], alts := [], laidByText := true, laidKinds := [.data], laidTests := true, laidLooks := .later }
def LexerErrorsUptoCardSaid : Prop := Claim7.holds Tryd.pinned (.plain (OpenSpec.upto lexerErrorsSpec)) lexerErrorsUptoCard

/-- THE SECOND FORM's CARD OF 'wageofficelaw06.LexerWords'. -/
def lexerWordsUptoCard : Claim7 := { stood := { row := lexerWordsUptoRow, standIns := [], harness := (true, "7f008afb4e37d108bfcd82af801be5e6c7974eaf8969ece3b2ed6379565e2df9"), looks := false }, kinds := [], alts := [], laidByText := true, laidKinds := [.data], laidTests := true, laidLooks := .later }
def LexerWordsUptoCardSaid : Prop := Claim7.holds Tryd.pinned (.plain (OpenSpec.upto lexerWordsSpec)) lexerWordsUptoCard
end Rows
end Go.Proofs.YticmjkjojhcdpaaDoor

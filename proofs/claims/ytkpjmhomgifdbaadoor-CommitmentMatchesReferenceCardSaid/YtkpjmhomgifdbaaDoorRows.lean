/-
  NARROWER THAN 'FOR EVERY INPUT', by the rows' own cells (each row's printed sentence says how): CommitmentMatchesReference: laid · CommitmentPowers: laid · CommitmentSums: laid · CommitmentGroup: laid · CommitmentBinds: laid · CommitmentOutside: laid.
  DERIVED. THE GIVEN ROWS OF THIS SEAT. 6 by the template 'for every input the law returns true; each argument reads behind the call as it read before'; 0 by the template 'total and deterministic' (their statements: YtkpjmhomgifdbaaDoorTotals.lean).
  GIVEN WITH THE SEED: the statements are not yours to turn. If you find one false, say at which input.
  Laid BY PROGRAM, IN A SANDBOX (cutbox-rows.mjs): the forced cells as the released guide's own fill.sh prints them over the translation 491d3e880315f885… (all of the seat's roots in one cut). By AI agents, Wed Nov 11 2026. No macro, syntax, notation, axiom, sorry.
-/
import Derived.Test.YtkpjmhomgifdbaaDoorChecked
import GoSem.Claim
import GoSem.ClaimJoined
import GoSem.ClaimMapViews
import Derived.JoinedTies
import Derived.KernelRfl
namespace Go.Proofs.YtkpjmhomgifdbaaDoor
/- THE CELL 'sum', in the pinned program and in every row, IS THE sha256 OF THE DUMP (.gsa) THAT YtkpjmhomgifdbaaDoorProg.lean LOADS. Nothing in Lean hashes anything: it is a label: what it is worth is what the hold of that sum in a sandbox is worth. -/
noncomputable def Tryd.pinned : Pinned := { name := "ytkpjmhomgifdbaadoor", sum := "491d3e880315f8855a0de1d6458242e25319a5548f1f29b7818c4c7d5fbcaee2", checked := Tryd.checked }
namespace Rows
def none {H : Type} : Left H := { results := [], args := [] }

/- WHAT THE LISTED PACKAGE-LEVEL VARIABLES READ AS WHEN THE CALL BEGINS. Each datum BY PROGRAM (the guide's laid-datum.mjs) off the statement by which the dump's own 'gosem.cut.vars' lays the variable. In a bare row this is a premise. The card (YtkpjmhomgifdbaaDoorCards.lean) ties it to the program's text. -/
def laid_wageoffice_commitment_generators {H : Type} : DataW H := .agg [.lit (.int .i64 4), .lit (.int .i64 9)]

/-- 'wageofficelaw26.CommitmentMatchesReference': WHATEVER THE INPUT: true; the input reads as it did. -/
def commitmentMatchesReferenceSpec : ChangeSpec := { name := "commitmentMatchesReference", fn := fun _ => fun
  | [d1, d2, d3] => { results := [.lit (.bool true)], args := [d1, d2, d3] }
  | _ => none }
def commitmentMatchesReferenceRow : OpenClaim := { program := "ytkpjmhomgifdbaadoor", sum := "491d3e880315f8855a0de1d6458242e25319a5548f1f29b7818c4c7d5fbcaee2", func := "wageoffice/wageofficelaw26.CommitmentMatchesReference", spec := "commitmentMatchesReference", unfollowed := true, recurses := true, named := ["wageoffice/commitment.generators"], apart := false, laid := [("wageoffice/commitment.generators", laid_wageoffice_commitment_generators)] }
def CommitmentMatchesReferenceSaid : Prop := commitmentMatchesReferenceRow.holds Tryd.pinned (OpenSpec.ofChange commitmentMatchesReferenceSpec)

/-- ITS FALSE NEIGHBOUR: 'it returns false'. Refute it at one input. -/
def commitmentMatchesReferenceWrong : ChangeSpec := { name := "commitmentMatchesReference", fn := fun _ => fun
  | [d1, d2, d3] => { results := [.lit (.bool false)], args := [d1, d2, d3] }
  | _ => none }
def CommitmentMatchesReferenceWrongFalsely : Prop := commitmentMatchesReferenceRow.holds Tryd.pinned (OpenSpec.ofChange commitmentMatchesReferenceWrong)

/-- 'wageofficelaw26.CommitmentPowers': WHATEVER THE INPUT: true; the input reads as it did. -/
def commitmentPowersSpec : ChangeSpec := { name := "commitmentPowers", fn := fun _ => fun
  | [d1, d2, d3] => { results := [.lit (.bool true)], args := [d1, d2, d3] }
  | _ => none }
def commitmentPowersRow : OpenClaim := { program := "ytkpjmhomgifdbaadoor", sum := "491d3e880315f8855a0de1d6458242e25319a5548f1f29b7818c4c7d5fbcaee2", func := "wageoffice/wageofficelaw26.CommitmentPowers", spec := "commitmentPowers", unfollowed := true, recurses := true, named := ["wageoffice/commitment.generators"], apart := false, laid := [("wageoffice/commitment.generators", laid_wageoffice_commitment_generators)] }
def CommitmentPowersSaid : Prop := commitmentPowersRow.holds Tryd.pinned (OpenSpec.ofChange commitmentPowersSpec)

/-- ITS FALSE NEIGHBOUR: 'it returns false'. Refute it at one input. -/
def commitmentPowersWrong : ChangeSpec := { name := "commitmentPowers", fn := fun _ => fun
  | [d1, d2, d3] => { results := [.lit (.bool false)], args := [d1, d2, d3] }
  | _ => none }
def CommitmentPowersWrongFalsely : Prop := commitmentPowersRow.holds Tryd.pinned (OpenSpec.ofChange commitmentPowersWrong)

/-- 'wageofficelaw26.CommitmentSums': WHATEVER THE INPUT: true; the input reads as it did. -/
def commitmentSumsSpec : ChangeSpec := { name := "commitmentSums", fn := fun _ => fun
  | [d1, d2, d3, d4] => { results := [.lit (.bool true)], args := [d1, d2, d3, d4] }
  | _ => none }
def commitmentSumsRow : OpenClaim := { program := "ytkpjmhomgifdbaadoor", sum := "491d3e880315f8855a0de1d6458242e25319a5548f1f29b7818c4c7d5fbcaee2", func := "wageoffice/wageofficelaw26.CommitmentSums", spec := "commitmentSums", unfollowed := true, recurses := true, named := ["wageoffice/commitment.generators"], apart := false, laid := [("wageoffice/commitment.generators", laid_wageoffice_commitment_generators)] }
def CommitmentSumsSaid : Prop := commitmentSumsRow.holds Tryd.pinned (OpenSpec.ofChange commitmentSumsSpec)

/-- ITS FALSE NEIGHBOUR: 'it returns false'. Refute it at one input. -/
def commitmentSumsWrong : ChangeSpec := { name := "commitmentSums", fn := fun _ => fun
  | [d1, d2, d3, d4] => { results := [.lit (.bool false)], args := [d1, d2, d3, d4] }
  | _ => none }
def CommitmentSumsWrongFalsely : Prop := commitmentSumsRow.holds Tryd.pinned (OpenSpec.ofChange commitmentSumsWrong)

/-- 'wageofficelaw26.CommitmentGroup': WHATEVER THE INPUT: true; the input reads as it did. -/
def commitmentGroupSpec : ChangeSpec := { name := "commitmentGroup", fn := fun _ => fun
  | [d1, d2, d3, d4] => { results := [.lit (.bool true)], args := [d1, d2, d3, d4] }
  | _ => none }
def commitmentGroupRow : OpenClaim := { program := "ytkpjmhomgifdbaadoor", sum := "491d3e880315f8855a0de1d6458242e25319a5548f1f29b7818c4c7d5fbcaee2", func := "wageoffice/wageofficelaw26.CommitmentGroup", spec := "commitmentGroup", unfollowed := true, recurses := true, named := ["wageoffice/commitment.generators"], apart := false, laid := [("wageoffice/commitment.generators", laid_wageoffice_commitment_generators)] }
def CommitmentGroupSaid : Prop := commitmentGroupRow.holds Tryd.pinned (OpenSpec.ofChange commitmentGroupSpec)

/-- ITS FALSE NEIGHBOUR: 'it returns false'. Refute it at one input. -/
def commitmentGroupWrong : ChangeSpec := { name := "commitmentGroup", fn := fun _ => fun
  | [d1, d2, d3, d4] => { results := [.lit (.bool false)], args := [d1, d2, d3, d4] }
  | _ => none }
def CommitmentGroupWrongFalsely : Prop := commitmentGroupRow.holds Tryd.pinned (OpenSpec.ofChange commitmentGroupWrong)

/-- 'wageofficelaw26.CommitmentBinds': WHATEVER THE INPUT: true; the input reads as it did. -/
def commitmentBindsSpec : ChangeSpec := { name := "commitmentBinds", fn := fun _ => fun
  | [d1, d2, d3, d4] => { results := [.lit (.bool true)], args := [d1, d2, d3, d4] }
  | _ => none }
def commitmentBindsRow : OpenClaim := { program := "ytkpjmhomgifdbaadoor", sum := "491d3e880315f8855a0de1d6458242e25319a5548f1f29b7818c4c7d5fbcaee2", func := "wageoffice/wageofficelaw26.CommitmentBinds", spec := "commitmentBinds", unfollowed := true, recurses := true, named := ["wageoffice/commitment.generators"], apart := false, laid := [("wageoffice/commitment.generators", laid_wageoffice_commitment_generators)] }
def CommitmentBindsSaid : Prop := commitmentBindsRow.holds Tryd.pinned (OpenSpec.ofChange commitmentBindsSpec)

/-- ITS FALSE NEIGHBOUR: 'it returns false'. Refute it at one input. -/
def commitmentBindsWrong : ChangeSpec := { name := "commitmentBinds", fn := fun _ => fun
  | [d1, d2, d3, d4] => { results := [.lit (.bool false)], args := [d1, d2, d3, d4] }
  | _ => none }
def CommitmentBindsWrongFalsely : Prop := commitmentBindsRow.holds Tryd.pinned (OpenSpec.ofChange commitmentBindsWrong)

/-- 'wageofficelaw26.CommitmentOutside': WHATEVER THE INPUT: true; the input reads as it did. -/
def commitmentOutsideSpec : ChangeSpec := { name := "commitmentOutside", fn := fun _ => fun
  | [d1, d2] => { results := [.lit (.bool true)], args := [d1, d2] }
  | _ => none }
def commitmentOutsideRow : OpenClaim := { program := "ytkpjmhomgifdbaadoor", sum := "491d3e880315f8855a0de1d6458242e25319a5548f1f29b7818c4c7d5fbcaee2", func := "wageoffice/wageofficelaw26.CommitmentOutside", spec := "commitmentOutside", unfollowed := true, recurses := true, named := ["wageoffice/commitment.generators"], apart := false, laid := [("wageoffice/commitment.generators", laid_wageoffice_commitment_generators)] }
def CommitmentOutsideSaid : Prop := commitmentOutsideRow.holds Tryd.pinned (OpenSpec.ofChange commitmentOutsideSpec)

/-- ITS FALSE NEIGHBOUR: 'it returns false'. Refute it at one input. -/
def commitmentOutsideWrong : ChangeSpec := { name := "commitmentOutside", fn := fun _ => fun
  | [d1, d2] => { results := [.lit (.bool false)], args := [d1, d2] }
  | _ => none }
def CommitmentOutsideWrongFalsely : Prop := commitmentOutsideRow.holds Tryd.pinned (OpenSpec.ofChange commitmentOutsideWrong)

/- THE SECOND FORM. 'bulk': how many values and letters a reading holds, each counted each time it is reached (what is shared counts as often as it is met; a slice's spare places count too). A statement '..UptoSaid' is the law's where the arguments, and the package variables that the reading takes, are together of bulk at most 1048576: NARROWER than '..Said'. Prove '..Said' where nothing that the law and all that it calls make is longer than what came in: it says more and counts as full. Else prove '..UptoSaid'. A law counts once. -/
mutual
def uptoBulk {H : Type} : DataW H → Nat
  | .lit (.string bytes) => bytes.length + 1
  | .lit _ => 1
  | .nil => 1
  | .ptr d => uptoBulk d + 1
  | .slice elems spare => uptoBulkAll elems + uptoBulkAll spare + 1
  | .agg parts => uptoBulkAll parts + 1
  | .iface _ d => uptoBulk d + 1
  | .map entries => uptoBulkEntries entries + 1
  | .held _ => 1
def uptoBulkAll {H : Type} : List (DataW H) → Nat
  | [] => 0
  | d :: r => uptoBulk d + uptoBulkAll r
def uptoBulkEntries {H : Type} : List (Lit × DataW H) → Nat
  | [] => 0
  | x :: r => uptoBulkEntry x + uptoBulkEntries r
def uptoBulkEntry {H : Type} : Lit × DataW H → Nat
  | (.string bytes, d) => bytes.length + uptoBulk d + 1
  | (_, d) => uptoBulk d + 1
 end
def uptoSmall : (H : Type) → List (DataW H) → Bool := fun _ ds => decide (uptoBulkAll ds ≤ 1048576)
def OpenSpec.upto (s : _root_.Go.ChangeSpec) : _root_.Go.OpenSpec := { _root_.Go.OpenSpec.ofChange s with cond := some uptoSmall }

/-- 'wageofficelaw26.CommitmentMatchesReference', WHERE WHAT IT READS IS OF BULK AT MOST 1048576: true; the input reads as it did. -/
def commitmentMatchesReferenceUptoRow : OpenClaim := { program := "ytkpjmhomgifdbaadoor", sum := "491d3e880315f8855a0de1d6458242e25319a5548f1f29b7818c4c7d5fbcaee2", func := "wageoffice/wageofficelaw26.CommitmentMatchesReference", spec := "commitmentMatchesReference", unfollowed := true, recurses := true, named := ["wageoffice/commitment.generators"], apart := false, laid := [("wageoffice/commitment.generators", laid_wageoffice_commitment_generators)], narrowed := true }
def CommitmentMatchesReferenceUptoSaid : Prop := commitmentMatchesReferenceUptoRow.holds Tryd.pinned (OpenSpec.upto commitmentMatchesReferenceSpec)

/-- 'wageofficelaw26.CommitmentPowers', WHERE WHAT IT READS IS OF BULK AT MOST 1048576: true; the input reads as it did. -/
def commitmentPowersUptoRow : OpenClaim := { program := "ytkpjmhomgifdbaadoor", sum := "491d3e880315f8855a0de1d6458242e25319a5548f1f29b7818c4c7d5fbcaee2", func := "wageoffice/wageofficelaw26.CommitmentPowers", spec := "commitmentPowers", unfollowed := true, recurses := true, named := ["wageoffice/commitment.generators"], apart := false, laid := [("wageoffice/commitment.generators", laid_wageoffice_commitment_generators)], narrowed := true }
def CommitmentPowersUptoSaid : Prop := commitmentPowersUptoRow.holds Tryd.pinned (OpenSpec.upto commitmentPowersSpec)

/-- 'wageofficelaw26.CommitmentSums', WHERE WHAT IT READS IS OF BULK AT MOST 1048576: true; the input reads as it did. -/
def commitmentSumsUptoRow : OpenClaim := { program := "ytkpjmhomgifdbaadoor", sum := "491d3e880315f8855a0de1d6458242e25319a5548f1f29b7818c4c7d5fbcaee2", func := "wageoffice/wageofficelaw26.CommitmentSums", spec := "commitmentSums", unfollowed := true, recurses := true, named := ["wageoffice/commitment.generators"], apart := false, laid := [("wageoffice/commitment.generators", laid_wageoffice_commitment_generators)], narrowed := true }
def CommitmentSumsUptoSaid : Prop := commitmentSumsUptoRow.holds Tryd.pinned (OpenSpec.upto commitmentSumsSpec)

/-- 'wageofficelaw26.CommitmentGroup', WHERE WHAT IT READS IS OF BULK AT MOST 1048576: true; the input reads as it did. -/
def commitmentGroupUptoRow : OpenClaim := { program := "ytkpjmhomgifdbaadoor", sum := "491d3e880315f8855a0de1d6458242e25319a5548f1f29b7818c4c7d5fbcaee2", func := "wageoffice/wageofficelaw26.CommitmentGroup", spec := "commitmentGroup", unfollowed := true, recurses := true, named := ["wageoffice/commitment.generators"], apart := false, laid := [("wageoffice/commitment.generators", laid_wageoffice_commitment_generators)], narrowed := true }
def CommitmentGroupUptoSaid : Prop := commitmentGroupUptoRow.holds Tryd.pinned (OpenSpec.upto commitmentGroupSpec)

/-- 'wageofficelaw26.CommitmentBinds', WHERE WHAT IT READS IS OF BULK AT MOST 1048576: true; the input reads as it did. -/
def commitmentBindsUptoRow : OpenClaim := { program := "ytkpjmhomgifdbaadoor", sum := "491d3e880315f8855a0de1d6458242e25319a5548f1f29b7818c4c7d5fbcaee2", func := "wageoffice/wageofficelaw26.CommitmentBinds", spec := "commitmentBinds", unfollowed := true, recurses := true, named := ["wageoffice/commitment.generators"], apart := false, laid := [("wageoffice/commitment.generators", laid_wageoffice_commitment_generators)], narrowed := true }
def CommitmentBindsUptoSaid : Prop := commitmentBindsUptoRow.holds Tryd.pinned (OpenSpec.upto commitmentBindsSpec)

/-- 'wageofficelaw26.CommitmentOutside', WHERE WHAT IT READS IS OF BULK AT MOST 1048576: true; the input reads as it did. -/
def commitmentOutsideUptoRow : OpenClaim := { program := "ytkpjmhomgifdbaadoor", sum := "491d3e880315f8855a0de1d6458242e25319a5548f1f29b7818c4c7d5fbcaee2", func := "wageoffice/wageofficelaw26.CommitmentOutside", spec := "commitmentOutside", unfollowed := true, recurses := true, named := ["wageoffice/commitment.generators"], apart := false, laid := [("wageoffice/commitment.generators", laid_wageoffice_commitment_generators)], narrowed := true }
def CommitmentOutsideUptoSaid : Prop := commitmentOutsideUptoRow.holds Tryd.pinned (OpenSpec.upto commitmentOutsideSpec)

end Rows
end Go.Proofs.YtkpjmhomgifdbaaDoor

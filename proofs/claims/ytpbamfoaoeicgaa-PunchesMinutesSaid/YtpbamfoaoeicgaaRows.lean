/-
  No cell of these rows narrows 'for every input' (looked for: loops, veiled, ifaces, maps, wideKeys, modest, calm, conditions, laid).
  DERIVED. THE GIVEN ROWS OF THIS SEAT. 8 by the template 'for every input the law returns true; each argument reads behind the call as it read before'; 0 by the template 'total and deterministic' (their statements: YtpbamfoaoeicgaaTotals.lean).
  GIVEN WITH THE SEED: the statements are not yours to turn. If you find one false, say at which input.
  Laid BY PROGRAM, IN A SANDBOX (cutbox-rows.mjs): the forced cells as the released guide's own fill.sh prints them over the translation 89232b7c511ae15c… (all of the seat's roots in one cut). By AI agents, Wed Nov 11 2026. No macro, syntax, notation, axiom, sorry.
-/
import Derived.Test.YtpbamfoaoeicgaaChecked
import GoSem.Claim
import GoSem.ClaimJoined
import GoSem.ClaimMapViews
import Derived.JoinedTies
import Derived.KernelRfl
namespace Go.Proofs.Ytpbamfoaoeicgaa
/- THE CELL 'sum', in the pinned program and in every row, IS THE sha256 OF THE DUMP (.gsa) THAT YtpbamfoaoeicgaaProg.lean LOADS. Nothing in Lean hashes anything: it is a label: what it is worth is what the hold of that sum in a sandbox is worth. -/
noncomputable def Try.pinned : Pinned := { name := "ytpbamfoaoeicgaa", sum := "89232b7c511ae15c25763fdd4700c9d7e93b40ebc74aa9055aa755dbab377384", checked := Try.checked }
namespace Rows
def none {H : Type} : Left H := { results := [], args := [] }

/-- 'wageofficelaw22.PunchesMatchesReference': WHATEVER THE INPUT: true; the input reads as it did. -/
def punchesMatchesReferenceSpec : ChangeSpec := { name := "punchesMatchesReference", fn := fun _ => fun
  | [d1, d2, d3] => { results := [.lit (.bool true)], args := [d1, d2, d3] }
  | _ => none }
def punchesMatchesReferenceRow : OpenClaim := { program := "ytpbamfoaoeicgaa", sum := "89232b7c511ae15c25763fdd4700c9d7e93b40ebc74aa9055aa755dbab377384", func := "wageoffice/wageofficelaw22.PunchesMatchesReference", spec := "punchesMatchesReference", unfollowed := true, recurses := true, apart := false }
def PunchesMatchesReferenceSaid : Prop := punchesMatchesReferenceRow.holds Try.pinned (OpenSpec.ofChange punchesMatchesReferenceSpec)

/-- ITS FALSE NEIGHBOUR: 'it returns false'. Refute it at one input. -/
def punchesMatchesReferenceWrong : ChangeSpec := { name := "punchesMatchesReference", fn := fun _ => fun
  | [d1, d2, d3] => { results := [.lit (.bool false)], args := [d1, d2, d3] }
  | _ => none }
def PunchesMatchesReferenceWrongFalsely : Prop := punchesMatchesReferenceRow.holds Try.pinned (OpenSpec.ofChange punchesMatchesReferenceWrong)

/-- 'wageofficelaw22.PunchesLeast': WHATEVER THE INPUT: true; the input reads as it did. -/
def punchesLeastSpec : ChangeSpec := { name := "punchesLeast", fn := fun _ => fun
  | [d1, d2, d3] => { results := [.lit (.bool true)], args := [d1, d2, d3] }
  | _ => none }
def punchesLeastRow : OpenClaim := { program := "ytpbamfoaoeicgaa", sum := "89232b7c511ae15c25763fdd4700c9d7e93b40ebc74aa9055aa755dbab377384", func := "wageoffice/wageofficelaw22.PunchesLeast", spec := "punchesLeast", unfollowed := true, recurses := true, apart := false }
def PunchesLeastSaid : Prop := punchesLeastRow.holds Try.pinned (OpenSpec.ofChange punchesLeastSpec)

/-- ITS FALSE NEIGHBOUR: 'it returns false'. Refute it at one input. -/
def punchesLeastWrong : ChangeSpec := { name := "punchesLeast", fn := fun _ => fun
  | [d1, d2, d3] => { results := [.lit (.bool false)], args := [d1, d2, d3] }
  | _ => none }
def PunchesLeastWrongFalsely : Prop := punchesLeastRow.holds Try.pinned (OpenSpec.ofChange punchesLeastWrong)

/-- 'wageofficelaw22.PunchesExact': WHATEVER THE INPUT: true; the input reads as it did. -/
def punchesExactSpec : ChangeSpec := { name := "punchesExact", fn := fun _ => fun
  | [d] => { results := [.lit (.bool true)], args := [d] }
  | _ => none }
def punchesExactRow : OpenClaim := { program := "ytpbamfoaoeicgaa", sum := "89232b7c511ae15c25763fdd4700c9d7e93b40ebc74aa9055aa755dbab377384", func := "wageoffice/wageofficelaw22.PunchesExact", spec := "punchesExact", unfollowed := true, recurses := true, apart := false }
def PunchesExactSaid : Prop := punchesExactRow.holds Try.pinned (OpenSpec.ofChange punchesExactSpec)

/-- ITS FALSE NEIGHBOUR: 'it returns false'. Refute it at one input. -/
def punchesExactWrong : ChangeSpec := { name := "punchesExact", fn := fun _ => fun
  | [d] => { results := [.lit (.bool false)], args := [d] }
  | _ => none }
def PunchesExactWrongFalsely : Prop := punchesExactRow.holds Try.pinned (OpenSpec.ofChange punchesExactWrong)

/-- 'wageofficelaw22.PunchesLost': WHATEVER THE INPUT: true; the input reads as it did. -/
def punchesLostSpec : ChangeSpec := { name := "punchesLost", fn := fun _ => fun
  | [d1, d2, d3, d4] => { results := [.lit (.bool true)], args := [d1, d2, d3, d4] }
  | _ => none }
def punchesLostRow : OpenClaim := { program := "ytpbamfoaoeicgaa", sum := "89232b7c511ae15c25763fdd4700c9d7e93b40ebc74aa9055aa755dbab377384", func := "wageoffice/wageofficelaw22.PunchesLost", spec := "punchesLost", unfollowed := true, recurses := true, apart := false }
def PunchesLostSaid : Prop := punchesLostRow.holds Try.pinned (OpenSpec.ofChange punchesLostSpec)

/-- ITS FALSE NEIGHBOUR: 'it returns false'. Refute it at one input. -/
def punchesLostWrong : ChangeSpec := { name := "punchesLost", fn := fun _ => fun
  | [d1, d2, d3, d4] => { results := [.lit (.bool false)], args := [d1, d2, d3, d4] }
  | _ => none }
def PunchesLostWrongFalsely : Prop := punchesLostRow.holds Try.pinned (OpenSpec.ofChange punchesLostWrong)

/-- 'wageofficelaw22.PunchesShift': WHATEVER THE INPUT: true; the input reads as it did. -/
def punchesShiftSpec : ChangeSpec := { name := "punchesShift", fn := fun _ => fun
  | [d1, d2, d3] => { results := [.lit (.bool true)], args := [d1, d2, d3] }
  | _ => none }
def punchesShiftRow : OpenClaim := { program := "ytpbamfoaoeicgaa", sum := "89232b7c511ae15c25763fdd4700c9d7e93b40ebc74aa9055aa755dbab377384", func := "wageoffice/wageofficelaw22.PunchesShift", spec := "punchesShift", unfollowed := true, recurses := true, apart := false }
def PunchesShiftSaid : Prop := punchesShiftRow.holds Try.pinned (OpenSpec.ofChange punchesShiftSpec)

/-- ITS FALSE NEIGHBOUR: 'it returns false'. Refute it at one input. -/
def punchesShiftWrong : ChangeSpec := { name := "punchesShift", fn := fun _ => fun
  | [d1, d2, d3] => { results := [.lit (.bool false)], args := [d1, d2, d3] }
  | _ => none }
def PunchesShiftWrongFalsely : Prop := punchesShiftRow.holds Try.pinned (OpenSpec.ofChange punchesShiftWrong)

/-- 'wageofficelaw22.PunchesMirror': WHATEVER THE INPUT: true; the input reads as it did. -/
def punchesMirrorSpec : ChangeSpec := { name := "punchesMirror", fn := fun _ => fun
  | [d1, d2] => { results := [.lit (.bool true)], args := [d1, d2] }
  | _ => none }
def punchesMirrorRow : OpenClaim := { program := "ytpbamfoaoeicgaa", sum := "89232b7c511ae15c25763fdd4700c9d7e93b40ebc74aa9055aa755dbab377384", func := "wageoffice/wageofficelaw22.PunchesMirror", spec := "punchesMirror", unfollowed := true, recurses := true, apart := false }
def PunchesMirrorSaid : Prop := punchesMirrorRow.holds Try.pinned (OpenSpec.ofChange punchesMirrorSpec)

/-- ITS FALSE NEIGHBOUR: 'it returns false'. Refute it at one input. -/
def punchesMirrorWrong : ChangeSpec := { name := "punchesMirror", fn := fun _ => fun
  | [d1, d2] => { results := [.lit (.bool false)], args := [d1, d2] }
  | _ => none }
def PunchesMirrorWrongFalsely : Prop := punchesMirrorRow.holds Try.pinned (OpenSpec.ofChange punchesMirrorWrong)

/-- 'wageofficelaw22.PunchesDays': WHATEVER THE INPUT: true; the input reads as it did. -/
def punchesDaysSpec : ChangeSpec := { name := "punchesDays", fn := fun _ => fun
  | [d1, d2, d3, d4] => { results := [.lit (.bool true)], args := [d1, d2, d3, d4] }
  | _ => none }
def punchesDaysRow : OpenClaim := { program := "ytpbamfoaoeicgaa", sum := "89232b7c511ae15c25763fdd4700c9d7e93b40ebc74aa9055aa755dbab377384", func := "wageoffice/wageofficelaw22.PunchesDays", spec := "punchesDays", unfollowed := true, recurses := true, apart := false }
def PunchesDaysSaid : Prop := punchesDaysRow.holds Try.pinned (OpenSpec.ofChange punchesDaysSpec)

/-- ITS FALSE NEIGHBOUR: 'it returns false'. Refute it at one input. -/
def punchesDaysWrong : ChangeSpec := { name := "punchesDays", fn := fun _ => fun
  | [d1, d2, d3, d4] => { results := [.lit (.bool false)], args := [d1, d2, d3, d4] }
  | _ => none }
def PunchesDaysWrongFalsely : Prop := punchesDaysRow.holds Try.pinned (OpenSpec.ofChange punchesDaysWrong)

/-- 'wageofficelaw22.PunchesMinutes': WHATEVER THE INPUT: true; the input reads as it did. -/
def punchesMinutesSpec : ChangeSpec := { name := "punchesMinutes", fn := fun _ => fun
  | [d1, d2, d3, d4] => { results := [.lit (.bool true)], args := [d1, d2, d3, d4] }
  | _ => none }
def punchesMinutesRow : OpenClaim := { program := "ytpbamfoaoeicgaa", sum := "89232b7c511ae15c25763fdd4700c9d7e93b40ebc74aa9055aa755dbab377384", func := "wageoffice/wageofficelaw22.PunchesMinutes", spec := "punchesMinutes", unfollowed := true, recurses := true, apart := false }
def PunchesMinutesSaid : Prop := punchesMinutesRow.holds Try.pinned (OpenSpec.ofChange punchesMinutesSpec)

/-- ITS FALSE NEIGHBOUR: 'it returns false'. Refute it at one input. -/
def punchesMinutesWrong : ChangeSpec := { name := "punchesMinutes", fn := fun _ => fun
  | [d1, d2, d3, d4] => { results := [.lit (.bool false)], args := [d1, d2, d3, d4] }
  | _ => none }
def PunchesMinutesWrongFalsely : Prop := punchesMinutesRow.holds Try.pinned (OpenSpec.ofChange punchesMinutesWrong)

/- THE SECOND FORM. 'bulk': how many values and letters a reading holds, each counted each time it is reached (what is shared counts as often as it is met; a slice's spare places count too). A statement '..UptoSaid' is the law's where the arguments, and the package variables that the reading takes, are together of bulk at most 1048576: NARROWER than '..Said'. Prove '..Said' where nothing that the law and all that it calls make is longer than what came in: it says more and counts as full. Else prove '..UptoSaid'. A law counts once. -/
mutual
def uptoBulk {H : Type} : DataW H → Nat
  | .lit (.string bytes) => bytes.length + 1
  | .lit _ => 1
  | .nil => 1
  | .ptr d => uptoBulk d + 1
  | .slice elems spare => uptoBulkAll elems + uptoBulkAll spare + 1
  | .agg parts => uptoBulkAll parts + 1
  | .iface _ d => uptoBulk d + 1
  | .map entries => uptoBulkEntries entries + 1
  | .held _ => 1
def uptoBulkAll {H : Type} : List (DataW H) → Nat
  | [] => 0
  | d :: r => uptoBulk d + uptoBulkAll r
def uptoBulkEntries {H : Type} : List (Lit × DataW H) → Nat
  | [] => 0
  | x :: r => uptoBulkEntry x + uptoBulkEntries r
def uptoBulkEntry {H : Type} : Lit × DataW H → Nat
  | (.string bytes, d) => bytes.length + uptoBulk d + 1
  | (_, d) => uptoBulk d + 1
 end
def uptoSmall : (H : Type) → List (DataW H) → Bool := fun _ ds => decide (uptoBulkAll ds ≤ 1048576)
def OpenSpec.upto (s : _root_.Go.ChangeSpec) : _root_.Go.OpenSpec := { _root_.Go.OpenSpec.ofChange s with cond := some uptoSmall }

/-- 'wageofficelaw22.PunchesMatchesReference', WHERE WHAT IT READS IS OF BULK AT MOST 1048576: true; the input reads as it did. -/
def punchesMatchesReferenceUptoRow : OpenClaim := { program := "ytpbamfoaoeicgaa", sum := "89232b7c511ae15c25763fdd4700c9d7e93b40ebc74aa9055aa755dbab377384", func := "wageoffice/wageofficelaw22.PunchesMatchesReference", spec := "punchesMatchesReference", unfollowed := true, recurses := true, apart := false, narrowed := true }
def PunchesMatchesReferenceUptoSaid : Prop := punchesMatchesReferenceUptoRow.holds Try.pinned (OpenSpec.upto punchesMatchesReferenceSpec)

/-- 'wageofficelaw22.PunchesLeast', WHERE WHAT IT READS IS OF BULK AT MOST 1048576: true; the input reads as it did. -/
def punchesLeastUptoRow : OpenClaim := { program := "ytpbamfoaoeicgaa", sum := "89232b7c511ae15c25763fdd4700c9d7e93b40ebc74aa9055aa755dbab377384", func := "wageoffice/wageofficelaw22.PunchesLeast", spec := "punchesLeast", unfollowed := true, recurses := true, apart := false, narrowed := true }
def PunchesLeastUptoSaid : Prop := punchesLeastUptoRow.holds Try.pinned (OpenSpec.upto punchesLeastSpec)

/-- 'wageofficelaw22.PunchesExact', WHERE WHAT IT READS IS OF BULK AT MOST 1048576: true; the input reads as it did. -/
def punchesExactUptoRow : OpenClaim := { program := "ytpbamfoaoeicgaa", sum := "89232b7c511ae15c25763fdd4700c9d7e93b40ebc74aa9055aa755dbab377384", func := "wageoffice/wageofficelaw22.PunchesExact", spec := "punchesExact", unfollowed := true, recurses := true, apart := false, narrowed := true }
def PunchesExactUptoSaid : Prop := punchesExactUptoRow.holds Try.pinned (OpenSpec.upto punchesExactSpec)

/-- 'wageofficelaw22.PunchesLost', WHERE WHAT IT READS IS OF BULK AT MOST 1048576: true; the input reads as it did. -/
def punchesLostUptoRow : OpenClaim := { program := "ytpbamfoaoeicgaa", sum := "89232b7c511ae15c25763fdd4700c9d7e93b40ebc74aa9055aa755dbab377384", func := "wageoffice/wageofficelaw22.PunchesLost", spec := "punchesLost", unfollowed := true, recurses := true, apart := false, narrowed := true }
def PunchesLostUptoSaid : Prop := punchesLostUptoRow.holds Try.pinned (OpenSpec.upto punchesLostSpec)

/-- 'wageofficelaw22.PunchesShift', WHERE WHAT IT READS IS OF BULK AT MOST 1048576: true; the input reads as it did. -/
def punchesShiftUptoRow : OpenClaim := { program := "ytpbamfoaoeicgaa", sum := "89232b7c511ae15c25763fdd4700c9d7e93b40ebc74aa9055aa755dbab377384", func := "wageoffice/wageofficelaw22.PunchesShift", spec := "punchesShift", unfollowed := true, recurses := true, apart := false, narrowed := true }
def PunchesShiftUptoSaid : Prop := punchesShiftUptoRow.holds Try.pinned (OpenSpec.upto punchesShiftSpec)

/-- 'wageofficelaw22.PunchesMirror', WHERE WHAT IT READS IS OF BULK AT MOST 1048576: true; the input reads as it did. -/
def punchesMirrorUptoRow : OpenClaim := { program := "ytpbamfoaoeicgaa", sum := "89232b7c511ae15c25763fdd4700c9d7e93b40ebc74aa9055aa755dbab377384", func := "wageoffice/wageofficelaw22.PunchesMirror", spec := "punchesMirror", unfollowed := true, recurses := true, apart := false, narrowed := true }
def PunchesMirrorUptoSaid : Prop := punchesMirrorUptoRow.holds Try.pinned (OpenSpec.upto punchesMirrorSpec)

/-- 'wageofficelaw22.PunchesDays', WHERE WHAT IT READS IS OF BULK AT MOST 1048576: true; the input reads as it did. -/
def punchesDaysUptoRow : OpenClaim := { program := "ytpbamfoaoeicgaa", sum := "89232b7c511ae15c25763fdd4700c9d7e93b40ebc74aa9055aa755dbab377384", func := "wageoffice/wageofficelaw22.PunchesDays", spec := "punchesDays", unfollowed := true, recurses := true, apart := false, narrowed := true }
def PunchesDaysUptoSaid : Prop := punchesDaysUptoRow.holds Try.pinned (OpenSpec.upto punchesDaysSpec)

/-- 'wageofficelaw22.PunchesMinutes', WHERE WHAT IT READS IS OF BULK AT MOST 1048576: true; the input reads as it did. -/
def punchesMinutesUptoRow : OpenClaim := { program := "ytpbamfoaoeicgaa", sum := "89232b7c511ae15c25763fdd4700c9d7e93b40ebc74aa9055aa755dbab377384", func := "wageoffice/wageofficelaw22.PunchesMinutes", spec := "punchesMinutes", unfollowed := true, recurses := true, apart := false, narrowed := true }
def PunchesMinutesUptoSaid : Prop := punchesMinutesUptoRow.holds Try.pinned (OpenSpec.upto punchesMinutesSpec)

end Rows
end Go.Proofs.Ytpbamfoaoeicgaa

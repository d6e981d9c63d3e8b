/- The law's row: it returns true at every input. -/
import Derived.Test.YtpbamfoaoeicgaaRows
import Derived.Test.YtpbamfoaoeicgaaQMt11
import Derived.Test.YtpbamfoaoeicgaaQPureMat
import Derived.Test.YtpbamfoaoeicgaaQRowk
import Derived.WalkKit
import Derived.ProofKit
import Derived.OpenShut
import Derived.ChangeOld
import Derived.Below
import Derived.SizedLaws
import Derived.Test.YtpbamfoaoeicgaaQW
set_option linter.unusedVariables false
set_option linter.unusedSimpArgs false
namespace Go.Proofs.Ytpbamfoaoeicgaa.punchesMatchesReference
open Go Go.ChangeShapes Go.WideShapes Go.ChangeAt Go.RowKit Go.Proofs.YtpbamfoaoeicgaaW.PrintWords Go.Proofs.YtpbamfoaoeicgaaW.PrintLast Go.Proofs.YtpbamfoaoeicgaaW.PrintMore Go.Proofs.Ytpbamfoaoeicgaa.PAll
theorem own : ownKnob Try.prog.godebug = none := by kernel_rfl
theorem laidOut : laidOutB Try.prog = true := by kernel_rfl
set_option maxRecDepth 100000 in
theorem lifted (os : Os) (started : os.Started) (H : Type) (enc : TypeId × Value → H) :
    ReturnsInHanded {} Try.checked os 3 .any (Rows.punchesMatchesReferenceSpec.pre6 enc Try.prog Try.f3 Rows.punchesMatchesReferenceRow.domain false) (Rows.punchesMatchesReferenceSpec.post enc Try.prog Try.f3 false true false false) := by
  refine returnsInHanded_of_change_sized (C := Try.checked) own started (by kernel_rfl) Try.func3
    (ChangeSpec.witness6 (enc := enc) (C := Try.checked) false ⟨#[], #[.slice none 0 0, .slice none 0 0, .slice none 0 0], []⟩ 8 (by kernel_rfl) (by kernel_rfl) (by kernel_rfl) (by kernel_rfl)) ?_
  intro W base args ds gs before hval0 hW hcnd hsz0 _
  have hval : ∀ (j : Nat) t v, Try.f3.params[j]? = some t → args[j]? = some v → Value.okWide Try.prog W .any base t v := hval0
  have hW' := hW
  obtain ⟨p, q, hA0, hV, rfl, hfz, hnd⟩ := hW
  have hA : DataW.TrodAll enc Try.prog W 0 (fun _ => true) true Try.f3.params.toList args.toList ds p := hA0
  rw [Try.params3] at hA hval
  obtain ⟨v0, vs0, d0, ds0, p0, q0, hargs, rfl, rfl, h0, r0⟩ := trodAll_cons hA
  obtain ⟨v1, vs1, d1, ds1, p1, q1, rfl, rfl, rfl, h1, r1⟩ := trodAll_cons r0
  obtain ⟨v2, vs2, d2, ds2, p2, q2, rfl, rfl, rfl, h2, r2⟩ := trodAll_cons r1
  obtain ⟨rfl, rfl, rfl⟩ := trodAll_nil r2
  obtain rfl : args = #[v0, v1, v2] := by cases args; simp_all
  obtain ⟨rfl, rfl⟩ := trodVars_none hV
  obtain ⟨a0, len0, cap0, rfl⟩ := okWide_slice Try.underlying22 (hval 0 22 v0 rfl rfl)
  have k0 := h0
  have lt0 : ∀ x ∈ p0, x.block < W.heap.size := by obtain ⟨m, hm⟩ := k0; exact DataW.trod_lt m _ _ _ hm
  obtain ⟨l0, rfl, hc0, hr0, hb0⟩ : ∃ xs : List S48, len0 = xs.length ∧ xs.length ≤ cap0 ∧ Kd.C k48 W a0 xs.length xs ∧ ∀ y ∈ xs, i64 y.f0 ∧ i64 y.f1 ∧ i64 y.f2 := by
    obtain ⟨fuel, hf⟩ := h0
    exact open48 (a := a0) (len := len0) (cap := cap0) (by simp [Value.cells]) hf
  obtain ⟨a1, len1, cap1, rfl⟩ := okWide_slice Try.underlying23 (hval 1 23 v1 rfl rfl)
  have k1 := h1
  have lt1 : ∀ x ∈ p1, x.block < W.heap.size := by obtain ⟨m, hm⟩ := k1; exact DataW.trod_lt m _ _ _ hm
  obtain ⟨l1, rfl, hc1, hr1, hb1⟩ : ∃ xs : List S45, len1 = xs.length ∧ xs.length ≤ cap1 ∧ Kd.C k45 W a1 xs.length xs ∧ ∀ y ∈ xs, i64 y.f0 := by
    obtain ⟨fuel, hf⟩ := h1
    exact open45 (a := a1) (len := len1) (cap := cap1) (by simp [Value.cells]) hf
  obtain ⟨a2, len2, cap2, rfl⟩ := okWide_slice Try.underlying24 (hval 2 24 v2 rfl rfl)
  have k2 := h2
  have lt2 : ∀ x ∈ p2, x.block < W.heap.size := by obtain ⟨m, hm⟩ := k2; exact DataW.trod_lt m _ _ _ hm
  obtain ⟨l2, rfl, hc2, hr2, hb2⟩ : ∃ xs : List S57, len2 = xs.length ∧ xs.length ≤ cap2 ∧ Kd.C k57 W a2 xs.length xs ∧ ∀ y ∈ xs, i64 y.f0 ∧ i64 y.f2 := by
    obtain ⟨fuel, hf⟩ := h2
    exact open57 (a := a2) (len := len2) (cap := cap2) (by simp [Value.cells]) hf
  obtain ⟨fk, hk⟩ := mat_pure l0 l1 l2 
  clear hA0 hval0 hsz0
  refine (wageofficelaw22_PunchesMatchesReference.calls fk a0 cap0 l0 a1 cap1 l1 a2 cap2 l2 true W hr0 hc0 hr1 hc1 hr2 hc2 rfl hk).mono fun e W' ⟨he, bel⟩ => ?_
  subst he
  exact ⟨_, rfl, _, _, _, [], _, [], hW', trodAll_mk1 (shut_bool Try.underlying4 _), (trodAll_cons_mk (Below.trod laidOut (by kernel_rfl) (of_decide_eq_true (by kernel_rfl)) k0 bel lt0) (trodAll_cons_mk (Below.trod laidOut (by kernel_rfl) (of_decide_eq_true (by kernel_rfl)) k1 bel lt1) (trodAll_cons_mk (Below.trod laidOut (by kernel_rfl) (of_decide_eq_true (by kernel_rfl)) k2 bel lt2) trodAll_mk0))), rfl, bel.frame _, fun h => by cases h⟩
theorem over : Rows.punchesMatchesReferenceRow.holds Try.pinned (OpenSpec.ofChange Rows.punchesMatchesReferenceSpec) :=
  OpenClaim.holds_of_wide 3 Try.f3 rfl rfl rfl rfl rfl rfl rfl ⟨rfl, rfl, rfl, rfl, rfl⟩ rfl rfl rfl rfl rfl (by kernel_rfl) Try.func3 (by kernel_rfl)
    (of_decide_eq_true (by kernel_rfl)) (by unfold Func.isWrapper; first | (rw [if_pos (by decide +kernel)]; kernel_rfl) | (rw [if_neg (by decide +kernel)]; exact ⟨rfl, rfl⟩))
    (fun os started H enc _ => lifted os started H enc)
theorem proved : Rows.PunchesMatchesReferenceSaid := over
#print axioms proved
end Go.Proofs.Ytpbamfoaoeicgaa.punchesMatchesReference
namespace Go.Proofs.Ytpbamfoaoeicgaa
/-- The row, under a short name, for the claim. -/
theorem punchesMatchesReference_holds : Rows.PunchesMatchesReferenceSaid := punchesMatchesReference.proved
end Go.Proofs.Ytpbamfoaoeicgaa

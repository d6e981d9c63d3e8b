/- Pair's and Worked's contracts, as the printed texts ask them. -/
import Derived.Test.YtpbamfoaoeicgaaPair
import Derived.Test.YtpbamfoaoeicgaaWk1
set_option linter.unusedVariables false
set_option linter.unusedSimpArgs false
namespace Go.Proofs.Ytpbamfoaoeicgaa.PAll
open Go Go.RowKit Go.Proofs.YtpbamfoaoeicgaaW.PrintWords Go.Proofs.YtpbamfoaoeicgaaW.PrintLast Go.Proofs.YtpbamfoaoeicgaaW.PrintMore

theorem flat57_length : ∀ l : List S57, (flat57 l).length = l.length * 3
  | [] => rfl
  | x :: r => by have := flat57_length r; simp only [flat57, List.flatMap_cons, List.length_append, List.length_cons, List.length_nil] at *; omega
theorem flat57_cons (x : S57) (r : List S57) : flat57 (x :: r) = .int .i64 x.f0 :: .bool x.f1 :: .int .i64 x.f2 :: flat57 r := rfl
theorem flat57_seg : ∀ (l : List S57) (i : Nat) (h : i < l.length), ((flat57 l).drop (i * 3)).take 3 = [.int .i64 l[i].f0, .bool l[i].f1, .int .i64 l[i].f2]
  | [], i, h => by simp at h
  | x :: r, 0, _ => by simp [flat57_cons]
  | x :: r, i + 1, h => by
    have := flat57_seg r i (by simpa using h)
    simpa [flat57_cons, Nat.add_mul, Nat.add_right_comm] using this
theorem reps57 (w : World) (b : Nat) (ok : Nat → Prop) (l : List S57) : Reps (k57.M w b ok) k57.sz l (flat57 l) := by
  have e1 : k57.sz = 3 := rfl
  refine ⟨by rw [e1, flat57_length], fun j p hj => ?_⟩
  obtain ⟨hl, rfl⟩ := List.getElem?_eq_some_iff.1 hj
  rw [e1, flat57_seg l j hl]
  exact k57_mkM w b ok l[j]
theorem row57 {W : World} {b : Nat} {v : Value} {l : List S57} (h : W.ownsRow b 57 3 v l.length (flat57 l)) : Kd.R k57 57 W b (fun _ => True) v l :=
  ⟨fun _ _ => trivial, flat57 l, h, reps57 W b _ l⟩

instance (s : S48) : Decidable (okS s) := by unfold okS; infer_instance
def decFrom : ∀ (e : Int) (l : List S48), Decidable (okFrom e l)
  | _, [] => isTrue trivial
  | e, s :: r => by
    have := decFrom s.f1 r
    unfold okFrom
    infer_instance
instance (e : Int) (l : List S48) : Decidable (okFrom e l) := decFrom e l
def decP : ∀ (e : Int) (l : List S45), Decidable (okP e l)
  | _, [] => isTrue trivial
  | e, s :: r => by
    have := decP s.f0 r
    unfold okP
    infer_instance
instance (e : Int) (l : List S45) : Decidable (okP e l) := decP e l
instance (l0 : List S48) (l1 : List S45) : Decidable (Usable l0 l1) := by unfold Usable; infer_instance
instance : DecidableEq S57 := fun a b => decidable_of_iff (a.f0 = b.f0 ∧ a.f1 = b.f1 ∧ a.f2 = b.f2) (by cases a; cases b; simp)
def decAl (ms : List S68) (n : Nat) : ∀ (i j : Nat) (l : List S57), Decidable (AlOk ms n i j l)
  | i, j, [] => by unfold AlOk; infer_instance
  | i, j, m :: r => by
    have := decAl ms n (i + 1) (j + 1) r
    have := decAl ms n (i + 1) j r
    have := decAl ms n i (j + 1) r
    unfold AlOk
    infer_instance
instance (ms : List S68) (n i j : Nat) (l : List S57) : Decidable (AlOk ms n i j l) := decAl ms n i j l

/-- what Pair answers -/
def punches_Pair.f (l0 : List (S48)) (l1 : List (S45)) : Option ((List (S57)) × Int × Int) :=
  if Usable l0 l1 then some (wk (marksOf l0) l1 0 0, tab (marksOf l0) l1 0 0, 0)
  else (punches_check.f 1000 l0 l1).bind fun c => if c = 0 then none else some ([], 0, c)

set_option maxRecDepth 100000 in
theorem pair_bad (A0 : Option Addr) (c0 : Nat) (l0 : List (S48)) (A1 : Option Addr) (c1 : Nat) (l1 : List (S45)) (c : Int) (w : World) (hr0 : Kd.C k48 w A0 l0.length l0) (hc0 : l0.length ≤ c0) (hr1 : Kd.C k45 w A1 l1.length l1) (hc1 : l1.length ≤ c1) (hz : c ≠ 0) (k : Nat) (hk : punches_check.f k l0 l1 = some c) :
    Calls Try.prog 13 #[.slice A0 l0.length c0, .slice A1 l1.length c1] w fun e w' => e = .returned (.tuple #[.slice none 0 0, .int .i64 0, .int .i64 c]) ∧ Below w.heap.size w w' := by
  have e1 : (c != 0) = true := by simpa using hz
  have HR0 := Lib.hid hr0
  have HR1 := Lib.hid hr1
  clear hr0 hr1 hz
  go_enter Try.func13, Try.ntmps13
  go_wp2_with (fail)
  have b0 : Below w.heap.size w (w.alloc (Obj.cells #[Value.slice A1 l1.length c1] 23)) := (Below.refl _ _).alloc (Nat.le_refl _) _
  refine (punches_check.calls k _ _ _ _ _ _ _ _ (Kd.C_below HR0.out b0) hc0 (Kd.C_below HR1.out b0) hc1 hk).mono ?_
  rintro e w2 ⟨rfl, b1⟩
  have B1 := Lib.hid (b0.trans (b1.mono (by simp)))
  clear b0 b1
  go_wp2
  go_ret3
  exact ⟨rfl, B1.out⟩

theorem punches_Pair.calls (A0 : Option Addr) (c0 : Nat) (l0 : List (S48)) (A1 : Option Addr) (c1 : Nat) (l1 : List (S45)) (r1 : List (S57)) (r2 : Int) (r3 : Int) (w : World) (hr0 : Kd.C k48 w A0 l0.length l0) (hc0 : l0.length ≤ c0) (hr1 : Kd.C k45 w A1 l1.length l1) (hc1 : l1.length ≤ c1) (h : punches_Pair.f l0 l1 = some (r1, r2, r3)) :
    Calls Try.prog 13 #[.slice A0 l0.length c0, .slice A1 l1.length c1] w fun e w' => ∃ v0_ : Value, e = .returned (.tuple #[v0_, .int .i64 r2, .int .i64 r3]) ∧ Kd.R k57 57 w' w.heap.size (fun _ => True) v0_ r1 ∧ Below w.heap.size w w' := by
  unfold punches_Pair.f at h
  by_cases hu : Usable l0 l1
  · rw [if_pos hu] at h
    cases h
    refine (pair_walk A0 c0 l0 A1 c1 l1 w hr0 hc0 hr1 hc1 hu).mono ?_
    rintro e w' ⟨v0, he, hr, hb⟩
    exact ⟨v0, he, row57 hr, hb⟩
  · rw [if_neg hu] at h
    obtain ⟨c, hk, hc⟩ := Option.bind_eq_some_iff.1 h
    by_cases hz : c = 0
    · rw [if_pos hz] at hc; cases hc
    · rw [if_neg hz] at hc
      cases hc
      refine (pair_bad A0 c0 l0 A1 c1 l1 _ w hr0 hc0 hr1 hc1 hz 1000 hk).mono ?_
      rintro e w' ⟨he, hb⟩
      exact ⟨_, he, Kd.R_nil _ _ _ _ _, hb⟩
theorem pair_usable {l0 : List S48} {l1 : List S45} (h : Usable l0 l1) : punches_Pair.f l0 l1 = some (wk (marksOf l0) l1 0 0, tab (marksOf l0) l1 0 0, 0) := by
  unfold punches_Pair.f; rw [if_pos h]
theorem check_up {l0 : List S48} {l1 : List S45} {n : Nat} {c : Int} (h : punches_check.f n l0 l1 = some c) (m : Nat) : punches_check.f (n + m) l0 l1 = some c := by
  induction m with
  | zero => exact h
  | succ m ih => exact punches_check.mono l0 l1 (n + m) c ih
theorem pair_check {l0 : List S48} {l1 : List S45} (hu : ¬ Usable l0 l1) {k : Nat} {c : Int} (hz : c ≠ 0) (hk : punches_check.f k l0 l1 = some c) (h1 : k ≤ 1000) : punches_Pair.f l0 l1 = some ([], 0, c) := by
  unfold punches_Pair.f
  have := check_up hk (1000 - k)
  rw [show k + (1000 - k) = 1000 by omega] at this
  rw [if_neg hu, this]
  simp [hz]

theorem mkl_f0 : ∀ (l : List S48) (i : Nat), ∀ x ∈ mkl i l, ∃ d : Nat, x.f0 = d ∧ d < i + l.length
  | [], _ => by simp [mkl]
  | s :: r, i => by
    intro x hx
    simp only [mkl, List.mem_cons] at hx
    rcases hx with rfl | rfl | hx
    · exact ⟨i, rfl, by simp⟩
    · exact ⟨i, rfl, by simp⟩
    · obtain ⟨d, h1, h2⟩ := mkl_f0 r (i + 1) x hx
      exact ⟨d, h1, by simp; omega⟩
theorem al_in (l0 : List S48) (n : Nat) : ∀ (l : List S57) (i j : Nat), AlOk (marksOf l0) n i j l → ∀ m ∈ l, (m.f0 < 0 ∨ m.f2 < 0) ∨ ∃ d p : Nat, m.f0 = d ∧ m.f2 = p ∧ d < l0.length ∧ p < n
  | [], _, _, _ => by simp
  | m :: r, i, j, h => by
    intro x hx
    rcases List.mem_cons.1 hx with rfl | hx
    · rcases h with ⟨h1, h2, rfl, _⟩ | ⟨_, rfl, _⟩ | ⟨_, rfl, _⟩
      · obtain ⟨d, e, hd⟩ := mkl_f0 l0 0 (rd_T68 (marksOf l0) (i : Int)) (by rw [rd68_eq h1]; exact List.getElem_mem h1)
        exact .inr ⟨d, j, e, rfl, by omega, h2⟩
      · exact .inl (.inr (by simp))
      · exact .inl (.inl (by simp))
    · rcases h with ⟨_, _, _, h⟩ | ⟨_, _, h⟩ | ⟨_, _, h⟩
      · exact al_in l0 n r _ _ h x hx
      · exact al_in l0 n r _ _ h x hx
      · exact al_in l0 n r _ _ h x hx

/-- what Worked answers for an alignment -/
def punches_Worked.f (l0 : List (S48)) (l1 : List (S45)) (l2 : List (S57)) : Option ((List Int) × Int) :=
  if Usable l0 l1 ∧ AlOk (marksOf l0) l1.length 0 0 l2 ∧ l2.length ≤ 200 then some (workL l0 l1 l2, 0) else none
theorem punches_Worked.calls (A0 : Option Addr) (c0 : Nat) (l0 : List (S48)) (A1 : Option Addr) (c1 : Nat) (l1 : List (S45)) (A2 : Option Addr) (c2 : Nat) (l2 : List (S57)) (r1 : List Int) (r2 : Int) (w : World) (hr0 : Kd.C k48 w A0 l0.length l0) (hc0 : l0.length ≤ c0) (hr1 : Kd.C k45 w A1 l1.length l1) (hc1 : l1.length ≤ c1) (hr2 : Kd.C k57 w A2 l2.length l2) (hc2 : l2.length ≤ c2) (h : punches_Worked.f l0 l1 l2 = some (r1, r2)) :
    Calls Try.prog 15 #[.slice A0 l0.length c0, .slice A1 l1.length c1, .slice A2 l2.length c2] w fun e w' => ∃ v0_ : Value, e = .returned (.tuple #[v0_, .int .i64 r2]) ∧ Kd.R (Kd.int .i64) 3 w' w.heap.size (fun _ => True) v0_ r1 ∧ Below w.heap.size w w' := by
  unfold punches_Worked.f at h
  split at h
  · rename_i hx
    cases h
    exact worked_walk A0 c0 l0 A1 c1 l1 A2 c2 l2 w hr0 hc0 hr1 hc1 hr2 hc2 hx.1 hx.2.1 hx.2.2 (al_in l0 l1.length l2 0 0 hx.2.1)
  · cases h
theorem worked_usable {l0 : List S48} {l1 : List S45} {l2 : List S57} (h : Usable l0 l1) (ha : AlOk (marksOf l0) l1.length 0 0 l2) (hl : l2.length ≤ 200) : punches_Worked.f l0 l1 l2 = some (workL l0 l1 l2, 0) := by
  unfold punches_Worked.f; rw [if_pos ⟨h, ha, hl⟩]
end Go.Proofs.Ytpbamfoaoeicgaa.PAll

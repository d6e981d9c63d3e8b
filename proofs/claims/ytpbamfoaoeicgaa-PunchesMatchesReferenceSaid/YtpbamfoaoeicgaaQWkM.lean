/- Worked for any matches. -/
import Derived.Test.YtpbamfoaoeicgaaQGiven
import Derived.Test.YtpbamfoaoeicgaaQAlF
set_option linter.unusedVariables false
set_option linter.unusedSimpArgs false
namespace Go.Proofs.Ytpbamfoaoeicgaa.PAll
open Go Go.RowKit Go.Proofs.YtpbamfoaoeicgaaW.PrintWords Go.Proofs.YtpbamfoaoeicgaaW.PrintLast Go.Proofs.YtpbamfoaoeicgaaW.PrintMore

theorem pal_ok (l0 : List S48) (n : Nat) : ∀ (L : List S57) (i j : Nat), j ≤ n → (pal (marksOf l0) n i j L = true ↔ AlOk (marksOf l0) n i j L)
  | [], i, j, _ => by simp [pal, AlOk]
  | m :: r, i, j, hj => by
    have pos : ∀ i, i < (marksOf l0).length → 0 ≤ (rd_T68 (marksOf l0) (i : Int)).f0 := fun i h => mkl_pos l0 0 _ (by rw [rd68_eq h]; exact List.getElem_mem h)
    obtain ⟨m0, m1, m2⟩ := m
    unfold pal AlOk
    simp only [S57.mk.injEq]
    by_cases c0 : m0 = -1
    · rw [if_pos c0]
      constructor
      · intro h
        split at h
        · rename_i hc
          exact .inr (.inr ⟨by omega, ⟨c0, hc.1, hc.2.2.1⟩, (pal_ok l0 n r i (j + 1) (by omega)).1 h⟩)
        · cases h
      · rintro (⟨h1, h2, h3, h⟩ | ⟨h1, h3, h⟩ | ⟨h2, h3, h⟩)
        · have := pos i h1; omega
        · have := pos i h1; omega
        · rw [if_pos ⟨h3.2.1, by omega, h3.2.2, by omega⟩]; exact (pal_ok l0 n r i (j + 1) (by omega)).2 h
    · rw [if_neg c0]
      constructor
      · intro h
        split at h
        · rename_i hc
          split at h
          · rename_i h2
            exact .inr (.inl ⟨hc.1, ⟨hc.2.1.symm, hc.2.2.symm, h2⟩, (pal_ok l0 n r (i + 1) j hj).1 h⟩)
          · split at h
            · rename_i h2 h3
              exact .inl ⟨hc.1, by omega, ⟨hc.2.1.symm, hc.2.2.symm, h3.1⟩, (pal_ok l0 n r (i + 1) (j + 1) (by omega)).1 h⟩
            · cases h
        · cases h
      · rintro (⟨h1, h2, h3, h⟩ | ⟨h1, h3, h⟩ | ⟨h2, h3, h⟩)
        · rw [if_pos ⟨h1, h3.1.symm, h3.2.1.symm⟩, if_neg (by omega), if_pos ⟨h3.2.2, by omega⟩]; exact (pal_ok l0 n r (i + 1) (j + 1) (by omega)).2 h
        · rw [if_pos ⟨h1, h3.1.symm, h3.2.1.symm⟩, if_pos h3.2.2]; exact (pal_ok l0 n r (i + 1) j hj).2 h
        · exact absurd h3.1 c0
set_option maxRecDepth 100000 in
set_option maxHeartbeats 4000000 in
theorem worked_unal (A0 : Option Addr) (c0 : Nat) (l0 : List (S48)) (A1 : Option Addr) (c1 : Nat) (l1 : List (S45)) (A2 : Option Addr) (c2 : Nat) (l2 : List (S57)) (w : World) (hr0 : Kd.C k48 w A0 l0.length l0) (hc0 : l0.length ≤ c0) (hr1 : Kd.C k45 w A1 l1.length l1) (hc1 : l1.length ≤ c1) (hr2 : Kd.C k57 w A2 l2.length l2)
    (hu : Usable l0 l1) (hal : pal (marksOf l0) l1.length 0 0 l2 = false) (hll : l2.length ≤ 200) :
    Calls Try.prog 15 #[.slice A0 l0.length c0, .slice A1 l1.length c1, .slice A2 l2.length c2] w fun e w' => e = .returned (.tuple #[.slice none 0 0, .int .i64 1]) ∧ Below w.heap.size w w' := by
  have HR0 := Lib.hid hr0
  have HR1 := Lib.hid hr1
  have HR2 := Lib.hid hr2
  have HU := Lib.hid hu
  have HA := Lib.hid hal
  have hn24 := hu.1
  clear hr0 hr1 hr2 hu hal
  obtain ⟨k1, hk1⟩ := check_f l0 l1 HU.out
  obtain ⟨k2, hk2⟩ := marks_f l0 (by omega)
  have HK1 := Lib.hid hk1
  have HK2 := Lib.hid hk2
  clear hk1 hk2
  go_enter Try.func15, Try.ntmps15
  go_wp2_with (fail)
  refine (punches_check.calls k1 _ _ _ _ _ _ _ _ HR0.out hc0 HR1.out hc1 HK1.out).mono ?_
  rintro e w2 ⟨rfl, b1⟩
  have B1 := Lib.hid b1
  clear b1
  go_wp2_with (fail)
  refine (punches_marks.calls k2 _ _ _ _ _ (Kd.C_below HR0.out B1.out) hc0 HK2.out).mono ?_
  rintro e w3 ⟨v0, rfl, hm, b2⟩
  have B2 := Lib.hid (B1.out.trans (b2.mono B1.out.size))
  clear b2
  obtain ⟨al, cl, rfl⟩ := Kd.R_slice hm
  have HM := Lib.hid (Kd.R_reads' hm).2
  clear hm
  go_wp2_with (fail)
  refine (aligned_all al cl (marksOf l0) l1.length A2 c2 l2 w3 HM.out.2 (Kd.C_below HR2.out B2.out) (by unfold marksOf; rw [mkl_length]; omega) (by have := HU.out.2.1; omega) HM.out.1 hll).mono ?_
  rintro e w4 ⟨rfl, b3⟩
  have B3 := Lib.hid (B2.out.trans (b3.mono B2.out.size))
  clear b3
  rw [HA.out]
  go_wp2
  go_ret2
  exact ⟨rfl, B3.out⟩
set_option maxRecDepth 100000 in
theorem worked_bad (A0 : Option Addr) (c0 : Nat) (l0 : List (S48)) (A1 : Option Addr) (c1 : Nat) (l1 : List (S45)) (A2 : Option Addr) (c2 : Nat) (l2 : List (S57)) (c : Int) (w : World) (hr0 : Kd.C k48 w A0 l0.length l0) (hc0 : l0.length ≤ c0) (hr1 : Kd.C k45 w A1 l1.length l1) (hc1 : l1.length ≤ c1) (hz : c ≠ 0) (k : Nat) (hk : punches_check.f k l0 l1 = some c) :
    Calls Try.prog 15 #[.slice A0 l0.length c0, .slice A1 l1.length c1, .slice A2 l2.length c2] w fun e w' => e = .returned (.tuple #[.slice none 0 0, .int .i64 c]) ∧ Below w.heap.size w w' := by
  have e1 : (c != 0) = true := by simpa using hz
  have HR0 := Lib.hid hr0
  have HR1 := Lib.hid hr1
  clear hr0 hr1 hz
  go_enter Try.func15, Try.ntmps15
  go_wp2_with (fail)
  refine (punches_check.calls k _ _ _ _ _ _ _ _ HR0.out hc0 HR1.out hc1 hk).mono ?_
  rintro e w2 ⟨rfl, b1⟩
  have B1 := Lib.hid b1
  clear b1
  go_wp2
  go_ret2
  exact ⟨rfl, B1.out⟩

/-- what Worked answers -/
def punches_WorkedM.f (l0 : List (S48)) (l1 : List (S45)) (l2 : List (S57)) : Option ((List Int) × Int) :=
  if Usable l0 l1 then (if l2.length ≤ 200 then (if pal (marksOf l0) l1.length 0 0 l2 = true then some (workL l0 l1 l2, 0) else some ([], 1)) else none)
  else (punches_check.f 1000 l0 l1).bind fun c => if c = 0 then none else some ([], c)
theorem punches_WorkedM.calls (A0 : Option Addr) (c0 : Nat) (l0 : List (S48)) (A1 : Option Addr) (c1 : Nat) (l1 : List (S45)) (A2 : Option Addr) (c2 : Nat) (l2 : List (S57)) (r1 : List Int) (r2 : Int) (w : World) (hr0 : Kd.C k48 w A0 l0.length l0) (hc0 : l0.length ≤ c0) (hr1 : Kd.C k45 w A1 l1.length l1) (hc1 : l1.length ≤ c1) (hr2 : Kd.C k57 w A2 l2.length l2) (hc2 : l2.length ≤ c2) (h : punches_WorkedM.f l0 l1 l2 = some (r1, r2)) :
    Calls Try.prog 15 #[.slice A0 l0.length c0, .slice A1 l1.length c1, .slice A2 l2.length c2] w fun e w' => ∃ v0_ : Value, e = .returned (.tuple #[v0_, .int .i64 r2]) ∧ Kd.R (Kd.int .i64) 3 w' w.heap.size (fun _ => True) v0_ r1 ∧ Below w.heap.size w w' := by
  unfold punches_WorkedM.f at h
  by_cases hu : Usable l0 l1
  · rw [if_pos hu] at h
    by_cases hl : l2.length ≤ 200
    · rw [if_pos hl] at h
      by_cases hp : pal (marksOf l0) l1.length 0 0 l2 = true
      · rw [if_pos hp] at h
        cases h
        have ha := (pal_ok l0 l1.length l2 0 0 (by omega)).1 hp
        exact worked_walk A0 c0 l0 A1 c1 l1 A2 c2 l2 w hr0 hc0 hr1 hc1 hr2 hc2 hu ha hl (al_in l0 l1.length l2 0 0 ha)
      · rw [if_neg hp] at h
        cases h
        refine (worked_unal A0 c0 l0 A1 c1 l1 A2 c2 l2 w hr0 hc0 hr1 hc1 hr2 hu (by simpa using hp) hl).mono ?_
        rintro e w' ⟨he, hb⟩
        exact ⟨_, he, Kd.R_nil _ _ _ _ _, hb⟩
    · rw [if_neg hl] at h; cases h
  · rw [if_neg hu] at h
    obtain ⟨c, hk, hc⟩ := Option.bind_eq_some_iff.1 h
    by_cases hz : c = 0
    · rw [if_pos hz] at hc; cases hc
    · rw [if_neg hz] at hc
      cases hc
      refine (worked_bad A0 c0 l0 A1 c1 l1 A2 c2 l2 _ w hr0 hc0 hr1 hc1 hz 1000 hk).mono ?_
      rintro e w' ⟨he, hb⟩
      exact ⟨_, he, Kd.R_nil _ _ _ _ _, hb⟩
end Go.Proofs.Ytpbamfoaoeicgaa.PAll

/- The program's aligned: what it answers for any matches. -/
import Derived.Test.YtpbamfoaoeicgaaQAl
set_option linter.unusedVariables false
set_option linter.unusedSimpArgs false
namespace Go.Proofs.Ytpbamfoaoeicgaa.PAll
open Go Go.RowKit Go.Proofs.YtpbamfoaoeicgaaW.PrintWords Go.Proofs.YtpbamfoaoeicgaaW.PrintLast Go.Proofs.YtpbamfoaoeicgaaW.PrintMore
/-- what aligned answers from mark i and punch j on -/
def pal (ms : List S68) (n : Nat) : Nat → Nat → List S57 → Bool
  | i, j, [] => decide (i = ms.length) && decide (j = n)
  | i, j, m :: r =>
    if m.f0 = -1 then (if m.f1 = false ∧ m.f2 ≠ -1 ∧ m.f2 = j ∧ j ≠ n then pal ms n i (j + 1) r else false)
    else if i < ms.length ∧ (rd_T68 ms i).f0 = m.f0 ∧ (rd_T68 ms i).f1 = m.f1 then (if m.f2 = -1 then pal ms n (i + 1) j r else if m.f2 = j ∧ j ≠ n then pal ms n (i + 1) (j + 1) r else false)
    else false
set_option maxRecDepth 100000 in
set_option maxHeartbeats 16000000 in
theorem aligned_all (al : Option Addr) (cl : Nat) (ms : List S68) (n : Nat) (A2 : Option Addr) (c2 : Nat) (l2 : List S57) (w : World) (hr0 : Kd.C k68 w al ms.length ms) (hr2 : Kd.C k57 w A2 l2.length l2)
    (hm : ms.length ≤ 52) (hn : n ≤ 62) (hcl : ms.length ≤ cl) (hll : l2.length ≤ 200) :
    Calls Try.prog 31 #[.slice al ms.length cl, .int .i64 (n : Int), .slice A2 l2.length c2] w fun e w' => e = .returned (.bool (pal ms n 0 0 l2)) ∧ Below w.heap.size w w' := by
  have hu57 := Try.underlying57
  have HR0 := Lib.hid hr0
  have HR2 := Lib.hid hr2
  clear hr0 hr2
  go_enter Try.func31, Try.ntmps31
  go_wp2_with (fail)
  go_loopw [0, 7, 12] (fun s0 s7 s12 wr => ∃ i j k : Nat, ∃ X : Option Addr, s0 = .slice X (ms.length - i) (cl - i) ∧ s7 = .int .i64 (j : Int) ∧ s12 = .int .i64 (k : Int) ∧ k ≤ l2.length ∧ i ≤ ms.length ∧ j ≤ n ∧ Hid (i < ms.length → X = al.map (fun ad => ad.add (i * 3))) ∧ Hid (pal ms n 0 0 l2 = pal ms n i j (l2.drop k)) ∧ Hid (Below w.heap.size w wr)) (fun _ _ s12 _ => l2.length - (intOf s12).toNat)
  case atStart => exact ⟨0, 0, 0, al, rfl, rfl, rfl, by omega, by omega, by omega, Lib.hid (fun _ => by cases al <;> simp [Addr.add_zero']), Lib.hid rfl, Lib.hid (Below.refl _ _)⟩
  case round =>
    obtain ⟨i, j, k, X, rfl, rfl, rfl, hk, hi, hj, HX, HA, HB⟩ := hrel
    by_cases hlt : k < l2.length
    · have hd := HA.out
      rw [List.drop_eq_getElem_cons hlt] at hd
      have e57 : rd_T57 l2 (k : Int) = l2[k] := by simp [rd_T57, List.getD_eq_getElem?_getD, hlt]
      obtain ⟨ae, rfl, a1, a2, a3⟩ := at_T57 (Kd.C_below HR2.out HB.out) (k : Int) (by omega) (by omega)
      rw [Int.toNat_natCast, e57] at a1 a2 a3
      clear e57
      generalize l2[k] = m at *
      have hk1 : (k : Int) < (l2.length : Int) := by omega
      obtain ⟨m0, m1, m2⟩ := m
      simp only at a1 a2 a3
      by_cases c0 : m0 = -1
      · subst c0
        have t0 : ((-1 : Int) != -1) = false := rfl
        cases m1 with
        | true =>
            have HV := Lib.hid (show pal ms n 0 0 l2 = false by rw [hd, pal]; rw [if_pos rfl, if_neg (by simp)])
            clear hd HA
            go_wp2_with (fail)
            try (go_quiet (fail); go_wp2_with (fail))
            all_goals (go_ret; exact ⟨by rw [HV.out]; rfl, by first | exact HB.out.alloc HB.out.size _ | exact pw_below_drewN (HB.out.alloc HB.out.size _) _⟩)
        | false =>
          by_cases c2 : m2 = -1
          · subst c2
            have t2 : ((-1 : Int) == -1) = true := rfl
            have HV := Lib.hid (show pal ms n 0 0 l2 = false by rw [hd, pal]; rw [if_pos rfl, if_neg (by simp)])
            clear hd HA
            go_wp2_with (fail)
            try (go_quiet (fail); go_wp2_with (fail))
            all_goals (go_ret; exact ⟨by rw [HV.out]; rfl, by first | exact HB.out.alloc HB.out.size _ | exact pw_below_drewN (HB.out.alloc HB.out.size _) _⟩)
          · have t2 : (m2 == -1) = false := by simp <;> omega
            have t3 : (m2 != -1) = true := by simp <;> omega
            by_cases c3 : m2 = (j : Int)
            · subst c3
              have t4 : ((j : Int) != (j : Int)) = false := by simp
              by_cases c4 : j = n
              · have t5 : ((j : Int) == (n : Int)) = true := by simp <;> omega
                have c4' := Lib.hid c4
                clear c4
                have HV := Lib.hid (show pal ms n 0 0 l2 = false by rw [hd, pal]; rw [if_pos rfl, if_neg (fun h => h.2.2.2 c4'.out)])
                clear hd HA
                go_wp2_with (fail)
                try (go_quiet (fail); go_wp2_with (fail))
                all_goals (go_ret; exact ⟨by rw [HV.out]; rfl, by first | exact HB.out.alloc HB.out.size _ | exact pw_below_drewN (HB.out.alloc HB.out.size _) _⟩)
              · have t5 : ((j : Int) == (n : Int)) = false := by simp <;> omega
                have HV : pal ms n 0 0 l2 = pal ms n i (j + 1) (l2.drop (k + 1)) := by rw [hd, pal]; rw [if_pos rfl, if_pos ⟨rfl, c2, rfl, c4⟩]
                clear hd HA
                go_wp2_with (fail)
                try (go_quiet (fail); go_wp2_with (fail))
                go_roundw
                case rel => exact ⟨i, j + 1, k + 1, X, rfl, by simp, by simp, hlt, hi, by omega, HX, Lib.hid HV, Lib.hid (by first | exact HB.out.alloc HB.out.size _ | exact pw_below_drewN (HB.out.alloc HB.out.size _) _)⟩
                case measure => simp [intOf] <;> omega
            · have t4 : (m2 != (j : Int)) = true := by simp <;> omega
              have HV := Lib.hid (show pal ms n 0 0 l2 = false by rw [hd, pal]; rw [if_pos rfl, if_neg (fun h => c3 h.2.2.1)])
              clear hd HA
              go_wp2_with (fail)
              try (go_quiet (fail); go_wp2_with (fail))
              all_goals (go_ret; exact ⟨by rw [HV.out]; rfl, by first | exact HB.out.alloc HB.out.size _ | exact pw_below_drewN (HB.out.alloc HB.out.size _) _⟩)
      · have t0 : (m0 != -1) = true := by simp <;> omega
        obtain ⟨p, P1⟩ : ∃ p, Hid (ms.length - i = p) := ⟨_, Lib.hid rfl⟩
        obtain ⟨q, Q1⟩ : ∃ q, Hid (cl - i = q) := ⟨_, Lib.hid rfl⟩
        rw [P1.out, Q1.out]
        by_cases c1 : i < ms.length
        · obtain ⟨ad, rfl, b1, b2, b3⟩ := at_T68 (Kd.C_below HR0.out HB.out) (i : Int) (by omega) (by omega)
          have hx := HX.out c1
          simp only [Option.map_some] at hx
          subst hx
          rw [Int.toNat_natCast] at b1 b2
          generalize hX : rd_T68 ms (i : Int) = x at *
          obtain ⟨x0, x1, x2⟩ := x
          simp only at b1 b2
          have e2 : ((p : Int) == 0) = false := by have := P1.out; simp <;> omega
          have g1 : (0 : Int) < (p : Int) := by have := P1.out; omega
          have g2 : (1 : Int) ≤ (p : Int) := by omega
          have g3 : 1 ≤ p := by omega
          have g6 : 0 < p := by omega
          have g4 : 1 ≤ q := by have := P1.out; have := Q1.out; omega
          have g5 : p ≤ q := by have := P1.out; have := Q1.out; omega
          have t1 := World.block_lt_of_cell? wr _ b1
          have ne : (ad.add (i * 3)).block ≠ wr.heap.size := by omega
          have b1' := (Below.alloc (Below.refl wr.heap.size wr) (Nat.le_refl _) (Obj.cells #[Value.int .i64 m0, Value.bool m1, Value.int .i64 m2] 57)).cell (p := ad.add (i * 3)) t1
          rw [b1] at b1'
          have b2' := (Below.alloc (Below.refl wr.heap.size wr) (Nat.le_refl _) (Obj.cells #[Value.int .i64 m0, Value.bool m1, Value.int .i64 m2] 57)).cell (p := ⟨(ad.add (i * 3)).block, (ad.add (i * 3)).off + 1, none⟩) t1
          rw [b2] at b2'
          by_cases c2 : x0 = m0
          · subst c2
            have v1 : (x0 != x0) = false := by simp
            by_cases c3 : x1 = m1
            · subst c3
              have v2 : (x1 != x1) = false := by simp
              by_cases c4 : m2 = -1
              · subst c4
                have t3 : ((-1 : Int) != -1) = false := rfl
                have HV : pal ms n 0 0 l2 = pal ms n (i + 1) j (l2.drop (k + 1)) := by rw [hd, pal]; rw [if_neg c0, hX, if_pos ⟨c1, rfl, rfl⟩]; rw [if_pos rfl]
                clear hd HA
                go_wp2_with (fail)
                try (go_quiet (fail); go_wp2_with (fail))
                go_roundw
                case rel => exact ⟨i + 1, j, k + 1, _, by rw [← P1.out, ← Q1.out]; congr 1 <;> omega, by simp, by simp, hlt, c1, hj, Lib.hid (next_addr ad i p q cl ms.length Q1.out P1.out hcl), Lib.hid HV, Lib.hid (pw_below_drewN (HB.out.alloc HB.out.size _) _)⟩
                case measure => simp [intOf] <;> omega
              · have t3 : (m2 != -1) = true := by simp <;> omega
                by_cases c5 : m2 = (j : Int)
                · subst c5
                  have t4 : ((j : Int) != (j : Int)) = false := by simp
                  by_cases c6 : j = n
                  · have t5 : ((j : Int) == (n : Int)) = true := by simp <;> omega
                    have c6' := Lib.hid c6
                    clear c6
                    have HV := Lib.hid (show pal ms n 0 0 l2 = false by rw [hd, pal]; rw [if_neg c0, hX, if_pos ⟨c1, rfl, rfl⟩]; rw [if_neg c4, if_neg (fun h => h.2 c6'.out)])
                    clear hd HA
                    go_wp2_with (fail)
                    try (go_quiet (fail); go_wp2_with (fail))
                    all_goals (go_ret; exact ⟨by rw [HV.out]; rfl, by first | exact HB.out.alloc HB.out.size _ | exact pw_below_drewN (HB.out.alloc HB.out.size _) _⟩)
                  · have t5 : ((j : Int) == (n : Int)) = false := by simp <;> omega
                    have HV : pal ms n 0 0 l2 = pal ms n (i + 1) (j + 1) (l2.drop (k + 1)) := by rw [hd, pal]; rw [if_neg c0, hX, if_pos ⟨c1, rfl, rfl⟩]; rw [if_neg c4, if_pos ⟨rfl, c6⟩]
                    clear hd HA
                    go_wp2_with (fail)
                    try (go_quiet (fail); go_wp2_with (fail))
                    go_roundw
                    case rel => exact ⟨i + 1, j + 1, k + 1, _, by rw [← P1.out, ← Q1.out]; congr 1 <;> omega, by simp, by simp, hlt, c1, by omega, Lib.hid (next_addr ad i p q cl ms.length Q1.out P1.out hcl), Lib.hid HV, Lib.hid (pw_below_drewN (HB.out.alloc HB.out.size _) _)⟩
                    case measure => simp [intOf] <;> omega
                · have t4 : (m2 != (j : Int)) = true := by simp <;> omega
                  have HV := Lib.hid (show pal ms n 0 0 l2 = false by rw [hd, pal]; rw [if_neg c0, hX, if_pos ⟨c1, rfl, rfl⟩]; rw [if_neg c4, if_neg (fun h => c5 h.1)])
                  clear hd HA
                  go_wp2_with (fail)
                  try (go_quiet (fail); go_wp2_with (fail))
                  all_goals (go_ret; exact ⟨by rw [HV.out]; rfl, by first | exact HB.out.alloc HB.out.size _ | exact pw_below_drewN (HB.out.alloc HB.out.size _) _⟩)
            · have HV := Lib.hid (show pal ms n 0 0 l2 = false by rw [hd, pal]; rw [if_neg c0, hX, if_neg (fun h => c3 h.2.2)])
              clear hd HA
              obtain ⟨h1, h2⟩ | ⟨h1, h2⟩ : (x1 = true ∧ m1 = false) ∨ (x1 = false ∧ m1 = true) := by revert c3; cases x1 <;> cases m1 <;> simp
              · subst h1 h2
                clear c3
                go_wp2_with (fail)
                try (go_quiet (fail); go_wp2_with (fail))
                all_goals (go_ret; exact ⟨by rw [HV.out]; rfl, by first | exact HB.out.alloc HB.out.size _ | exact pw_below_drewN (HB.out.alloc HB.out.size _) _⟩)
              · subst h1 h2
                clear c3
                go_wp2_with (fail)
                try (go_quiet (fail); go_wp2_with (fail))
                all_goals (go_ret; exact ⟨by rw [HV.out]; rfl, by first | exact HB.out.alloc HB.out.size _ | exact pw_below_drewN (HB.out.alloc HB.out.size _) _⟩)
          · have v1 : (x0 != m0) = true := by simpa using c2
            have HV := Lib.hid (show pal ms n 0 0 l2 = false by rw [hd, pal]; rw [if_neg c0, hX, if_neg (fun h => c2 h.2.1)])
            clear hd HA
            go_wp2_with (fail)
            try (go_quiet (fail); go_wp2_with (fail))
            all_goals (go_ret; exact ⟨by rw [HV.out]; rfl, by first | exact HB.out.alloc HB.out.size _ | exact pw_below_drewN (HB.out.alloc HB.out.size _) _⟩)
        · have e2 : ((p : Int) == 0) = true := by have := P1.out; simp <;> omega
          have HV := Lib.hid (show pal ms n 0 0 l2 = false by rw [hd, pal]; rw [if_neg c0, if_neg (fun h => c1 h.1)])
          clear hd HA
          go_wp2_with (fail)
          try (go_quiet (fail); go_wp2_with (fail))
          all_goals (go_ret; exact ⟨by rw [HV.out]; rfl, by first | exact HB.out.alloc HB.out.size _ | exact pw_below_drewN (HB.out.alloc HB.out.size _) _⟩)
    · have hd := HA.out
      rw [List.drop_eq_nil_of_le (by omega), pal] at hd
      clear HA
      obtain ⟨p, P1⟩ : ∃ p, Hid (ms.length - i = p) := ⟨_, Lib.hid rfl⟩
      rw [P1.out]
      have hlf : decide ((k : Int) < (l2.length : Int)) = false := decide_eq_false (by omega)
      by_cases q1 : i = ms.length
      · have e2 : ((p : Int) == 0) = true := by have := P1.out; simp <;> omega
        by_cases q2 : j = n
        · have e3 : ((j : Int) == (n : Int)) = true := by simp <;> omega
          rw [decide_eq_true q1, decide_eq_true q2] at hd
          have q1' := Lib.hid q1
          have q2' := Lib.hid q2
          have HV := Lib.hid hd
          clear q1 q2 hd
          go_wp2_with (fail)
          repeat (go_quiet (fail); try go_wp2_with (fail))
          go_ret
          exact ⟨by rw [HV.out]; rfl, by first | exact HB.out | exact pw_below_drewN HB.out _⟩
        · have e3 : ((j : Int) == (n : Int)) = false := by simp <;> omega
          rw [decide_eq_true q1, decide_eq_false q2] at hd
          have q1' := Lib.hid q1
          have HV := Lib.hid hd
          clear q1 hd
          go_wp2_with (fail)
          repeat (go_quiet (fail); try go_wp2_with (fail))
          go_ret
          exact ⟨by rw [HV.out]; rfl, by first | exact HB.out | exact pw_below_drewN HB.out _⟩
      · have e2 : ((p : Int) == 0) = false := by have := P1.out; simp <;> omega
        rw [decide_eq_false q1] at hd
        have HV := Lib.hid hd
        clear hd
        go_wp2_with (fail)
        repeat (go_quiet (fail); try go_wp2_with (fail))
        go_ret
        exact ⟨by rw [HV.out]; rfl, by first | exact HB.out | exact pw_below_drewN HB.out _⟩
end Go.Proofs.Ytpbamfoaoeicgaa.PAll

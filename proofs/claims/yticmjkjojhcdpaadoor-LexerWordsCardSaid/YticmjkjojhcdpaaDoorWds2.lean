/- The law on words: the walk. -/
import Derived.Test.YticmjkjojhcdpaaDoorWdsPure
import Derived.OpenShut
set_option linter.unusedVariables false
set_option linter.unusedSimpArgs false
namespace Go.Proofs.YticmjkjojhcdpaaDoor.PAll
open Go Go.RowKit Go.Proofs.YticmjkjojhcdpaaDoor.Lx Go.Proofs.YticmjkjojhcdpaaDoorW.PrintWords Go.Proofs.YticmjkjojhcdpaaDoorW.PrintLast Go.Proofs.YticmjkjojhcdpaaDoorW.PrintMore

theorem conv1 (W : World) (v : Int) : (convert 33 9 (.slice (some ⟨W.heap.size, 0, none⟩) 1 1)).run Tryd.prog (W.alloc (.cells #[.int .u8 v] 5)) = .ok (.string (strOfNums [v])) (W.alloc (.cells #[.int .u8 v] 5)) :=
  string_of_reads Tryd.underlying33 Tryd.underlying5 Tryd.underlying9 ⟨rfl, by decide, fun _ => ⟨_, rfl, fun j hj => by
    obtain rfl : j = 0 := by omega
    simp [Addr.add]⟩⟩
theorem conv2 (W : World) (o : Obj) (v : Int) : (convert 33 9 (.slice (some ⟨W.heap.size + 1, 0, none⟩) 1 1)).run Tryd.prog ((W.alloc o).alloc (.cells #[.int .u8 v] 5)) = .ok (.string (strOfNums [v])) ((W.alloc o).alloc (.cells #[.int .u8 v] 5)) := by
  have := conv1 (W.alloc o) v; rwa [World.size_alloc] at this
theorem conv3 (W : World) (o o' : Obj) (v : Int) : (convert 33 9 (.slice (some ⟨W.heap.size + 1 + 1, 0, none⟩) 1 1)).run Tryd.prog (((W.alloc o).alloc o').alloc (.cells #[.int .u8 v] 5)) = .ok (.string (strOfNums [v])) (((W.alloc o).alloc o').alloc (.cells #[.int .u8 v] 5)) := by
  have := conv2 (W.alloc o) o' v; rwa [World.size_alloc] at this
set_option maxRecDepth 100000 in
set_option maxHeartbeats 4000000 in
theorem Words_calls (n c : Int) (hn : 0 ≤ n ∧ n ≤ 255) (hc : 0 ≤ c ∧ c ≤ 255) (w : World) (hG : Glob w) :
    Calls Tryd.prog 9 #[.int .u8 n, .int .u8 c] w fun e w' => e = .returned (.bool true) ∧ Below w.heap.size w w' := by
  have HG := Lib.hid hG
  clear hG
  obtain ⟨N, rfl⟩ : ∃ N : Nat, n = N := ⟨n.toNat, by omega⟩
  obtain ⟨hn0, hn1⟩ := hn
  obtain ⟨hc0, hc1⟩ := hc
  have kc := conv1
  have kc2 := conv2
  have kc3 := conv3
  go_enter Tryd.func9, Tryd.ntmps9
  by_cases h0 : N = 0
  · subst h0
    go_wp2_with (fail)
    refine (head_calls w HG.out).mono ?_
    rintro e w1 ⟨rfl, hB⟩
    go_wp2
    go_ret
    exact ⟨rfl, hB⟩
  · have t0 : ((N : Int) == 0) = false := by simpa using h0
    have hp := Lib.hid (Nat.pos_of_ne_zero h0)
    clear h0
    go_wp2_with (fail)
    refine (head_calls w HG.out).mono ?_
    rintro e w1 ⟨rfl, hB⟩
    go_wp2_with (fail)
    go_loopw [7, 8, 9, 10] (fun v7 v8 v9 v10 wr => ∃ i : Nat, i ≤ N ∧ v10 = .int .i64 i ∧ v7 = .string (rep i (97 + c % 26)) ∧ v8 = .string (rep i (65 + c % 26)) ∧ v9 = .string (rep i (49 + c % 9)) ∧ Below w.heap.size w wr)
      (fun _ _ _ v10 _ => N - (intOf v10).toNat)
    case atStart => exact ⟨0, Nat.zero_le _, rfl, rfl, rfl, rfl, hB⟩
    case round =>
      obtain ⟨i, hi, rfl, rfl, rfl, rfl, hBr⟩ := hrel
      by_cases hlt : i < N
      · have s1 := rep_size i (97 + c % 26)
        have s2 := rep_size i (65 + c % 26)
        have s3 := rep_size i (49 + c % 9)
        have f1 : (strOfNums [97 + c % 26]).size = 1 := by simp [strOfNums, ByteArray.size]
        have f2 : (strOfNums [65 + c % 26]).size = 1 := by simp [strOfNums, ByteArray.size]
        have f3 : (strOfNums [49 + c % 9]).size = 1 := by simp [strOfNums, ByteArray.size]
        go_wp2
        refine ⟨⟨i + 1, by omega, by go_num, by rw [rep_succ], by rw [rep_succ], by rw [rep_succ], ?_⟩, by simp [intOf]; omega⟩
        exact ((hBr.alloc hBr.size _).alloc (by have := hBr.size; simp; omega) _).alloc (by have := hBr.size; simp; omega) _
      · clear kc kc2 kc3
        have hge : N ≤ i := by omega
        clear hlt
        obtain rfl : i = N := by omega
        clear hi hge
        have Y1 := Lib.hid (yes_lower i hp.out (by omega) c hc0)
        have Y2 := Lib.hid (yes_upper i hp.out (by omega) c hc0)
        have Y3 := Lib.hid (yes_digit i hp.out (by omega) c hc0)
        have Y4 := Lib.hid (yes_zero i hp.out (by omega) c hc0)
        have hsz : (⟨#[48]⟩ : ByteArray).size + (rep i (49 + c % 9)).size ≤ 9223372036854775807 := by rw [rep_size]; show 1 + i ≤ _; omega
        have HB := Lib.hid hBr
        clear hBr hB
        go_wp2_with (fail)
        refine (Y1.out _ (HG.out.below HB.out)).mono ?_
        rintro e w2 ⟨rfl, hB2⟩
        have HB2 := Lib.hid (below_step HB.out hB2)
        clear hB2
        go_wp2_with (fail)
        refine (Y2.out _ (HG.out.below HB2.out)).mono ?_
        rintro e w3 ⟨rfl, hB3⟩
        have HB3 := Lib.hid (below_step HB2.out hB3)
        clear hB3
        go_wp2_with (fail)
        refine (Y3.out _ (HG.out.below HB3.out)).mono ?_
        rintro e w4 ⟨rfl, hB4⟩
        have HB4 := Lib.hid (below_step HB3.out hB4)
        clear hB4
        go_wp2_with (fail)
        refine (Y4.out _ (HG.out.below HB4.out)).mono ?_
        rintro e w5 ⟨rfl, hB5⟩
        have HB5 := Lib.hid (below_step HB4.out hB5)
        clear hB5
        go_wp2
        go_ret
        exact ⟨rfl, HB5.out⟩
theorem Words_walk (a0 a1 : Int) (w : World) (hG : Glob w) (w0 : (Lit.int .u8 a0).wf = true) (w1 : (Lit.int .u8 a1).wf = true) :
    Calls Tryd.prog 9 #[.int .u8 a0, .int .u8 a1] w fun e w' => e = .returned (.bool true) ∧ Below w.heap.size w w' :=
  Words_calls a0 a1 (bounds_u8 w0) (bounds_u8 w1) w hG
end Go.Proofs.YticmjkjojhcdpaaDoor.PAll

/- aligned, where the matches are an alignment. -/
import Derived.Test.YtpbamfoaoeicgaaPair
set_option linter.unusedVariables false
set_option linter.unusedSimpArgs false
namespace Go.Proofs.Ytpbamfoaoeicgaa.PAll
open Go Go.RowKit Go.Proofs.YtpbamfoaoeicgaaW.PrintWords Go.Proofs.YtpbamfoaoeicgaaW.PrintLast Go.Proofs.YtpbamfoaoeicgaaW.PrintMore

/-- the matches are an alignment of the marks from i on and the punches from j on -/
def AlOk (ms : List S68) (n : Nat) : Nat → Nat → List S57 → Prop
  | i, j, [] => i = ms.length ∧ j = n
  | i, j, m :: r =>
    (i < ms.length ∧ j < n ∧ m = ⟨(rd_T68 ms i).f0, (rd_T68 ms i).f1, j⟩ ∧ AlOk ms n (i + 1) (j + 1) r) ∨
    (i < ms.length ∧ m = ⟨(rd_T68 ms i).f0, (rd_T68 ms i).f1, -1⟩ ∧ AlOk ms n (i + 1) j r) ∨
    (j < n ∧ m = ⟨-1, false, j⟩ ∧ AlOk ms n i (j + 1) r)

theorem add_three (ad : Addr) (a : Nat) : (⟨(ad.add a).block, (ad.add a).off + 3, none⟩ : Addr) = ad.add (a + 3) := by
  unfold Addr.add; by_cases h : a = 0 <;> simp [h]; omega
theorem next_addr (ad : Addr) (i p q cl n : Nat) (hq : cl - i = q) (hp : n - i = p) (hn : n ≤ cl) (h : i + 1 < n) : (if q = 1 then some (ad.add (i * 3)) else some (⟨(ad.add (i * 3)).block, (ad.add (i * 3)).off + 3, none⟩ : Addr)) = Option.map (fun ad : Addr => ad.add ((i + 1) * 3)) (some ad) := by
  rw [if_neg (by omega), add_three]; simp only [Option.map_some, Nat.add_mul, Nat.one_mul]

set_option maxRecDepth 100000 in
set_option maxHeartbeats 4000000 in
theorem aligned_true (al : Option Addr) (cl : Nat) (ms : List S68) (n : Nat) (A2 : Option Addr) (c2 : Nat) (l2 : List S57) (w : World) (hr0 : Kd.C k68 w al ms.length ms) (hr2 : Kd.C k57 w A2 l2.length l2)
    (hpos : ∀ x ∈ ms, 0 ≤ x.f0) (hm : ms.length ≤ 48) (hn : n ≤ 60) (hcl : ms.length ≤ cl) (hll : l2.length ≤ 200) (hal : AlOk ms n 0 0 l2) :
    Calls Try.prog 31 #[.slice al ms.length cl, .int .i64 (n : Int), .slice A2 l2.length c2] w fun e w' => e = .returned (.bool true) ∧ Below w.heap.size w w' := by
  have hu57 := Try.underlying57
  have HR0 := Lib.hid hr0
  have HR2 := Lib.hid hr2
  have HP := Lib.hid hpos
  have HAL := Lib.hid hal
  clear hr0 hr2 hpos hal
  go_enter Try.func31, Try.ntmps31
  go_wp2_with (fail)
  go_loopw [0, 7, 12] (fun s0 s7 s12 wr => ∃ i j k : Nat, ∃ X : Option Addr, s0 = .slice X (ms.length - i) (cl - i) ∧ s7 = .int .i64 (j : Int) ∧ s12 = .int .i64 (k : Int) ∧ k ≤ l2.length ∧ i ≤ ms.length ∧ j ≤ n ∧ Hid (i < ms.length → X = al.map (fun ad => ad.add (i * 3))) ∧ Hid (AlOk ms n i j (l2.drop k)) ∧ Hid (Below w.heap.size w wr)) (fun _ _ s12 _ => l2.length - (intOf s12).toNat)
  case atStart => exact ⟨0, 0, 0, al, rfl, rfl, rfl, by omega, by omega, by omega, Lib.hid (fun _ => by cases al <;> simp [Addr.add_zero']), Lib.hid HAL.out, Lib.hid (Below.refl _ _)⟩
  case round =>
    obtain ⟨i, j, k, X, rfl, rfl, rfl, hk, hi, hj, HX, HA, HB⟩ := hrel
    by_cases hlt : k < l2.length
    · have hd := HA.out
      rw [List.drop_eq_getElem_cons hlt] at hd
      have e57 : rd_T57 l2 (k : Int) = l2[k] := by simp [rd_T57, List.getD_eq_getElem?_getD, hlt]
      obtain ⟨ae, rfl, a1, a2, a3⟩ := at_T57 (Kd.C_below HR2.out HB.out) (k : Int) (by omega) (by omega)
      rw [Int.toNat_natCast, e57] at a1 a2 a3
      clear e57
      generalize l2[k] = m at *
      have hk1 : (k : Int) < (l2.length : Int) := by omega
      rcases hd with ⟨h1, h2, rfl, h3⟩ | ⟨h1, rfl, h3⟩ | ⟨h2, rfl, h3⟩
      · have e3 : ((j : Int) != -1) = true := by simp <;> omega
        have e4 : ((j : Int) == (n : Int)) = false := by simp <;> omega
        obtain ⟨ad, rfl, b1, b2, b3⟩ := at_T68 (Kd.C_below HR0.out HB.out) (i : Int) (by omega) (by omega)
        have hx := HX.out h1
        simp only [Option.map_some] at hx
        subst hx
        rw [Int.toNat_natCast] at b1 b2
        have hp := HP.out _ (show rd_T68 ms (i : Int) ∈ ms by rw [rd68_eq h1]; exact List.getElem_mem h1)
        generalize rd_T68 ms (i : Int) = x at *
        have e1 : (x.f0 != -1) = true := by simp <;> omega
        obtain ⟨p, P1⟩ : ∃ p, Hid (ms.length - i = p) := ⟨_, Lib.hid rfl⟩
        obtain ⟨q, Q1⟩ : ∃ q, Hid (cl - i = q) := ⟨_, Lib.hid rfl⟩
        rw [P1.out, Q1.out]
        have e2 : ((p : Int) == 0) = false := by have := P1.out; simp <;> omega
        have l1 : (0 : Int) < (p : Int) := by have := P1.out; omega
        have l2' : (1 : Int) ≤ (p : Int) := by omega
        have l3 : 1 ≤ p := by omega
        have l6 : 0 < p := by omega
        have t1 := World.block_lt_of_cell? wr _ b1
        have t2 : (ad.add (i * 3)).block ≠ wr.heap.size := by omega
        have b1' := (Below.alloc (Below.refl wr.heap.size wr) (Nat.le_refl _) (Obj.cells #[Value.int .i64 x.f0, Value.bool x.f1, Value.int .i64 j] 57)).cell (p := ad.add (i * 3)) t1
        rw [b1] at b1'
        have b2' := (Below.alloc (Below.refl wr.heap.size wr) (Nat.le_refl _) (Obj.cells #[Value.int .i64 x.f0, Value.bool x.f1, Value.int .i64 j] 57)).cell (p := ⟨(ad.add (i * 3)).block, (ad.add (i * 3)).off + 1, none⟩) t1
        rw [b2] at b2'
        have l4 : 1 ≤ q := by have := P1.out; have := Q1.out; omega
        have l5 : p ≤ q := by have := P1.out; have := Q1.out; omega
        have H3 := Lib.hid h3
        clear h3
        go_wp2_with (fail)
        go_quiet (fail)
        go_wp2_with (fail)
        go_roundw
        case rel => exact ⟨i + 1, j + 1, k + 1, _, by rw [← P1.out, ← Q1.out]; congr 1 <;> omega, by simp, by simp, hlt, h1, h2, Lib.hid (next_addr ad i p q cl ms.length Q1.out P1.out hcl), Lib.hid H3.out, Lib.hid (pw_below_drewN (HB.out.alloc HB.out.size _) _)⟩
        case measure => simp [intOf] <;> omega
      · obtain ⟨ad, rfl, b1, b2, b3⟩ := at_T68 (Kd.C_below HR0.out HB.out) (i : Int) (by omega) (by omega)
        have hx := HX.out h1
        simp only [Option.map_some] at hx
        subst hx
        rw [Int.toNat_natCast] at b1 b2
        have hp := HP.out _ (show rd_T68 ms (i : Int) ∈ ms by rw [rd68_eq h1]; exact List.getElem_mem h1)
        generalize rd_T68 ms (i : Int) = x at *
        have e1 : (x.f0 != -1) = true := by simp <;> omega
        obtain ⟨p, P1⟩ : ∃ p, Hid (ms.length - i = p) := ⟨_, Lib.hid rfl⟩
        obtain ⟨q, Q1⟩ : ∃ q, Hid (cl - i = q) := ⟨_, Lib.hid rfl⟩
        rw [P1.out, Q1.out]
        have e2 : ((p : Int) == 0) = false := by have := P1.out; simp <;> omega
        have l1 : (0 : Int) < (p : Int) := by have := P1.out; omega
        have l2' : (1 : Int) ≤ (p : Int) := by omega
        have l3 : 1 ≤ p := by omega
        have l6 : 0 < p := by omega
        have t1 := World.block_lt_of_cell? wr _ b1
        have t2 : (ad.add (i * 3)).block ≠ wr.heap.size := by omega
        have b1' := (Below.alloc (Below.refl wr.heap.size wr) (Nat.le_refl _) (Obj.cells #[Value.int .i64 x.f0, Value.bool x.f1, Value.int .i64 (-1)] 57)).cell (p := ad.add (i * 3)) t1
        rw [b1] at b1'
        have b2' := (Below.alloc (Below.refl wr.heap.size wr) (Nat.le_refl _) (Obj.cells #[Value.int .i64 x.f0, Value.bool x.f1, Value.int .i64 (-1)] 57)).cell (p := ⟨(ad.add (i * 3)).block, (ad.add (i * 3)).off + 1, none⟩) t1
        rw [b2] at b2'
        have l4 : 1 ≤ q := by have := P1.out; have := Q1.out; omega
        have l5 : p ≤ q := by have := P1.out; have := Q1.out; omega
        have H3 := Lib.hid h3
        clear h3
        go_wp2_with (fail)
        go_quiet (fail)
        go_wp2_with (fail)
        go_roundw
        case rel => exact ⟨i + 1, j, k + 1, _, by rw [← P1.out, ← Q1.out]; congr 1 <;> omega, by simp, by simp, hlt, h1, hj, Lib.hid (next_addr ad i p q cl ms.length Q1.out P1.out hcl), Lib.hid H3.out, Lib.hid (pw_below_drewN (HB.out.alloc HB.out.size _) _)⟩
        case measure => simp [intOf] <;> omega
      · have e3 : ((j : Int) != -1) = true := by simp <;> omega
        have e4 : ((j : Int) == (n : Int)) = false := by simp <;> omega
        have e5 : ((j : Int) == -1) = false := by simp <;> omega
        have H3 := Lib.hid h3
        clear h3
        go_wp2_with (fail)
        go_roundw
        case rel => exact ⟨i, j + 1, k + 1, X, rfl, by simp, by simp, hlt, hi, h2, HX, H3, Lib.hid (HB.out.alloc HB.out.size _)⟩
        case measure => simp [intOf] <;> omega
    · have hd := HA.out
      rw [List.drop_eq_nil_of_le (by omega)] at hd
      obtain ⟨rfl, rfl⟩ := hd
      have hz : ms.length - ms.length = 0 := by omega
      rw [hz]
      go_wp2
      go_ret
      exact ⟨rfl, HB.out⟩
end Go.Proofs.Ytpbamfoaoeicgaa.PAll

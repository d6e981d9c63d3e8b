/- The walk of the law on what lies outside: it returns true at every input. -/
import Derived.Test.YtkpjmhomgifdbaaDoorSums
namespace Go.Proofs.YtkpjmhomgifdbaaDoor
open Go Go.RowKit

theorem Add_no (w0 : World) (a b : Int) (h : elB a = false ∨ elB b = false) (w : World) (hs : St w0 w) :
    Calls Tryd.prog 14 #[.int .i64 a, .int .i64 b] w fun en W' => en = .returned (.tuple #[.int .i64 0, .int .i64 1]) ∧ St w0 W' := by
  have hn : ¬ (elB a = true ∧ elB b = true) := by rcases h with h | h <;> simp [h]
  exact Add_eq w0 a b 0 1 (by unfold addV; rw [if_neg hn]) (by unfold addE; rw [if_neg hn]) w hs

/-- the five numbers that are no elements -/
def five (o nx px : Int) : List Int := [o, 0, 2147483579, nx, px]
theorem five_no {o nx px : Int} (h1 : elB o = false) (h2 : elB nx = false) (h3 : elB px = false) (k : Nat) (hk : k < 5) : elB ((five o nx px).getD k 0) = false := by
  have h4 : elB 2147483579 = false := by unfold elB powS; rw [if_neg (by omega)]; rfl
  match k, hk with
  | 0, _ => exact h1
  | 1, _ => exact el0
  | 2, _ => exact h4
  | 3, _ => exact h2
  | 4, _ => exact h3

theorem five_cells (o nx px : Int) (w : World) (k : Nat) (hk : k < 5) :
    (w.alloc (.cells #[.int .i64 o, .int .i64 0, .int .i64 2147483579, .int .i64 nx, .int .i64 px] 3)).cell? ⟨w.heap.size, k, none⟩ = some (.int .i64 ((five o nx px).getD k 0)) := by
  have h := World.alloc_heap_new w (.cells #[.int .i64 o, .int .i64 0, .int .i64 2147483579, .int .i64 nx, .int .i64 px] 3)
  match k, hk with
  | 0, _ => unfold World.cell?; rw [h]; rfl
  | 1, _ => unfold World.cell?; rw [h]; rfl
  | 2, _ => unfold World.cell?; rw [h]; rfl
  | 3, _ => unfold World.cell?; rw [h]; rfl
  | 4, _ => unfold World.cell?; rw [h]; rfl
theorem St.below_base {w0 w1 w : World} (h : St w0 w1) (h2 : St w1 w) : St w0 w := ⟨h2.1, h.2.trans (h2.2.mono h.2.size)⟩

set_option maxRecDepth 100000 in
set_option maxHeartbeats 2000000 in
theorem Outside_core (n v : Int) (w0 : World) (st0 : St w0 w0) (b x : Nat) (o nx px : Int) (hn : (n < 0 ∧ decide (n < 0) = true) ∨ (1073741789 ≤ n ∧ decide (n < 0) = false ∧ decide (1073741789 ≤ n) = true) ∨ (decide (n < 0) = false ∧ decide (1073741789 ≤ n) = false))
    (r1 : wrap64 (2147483579 - (x : Int)) = o) (r2 : wrap64 (-(x : Int)) = nx) (r3 : wrap64 ((x : Int) + 2147483579) = px)
    (K0 : Hid (∀ W, St w0 W → Calls Tryd.prog 9 #[] W fun en W' => en = .returned (.bool true) ∧ St w0 W'))
    (J1 : Hid (∀ W, St w0 W → Calls Tryd.prog 10 #[.int .i64 v, .int .i64 1073741789] W fun en W' => en = .returned (.int .i64 (b : Int)) ∧ St w0 W'))
    (C1 : Hid (∀ W, St w0 W → Calls Tryd.prog 12 #[.int .i64 (b : Int), .int .i64 1] W fun en W' => en = .returned (.tuple #[.int .i64 (x : Int), .int .i64 0]) ∧ St w0 W'))
    (five1 : Hid (∀ w1 k, k < 5 → ∀ W, St w1 W → Calls Tryd.prog 14 #[.int .i64 ((five o nx px).getD k 0), .int .i64 (x : Int)] W fun en W' => en = .returned (.tuple #[.int .i64 0, .int .i64 1]) ∧ St w1 W'))
    (five2 : Hid (∀ w1 k, k < 5 → ∀ W, St w1 W → Calls Tryd.prog 14 #[.int .i64 (x : Int), .int .i64 ((five o nx px).getD k 0)] W fun en W' => en = .returned (.tuple #[.int .i64 0, .int .i64 1]) ∧ St w1 W'))
    (C2 : Hid (∀ W, ¬ (0 ≤ n ∧ n < 1073741789) → St w0 W → Calls Tryd.prog 12 #[.int .i64 n, .int .i64 (b : Int)] W fun en W' => en = .returned (.tuple #[.int .i64 0, .int .i64 1]) ∧ St w0 W'))
    (C3 : Hid (∀ W, ¬ (0 ≤ n ∧ n < 1073741789) → St w0 W → Calls Tryd.prog 12 #[.int .i64 (b : Int), .int .i64 n] W fun en W' => en = .returned (.tuple #[.int .i64 0, .int .i64 1]) ∧ St w0 W'))
    (O1 : Hid (∀ W, ¬ (0 ≤ n ∧ n < 1073741789) → St w0 W → Calls Tryd.prog 17 #[.int .i64 (x : Int), .int .i64 n, .int .i64 1] W fun en W' => en = .returned (.bool false) ∧ St w0 W'))
    (O2 : Hid (∀ W, ¬ (0 ≤ n ∧ n < 1073741789) → St w0 W → Calls Tryd.prog 17 #[.int .i64 (x : Int), .int .i64 (b : Int), .int .i64 n] W fun en W' => en = .returned (.bool false) ∧ St w0 W'))
    (O3 : Hid (∀ W, ¬ (0 ≤ n ∧ n < 1073741789) → St w0 W → Calls Tryd.prog 17 #[.int .i64 0, .int .i64 n, .int .i64 n] W fun en W' => en = .returned (.bool false) ∧ St w0 W'))
    (O4 : Hid (∀ w1 W, St w1 W → Calls Tryd.prog 17 #[.int .i64 o, .int .i64 (b : Int), .int .i64 1] W fun en W' => en = .returned (.bool false) ∧ St w1 W')) :
    Calls Tryd.prog 8 #[.int .i64 n, .int .i64 v] w0 fun en W' => en = .returned (.bool true) ∧ Below w0.heap.size w0 W' := by
  rcases hn with ⟨hn, c1⟩ | ⟨hn, c1, c2⟩ | ⟨c1, c2⟩
  · have hno := Lib.hid (show ¬ (0 ≤ n ∧ n < 1073741789) by omega)
    clear hn
    go_enter Tryd.func8, Tryd.ntmps8
    go_wp2_with (fail)
    refine (K0.out _ st0).mono ?_
    rintro e w1 ⟨rfl, st1⟩; clear st0
    go_wp2_with (fail)
    refine (J1.out _ st1).mono ?_
    rintro e w2 ⟨rfl, st2⟩; clear st1
    go_wp2_with (fail)
    refine (C1.out _ st2).mono ?_
    rintro e w3 ⟨rfl, st3⟩; clear st2
    go_wp2_with (fail)
    refine (C2.out _ hno.out st3).mono ?_
    rintro e w4 ⟨rfl, st4⟩; clear st3
    go_wp2_with (fail)
    refine (C3.out _ hno.out st4).mono ?_
    rintro e w5 ⟨rfl, st5⟩; clear st4
    go_wp2_with (fail)
    refine (O1.out _ hno.out st5).mono ?_
    rintro e w6 ⟨rfl, st6⟩; clear st5
    go_wp2_with (fail)
    refine (O2.out _ hno.out st6).mono ?_
    rintro e w7 ⟨rfl, st7⟩; clear st6
    go_wp2_with (fail)
    refine (O3.out _ hno.out st7).mono ?_
    rintro e w8 ⟨rfl, st8⟩; clear st7
    go_wp2_with (fail)
    rw [r1, r2, r3]
    have hz : 0 < w8.heap.size := st8.1.2.2
    have hb1 : Below w8.heap.size w8 (w8.alloc (.cells #[.int .i64 o, .int .i64 0, .int .i64 2147483579, .int .i64 nx, .int .i64 px] 3)) := (Below.refl _ _).alloc (Nat.le_refl _) _
    have sta := st8.below hb1
    have hc : ∀ k, k < 5 → (w8.alloc (.cells #[.int .i64 o, .int .i64 0, .int .i64 2147483579, .int .i64 nx, .int .i64 px] 3)).cell? ⟨w8.heap.size, k, none⟩ = some (.int .i64 ((five o nx px).getD k 0)) := five_cells o nx px w8
    have hsz : (w8.alloc (.cells #[.int .i64 o, .int .i64 0, .int .i64 2147483579, .int .i64 nx, .int .i64 px] 3)).heap.size = w8.heap.size + 1 := by simp
    generalize (w8.alloc (.cells #[.int .i64 o, .int .i64 0, .int .i64 2147483579, .int .i64 nx, .int .i64 px] 3)) = w4 at *
    have HC := Lib.hid hc
    clear hc
    have HS := Lib.hid hsz
    clear hsz hb1
    have st5 := St.refl sta.1
    go_loopw [5, 90] (fun up i wr => ∃ k : Nat, k ≤ 5 ∧ up = .bool true ∧ i = .int .i64 (k : Int) ∧ St w4 wr) (fun _ i _ => 5 - (intOf i).toNat)
    case atStart => exact ⟨0, by omega, rfl, rfl, st5⟩
    case round =>
      obtain ⟨k, hk, rfl, rfl, sk⟩ := hrel
      by_cases hlt : k < 5
      · have hcell : wr.cell? ⟨w8.heap.size, k, none⟩ = some (.int .i64 ((five o nx px).getD k 0)) := (sk.2.cell (p := ⟨w8.heap.size, k, none⟩) (by have := HS.out; show w8.heap.size < w4.heap.size; omega)).trans (HC.out k hlt)
        have F1 := Lib.hid (five1.out w4 k hlt)
        have F2 := Lib.hid (five2.out w4 k hlt)
        have hg : ∃ z, (five o nx px).getD k 0 = z := ⟨_, rfl⟩
        obtain ⟨z, hg⟩ := hg
        rw [hg] at hcell F1 F2
        clear hg
        go_wp2_with (fail)
        refine (F1.out _ sk).mono ?_
        rintro e w5 ⟨rfl, sk5⟩
        go_wp2_with (fail)
        refine (F2.out _ sk5).mono ?_
        rintro e w6 ⟨rfl, sk6⟩
        go_wp2
        go_roundw
        case rel => exact ⟨k + 1, by omega, rfl, by go_num, sk6⟩
        case measure => simp [intOf]; omega
      · go_wp2_with (fail)
        refine (O4.out _ _ sk).mono ?_
        rintro e w5 ⟨rfl, sk5⟩
        go_wp2
        go_ret
        exact ⟨rfl, (sta.below_base sk5).2⟩
  · have hno := Lib.hid (show ¬ (0 ≤ n ∧ n < 1073741789) by omega)
    clear hn
    go_enter Tryd.func8, Tryd.ntmps8
    go_wp2_with (fail)
    refine (K0.out _ st0).mono ?_
    rintro e w1 ⟨rfl, st1⟩; clear st0
    go_wp2_with (fail)
    refine (J1.out _ st1).mono ?_
    rintro e w2 ⟨rfl, st2⟩; clear st1
    go_wp2_with (fail)
    refine (C1.out _ st2).mono ?_
    rintro e w3 ⟨rfl, st3⟩; clear st2
    go_wp2_with (fail)
    refine (C2.out _ hno.out st3).mono ?_
    rintro e w4 ⟨rfl, st4⟩; clear st3
    go_wp2_with (fail)
    refine (C3.out _ hno.out st4).mono ?_
    rintro e w5 ⟨rfl, st5⟩; clear st4
    go_wp2_with (fail)
    refine (O1.out _ hno.out st5).mono ?_
    rintro e w6 ⟨rfl, st6⟩; clear st5
    go_wp2_with (fail)
    refine (O2.out _ hno.out st6).mono ?_
    rintro e w7 ⟨rfl, st7⟩; clear st6
    go_wp2_with (fail)
    refine (O3.out _ hno.out st7).mono ?_
    rintro e w8 ⟨rfl, st8⟩; clear st7
    go_wp2_with (fail)
    rw [r1, r2, r3]
    have hz : 0 < w8.heap.size := st8.1.2.2
    have hb1 : Below w8.heap.size w8 (w8.alloc (.cells #[.int .i64 o, .int .i64 0, .int .i64 2147483579, .int .i64 nx, .int .i64 px] 3)) := (Below.refl _ _).alloc (Nat.le_refl _) _
    have sta := st8.below hb1
    have hc : ∀ k, k < 5 → (w8.alloc (.cells #[.int .i64 o, .int .i64 0, .int .i64 2147483579, .int .i64 nx, .int .i64 px] 3)).cell? ⟨w8.heap.size, k, none⟩ = some (.int .i64 ((five o nx px).getD k 0)) := five_cells o nx px w8
    have hsz : (w8.alloc (.cells #[.int .i64 o, .int .i64 0, .int .i64 2147483579, .int .i64 nx, .int .i64 px] 3)).heap.size = w8.heap.size + 1 := by simp
    generalize (w8.alloc (.cells #[.int .i64 o, .int .i64 0, .int .i64 2147483579, .int .i64 nx, .int .i64 px] 3)) = w4 at *
    have HC := Lib.hid hc
    clear hc
    have HS := Lib.hid hsz
    clear hsz hb1
    have st5 := St.refl sta.1
    go_loopw [5, 90] (fun up i wr => ∃ k : Nat, k ≤ 5 ∧ up = .bool true ∧ i = .int .i64 (k : Int) ∧ St w4 wr) (fun _ i _ => 5 - (intOf i).toNat)
    case atStart => exact ⟨0, by omega, rfl, rfl, st5⟩
    case round =>
      obtain ⟨k, hk, rfl, rfl, sk⟩ := hrel
      by_cases hlt : k < 5
      · have hcell : wr.cell? ⟨w8.heap.size, k, none⟩ = some (.int .i64 ((five o nx px).getD k 0)) := (sk.2.cell (p := ⟨w8.heap.size, k, none⟩) (by have := HS.out; show w8.heap.size < w4.heap.size; omega)).trans (HC.out k hlt)
        have F1 := Lib.hid (five1.out w4 k hlt)
        have F2 := Lib.hid (five2.out w4 k hlt)
        have hg : ∃ z, (five o nx px).getD k 0 = z := ⟨_, rfl⟩
        obtain ⟨z, hg⟩ := hg
        rw [hg] at hcell F1 F2
        clear hg
        go_wp2_with (fail)
        refine (F1.out _ sk).mono ?_
        rintro e w5 ⟨rfl, sk5⟩
        go_wp2_with (fail)
        refine (F2.out _ sk5).mono ?_
        rintro e w6 ⟨rfl, sk6⟩
        go_wp2
        go_roundw
        case rel => exact ⟨k + 1, by omega, rfl, by go_num, sk6⟩
        case measure => simp [intOf]; omega
      · go_wp2_with (fail)
        refine (O4.out _ _ sk).mono ?_
        rintro e w5 ⟨rfl, sk5⟩
        go_wp2
        go_ret
        exact ⟨rfl, (sta.below_base sk5).2⟩
  · go_enter Tryd.func8, Tryd.ntmps8
    go_wp2_with (fail)
    refine (K0.out _ st0).mono ?_
    rintro e w1 ⟨rfl, st1⟩; clear st0
    go_wp2_with (fail)
    refine (J1.out _ st1).mono ?_
    rintro e w2 ⟨rfl, st2⟩; clear st1
    go_wp2_with (fail)
    refine (C1.out _ st2).mono ?_
    rintro e w3 ⟨rfl, st3⟩; clear st2
    go_wp2_with (fail)
    rw [r1, r2, r3]
    have hz : 0 < w3.heap.size := st3.1.2.2
    have hb1 : Below w3.heap.size w3 (w3.alloc (.cells #[.int .i64 o, .int .i64 0, .int .i64 2147483579, .int .i64 nx, .int .i64 px] 3)) := (Below.refl _ _).alloc (Nat.le_refl _) _
    have st4 := st3.below hb1
    have hc : ∀ k, k < 5 → (w3.alloc (.cells #[.int .i64 o, .int .i64 0, .int .i64 2147483579, .int .i64 nx, .int .i64 px] 3)).cell? ⟨w3.heap.size, k, none⟩ = some (.int .i64 ((five o nx px).getD k 0)) := five_cells o nx px w3
    have hsz : (w3.alloc (.cells #[.int .i64 o, .int .i64 0, .int .i64 2147483579, .int .i64 nx, .int .i64 px] 3)).heap.size = w3.heap.size + 1 := by simp
    generalize (w3.alloc (.cells #[.int .i64 o, .int .i64 0, .int .i64 2147483579, .int .i64 nx, .int .i64 px] 3)) = w4 at *
    have HC := Lib.hid hc
    clear hc
    have HS := Lib.hid hsz
    clear hsz hb1
    have st5 := St.refl st4.1
    go_loopw [5, 90] (fun up i wr => ∃ k : Nat, k ≤ 5 ∧ up = .bool true ∧ i = .int .i64 (k : Int) ∧ St w4 wr) (fun _ i _ => 5 - (intOf i).toNat)
    case atStart => exact ⟨0, by omega, rfl, rfl, st5⟩
    case round =>
      obtain ⟨k, hk, rfl, rfl, sk⟩ := hrel
      by_cases hlt : k < 5
      · have hcell : wr.cell? ⟨w3.heap.size, k, none⟩ = some (.int .i64 ((five o nx px).getD k 0)) := (sk.2.cell (p := ⟨w3.heap.size, k, none⟩) (by have := HS.out; show w3.heap.size < w4.heap.size; omega)).trans (HC.out k hlt)
        have F1 := Lib.hid (five1.out w4 k hlt)
        have F2 := Lib.hid (five2.out w4 k hlt)
        have hg : ∃ z, (five o nx px).getD k 0 = z := ⟨_, rfl⟩
        obtain ⟨z, hg⟩ := hg
        rw [hg] at hcell F1 F2
        clear hg
        go_wp2_with (fail)
        refine (F1.out _ sk).mono ?_
        rintro e w5 ⟨rfl, sk5⟩
        go_wp2_with (fail)
        refine (F2.out _ sk5).mono ?_
        rintro e w6 ⟨rfl, sk6⟩
        go_wp2
        go_roundw
        case rel => exact ⟨k + 1, by omega, rfl, by go_num, sk6⟩
        case measure => simp [intOf]; omega
      · go_wp2_with (fail)
        refine (O4.out _ _ sk).mono ?_
        rintro e w5 ⟨rfl, sk5⟩
        go_wp2
        go_ret
        exact ⟨rfl, (st4.below_base sk5).2⟩

theorem Outside_walk (n v : Int) (_ : Hid (-9223372036854775808 ≤ n)) (hv : Hid (-9223372036854775808 ≤ v)) (w0 : World) (ht : Tab w0) :
    Calls Tryd.prog 8 #[.int .i64 n, .int .i64 v] w0 fun en W' => en = .returned (.bool true) ∧ Below w0.heap.size w0 W' := by
  obtain ⟨b, eb, lb⟩ := pk_nat v 1073741789 (by omega)
  obtain ⟨x, hx⟩ : ∃ x, M.com b 1 = x := ⟨_, rfl⟩
  have hx0 : 0 < x := hx ▸ M.com_pos b 1
  have hxP : x < 2147483579 := hx ▸ M.com_lt b 1
  have e1 : elB ((2147483579 - x : Nat) : Int) = false := el_no _ (by omega) (M.pw_neg (a := x) hxP (hx ▸ M.com_Q b 1))
  have e2 : elB (-(x : Int)) = false := by
    have : decide (0 < -(x : Int)) = false := by simp
    unfold elB; rw [this]; rfl
  have e3 : elB ((x : Int) + 2147483579) = false := by unfold elB powS; rw [if_neg (by omega)]; simp
  have hf := five_no e1 e2 e3
  refine Outside_core n v w0 (St.refl ht) b x ((2147483579 - x : Nat) : Int) (-(x : Int)) ((x : Int) + 2147483579) ?_ (by unfold wrap64; omega) (by unfold wrap64; omega) (by unfold wrap64; omega)
    (fun W st => head_eq w0 W st) (fun W st => pick_at w0 v 1073741789 b eb hv (by omega) W st) (fun W st => Commit_nat w0 b 1 x lb (by omega) hx W st)
    (fun w1 k hk W st => Add_no w1 _ _ (.inl (hf k hk)) W st) (fun w1 k hk W st => Add_no w1 _ _ (.inr (hf k hk)) W st)
    (fun W hno st => Commit_eq w0 n b 0 1 (by unfold comV; rw [if_neg (fun h => hno h.1)]) (by unfold comE; rw [if_neg (fun h => hno h.1)]) W st)
    (fun W hno st => Commit_eq w0 b n 0 1 (by unfold comV; rw [if_neg (fun h => hno h.2)]) (by unfold comE; rw [if_neg (fun h => hno h.2)]) W st)
    (fun W hno st => Open_eq w0 x n 1 false (by unfold opB comE; rw [if_neg (fun h => hno h.1)]; rfl) W st)
    (fun W hno st => Open_eq w0 x b n false (by unfold opB comE; rw [if_neg (fun h => hno h.2)]; rfl) W st)
    (fun W hno st => Open_eq w0 0 n n false (by unfold opB comE; rw [if_neg (fun h => hno h.1)]; rfl) W st)
    (fun w1 W st => Open_eq w1 _ b 1 false ?_ W st)
  · by_cases h0 : n < 0
    · exact .inl ⟨h0, by simpa using h0⟩
    · by_cases h1 : 1073741789 ≤ n
      · exact .inr (.inl ⟨h1, by simpa using h0, by simpa using h1⟩)
      · exact .inr (.inr ⟨by simpa using h0, by simpa using h1⟩)
  · rw [show ((1 : Int)) = ((1 : Nat) : Int) from rfl, ]
    have h1 := com_nat b 1 lb (by omega)
    unfold opB; rw [h1.1, h1.2, hx, Bool.and_eq_false_iff]
    right; rw [beq_eq_false_iff_ne]; omega

end Go.Proofs.YtkpjmhomgifdbaaDoor

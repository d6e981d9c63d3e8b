/- The walk of the law that the program's functions return what the reference's return. -/
import Derived.Test.YtkpjmhomgifdbaaDoorRef
namespace Go.Proofs.YtkpjmhomgifdbaaDoor
open Go Go.RowKit

/-- what the functions return at a triple: the program's and the reference's the same -/
def Tri (p q r : Int) : Prop := ∃ (v e s f y : Int) (o : Bool),
  Hid (∀ w1 W, St w1 W → Calls Tryd.prog 12 #[.int .i64 q, .int .i64 r] W fun en W' => en = .returned (.tuple #[.int .i64 v, .int .i64 e]) ∧ St w1 W') ∧
  Hid (∀ W, Calls Tryd.prog 13 #[.int .i64 q, .int .i64 r] W fun en W' => en = .returned (.tuple #[.int .i64 v, .int .i64 e]) ∧ W = W') ∧
  Hid (∀ w1 W, St w1 W → Calls Tryd.prog 14 #[.int .i64 p, .int .i64 q] W fun en W' => en = .returned (.tuple #[.int .i64 s, .int .i64 f]) ∧ St w1 W') ∧
  Hid (∀ W, Calls Tryd.prog 15 #[.int .i64 p, .int .i64 q] W fun en W' => en = .returned (.tuple #[.int .i64 s, .int .i64 f]) ∧ W = W') ∧
  Hid (∀ w1 W, St w1 W → Calls Tryd.prog 16 #[.int .i64 p, .int .i64 q] W fun en W' => en = .returned (.int .i64 y) ∧ St w1 W') ∧
  Hid (∀ W, Calls Tryd.prog 11 #[.int .i64 p, .int .i64 q] W fun en W' => en = .returned (.int .i64 y) ∧ W = W') ∧
  Hid (∀ w1 W, St w1 W → Calls Tryd.prog 17 #[.int .i64 p, .int .i64 q, .int .i64 r] W fun en W' => en = .returned (.bool o) ∧ St w1 W') ∧
  Hid (∀ W, Calls Tryd.prog 18 #[.int .i64 p, .int .i64 q, .int .i64 r] W fun en W' => en = .returned (.bool o) ∧ W = W') ∧
  Hid (∀ w1 W, St w1 W → Calls Tryd.prog 17 #[.int .i64 v, .int .i64 q, .int .i64 r] W fun en W' => en = .returned (.bool (e == 0)) ∧ St w1 W')
theorem St.past {w0 w1 w : World} (h : St w0 w1) (h2 : St w1 w) : St w0 w := ⟨h2.1, h.2.trans (h2.2.mono h.2.size)⟩
theorem three_cells (a b c : Int) (w : World) : (w.alloc (.cells #[.int .i64 a, .int .i64 b, .int .i64 c] 23)).cell? ⟨w.heap.size, 0, none⟩ = some (.int .i64 a) ∧ (w.alloc (.cells #[.int .i64 a, .int .i64 b, .int .i64 c] 23)).cell? ⟨w.heap.size, 1, none⟩ = some (.int .i64 b) ∧ (w.alloc (.cells #[.int .i64 a, .int .i64 b, .int .i64 c] 23)).cell? ⟨w.heap.size, 2, none⟩ = some (.int .i64 c) := by
  have h := World.alloc_heap_new w (.cells #[.int .i64 a, .int .i64 b, .int .i64 c] 23)
  refine ⟨?_, ?_, ?_⟩ <;> unfold World.cell? <;> rw [h] <;> rfl
theorem held_drew {N : Nat} {p q r : Value} {wN w : World} (h0 : w.cell? ⟨N, 0, none⟩ = some p) (h1 : w.cell? ⟨N, 1, none⟩ = some q) (h2 : w.cell? ⟨N, 2, none⟩ = some r) (hs : St wN w) :
    w.drew.cell? ⟨N, 0, none⟩ = some p ∧ w.drew.cell? ⟨N, 1, none⟩ = some q ∧ w.drew.cell? ⟨N, 2, none⟩ = some r ∧ St wN w.drew := ⟨h0, h1, h2, hs.1, hs.2.drew⟩
theorem held_call {N : Nat} {p q r : Value} {wN w : World} (hN : N < wN.heap.size) (h0 : wN.cell? ⟨N, 0, none⟩ = some p) (h1 : wN.cell? ⟨N, 1, none⟩ = some q) (h2 : wN.cell? ⟨N, 2, none⟩ = some r) (hs : St wN w) :
    w.cell? ⟨N, 0, none⟩ = some p ∧ w.cell? ⟨N, 1, none⟩ = some q ∧ w.cell? ⟨N, 2, none⟩ = some r ∧ St wN w :=
  ⟨(hs.2.cell (p := ⟨N, 0, none⟩) hN).trans h0, (hs.2.cell (p := ⟨N, 1, none⟩) hN).trans h1, (hs.2.cell (p := ⟨N, 2, none⟩) hN).trans h2, hs⟩
theorem held_same {N : Nat} {p q r : Value} {wN w : World} (h : w.cell? ⟨N, 0, none⟩ = some p ∧ w.cell? ⟨N, 1, none⟩ = some q ∧ w.cell? ⟨N, 2, none⟩ = some r ∧ St wN w) :
    w.cell? ⟨N, 0, none⟩ = some p ∧ w.cell? ⟨N, 1, none⟩ = some q ∧ w.cell? ⟨N, 2, none⟩ = some r ∧ St wN w := h
theorem held_st {N : Nat} {p q r : Value} {wN w : World} (h : w.cell? ⟨N, 0, none⟩ = some p ∧ w.cell? ⟨N, 1, none⟩ = some q ∧ w.cell? ⟨N, 2, none⟩ = some r ∧ St wN w) : St wN w := h.2.2.2
theorem tri (p q r : Int) (hq : Hid (q < 9223372036854775808)) : Hid (Tri p q r) :=
  ⟨comV q r, comE q r, addV p q, addE p q, powS p q, opB p q r,
    fun w1 W st => Commit_eq w1 q r _ _ rfl rfl W st, fun W => RCommit_any q r _ _ rfl rfl W, fun w1 W st => Add_eq w1 p q _ _ rfl rfl W st, fun W => RAdd_any p q _ _ rfl rfl W,
    fun w1 W st => Power_eq w1 p q _ rfl W hq st, fun W => RPower_any p q W hq, fun w1 W st => Open_eq w1 p q r _ rfl W st, fun W => ROpen_any p q r _ rfl W,
    fun w1 W st => Open_eq w1 _ q r _ (by unfold opB; simp) W st⟩

def nine (a b c p1 q1 r1 p2 q2 : Int) : List Int := [a, b, c, p1, q1, r1, p2, q2, c]
theorem nine_cells (a b c p1 q1 r1 p2 q2 : Int) (w : World) (k : Nat) (hk : k < 9) :
    (w.alloc (.cells #[.int .i64 a, .int .i64 b, .int .i64 c, .int .i64 p1, .int .i64 q1, .int .i64 r1, .int .i64 p2, .int .i64 q2, .int .i64 c] 23)).cell? ⟨w.heap.size, k, none⟩ = some (.int .i64 ((nine a b c p1 q1 r1 p2 q2).getD k 0)) := by
  have h := World.alloc_heap_new w (.cells #[.int .i64 a, .int .i64 b, .int .i64 c, .int .i64 p1, .int .i64 q1, .int .i64 r1, .int .i64 p2, .int .i64 q2, .int .i64 c] 23)
  match k, hk with
  | 0, _ => unfold World.cell?; rw [h]; rfl
  | 1, _ => unfold World.cell?; rw [h]; rfl
  | 2, _ => unfold World.cell?; rw [h]; rfl
  | 3, _ => unfold World.cell?; rw [h]; rfl
  | 4, _ => unfold World.cell?; rw [h]; rfl
  | 5, _ => unfold World.cell?; rw [h]; rfl
  | 6, _ => unfold World.cell?; rw [h]; rfl
  | 7, _ => unfold World.cell?; rw [h]; rfl
  | 8, _ => unfold World.cell?; rw [h]; rfl

set_option maxRecDepth 100000 in
set_option maxHeartbeats 8000000 in
theorem Match_core (a b c : Int) (w0 : World) (st0 : St w0 w0) (p1 q1 r1 p2 q2 : Int)
    (K0 : Hid (∀ W, St w0 W → Calls Tryd.prog 9 #[] W fun en W' => en = .returned (.bool true) ∧ St w0 W'))
    (J1 : Hid (∀ W, St w0 W → Calls Tryd.prog 10 #[.int .i64 a, .int .i64 2147483579] W fun en W' => en = .returned (.int .i64 p1) ∧ St w0 W'))
    (J2 : Hid (∀ W, St w0 W → Calls Tryd.prog 10 #[.int .i64 b, .int .i64 1073741789] W fun en W' => en = .returned (.int .i64 q1) ∧ St w0 W'))
    (J3 : Hid (∀ W, St w0 W → Calls Tryd.prog 10 #[.int .i64 c, .int .i64 1073741789] W fun en W' => en = .returned (.int .i64 r1) ∧ St w0 W'))
    (E1 : Hid (∀ W, St w0 W → Calls Tryd.prog 11 #[.int .i64 p1, .int .i64 2] W fun en W' => en = .returned (.int .i64 p2) ∧ St w0 W'))
    (E2 : Hid (∀ W, St w0 W → Calls Tryd.prog 11 #[.int .i64 4, .int .i64 q1] W fun en W' => en = .returned (.int .i64 q2) ∧ St w0 W'))
    (T0 : Hid (Tri a b c)) (T1 : Hid (Tri p1 q1 r1)) (T2 : Hid (Tri p2 q2 c)) :
    Calls Tryd.prog 3 #[.int .i64 a, .int .i64 b, .int .i64 c] w0 fun en W' => en = .returned (.bool true) ∧ Below w0.heap.size w0 W' := by
  go_enter Tryd.func3, Tryd.ntmps3
  go_wp2_with (fail)
  refine (K0.out _ st0).mono ?_
  rintro e w1 ⟨rfl, st1⟩; clear st0
  go_wp2_with (fail)
  refine (J1.out _ st1).mono ?_
  rintro e w2 ⟨rfl, st2⟩; clear st1
  go_wp2_with (fail)
  refine (J2.out _ st2).mono ?_
  rintro e w3 ⟨rfl, st3⟩; clear st2
  go_wp2_with (fail)
  refine (J3.out _ st3).mono ?_
  rintro e w4 ⟨rfl, st4⟩; clear st3
  go_wp2_with (fail)
  refine (J1.out _ st4).mono ?_
  rintro e w5 ⟨rfl, st5⟩; clear st4
  go_wp2_with (fail)
  refine (E1.out _ st5).mono ?_
  rintro e w6 ⟨rfl, st6⟩; clear st5
  go_wp2_with (fail)
  refine (J2.out _ st6).mono ?_
  rintro e w7 ⟨rfl, st7⟩; clear st6
  go_wp2_with (fail)
  refine (E2.out _ st7).mono ?_
  rintro e w8 ⟨rfl, st8⟩; clear st7
  go_wp2_with (fail)
  have hb1 : Below w8.heap.size w8 (w8.alloc (.cells #[.int .i64 a, .int .i64 b, .int .i64 c, .int .i64 p1, .int .i64 q1, .int .i64 r1, .int .i64 p2, .int .i64 q2, .int .i64 c] 23)) := (Below.refl _ _).alloc (Nat.le_refl _) _
  have st9 := st8.below hb1
  have HC := Lib.hid (nine_cells a b c p1 q1 r1 p2 q2 w8)
  have HS := Lib.hid (show (w8.alloc (.cells #[.int .i64 a, .int .i64 b, .int .i64 c, .int .i64 p1, .int .i64 q1, .int .i64 r1, .int .i64 p2, .int .i64 q2, .int .i64 c] 23)).heap.size = w8.heap.size + 1 by simp)
  clear hb1
  generalize (w8.alloc (.cells #[.int .i64 a, .int .i64 b, .int .i64 c, .int .i64 p1, .int .i64 q1, .int .i64 r1, .int .i64 p2, .int .i64 q2, .int .i64 c] 23)) = w9 at *
  have st10 := St.refl st9.1
  have hBlt := Lib.hid (show w8.heap.size < w9.heap.size by have := HS.out; omega)
  clear st8
  generalize w8.heap.size = B at *
  go_loopw [7, 40] (fun up i wr => up = .bool true ∧ St w9 wr ∧ (i = .int .i64 0 ∨ i = .int .i64 1 ∨ i = .int .i64 2 ∨ i = .int .i64 3)) (fun _ i _ => 3 - (intOf i).toNat)
  case atStart => exact ⟨rfl, st10, .inl rfl⟩
  case round =>
    obtain ⟨rfl, sk, hi⟩ := hrel
    rcases hi with rfl | rfl | rfl | rfl
    · have h0 := (sk.2.cell (p := ⟨B, 0, none⟩) hBlt.out).trans (HC.out 0 (by omega))
      have h1 := (sk.2.cell (p := ⟨B, 1, none⟩) hBlt.out).trans (HC.out 1 (by omega))
      have h2 := (sk.2.cell (p := ⟨B, 2, none⟩) hBlt.out).trans (HC.out 2 (by omega))
      simp only [nine, List.getD_cons_succ, List.getD_cons_zero] at h0 h1 h2
      obtain ⟨v, e, s, f, y, oo, C12, C13, C14, C15, C16, C11, C17, C18, C19⟩ := T0.out
      go_wp2_with (fail)
      have hbN : Below wr.heap.size wr (wr.alloc (.cells #[.int .i64 a, .int .i64 b, .int .i64 c] 23)) := (Below.refl _ _).alloc (Nat.le_refl _) _
      have stN := sk.below hbN
      have n0 := Lib.hid (three_cells a b c wr).1
      have n1 := Lib.hid (three_cells a b c wr).2.1
      have n2 := Lib.hid (three_cells a b c wr).2.2
      have hN := Lib.hid (show wr.heap.size < (wr.alloc (.cells #[.int .i64 a, .int .i64 b, .int .i64 c] 23)).heap.size by simp)
      clear hbN h0 h1 h2
      generalize (wr.alloc (.cells #[.int .i64 a, .int .i64 b, .int .i64 c] 23)) = wN at *
      have st1 := St.refl stN.1
      generalize wr.heap.size = N at *
      refine (C12.out wN _ st1).mono ?_
      rintro _ x1 ⟨rfl, s1⟩
      have m10 := (s1.2.cell (p := ⟨N, 0, none⟩) hN.out).trans n0.out
      have m11 := (s1.2.cell (p := ⟨N, 1, none⟩) hN.out).trans n1.out
      have m12 := (s1.2.cell (p := ⟨N, 2, none⟩) hN.out).trans n2.out
      go_wp2_with (fail)
      refine (C13.out _).mono ?_
      rintro _ x2 ⟨rfl, rfl⟩
      go_wp2_with (fail)
      refine (C14.out wN _ s1).mono ?_
      rintro _ x2 ⟨rfl, s2⟩
      clear m10 m11 m12
      have m20 := (s2.2.cell (p := ⟨N, 0, none⟩) hN.out).trans n0.out
      have m21 := (s2.2.cell (p := ⟨N, 1, none⟩) hN.out).trans n1.out
      have m22 := (s2.2.cell (p := ⟨N, 2, none⟩) hN.out).trans n2.out
      go_wp2_with (fail)
      refine (C15.out _).mono ?_
      rintro _ x3 ⟨rfl, rfl⟩
      go_wp2_with (fail)
      go_region_held3 (fun w' => w'.cell? ⟨N, 0, none⟩ = some (.int .i64 a) ∧ w'.cell? ⟨N, 1, none⟩ = some (.int .i64 b) ∧ w'.cell? ⟨N, 2, none⟩ = some (.int .i64 c) ∧ St wN w')
        (first
          | exact held_drew m20 m21 m22 s2
          | exact held_same (by assumption)
          | exact held_call hN.out n0.out n1.out n2.out z16)
        (first
          | (go_at_call 16; refine (C16.out wN _ (held_st (by assumption))).mono ?_; rintro _ x4 ⟨rfl, z16⟩)
          | (go_at_call 11; refine (C11.out _).mono ?_; rintro _ x4 ⟨rfl, rfl⟩))
      have m30 := (z16.2.cell (p := ⟨N, 0, none⟩) hN.out).trans n0.out
      have m31 := (z16.2.cell (p := ⟨N, 1, none⟩) hN.out).trans n1.out
      have m32 := (z16.2.cell (p := ⟨N, 2, none⟩) hN.out).trans n2.out
      clear m20 m21 m22 s2
      go_wp2_with (fail)
      go_region_held3 (fun w' => w'.cell? ⟨N, 0, none⟩ = some (.int .i64 a) ∧ w'.cell? ⟨N, 1, none⟩ = some (.int .i64 b) ∧ w'.cell? ⟨N, 2, none⟩ = some (.int .i64 c) ∧ St wN w')
        (first
          | exact held_drew m30 m31 m32 z16
          | exact held_same (by assumption)
          | exact held_call hN.out n0.out n1.out n2.out z17
          | exact held_call hN.out n0.out n1.out n2.out z19)
        (first
          | (go_at_call_of 17 (Value.int .i64 a); refine (C17.out wN _ (held_st (by assumption))).mono ?_; rintro _ x5 ⟨rfl, z17⟩)
          | (go_at_call 18; refine (C18.out _).mono ?_; rintro _ x5 ⟨rfl, rfl⟩)
          | (go_at_call_of 17 (Value.int .i64 v); refine (C19.out wN _ (held_st (by assumption))).mono ?_; rintro _ x6 ⟨rfl, z19⟩))
      go_wp2
      go_roundw
      case rel => exact ⟨rfl, stN.past z19, by simp⟩
      case measure => simp [intOf]
    · have h0 := (sk.2.cell (p := ⟨B, 3, none⟩) hBlt.out).trans (HC.out 3 (by omega))
      have h1 := (sk.2.cell (p := ⟨B, 4, none⟩) hBlt.out).trans (HC.out 4 (by omega))
      have h2 := (sk.2.cell (p := ⟨B, 5, none⟩) hBlt.out).trans (HC.out 5 (by omega))
      simp only [nine, List.getD_cons_succ, List.getD_cons_zero] at h0 h1 h2
      obtain ⟨v, e, s, f, y, oo, C12, C13, C14, C15, C16, C11, C17, C18, C19⟩ := T1.out
      go_wp2_with (fail)
      have hbN : Below wr.heap.size wr (wr.alloc (.cells #[.int .i64 p1, .int .i64 q1, .int .i64 r1] 23)) := (Below.refl _ _).alloc (Nat.le_refl _) _
      have stN := sk.below hbN
      have n0 := Lib.hid (three_cells p1 q1 r1 wr).1
      have n1 := Lib.hid (three_cells p1 q1 r1 wr).2.1
      have n2 := Lib.hid (three_cells p1 q1 r1 wr).2.2
      have hN := Lib.hid (show wr.heap.size < (wr.alloc (.cells #[.int .i64 p1, .int .i64 q1, .int .i64 r1] 23)).heap.size by simp)
      clear hbN h0 h1 h2
      generalize (wr.alloc (.cells #[.int .i64 p1, .int .i64 q1, .int .i64 r1] 23)) = wN at *
      have st1 := St.refl stN.1
      generalize wr.heap.size = N at *
      refine (C12.out wN _ st1).mono ?_
      rintro _ x1 ⟨rfl, s1⟩
      have m10 := (s1.2.cell (p := ⟨N, 0, none⟩) hN.out).trans n0.out
      have m11 := (s1.2.cell (p := ⟨N, 1, none⟩) hN.out).trans n1.out
      have m12 := (s1.2.cell (p := ⟨N, 2, none⟩) hN.out).trans n2.out
      go_wp2_with (fail)
      refine (C13.out _).mono ?_
      rintro _ x2 ⟨rfl, rfl⟩
      go_wp2_with (fail)
      refine (C14.out wN _ s1).mono ?_
      rintro _ x2 ⟨rfl, s2⟩
      clear m10 m11 m12
      have m20 := (s2.2.cell (p := ⟨N, 0, none⟩) hN.out).trans n0.out
      have m21 := (s2.2.cell (p := ⟨N, 1, none⟩) hN.out).trans n1.out
      have m22 := (s2.2.cell (p := ⟨N, 2, none⟩) hN.out).trans n2.out
      go_wp2_with (fail)
      refine (C15.out _).mono ?_
      rintro _ x3 ⟨rfl, rfl⟩
      go_wp2_with (fail)
      go_region_held3 (fun w' => w'.cell? ⟨N, 0, none⟩ = some (.int .i64 p1) ∧ w'.cell? ⟨N, 1, none⟩ = some (.int .i64 q1) ∧ w'.cell? ⟨N, 2, none⟩ = some (.int .i64 r1) ∧ St wN w')
        (first
          | exact held_drew m20 m21 m22 s2
          | exact held_same (by assumption)
          | exact held_call hN.out n0.out n1.out n2.out z16)
        (first
          | (go_at_call 16; refine (C16.out wN _ (held_st (by assumption))).mono ?_; rintro _ x4 ⟨rfl, z16⟩)
          | (go_at_call 11; refine (C11.out _).mono ?_; rintro _ x4 ⟨rfl, rfl⟩))
      have m30 := (z16.2.cell (p := ⟨N, 0, none⟩) hN.out).trans n0.out
      have m31 := (z16.2.cell (p := ⟨N, 1, none⟩) hN.out).trans n1.out
      have m32 := (z16.2.cell (p := ⟨N, 2, none⟩) hN.out).trans n2.out
      clear m20 m21 m22 s2
      go_wp2_with (fail)
      go_region_held3 (fun w' => w'.cell? ⟨N, 0, none⟩ = some (.int .i64 p1) ∧ w'.cell? ⟨N, 1, none⟩ = some (.int .i64 q1) ∧ w'.cell? ⟨N, 2, none⟩ = some (.int .i64 r1) ∧ St wN w')
        (first
          | exact held_drew m30 m31 m32 z16
          | exact held_same (by assumption)
          | exact held_call hN.out n0.out n1.out n2.out z17
          | exact held_call hN.out n0.out n1.out n2.out z19)
        (first
          | (go_at_call_of 17 (Value.int .i64 p1); refine (C17.out wN _ (held_st (by assumption))).mono ?_; rintro _ x5 ⟨rfl, z17⟩)
          | (go_at_call 18; refine (C18.out _).mono ?_; rintro _ x5 ⟨rfl, rfl⟩)
          | (go_at_call_of 17 (Value.int .i64 v); refine (C19.out wN _ (held_st (by assumption))).mono ?_; rintro _ x6 ⟨rfl, z19⟩))
      go_wp2
      go_roundw
      case rel => exact ⟨rfl, stN.past z19, by simp⟩
      case measure => simp [intOf]
    · have h0 := (sk.2.cell (p := ⟨B, 6, none⟩) hBlt.out).trans (HC.out 6 (by omega))
      have h1 := (sk.2.cell (p := ⟨B, 7, none⟩) hBlt.out).trans (HC.out 7 (by omega))
      have h2 := (sk.2.cell (p := ⟨B, 8, none⟩) hBlt.out).trans (HC.out 8 (by omega))
      simp only [nine, List.getD_cons_succ, List.getD_cons_zero] at h0 h1 h2
      obtain ⟨v, e, s, f, y, oo, C12, C13, C14, C15, C16, C11, C17, C18, C19⟩ := T2.out
      go_wp2_with (fail)
      have hbN : Below wr.heap.size wr (wr.alloc (.cells #[.int .i64 p2, .int .i64 q2, .int .i64 c] 23)) := (Below.refl _ _).alloc (Nat.le_refl _) _
      have stN := sk.below hbN
      have n0 := Lib.hid (three_cells p2 q2 c wr).1
      have n1 := Lib.hid (three_cells p2 q2 c wr).2.1
      have n2 := Lib.hid (three_cells p2 q2 c wr).2.2
      have hN := Lib.hid (show wr.heap.size < (wr.alloc (.cells #[.int .i64 p2, .int .i64 q2, .int .i64 c] 23)).heap.size by simp)
      clear hbN h0 h1 h2
      generalize (wr.alloc (.cells #[.int .i64 p2, .int .i64 q2, .int .i64 c] 23)) = wN at *
      have st1 := St.refl stN.1
      generalize wr.heap.size = N at *
      refine (C12.out wN _ st1).mono ?_
      rintro _ x1 ⟨rfl, s1⟩
      have m10 := (s1.2.cell (p := ⟨N, 0, none⟩) hN.out).trans n0.out
      have m11 := (s1.2.cell (p := ⟨N, 1, none⟩) hN.out).trans n1.out
      have m12 := (s1.2.cell (p := ⟨N, 2, none⟩) hN.out).trans n2.out
      go_wp2_with (fail)
      refine (C13.out _).mono ?_
      rintro _ x2 ⟨rfl, rfl⟩
      go_wp2_with (fail)
      refine (C14.out wN _ s1).mono ?_
      rintro _ x2 ⟨rfl, s2⟩
      clear m10 m11 m12
      have m20 := (s2.2.cell (p := ⟨N, 0, none⟩) hN.out).trans n0.out
      have m21 := (s2.2.cell (p := ⟨N, 1, none⟩) hN.out).trans n1.out
      have m22 := (s2.2.cell (p := ⟨N, 2, none⟩) hN.out).trans n2.out
      go_wp2_with (fail)
      refine (C15.out _).mono ?_
      rintro _ x3 ⟨rfl, rfl⟩
      go_wp2_with (fail)
      go_region_held3 (fun w' => w'.cell? ⟨N, 0, none⟩ = some (.int .i64 p2) ∧ w'.cell? ⟨N, 1, none⟩ = some (.int .i64 q2) ∧ w'.cell? ⟨N, 2, none⟩ = some (.int .i64 c) ∧ St wN w')
        (first
          | exact held_drew m20 m21 m22 s2
          | exact held_same (by assumption)
          | exact held_call hN.out n0.out n1.out n2.out z16)
        (first
          | (go_at_call 16; refine (C16.out wN _ (held_st (by assumption))).mono ?_; rintro _ x4 ⟨rfl, z16⟩)
          | (go_at_call 11; refine (C11.out _).mono ?_; rintro _ x4 ⟨rfl, rfl⟩))
      have m30 := (z16.2.cell (p := ⟨N, 0, none⟩) hN.out).trans n0.out
      have m31 := (z16.2.cell (p := ⟨N, 1, none⟩) hN.out).trans n1.out
      have m32 := (z16.2.cell (p := ⟨N, 2, none⟩) hN.out).trans n2.out
      clear m20 m21 m22 s2
      go_wp2_with (fail)
      go_region_held3 (fun w' => w'.cell? ⟨N, 0, none⟩ = some (.int .i64 p2) ∧ w'.cell? ⟨N, 1, none⟩ = some (.int .i64 q2) ∧ w'.cell? ⟨N, 2, none⟩ = some (.int .i64 c) ∧ St wN w')
        (first
          | exact held_drew m30 m31 m32 z16
          | exact held_same (by assumption)
          | exact held_call hN.out n0.out n1.out n2.out z17
          | exact held_call hN.out n0.out n1.out n2.out z19)
        (first
          | (go_at_call_of 17 (Value.int .i64 p2); refine (C17.out wN _ (held_st (by assumption))).mono ?_; rintro _ x5 ⟨rfl, z17⟩)
          | (go_at_call 18; refine (C18.out _).mono ?_; rintro _ x5 ⟨rfl, rfl⟩)
          | (go_at_call_of 17 (Value.int .i64 v); refine (C19.out wN _ (held_st (by assumption))).mono ?_; rintro _ x6 ⟨rfl, z19⟩))
      go_wp2
      go_roundw
      case rel => exact ⟨rfl, stN.past z19, by simp⟩
      case measure => simp [intOf]
    · go_wp2
      go_ret
      exact ⟨rfl, (st9.2.trans (sk.2.mono st9.2.size))⟩

theorem Match_walk (a b c : Int) (ha : Hid (-9223372036854775808 ≤ a ∧ a ≤ 9223372036854775807)) (hb : Hid (-9223372036854775808 ≤ b ∧ b ≤ 9223372036854775807)) (hc : Hid (-9223372036854775808 ≤ c ∧ c ≤ 9223372036854775807)) (w0 : World) (ht : Tab w0) :
    Calls Tryd.prog 3 #[.int .i64 a, .int .i64 b, .int .i64 c] w0 fun en W' => en = .returned (.bool true) ∧ Below w0.heap.size w0 W' := by
  have l1 : Hid (-9223372036854775808 ≤ a) := ha.out.1
  have l2 : Hid (-9223372036854775808 ≤ b) := hb.out.1
  have l3 : Hid (-9223372036854775808 ≤ c) := hc.out.1
  have b2 := pk_bd b (n := 1073741789) (by omega)
  have b3 : powS 4 (pk b 1073741789) < 9223372036854775808 := by
    unfold powS
    rw [if_pos (by omega)]
    have := M.pw_lt 4 (pk b 1073741789).toNat
    unfold M.P at this
    exact Int.lt_trans (Int.ofNat_lt.2 this) (by decide)
  exact Match_core a b c w0 (St.refl ht) (pk a 2147483579) (pk b 1073741789) (pk c 1073741789) (powS (pk a 2147483579) 2) (powS 4 (pk b 1073741789))
    (fun W st => head_eq w0 W st) (fun W st => pick_at w0 a 2147483579 _ rfl l1 (by omega) W st) (fun W st => pick_at w0 b 1073741789 _ rfl l2 (by omega) W st) (fun W st => pick_at w0 c 1073741789 _ rfl l3 (by omega) W st)
    (fun W st => (RPower_any _ 2 W (Lib.hid (by decide))).mono fun _ _ ⟨h1, h2⟩ => ⟨h1, h2 ▸ st⟩) (fun W st => (RPower_any 4 _ W (Lib.hid (by omega))).mono fun _ _ ⟨h1, h2⟩ => ⟨h1, h2 ▸ st⟩)
    (tri a b c (Lib.hid (by have := hb.out; omega))) (tri _ _ _ (Lib.hid (by omega))) (tri _ _ _ (Lib.hid b3))

end Go.Proofs.YtkpjmhomgifdbaaDoor

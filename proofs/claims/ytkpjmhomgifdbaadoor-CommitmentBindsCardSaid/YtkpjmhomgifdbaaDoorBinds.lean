/- The walk of the law on binding commitments: it returns true at every input. -/
import Derived.Test.YtkpjmhomgifdbaaDoorSums
namespace Go.Proofs.YtkpjmhomgifdbaaDoor
open Go Go.RowKit

theorem beq_nat (a b : Nat) : ((a : Int) == (b : Int)) = (a == b) := by rw [Bool.eq_iff_iff, beq_iff_eq, beq_iff_eq]; omega
theorem com_beq_v (a b c : Nat) (ha : a < 1073741789) (hb : b < 1073741789) : (M.com a c == M.com b c) = (a == b) := by
  rw [Bool.eq_iff_iff, beq_iff_eq, beq_iff_eq]; exact ⟨M.com_inj_v ha hb, fun h => by rw [h]⟩
theorem com_beq_r (a c d : Nat) (hc : c < 1073741789) (hd : d < 1073741789) : (M.com a c == M.com a d) = (c == d) := by
  rw [Bool.eq_iff_iff, beq_iff_eq, beq_iff_eq]; exact ⟨M.com_inj_r hc hd, fun h => by rw [h]⟩
theorem both_eq (a b c d : Nat) (ha : a < 1073741789) (hb : b < 1073741789) (hc : c < 1073741789) (hd : d < 1073741789) (h : (M.com b d == M.com a c) = true) : (a == b) = (c == d) := by
  rw [beq_iff_eq] at h
  rw [Bool.eq_iff_iff, beq_iff_eq, beq_iff_eq]
  constructor
  · intro e; subst e; exact (M.com_inj_r hd hc h).symm
  · intro e; subst e; exact (M.com_inj_v hb ha h).symm

set_option maxRecDepth 100000 in
set_option maxHeartbeats 2000000 in
theorem Binds_core (v w r s : Int) (w0 : World) (st0 : St w0 w0) (a b c d x y z : Nat) (bv br bo : Bool) (hbo : bo = true → bv = br)
    (e1 : ((a : Int) == (b : Int)) = bv) (e2 : ((c : Int) == (d : Int)) = br) (e3 : ((x : Int) == (y : Int)) = bv) (e4 : ((x : Int) == (z : Int)) = br)
    (K0 : Hid (∀ W, St w0 W → Calls Tryd.prog 9 #[] W fun en W' => en = .returned (.bool true) ∧ St w0 W'))
    (J1 : Hid (∀ W, St w0 W → Calls Tryd.prog 10 #[.int .i64 v, .int .i64 1073741789] W fun en W' => en = .returned (.int .i64 (a : Int)) ∧ St w0 W'))
    (J2 : Hid (∀ W, St w0 W → Calls Tryd.prog 10 #[.int .i64 w, .int .i64 1073741789] W fun en W' => en = .returned (.int .i64 (b : Int)) ∧ St w0 W'))
    (J3 : Hid (∀ W, St w0 W → Calls Tryd.prog 10 #[.int .i64 r, .int .i64 1073741789] W fun en W' => en = .returned (.int .i64 (c : Int)) ∧ St w0 W'))
    (J4 : Hid (∀ W, St w0 W → Calls Tryd.prog 10 #[.int .i64 s, .int .i64 1073741789] W fun en W' => en = .returned (.int .i64 (d : Int)) ∧ St w0 W'))
    (C1 : Hid (∀ W, St w0 W → Calls Tryd.prog 12 #[.int .i64 (a : Int), .int .i64 (c : Int)] W fun en W' => en = .returned (.tuple #[.int .i64 (x : Int), .int .i64 0]) ∧ St w0 W'))
    (C2 : Hid (∀ W, St w0 W → Calls Tryd.prog 12 #[.int .i64 (b : Int), .int .i64 (c : Int)] W fun en W' => en = .returned (.tuple #[.int .i64 (y : Int), .int .i64 0]) ∧ St w0 W'))
    (C3 : Hid (∀ W, St w0 W → Calls Tryd.prog 12 #[.int .i64 (a : Int), .int .i64 (d : Int)] W fun en W' => en = .returned (.tuple #[.int .i64 (z : Int), .int .i64 0]) ∧ St w0 W'))
    (O1 : Hid (∀ W, St w0 W → Calls Tryd.prog 17 #[.int .i64 (x : Int), .int .i64 (a : Int), .int .i64 (c : Int)] W fun en W' => en = .returned (.bool true) ∧ St w0 W'))
    (O2 : Hid (∀ W, St w0 W → Calls Tryd.prog 17 #[.int .i64 (x : Int), .int .i64 (b : Int), .int .i64 (c : Int)] W fun en W' => en = .returned (.bool bv) ∧ St w0 W'))
    (O3 : Hid (∀ W, St w0 W → Calls Tryd.prog 17 #[.int .i64 (x : Int), .int .i64 (a : Int), .int .i64 (d : Int)] W fun en W' => en = .returned (.bool br) ∧ St w0 W'))
    (O4 : Hid (∀ W, St w0 W → Calls Tryd.prog 17 #[.int .i64 (x : Int), .int .i64 (b : Int), .int .i64 (d : Int)] W fun en W' => en = .returned (.bool bo) ∧ St w0 W')) :
    Calls Tryd.prog 7 #[.int .i64 v, .int .i64 w, .int .i64 r, .int .i64 s] w0 fun en W' => en = .returned (.bool true) ∧ Below w0.heap.size w0 W' := by
  cases bv <;> cases br <;> cases bo <;> first | (exact absurd (hbo rfl) (by decide)) | skip
  all_goals
    clear hbo
    go_enter Tryd.func7, Tryd.ntmps7
    go_wp2_with (fail)
    refine (K0.out _ st0).mono ?_
    rintro e w1 ⟨rfl, st1⟩; clear st0
    go_wp2_with (fail)
    refine (J1.out _ st1).mono ?_
    rintro e w2 ⟨rfl, st2⟩; clear st1
    go_wp2_with (fail)
    refine (J2.out _ st2).mono ?_
    rintro e w3 ⟨rfl, st3⟩; clear st2
    go_wp2_with (fail)
    refine (J3.out _ st3).mono ?_
    rintro e w4 ⟨rfl, st4⟩; clear st3
    go_wp2_with (fail)
    refine (J4.out _ st4).mono ?_
    rintro e w5 ⟨rfl, st5⟩; clear st4
    go_wp2_with (fail)
    refine (C1.out _ st5).mono ?_
    rintro e w6 ⟨rfl, st6⟩; clear st5
    go_wp2_with (fail)
    refine (C2.out _ st6).mono ?_
    rintro e w7 ⟨rfl, st7⟩; clear st6
    go_wp2_with (fail)
    refine (C3.out _ st7).mono ?_
    rintro e w8 ⟨rfl, st8⟩; clear st7
    go_wp2_with (fail)
    refine (O1.out _ st8).mono ?_
    rintro e w9 ⟨rfl, st9⟩; clear st8
    go_wp2_with (fail)
    refine (O2.out _ st9).mono ?_
    rintro e w10 ⟨rfl, st10⟩; clear st9
    go_wp2_with (fail)
    refine (O3.out _ st10).mono ?_
    rintro e w11 ⟨rfl, st11⟩; clear st10
    go_wp2_with (fail)
    refine (O4.out _ st11).mono ?_
    rintro e w12 ⟨rfl, st12⟩; clear st11
    go_wp2
    go_ret
    exact ⟨rfl, st12.2⟩

theorem Binds_walk (v w r s : Int) (hv : Hid (-9223372036854775808 ≤ v)) (hw : Hid (-9223372036854775808 ≤ w)) (hr : Hid (-9223372036854775808 ≤ r)) (hs : Hid (-9223372036854775808 ≤ s)) (w0 : World) (ht : Tab w0) :
    Calls Tryd.prog 7 #[.int .i64 v, .int .i64 w, .int .i64 r, .int .i64 s] w0 fun en W' => en = .returned (.bool true) ∧ Below w0.heap.size w0 W' := by
  obtain ⟨a, ea, la⟩ := pk_nat v 1073741789 (by omega)
  obtain ⟨b, eb, lb⟩ := pk_nat w 1073741789 (by omega)
  obtain ⟨c, ec, lc⟩ := pk_nat r 1073741789 (by omega)
  obtain ⟨d, ed, ld⟩ := pk_nat s 1073741789 (by omega)
  exact Binds_core v w r s w0 (St.refl ht) a b c d (M.com a c) (M.com b c) (M.com a d) (a == b) (c == d) (M.com b d == M.com a c)
    (both_eq a b c d la lb lc ld) (beq_nat a b) (beq_nat c d) (by rw [beq_nat, com_beq_v a b c la lb]) (by rw [beq_nat, com_beq_r a c d lc ld])
    (fun W st => head_eq w0 W st)
    (fun W st => pick_at w0 v 1073741789 a ea hv (by omega) W st) (fun W st => pick_at w0 w 1073741789 b eb hw (by omega) W st)
    (fun W st => pick_at w0 r 1073741789 c ec hr (by omega) W st) (fun W st => pick_at w0 s 1073741789 d ed hs (by omega) W st)
    (fun W st => Commit_nat w0 a c _ la lc rfl W st) (fun W st => Commit_nat w0 b c _ lb lc rfl W st) (fun W st => Commit_nat w0 a d _ la ld rfl W st)
    (fun W st => Open_eq w0 _ a c true (by rw [opB_nat _ a c la lc]; simp) W st)
    (fun W st => Open_eq w0 _ b c _ (by rw [opB_nat _ b c lb lc, com_beq_v b a c lb la, Bool.beq_comm]) W st)
    (fun W st => Open_eq w0 _ a d _ (by rw [opB_nat _ a d la ld, com_beq_r a d c ld lc, Bool.beq_comm]) W st)
    (fun W st => Open_eq w0 _ b d _ (opB_nat _ b d lb ld) W st)

end Go.Proofs.YtkpjmhomgifdbaaDoor

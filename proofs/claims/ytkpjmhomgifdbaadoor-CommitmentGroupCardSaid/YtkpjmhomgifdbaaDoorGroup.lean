/- The walk of the law on the group of commitments: it returns true at every input. -/
import Derived.Test.YtkpjmhomgifdbaaDoorSums
namespace Go.Proofs.YtkpjmhomgifdbaaDoor
open Go Go.RowKit

theorem neg_Q (a : Nat) (ha : a < 1073741789) : Int.tmod (wrap64 (1073741789 - (a : Int))) 1073741789 = (((M.Q - a) % M.Q : Nat) : Int) := by
  rw [show wrap64 (1073741789 - (a : Int)) = ((1073741789 - a : Nat) : Int) by unfold wrap64; omega, Int.tmod_eq_emod_of_nonneg (by omega)]
  exact (Int.natCast_emod _ _).symm
theorem mod_neg (a : Nat) (ha : a < 1073741789) : (a + (M.Q - a) % M.Q) % M.Q = 0 := by unfold M.Q; omega
theorem com_neg (a b : Nat) (ha : a < 1073741789) (hb : b < 1073741789) : M.com a b * M.com ((M.Q - a) % M.Q) ((M.Q - b) % M.Q) % M.P = 1 := by
  rw [M.com_add, ← M.com_mod, mod_neg a ha, mod_neg b hb, M.com_zero]
theorem com_low (a b : Nat) : decide ((1 : Int) ≤ ((M.com a b : Nat) : Int)) = true := by have := M.com_pos a b; simp; omega
theorem com_high (a b : Nat) : decide (((M.com a b : Nat) : Int) < 2147483579) = true := by
  have := M.com_lt a b
  have h2 : M.com a b < 2147483579 := this
  simp; omega
theorem com_powQ (a b : Nat) : powS ((M.com a b : Nat) : Int) 1073741789 = 1 := by rw [pow_Q _ (M.com_lt a b), M.com_Q]; rfl

set_option maxRecDepth 100000 in
set_option maxHeartbeats 2000000 in
theorem Group_walk (v w r s : Int) (hv : Hid (-9223372036854775808 ≤ v)) (hw : Hid (-9223372036854775808 ≤ w)) (hr : Hid (-9223372036854775808 ≤ r)) (hs : Hid (-9223372036854775808 ≤ s)) (w0 : World) (ht : Tab w0) :
    Calls Tryd.prog 6 #[.int .i64 v, .int .i64 w, .int .i64 r, .int .i64 s] w0 fun en W' => en = .returned (.bool true) ∧ Below w0.heap.size w0 W' := by
  have st0 := St.refl ht
  clear ht
  obtain ⟨a, ea, la⟩ := pk_nat v 1073741789 (by omega)
  obtain ⟨b, eb, lb⟩ := pk_nat w 1073741789 (by omega)
  obtain ⟨c, ec, lc⟩ := pk_nat r 1073741789 (by omega)
  obtain ⟨d, ed, ld⟩ := pk_nat s 1073741789 (by omega)
  have na := neg_Q a la
  have nc := neg_Q c lc
  have l1 : (M.Q - a) % M.Q < 1073741789 := Nat.mod_lt _ (by decide)
  have l2 : (M.Q - c) % M.Q < 1073741789 := Nat.mod_lt _ (by decide)
  have b1 := com_low a c
  have b2 := com_high a c
  have el1 : 0 < 1 ∧ 1 < 2147483579 ∧ M.pw 1 M.Q = 1 := ⟨by omega, by omega, one_Q⟩
  have K0 := Lib.hid (fun W (st : St w0 W) => head_eq w0 W st)
  have J1 := Lib.hid (fun W (st : St w0 W) => pick_at w0 v 1073741789 a ea hv (by omega) W st)
  have J2 := Lib.hid (fun W (st : St w0 W) => pick_at w0 w 1073741789 b eb hw (by omega) W st)
  have J3 := Lib.hid (fun W (st : St w0 W) => pick_at w0 r 1073741789 c ec hr (by omega) W st)
  have J4 := Lib.hid (fun W (st : St w0 W) => pick_at w0 s 1073741789 d ed hs (by omega) W st)
  have C1 := Lib.hid (fun W (st : St w0 W) => Commit_nat w0 a c _ la lc rfl W st)
  have C2 := Lib.hid (fun W (st : St w0 W) => Commit_nat w0 b d _ lb ld rfl W st)
  have C3 := Lib.hid (fun W (st : St w0 W) => Commit_nat w0 d a _ ld la rfl W st)
  have C4 := Lib.hid (fun W (st : St w0 W) => Commit_nat w0 _ _ _ l1 l2 rfl W st)
  have C5 := Lib.hid (fun W (st : St w0 W) => Commit_nat w0 0 0 1 (by omega) (by omega) M.com_zero W st)
  have A1 := Lib.hid (fun W (st : St w0 W) => Add_nat w0 _ _ _ (com_el a c) (com_el b d) (M.com_add a c b d) W st)
  have A2 := Lib.hid (fun W (st : St w0 W) => Add_nat w0 _ _ _ (com_el b d) (com_el a c) ((Nat.mul_comm _ _ ▸ M.com_add a c b d : M.com b d * M.com a c % M.P = _)) W st)
  have A3 := Lib.hid (fun W (st : St w0 W) => Add_nat w0 _ _ _ (com_el b d) (com_el d a) (M.com_add b d d a) W st)
  have A4 := Lib.hid (fun W (st : St w0 W) => Add_nat w0 _ _ _ (com_el (a + b) (c + d)) (com_el d a) (M.com_add (a + b) (c + d) d a) W st)
  have A5 := Lib.hid (fun W (st : St w0 W) => Add_nat w0 _ _ (M.com (a + b + d) (c + d + a)) (com_el a c) (com_el (b + d) (d + a)) (by rw [M.com_add, ← Nat.add_assoc, ← Nat.add_assoc]) W st)
  have A6 := Lib.hid (fun W (st : St w0 W) => Add_nat w0 _ 1 (M.com a c) (com_el a c) el1 (by rw [Nat.mul_one, Nat.mod_eq_of_lt (M.com_lt a c)]) W st)
  have A7 := Lib.hid (fun W (st : St w0 W) => Add_nat w0 _ _ 1 (com_el a c) (com_el _ _) (com_neg a c la lc) W st)
  have E1 := Lib.hid (fun W (st : St w0 W) => Power_eq w0 ((M.com a c : Nat) : Int) 1073741789 1 (com_powQ a c) W (Lib.hid (by decide)) st)
  clear ea eb ec ed hv hw hr hs la lb lc ld l1 l2 el1
  generalize M.com ((M.Q - a) % M.Q) ((M.Q - c) % M.Q) = x1 at *
  generalize M.com (a + b + d) (c + d + a) = x2 at *
  generalize M.com (b + d) (d + a) = x3 at *
  generalize M.com (a + b) (c + d) = x4 at *
  generalize M.com d a = x5 at *
  generalize M.com b d = x6 at *
  generalize M.com a c = x7 at *
  generalize (M.Q - a) % M.Q = p at *
  generalize (M.Q - c) % M.Q = q at *
  go_enter Tryd.func6, Tryd.ntmps6
  go_wp2_with (fail)
  refine (K0.out _ st0).mono ?_
  rintro e w1 ⟨rfl, st1⟩; clear st0
  go_wp2_with (fail)
  refine (J1.out _ st1).mono ?_
  rintro e w2 ⟨rfl, st2⟩; clear st1
  go_wp2_with (fail)
  refine (J2.out _ st2).mono ?_
  rintro e w3 ⟨rfl, st3⟩; clear st2
  go_wp2_with (fail)
  refine (J3.out _ st3).mono ?_
  rintro e w4 ⟨rfl, st4⟩; clear st3
  go_wp2_with (fail)
  refine (J4.out _ st4).mono ?_
  rintro e w5 ⟨rfl, st5⟩; clear st4
  go_wp2_with (fail)
  refine (C1.out _ st5).mono ?_
  rintro e w6 ⟨rfl, st6⟩; clear st5
  go_wp2_with (fail)
  refine (C2.out _ st6).mono ?_
  rintro e w7 ⟨rfl, st7⟩; clear st6
  go_wp2_with (fail)
  refine (C3.out _ st7).mono ?_
  rintro e w8 ⟨rfl, st8⟩; clear st7
  go_wp2_with (fail)
  refine (C4.out _ st8).mono ?_
  rintro e w9 ⟨rfl, st9⟩; clear st8
  go_wp2_with (fail)
  refine (C5.out _ st9).mono ?_
  rintro e w10 ⟨rfl, st10⟩; clear st9
  go_wp2_with (fail)
  refine (A1.out _ st10).mono ?_
  rintro e w11 ⟨rfl, st11⟩; clear st10
  go_wp2_with (fail)
  refine (A2.out _ st11).mono ?_
  rintro e w12 ⟨rfl, st12⟩; clear st11
  go_wp2_with (fail)
  refine (A3.out _ st12).mono ?_
  rintro e w13 ⟨rfl, st13⟩; clear st12
  go_wp2_with (fail)
  refine (A4.out _ st13).mono ?_
  rintro e w14 ⟨rfl, st14⟩; clear st13
  go_wp2_with (fail)
  refine (A5.out _ st14).mono ?_
  rintro e w15 ⟨rfl, st15⟩; clear st14
  go_wp2_with (fail)
  refine (A6.out _ st15).mono ?_
  rintro e w16 ⟨rfl, st16⟩; clear st15
  go_wp2_with (fail)
  refine (A7.out _ st16).mono ?_
  rintro e w17 ⟨rfl, st17⟩; clear st16
  go_wp2_with (fail)
  refine (E1.out _ st17).mono ?_
  rintro e w18 ⟨rfl, st18⟩; clear st17
  go_wp2
  go_ret
  exact ⟨rfl, st18.2⟩

end Go.Proofs.YtkpjmhomgifdbaaDoor

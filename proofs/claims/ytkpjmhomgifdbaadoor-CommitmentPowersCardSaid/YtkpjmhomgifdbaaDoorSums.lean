/- The walk of the law on sums of commitments: it returns true at every input. -/
import Derived.Test.YtkpjmhomgifdbaaDoorHead
namespace Go.Proofs.YtkpjmhomgifdbaaDoor
open Go Go.RowKit

theorem pick_at (w0 : World) (c n r : Int) (h : pk c n = r) (hc : Hid (-9223372036854775808 ≤ c)) (hn : 0 < n) (w : World) (hs : St w0 w) :
    Calls Tryd.prog 10 #[.int .i64 c, .int .i64 n] w fun en W' => en = .returned (.int .i64 r) ∧ St w0 W' :=
  (pick_eq c n hc hn w).mono fun _ _ ⟨h1, h2⟩ => ⟨by rw [h1, h], h2 ▸ hs⟩
theorem pk_nat (c : Int) (n : Nat) (hn : 0 < n) : ∃ a : Nat, pk c (n : Int) = (a : Int) ∧ a < n := by
  have := pk_bd c (n := (n : Int)) (by omega)
  exact ⟨(pk c n).toNat, by omega, by omega⟩
theorem add_Q (a b : Nat) (ha : a < 1073741789) (hb : b < 1073741789) : Int.tmod (wrap64 ((a : Int) + (b : Int))) 1073741789 = (((a + b) % M.Q : Nat) : Int) := by
  rw [show wrap64 ((a : Int) + (b : Int)) = ((a + b : Nat) : Int) by unfold wrap64; omega, Int.tmod_eq_emod_of_nonneg (by omega)]
  exact (Int.natCast_emod _ _).symm
theorem Commit_nat (w0 : World) (a b c : Nat) (ha : a < 1073741789) (hb : b < 1073741789) (hc : M.com a b = c) (w : World) (hs : St w0 w) :
    Calls Tryd.prog 12 #[.int .i64 (a : Int), .int .i64 (b : Int)] w fun en W' => en = .returned (.tuple #[.int .i64 (c : Int), .int .i64 0]) ∧ St w0 W' :=
  Commit_eq w0 a b c 0 (by rw [(com_nat a b ha hb).1, hc]) (com_nat a b ha hb).2 w hs
theorem Add_nat (w0 : World) (a b c : Nat) (ha : 0 < a ∧ a < 2147483579 ∧ M.pw a M.Q = 1) (hb : 0 < b ∧ b < 2147483579 ∧ M.pw b M.Q = 1) (hc : a * b % M.P = c) (w : World) (hs : St w0 w) :
    Calls Tryd.prog 14 #[.int .i64 (a : Int), .int .i64 (b : Int)] w fun en W' => en = .returned (.tuple #[.int .i64 (c : Int), .int .i64 0]) ∧ St w0 W' := by
  have e1 := el_nat a ha.1 ha.2.1 ha.2.2
  have e2 := el_nat b hb.1 hb.2.1 hb.2.2
  refine Add_eq w0 a b c 0 ?_ ?_ w hs
  · unfold addV; rw [if_pos ⟨e1, e2⟩, ← hc]
    rw [show ((a : Int) * (b : Int)) = ((a * b : Nat) : Int) by simp]; exact (Int.natCast_emod _ _).symm
  · unfold addE; rw [if_pos ⟨e1, e2⟩]
theorem com_el (v r : Nat) : 0 < M.com v r ∧ M.com v r < 2147483579 ∧ M.pw (M.com v r) M.Q = 1 := ⟨M.com_pos v r, M.com_lt v r, M.com_Q v r⟩
theorem opB_nat (c v r : Nat) (hv : v < 1073741789) (hr : r < 1073741789) : opB c v r = (M.com v r == c) := by
  unfold opB; rw [(com_nat v r hv hr).1, (com_nat v r hv hr).2, Bool.eq_iff_iff]; simp; omega

set_option maxRecDepth 100000 in
set_option maxHeartbeats 2000000 in
theorem Sums_walk (v w r s : Int) (hv : Hid (-9223372036854775808 ≤ v)) (hw : Hid (-9223372036854775808 ≤ w)) (hr : Hid (-9223372036854775808 ≤ r)) (hs : Hid (-9223372036854775808 ≤ s)) (w0 : World) (ht : Tab w0) :
    Calls Tryd.prog 5 #[.int .i64 v, .int .i64 w, .int .i64 r, .int .i64 s] w0 fun en W' => en = .returned (.bool true) ∧ Below w0.heap.size w0 W' := by
  have st0 := St.refl ht
  clear ht
  obtain ⟨a, ea, la⟩ := pk_nat v 1073741789 (by omega)
  obtain ⟨b, eb, lb⟩ := pk_nat w 1073741789 (by omega)
  obtain ⟨c, ec, lc⟩ := pk_nat r 1073741789 (by omega)
  obtain ⟨d, ed, ld⟩ := pk_nat s 1073741789 (by omega)
  have hab := add_Q a b la lb
  have hcd := add_Q c d lc ld
  have l1 : (a + b) % M.Q < 1073741789 := Nat.mod_lt _ (by decide)
  have l2 : (c + d) % M.Q < 1073741789 := Nat.mod_lt _ (by decide)
  have hx := com_el a c
  have hy := com_el b d
  have hz : M.com a c * M.com b d % M.P = M.com ((a + b) % M.Q) ((c + d) % M.Q) := by rw [M.com_add, M.com_mod]
  have K1 := Lib.hid (fun W (st : St w0 W) => Commit_nat w0 a c _ la lc rfl W st)
  have K2 := Lib.hid (fun W (st : St w0 W) => Commit_nat w0 b d _ lb ld rfl W st)
  have K3 := Lib.hid (fun W (st : St w0 W) => Add_nat w0 _ _ _ hx hy hz W st)
  have K4 := Lib.hid (fun W (st : St w0 W) => Commit_nat w0 _ _ _ l1 l2 rfl W st)
  have K5 := Lib.hid (fun W (st : St w0 W) => Open_eq w0 _ _ _ true (by rw [opB_nat (M.com ((a + b) % M.Q) ((c + d) % M.Q)) _ _ l1 l2]; simp) W st)
  have K0 := Lib.hid (fun W (st : St w0 W) => head_eq w0 W st)
  have J1 := Lib.hid (fun W (st : St w0 W) => pick_at w0 v 1073741789 a ea hv (by omega) W st)
  have J2 := Lib.hid (fun W (st : St w0 W) => pick_at w0 w 1073741789 b eb hw (by omega) W st)
  have J3 := Lib.hid (fun W (st : St w0 W) => pick_at w0 r 1073741789 c ec hr (by omega) W st)
  have J4 := Lib.hid (fun W (st : St w0 W) => pick_at w0 s 1073741789 d ed hs (by omega) W st)
  clear ea eb ec ed hv hw hr hs hx hy hz la lb lc ld l1 l2
  generalize M.com ((a + b) % M.Q) ((c + d) % M.Q) = z at *
  generalize M.com a c = x at *
  generalize M.com b d = y at *
  generalize (a + b) % M.Q = p at *
  generalize (c + d) % M.Q = q at *
  go_enter Tryd.func5, Tryd.ntmps5
  go_wp2_with (fail)
  refine (K0.out _ st0).mono ?_
  rintro e w1 ⟨rfl, st1⟩; clear st0
  go_wp2_with (fail)
  refine (J1.out _ st1).mono ?_
  rintro e w2 ⟨rfl, st2⟩; clear st1
  go_wp2_with (fail)
  refine (J2.out _ st2).mono ?_
  rintro e w3 ⟨rfl, st3⟩; clear st2
  go_wp2_with (fail)
  refine (J3.out _ st3).mono ?_
  rintro e w4 ⟨rfl, st4⟩; clear st3
  go_wp2_with (fail)
  refine (J4.out _ st4).mono ?_
  rintro e w5 ⟨rfl, st5⟩; clear st4
  go_wp2_with (fail)
  refine (K1.out _ st5).mono ?_
  rintro e w6 ⟨rfl, st6⟩; clear st5
  go_wp2_with (fail)
  refine (K2.out _ st6).mono ?_
  rintro e w7 ⟨rfl, st7⟩; clear st6
  go_wp2_with (fail)
  refine (K3.out _ st7).mono ?_
  rintro e w8 ⟨rfl, st8⟩; clear st7
  go_wp2_with (fail)
  refine (K4.out _ st8).mono ?_
  rintro e w9 ⟨rfl, st9⟩; clear st8
  go_wp2_with (fail)
  refine (K5.out _ st9).mono ?_
  rintro e w10 ⟨rfl, st10⟩; clear st9
  go_wp2
  go_ret
  exact ⟨rfl, st10.2⟩

end Go.Proofs.YtkpjmhomgifdbaaDoor

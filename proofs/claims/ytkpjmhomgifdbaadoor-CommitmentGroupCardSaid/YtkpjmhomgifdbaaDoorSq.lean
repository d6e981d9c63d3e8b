/- The squares that an exponent's bits go with, as the program's iterator tells them; Power is base^exponent modulo the prime. -/
import Derived.Test.YtkpjmhomgifdbaaDoorRange
import Derived.Test.YtkpjmhomgifdbaaDoorCom
import Derived.RangeFuncLeaves
import Derived.Shelf.Abstract
import Derived.WalkKit
import Derived.OwnWalkIn
import Derived.TacticsInMore
import Derived.LoopNIn
import Derived.LoopIn
import Derived.Laws.BitsLemmas
import Derived.Lib.Hide
import Derived.Test.YtkpjmhomgifdbaaDoorProg
namespace Go.Proofs.YtkpjmhomgifdbaaDoor
open Go Go.RowKit Go.Shelf

attribute [local go_sem] Oper.semAt_some

/-- a residue, and whether its bit is set -/
def Small (n : Nat) : Prop := n < M.P
abbrev Rs := { n : Nat // Small n }
abbrev X := Rs × Bool
def encX (x : X) : Array Value := #[.int .i64 (x.1.1 : Int), .bool x.2]

def sqs (b : Rs) (e : Nat) : List X :=
  if h : e = 0 then [] else (b, e % 2 == 1) :: sqs ⟨b.1 * b.1 % M.P, Nat.mod_lt _ (by decide)⟩ (e / 2)
termination_by e
decreasing_by omega

theorem sqs_zero (b : Rs) : sqs b 0 = [] := by rw [sqs]; simp
theorem sqs_pos (b : Rs) {e : Nat} (h : e ≠ 0) : sqs b e = (b, e % 2 == 1) :: sqs ⟨b.1 * b.1 % M.P, Nat.mod_lt _ (by decide)⟩ (e / 2) := by rw [sqs]; simp [h]

def fld (o : Nat) (l : List X) : Nat := l.foldl (fun o x => if x.2 = true then o * x.1.1 % M.P else o) o
theorem fld_snoc (o : Nat) (l : List X) (x : X) : fld o (l ++ [x]) = if x.2 = true then fld o l * x.1.1 % M.P else fld o l := by simp [fld]
theorem fld_lt (o : Nat) (ho : o < M.P) (l : List X) : fld o l < M.P := by
  induction l generalizing o with
  | nil => exact ho
  | cons x l ih =>
    unfold fld at *
    rw [List.foldl_cons]
    split
    · exact ih _ (Nat.mod_lt _ (by decide))
    · exact ih _ ho
theorem fld_sqs : ∀ (m e : Nat), e ≤ m → ∀ (o : Nat) (b : Rs), o < M.P → fld o (sqs b e) = o * b.1 ^ e % M.P := by
  intro m
  induction m with
  | zero => intro e he o b ho; obtain rfl : e = 0 := by omega
            rw [sqs_zero, Nat.pow_zero, Nat.mul_one, Nat.mod_eq_of_lt ho]; rfl
  | succ m ih =>
    intro e he o b ho
    by_cases h0 : e = 0
    · subst h0; rw [sqs_zero, Nat.pow_zero, Nat.mul_one, Nat.mod_eq_of_lt ho]; rfl
    · rw [sqs_pos b h0]
      have hb : b.1 ^ e = (b.1 * b.1) ^ (e / 2) * b.1 ^ (e % 2) := by
        rw [← Nat.pow_two, ← Nat.pow_mul, ← Nat.pow_add, Nat.div_add_mod]
      unfold fld at ih ⊢
      rw [List.foldl_cons]
      by_cases h1 : e % 2 = 1
      · rw [if_pos (by simp [h1]), ih _ (by omega) _ _ (Nat.mod_lt _ (by decide)), Nat.mod_mul_mod, Nat.mul_mod, ← Nat.pow_mod, ← Nat.mul_mod, hb, h1, Nat.pow_one, Nat.mul_assoc, Nat.mul_comm (b.1)]
      · rw [if_neg (by simp [h1]), ih _ (by omega) _ _ ho, Nat.mul_mod, ← Nat.pow_mod, ← Nat.mul_mod, hb, show e % 2 = 0 by omega, Nat.pow_zero, Nat.mul_one]

def KpC (Bb Be : Nat) (W W' : World) : Prop := ∀ b, b = Bb ∨ b = Be → W'.cell? ⟨b, 0, none⟩ = W.cell? ⟨b, 0, none⟩ ∧ W'.frozen? ⟨b, 0, none⟩ = W.frozen? ⟨b, 0, none⟩

def natAt (W : World) (b : Nat) : Nat := match W.cell? ⟨b, 0, none⟩ with | some (.int _ n) => n.toNat | _ => 0
theorem natAt_eq {W : World} {b n : Nat} (h : W.cell? ⟨b, 0, none⟩ = some (.int .i64 (n : Int))) : natAt W b = n := by simp [natAt, h]

theorem bit_and (e : Nat) (h : e < 2 ^ 63) : (Go.bits .and .i64 (e : Int) 1 == 1) = (e % 2 == 1) := by
  have h1 := bits_mask .i64 63 (by decide) (fun n h0 h1 => by rw [IntKind.wrap_i64]; omega) 1 (by decide) (e : Int) (by omega) (by exact_mod_cast h)
  have h2 : Go.bits .and .i64 (e : Int) 1 = (e : Int) % 2 := by simpa using h1
  rw [h2, Bool.eq_iff_iff, beq_iff_eq, beq_iff_eq]; omega
theorem sq_wrap (b : Nat) (h : Small b) : wrap64 ((b : Int) * (b : Int)) = (b : Int) * (b : Int) := by
  unfold Small M.P at h
  have h1 : b * b ≤ 2147483579 * 2147483579 := Nat.mul_le_mul (by omega) (by omega)
  have h2 : ((b : Int) * (b : Int)) = ((b * b : Nat) : Int) := by simp
  rw [h2]; unfold wrap64; omega
theorem sq_mod (b : Nat) : Int.tmod ((b : Int) * (b : Int)) 2147483579 = ((b * b % M.P : Nat) : Int) := by
  rw [show ((b : Int) * (b : Int)) = ((b * b : Nat) : Int) by simp, Int.tmod_eq_emod_of_nonneg (by omega)]
  exact (Int.natCast_emod _ _).symm
theorem sq_emod (b : Nat) : ((b : Int) * (b : Int)) % 2147483579 = ((b * b % M.P : Nat) : Int) := by
  rw [show ((b : Int) * (b : Int)) = ((b * b : Nat) : Int) by simp]
  exact (Int.natCast_emod _ _).symm

set_option maxRecDepth 100000 in
set_option maxHeartbeats 1000000 in
theorem squares1_in (F : Fence) (n : Nat) (h23 : F.fn 23) (hro : F.round = none) (hn : 1 ≤ n) (l Bb Be : Nat) (hne : Bb ≠ Be) (b0 : Rs) (e0 : Nat) (h63 : Hid (e0 < 2 ^ 63)) (J Jx : List X → World → Prop)
    (hS : ∀ s W b v, (b = Bb ∨ b = Be) → J s W → J s (W.setCell ⟨b, 0, none⟩ v))
    (hY : ∀ pre x W, J pre W → pre.length < (sqs b0 e0).length → YieldAt F (n - 1) Tryd.prog l (encX x) W fun e W' =>
      (e = .returned (.bool true) ∧ J (pre ++ [x]) W' ∧ KpC Bb Be W W') ∨ (e = .returned (.bool false) ∧ Jx (pre ++ [x]) W'))
    (W : World) (hb : W.cell? ⟨Bb, 0, none⟩ = some (.int .i64 (b0.1 : Int))) (he : W.cell? ⟨Be, 0, none⟩ = some (.int .i64 (e0 : Int)))
    (hbf : W.frozen? ⟨Bb, 0, none⟩ = false) (hef : W.frozen? ⟨Be, 0, none⟩ = false) (h0 : J [] W) :
    CallsIn F n Tryd.prog 23 #[.func (.yield l) #[] #[], .pointer (some ⟨Be, 0, none⟩), .pointer (some ⟨Bb, 0, none⟩)] W fun e W' => (∃ v, e = .returned v) ∧
      ((∃ ys, ys = sqs b0 e0 ∧ J ys W') ∨ (∃ pre, True ∧ Jx pre W')) := by
  refine callsIn_of_wp Tryd.func23 rfl h23 ?_ hro
  simp only [Tryd.ntmps23, List.size_toArray, List.length_cons, List.length_nil, Nat.reduceAdd, Nat.reduceSub, Array.replicate_succ, Array.replicate_zero, List.push_toArray, List.append_toArray, List.nil_append, List.cons_append]
  gi_wp2
  gi_loopw [] (fun wr => ∃ (pre : List X) (b : Rs) (e : Nat), e ≤ e0 ∧ wr.cell? ⟨Bb, 0, none⟩ = some (.int .i64 (b.1 : Int)) ∧ wr.cell? ⟨Be, 0, none⟩ = some (.int .i64 (e : Int)) ∧ wr.frozen? ⟨Bb, 0, none⟩ = false ∧ wr.frozen? ⟨Be, 0, none⟩ = false ∧ sqs b0 e0 = pre ++ sqs b e ∧ J pre wr)
    (fun wr => natAt wr Be)
  case atStart =>
    exact ⟨[], b0, e0, Nat.le_refl _, hb, he, hbf, hef, rfl, h0⟩
  case round =>
    obtain ⟨pre, b, e, hle, hb, he, hbf, hef, hx, hJs⟩ := hrel
    obtain ⟨bn, hbn⟩ := b
    dsimp only at hb
    by_cases hz : e = 0
    · subst hz
      gi_wp2
      go_end0
      rw [sqs_zero, List.append_nil] at hx
      exact ⟨⟨_, rfl⟩, .inl ⟨_, rfl, by rw [hx]; exact hJs⟩⟩
    · rw [sqs_pos ⟨bn, hbn⟩ hz] at hx
      have hel : e < 2 ^ 63 := Nat.lt_of_le_of_lt hle h63.out
      have hepos : 0 < (e : Int) := by omega
      obtain ⟨fn, tmps, assign, body, hy, hR⟩ := hY pre (⟨bn, hbn⟩, e % 2 == 1) wr hJs (by rw [hx]; simp)
      have HX := Lib.hid hx
      clear hx
      dsimp only [encX] at hy
      have hbit := bit_and e hel
      clear hel
      gi_wp2
      refine hR.mono ?_
      rintro e1 W3 (⟨rfl, hJ3, hk3⟩ | ⟨rfl, hJx3⟩)
      · have hb3 := (hk3 Bb (.inl rfl)).1.trans hb
        have he3 := (hk3 Be (.inr rfl)).1.trans he
        have hbf3 := (hk3 Bb (.inl rfl)).2.trans hbf
        have hef3 := (hk3 Be (.inr rfl)).2.trans hef
        clear hk3
        have hm := sq_wrap bn hbn
        have hmm := sq_mod bn
        gi_wp2
        have hq : ((bn : Int) * (bn : Int)) % 2147483579 = ((bn * bn % M.P : Nat) : Int) := sq_emod bn
        have hqe : ((e : Int) / 2) = ((e / 2 : Nat) : Int) := by omega
        rw [hq, hqe]
        have c1 := World.cell?_setCell_same' W3 ⟨Bb, 0, none⟩ (.int .i64 ((bn * bn % M.P : Nat) : Int)) (by rw [hb3]; rfl)
        have c2 : (W3.setCell ⟨Bb, 0, none⟩ (.int .i64 ((bn * bn % M.P : Nat) : Int))).cell? ⟨Be, 0, none⟩ = some (.int .i64 (e : Int)) := by
          rw [World.cell?_setCell_other (h := fun h => hne (congrArg Addr.block h))]; exact he3
        generalize hW : W3.setCell ⟨Bb, 0, none⟩ (.int .i64 ((bn * bn % M.P : Nat) : Int)) = W4 at c1 c2 ⊢
        have f1 : W4.frozen? ⟨Bb, 0, none⟩ = false := by rw [← hW, World.frozen?_setCell]; exact hbf3
        have f2 : W4.frozen? ⟨Be, 0, none⟩ = false := by rw [← hW, World.frozen?_setCell]; exact hef3
        have j4 := hS _ W3 Bb (.int .i64 ((bn * bn % M.P : Nat) : Int)) (.inl rfl) hJ3
        rw [hW] at j4
        have c3 := World.cell?_setCell_same' W4 ⟨Be, 0, none⟩ (.int .i64 ((e / 2 : Nat) : Int)) (by rw [c2]; rfl)
        have c4 : (W4.setCell ⟨Be, 0, none⟩ (.int .i64 ((e / 2 : Nat) : Int))).cell? ⟨Bb, 0, none⟩ = some (.int .i64 ((bn * bn % M.P : Nat) : Int)) := by
          rw [World.cell?_setCell_other (h := fun h => hne (congrArg Addr.block h).symm)]; exact c1
        refine ⟨⟨_, ⟨bn * bn % M.P, Nat.mod_lt _ (by decide)⟩, e / 2, by omega, c4, c3, by rw [World.frozen?_setCell]; exact f1, by rw [World.frozen?_setCell]; exact f2, ?_, hS _ _ _ _ (.inr rfl) j4⟩, ?_⟩
        · rw [HX.out]; simp
        · rw [natAt_eq c3, natAt_eq he]; omega
      · gi_wp2
        refine bodyPost_ret (results_none rfl _ _ _) rfl ?_
        exact ⟨⟨_, rfl⟩, .inr ⟨_, trivial, hJx3⟩⟩

set_option maxHeartbeats 1000000 in
/-- the maker: both arguments are boxed; the function value captures the boxes. -/
theorem squares_in (F : Fence) (n : Nat) (h22 : F.fn 22) (hro : F.round = none) (b e : Int) (w : World) :
    CallsIn F n Tryd.prog 22 #[.int .i64 b, .int .i64 e] w fun en w' => en = .returned (.func (.func 23) #[] #[.pointer (some ⟨w.heap.size + 1, 0, none⟩), .pointer (some ⟨w.heap.size, 0, none⟩)]) ∧
      w' = (w.alloc (.cells #[.int .i64 b] 3)).alloc (.cells #[.int .i64 e] 3) := by
  refine callsIn_of_wp Tryd.func22 rfl h22 ?_ hro
  simp only [Tryd.ntmps22, List.size_toArray, List.length_cons, List.length_nil, Nat.reduceAdd, Nat.reduceSub, Array.replicate_succ, Array.replicate_zero, List.push_toArray, List.append_toArray, List.nil_append, List.cons_append]
  gi_wp2
  go_ret
  exact ⟨rfl, rfl⟩

theorem squares_stops (F : Fence) (n : Nat) (h23 : F.fn 23) (hro : F.round = none) (hn : 1 ≤ n) (Bb Be : Nat) (hne : Bb ≠ Be) (b0 : Rs) (e0 : Nat) (h63 : Hid (e0 < 2 ^ 63)) (w : World)
    (hB : Bb < w.heap.size) (hE : Be < w.heap.size) (hb : w.cell? ⟨Bb, 0, none⟩ = some (.int .i64 (b0.1 : Int))) (he : w.cell? ⟨Be, 0, none⟩ = some (.int .i64 (e0 : Int)))
    (hbf : w.frozen? ⟨Bb, 0, none⟩ = false) (hef : w.frozen? ⟨Be, 0, none⟩ = false) :
    SeqStopsT F n Tryd.prog 23 #[.pointer (some ⟨Be, 0, none⟩), .pointer (some ⟨Bb, 0, none⟩)] encX (fun b => b = Bb ∨ b = Be) (KpC Bb Be) (fun ys => ys = sqs b0 e0) (fun _ => True) (sqs b0 e0).length w :=
  fun l J Jx W hW _ _ hS hY h0 =>
    squares1_in F n h23 hro hn l Bb Be hne b0 e0 h63 J Jx hS hY W ((hW.cell (p := ⟨Bb, 0, none⟩) hB).trans hb) ((hW.cell (p := ⟨Be, 0, none⟩) hE).trans he)
      ((hW.frozen (p := ⟨Bb, 0, none⟩) hB).trans hbf) ((hW.frozen (p := ⟨Be, 0, none⟩) hE).trans hef) h0

end Go.Proofs.YtkpjmhomgifdbaaDoor

/- make([]T, 0, c): an empty row of the call's own, as the printed walks take it. -/
import Derived.Test.YtpbamfoaoeicgaaWMore
set_option linter.unusedVariables false
set_option linter.unusedSimpArgs false
namespace Go.Proofs.Ytpbamfoaoeicgaa.Make0
open Go Go.RowKit Go.Proofs.YtpbamfoaoeicgaaW.PrintWords

theorem R_make0 {P : Program} {ops : Array Oper} {Q : Exit → Act → World → Prop} {rest : List Oper} {a : Act} {o : Oper} {W : World} {α : Type} (d : Kd α) {w0 : World} (base e : Nat) (hgd : o.guard = none) {N : Tmp} (hd : o.dst = some N) (t : TypeId) (x y : Operand) (ho : o.op = .makeSlice t x y) (n : Int) (hx : a.eval x = .int .i64 0) (hy : a.eval y = .int .i64 n)
    (ht : P.underlying t = some (.slice e)) (z : Value) (bytes : Nat) (hinfo : (P.info? e).map (fun i => (i.zero, i.size, i.bytes)) = some (some z, d.sz, bytes)) (hb0 : 0 < bytes)
    {ok : Nat → Prop} (hfresh : ok W.heap.size) (h0 : 0 ≤ n) (hl : n.toNat * bytes ≤ 281474976710656) (HB : Below base w0 W) (hbase : base ≤ W.heap.size)
    (h : ∀ v1 w1, d.R e w1 base ok v1 ([] : List α) → Below base w0 w1 → W.grownBy w1 none → (∃ b, v1.ownBlock = some b ∧ W.heap.size ≤ b) → wpList P ops Q rest (a.put o.dst v1) w1) : wpList P ops Q (o :: rest) a W := by
  obtain ⟨m, rfl⟩ := Int.eq_ofNat_of_zero_le h0
  simp only [Int.toNat_natCast] at hl
  obtain ⟨i0, hi, hzz⟩ := Option.map_eq_some_iff.1 hinfo
  simp only [Prod.mk.injEq] at hzz
  obtain ⟨hz0, hz1, hz2⟩ := hzz
  have hm : m ≤ 281474976710656 := Nat.le_trans (Nat.le_mul_of_pos_right _ hb0) hl
  obtain ⟨w1, hr, hown, hg⟩ := run_make_own (P := P) W base t e i0 z d.sz ht hi hz0 hz1 .i64 .i64 m (by rw [hz2, Nat.mul_comm]; exact hl) (by unfold maxLen; omega) hbase
  have hok : ∀ k, (Value.slice (some ⟨W.heap.size, 0, none⟩) 0 m).ownBlock = some k → ok k := by
    intro k hk
    obtain rfl : W.heap.size = k := by simpa [Value.ownBlock] using hk
    exact hfresh
  exact Kd.event_run hgd (by simp [execOp, ho, hx, hy, hr]) (h _ _ ⟨hok, [], by simpa using hown, Reps.none _ _⟩ (HB.grown hg hbase (fun k e => by cases e)) hg ⟨W.heap.size, by simp [Value.ownBlock], Nat.le_refl _⟩)

end Go.Proofs.Ytpbamfoaoeicgaa.Make0

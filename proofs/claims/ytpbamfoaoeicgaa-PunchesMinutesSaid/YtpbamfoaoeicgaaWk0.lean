/- Laws for Worked: a made row as a block that is known whole; copy of rows of structs; the lists of cells. -/
import Derived.Test.YtpbamfoaoeicgaaUse
import Derived.Laws.CopyRow
import Derived.Laws.MakeOwn
import Derived.Laws.OwnMore
set_option linter.unusedVariables false
set_option linter.unusedSimpArgs false
namespace Go.Proofs.Ytpbamfoaoeicgaa.PAll
open Go Go.RowKit Go.Proofs.YtpbamfoaoeicgaaW.PrintWords Go.Proofs.YtpbamfoaoeicgaaW.PrintLast Go.Proofs.YtpbamfoaoeicgaaW.PrintMore

section
variable {P : Program} {ops : Array Oper} {Q : Exit → Act → World → Prop} {rest : List Oper} {a : Act} {o : Oper} {W : World}
theorem make_blk (hgd : o.guard = none) (t : TypeId) (x y : Operand) (ho : o.op = .makeSlice t x y) (e : TypeId) (m : Nat) (hx : a.eval x = .int .i64 (m : Int)) (hy : a.eval y = .int .i64 (m : Int))
    (ht : P.underlying t = some (.slice e)) (z : Value) (sz bytes : Nat) (hinfo : (P.info? e).map (fun i => (i.zero, i.size, i.bytes)) = some (some z, sz, bytes)) (hb0 : 0 < bytes) (hl : m * bytes ≤ 281474976710656)
    (h : ∀ w1, Aside0 (w1.heap[W.heap.size]? = some (.cells (madeCells z.cells (m * sz)) e (0, 0))) → Aside0 (Below W.heap.size W w1) → W.heap.size < w1.heap.size → wpList P ops Q rest (a.put o.dst (.slice (some ⟨W.heap.size, 0, none⟩) m m)) w1) : wpList P ops Q (o :: rest) a W := by
  obtain ⟨i0, hi, hzz⟩ := Option.map_eq_some_iff.1 hinfo
  simp only [Prod.mk.injEq] at hzz
  obtain ⟨hz0, hz1, hz2⟩ := hzz
  have hm : m ≤ 281474976710656 := Nat.le_trans (Nat.le_mul_of_pos_right _ hb0) hl
  have hr := run_make (P := P) W t e i0 z ht hi hz0 .i64 .i64 (m : Int) (m : Int) (by omega) (by omega)
    (by
      have h3 : ((i0.bytes * m : Nat) : Int) ≤ 281474976710656 := by rw [hz2, Nat.mul_comm]; omega
      rwa [Int.natCast_mul] at h3) (by omega)
  simp only [Int.toNat_natCast] at hr
  rw [hz1] at hr
  exact Kd.event_run hgd (by simp [execOp, ho, hx, hy, hr]) (h _ ⟨heap_alloc_new W _⟩ ⟨(Below.refl _ _).alloc (Nat.le_refl _) _⟩ (by simp))

/-- copy over the whole of a row of structs that the call owns -/
theorem run_copy_rowN (w : World) (dT sT ty elem : TypeId) (sz : Nat) (g dLen dCap : Nat) (sp : Option Addr) (sLen sCap : Nat) (cur : Array Value) (t : TypeId) (cs : List Value)
    (hu : P.underlying dT = some (.slice elem)) (hs : (P.info? elem).map (·.size) = some sz)
    (hg : w.heap[g]? = some (.cells cur t (0, 0))) (hn : cs.length = Nat.min sLen dLen * sz)
    (hsrc : 0 < cs.length → ∃ a, sp = some a ∧ ∀ j v, cs[j]? = some v → w.cell? (a.add j) = some v) (hsp : sp = none → sLen = 0) (hfit : cs.length = cur.size) (h1 : ∀ v ∈ cs, v.oneCell' = true) :
    ∃ w', (Builtin.copy_ #[dT, sT] ty #[.slice (some ⟨g, 0, none⟩) dLen dCap, .slice sp sLen sCap]).run P w = .ok (goInt (Nat.min sLen dLen)) w' ∧ w'.heap[g]? = some (.cells cs.toArray t (0, 0)) ∧ (∀ k, k ≠ g → w'.heap[k]? = w.heap[k]?) ∧ w'.heap.size = w.heap.size ∧ w'.os = w.os ∧ w'.tape = w.tape ∧ w'.output = w.output := by
  cases hq : P.info? elem with
  | none => simp [hq] at hs
  | some i =>
    have hi : i.size = sz := by simpa [hq] using hs
    have hst := run_storeCells_at P g 0 t cs 0 cur w hg (by omega) h1
    have hrow : (cur.toList.take (0 + 0) ++ cs ++ cur.toList.drop (0 + 0 + cs.length)) = cs := by simp [hfit]
    rw [hrow] at hst
    by_cases h0 : cs.length = 0
    · have hcs : cs = [] := List.eq_nil_of_length_eq_zero h0
      have hz : Nat.min sLen dLen * sz = 0 := by rw [← hn]; exact h0
      refine ⟨w.setRow g cs.toArray, ?_, setRow_heap w g cur _ t (0, 0) hg, fun k hk => setRow_other w g k _ hk, by simp [World.setRow], rfl, rfl, rfl⟩
      have hst' : (storeCells ⟨g, 0, none⟩ [] 0).run P w = .ok () (w.setRow g cs.toArray) := by rw [← hst, hcs]
      cases sp with
      | none =>
        have := hsp rfl
        subst this
        have e1 : w.setRow g cs.toArray = w := by
          have : (storeCells ⟨g, 0, none⟩ [] 0).run P w = .ok () w := rfl
          rw [this] at hst'
          injection hst' with _ h; exact h.symm
        rw [e1]
        simp [Builtin.copy_, run_underlying hu, Builtin.lenOf, Builtin.firstCells, sizeOf, typeInfo, hq, storeCells]
      | some ad =>
        have hl := run_loadCells_list (P := P) w ad [] (by simp)
        simp [Builtin.copy_, run_underlying hu, Builtin.lenOf, Builtin.firstCells, sizeOf, typeInfo, hq, hi, hz]
        have hl' : (loadCells ad 0).run P w = .ok #[] w := hl
        simp [hl', hst']
    · obtain ⟨ad, rfl, hsr⟩ := hsrc (by omega)
      have hl := run_loadCells_list (P := P) w ad cs hsr
      refine ⟨w.setRow g cs.toArray, ?_, setRow_heap w g cur _ t (0, 0) hg, fun k hk => setRow_other w g k _ hk, by simp [World.setRow], rfl, rfl, rfl⟩
      simp [Builtin.copy_, run_underlying hu, Builtin.lenOf, Builtin.firstCells, sizeOf, typeInfo, hq, hi, ← hn, hl, hst]
/-- copy over the whole of a row that the call owns, at the operation -/
theorem copy_blk (hgd : o.guard = none) (d s : Operand) (dT sT : TypeId) (ho : o.op = .call { callee := .builtin .copy, args := #[d, s], argTypes := #[dT, sT] }) (elem : TypeId) (hu : P.underlying dT = some (.slice elem)) (sz : Nat) (hs : (P.info? elem).map (·.size) = some sz)
    (g n dCap : Nat) (sp : Option Addr) (sCap : Nat) (hd : a.eval d = .slice (some ⟨g, 0, none⟩) n dCap) (hss : a.eval s = .slice sp n sCap) (cur : Array Value) (t : TypeId) (cs : List Value)
    (hg : W.heap[g]? = some (.cells cur t (0, 0))) (hn : cs.length = n * sz)
    (hsrc : 0 < cs.length → ∃ a, sp = some a ∧ ∀ j v, cs[j]? = some v → W.cell? (a.add j) = some v) (hsp : sp = none → n = 0) (hfit : cs.length = cur.size) (h1 : ∀ v ∈ cs, v.oneCell' = true)
    (h : ∀ w1, Aside0 (w1.heap[g]? = some (.cells cs.toArray t (0, 0))) → Aside0 (∀ k, k ≠ g → w1.heap[k]? = W.heap[k]?) → Aside0 (Below g W w1) → w1.heap.size = W.heap.size → wpList P ops Q rest (a.put o.dst (goInt n)) w1) : wpList P ops Q (o :: rest) a W := by
  obtain ⟨w1, hr, h2, h3, h4, h5, h6, h7⟩ := run_copy_rowN W dT sT o.type elem sz g n dCap sp n sCap cur t cs hu hs hg (by simpa using hn) hsrc hsp hfit h1
  rw [show Nat.min n n = n from Nat.min_self n] at hr
  refine wpList_plain hgd fun K hK => ?_
  unfold Oper.wp
  simp [execOp, ho, resolve, invoke, builtin, hd, hss, hr, Result.andThen]
  exact hK _ _ (h w1 ⟨h2⟩ ⟨h3⟩ ⟨⟨h5, h6, h7, by omega, fun k hk => h3 k (by omega)⟩⟩ h4)
end

/-- the cells of a list of shifts -/
def flat48 (l : List S48) : List Value := l.flatMap fun x => [.int .i64 x.f0, .int .i64 x.f1, .int .i64 x.f2]
theorem flat48_length : ∀ l : List S48, (flat48 l).length = l.length * 3
  | [] => rfl
  | x :: r => by have := flat48_length r; simp only [flat48, List.flatMap_cons, List.length_append, List.length_cons, List.length_nil] at *; omega
theorem flat48_cons (x : S48) (r : List S48) : flat48 (x :: r) = .int .i64 x.f0 :: .int .i64 x.f1 :: .int .i64 x.f2 :: flat48 r := rfl
theorem flat48_get : ∀ (l : List S48) (i : Nat) (h : i < l.length), (flat48 l)[i * 3]? = some (.int .i64 l[i].f0) ∧ (flat48 l)[i * 3 + 1]? = some (.int .i64 l[i].f1) ∧ (flat48 l)[i * 3 + 2]? = some (.int .i64 l[i].f2)
  | [], i, h => by simp at h
  | x :: r, 0, _ => by simp [flat48_cons]
  | x :: r, i + 1, h => by
    have := flat48_get r i (by simpa using h)
    simpa [flat48_cons, Nat.add_mul, Nat.add_right_comm] using this
theorem flat48_set0 : ∀ (l : List S48) (i : Nat) (h : i < l.length) (v : Int), (flat48 l).set (i * 3) (.int .i64 v) = flat48 (l.set i { l[i] with f0 := v })
  | [], i, h, _ => by simp at h
  | x :: r, 0, _, _ => by simp [flat48_cons]
  | x :: r, i + 1, h, v => by
    have := flat48_set0 r i (by simpa using h) v
    simpa [flat48_cons, Nat.add_mul, Nat.add_right_comm] using this
theorem flat48_set1 : ∀ (l : List S48) (i : Nat) (h : i < l.length) (v : Int), (flat48 l).set (i * 3 + 1) (.int .i64 v) = flat48 (l.set i { l[i] with f1 := v })
  | [], i, h, _ => by simp at h
  | x :: r, 0, _, _ => by simp [flat48_cons]
  | x :: r, i + 1, h, v => by
    have := flat48_set1 r i (by simpa using h) v
    simpa [flat48_cons, Nat.add_mul, Nat.add_right_comm] using this
theorem flat48_one (l : List S48) : ∀ v ∈ flat48 l, v.oneCell' = true := by
  intro v hv
  simp only [flat48, List.mem_flatMap, List.mem_cons, List.not_mem_nil, or_false] at hv
  obtain ⟨x, _, hv⟩ := hv
  rcases hv with rfl | rfl | rfl <;> rfl
end Go.Proofs.Ytpbamfoaoeicgaa.PAll

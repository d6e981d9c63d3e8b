/- Slices of structs that come in, opened for the rows of the laws. -/
import Derived.Test.YtpbamfoaoeicgaaPAllx0
import Derived.Deep.Slices
import Derived.Deep.Fields
import Derived.ChangeSame
import Derived.OpenShut
import Derived.DataElems
set_option linter.unusedVariables false
set_option linter.unusedSimpArgs false
namespace Go.Proofs.Ytpbamfoaoeicgaa.PAll
open Go Go.RowKit Go.ChangeShapes Go.WideShapes Go.Deep Go.Proofs.YtpbamfoaoeicgaaW.PrintWords Go.Proofs.YtpbamfoaoeicgaaW.PrintLast Go.Proofs.YtpbamfoaoeicgaaW.PrintMore

theorem list_choice {α : Type} {Q : Nat → α → Prop} : ∀ n, (∀ i, i < n → ∃ y, Q i y) → ∃ l : List α, l.length = n ∧ ∀ i (h : i < l.length), Q i l[i]
  | 0, _ => ⟨[], rfl, fun i h => by simp at h⟩
  | n + 1, h => by
    obtain ⟨l, hl, hq⟩ := list_choice n (fun i hi => h i (by omega))
    obtain ⟨y, hy⟩ := h n (by omega)
    refine ⟨l ++ [y], by simp [hl], fun i hi => ?_⟩
    by_cases hlt : i < l.length
    · rw [List.getElem_append_left hlt]; exact hq i hlt
    · have : i = n := by simp at hi; omega
      subst this
      subst hl
      simpa using hy
def i64 (n : Int) : Prop := -9223372036854775808 ≤ n ∧ n ≤ 9223372036854775807
section
variable {H : Type} {enc : TypeId × Value → H} {w : World} {base : Nat} {spare : Nat → Bool} {held : Bool}
theorem c48 : Try.prog.cellsOf 48 = 3 := by kernel_rfl
theorem c45 : Try.prog.cellsOf 45 = 2 := by kernel_rfl
theorem c3 : Try.prog.cellsOf 3 = 1 := by kernel_rfl
theorem c4 : Try.prog.cellsOf 4 = 1 := by kernel_rfl
theorem int_of {fuel : Nat} {cs : List Value} {o : Option (DataW H × List MemPlace)} (h : DataW.trod enc Try.prog w base spare held fuel 3 cs = o) (ho : o.isSome = true) : ∃ n, cs = [.int .i64 n] ∧ i64 n := by
  obtain ⟨x, hx⟩ := Option.isSome_iff_exists.1 ho
  obtain ⟨n, h1, _, h2⟩ := DataW.trod_int Try.underlying3 (h.trans hx)
  exact ⟨n, h1, bounds_i64 h2⟩
theorem bool_of {fuel : Nat} {cs : List Value} {o : Option (DataW H × List MemPlace)} (h : DataW.trod enc Try.prog w base spare held fuel 4 cs = o) (ho : o.isSome = true) : ∃ n, cs = [.bool n] := by
  obtain ⟨x, hx⟩ := Option.isSome_iff_exists.1 ho
  obtain ⟨n, h1, _⟩ := DataW.trod_bool Try.underlying4 (h.trans hx)
  exact ⟨n, h1⟩
theorem elem48 {n : Nat} {cs : List Value} {x : DataW H × List MemPlace} (h : DataW.trod enc Try.prog w base spare held n 48 cs = some x) : ∃ y : S48, cs = [.int .i64 y.f0, .int .i64 y.f1, .int .i64 y.f2] ∧ i64 y.f0 ∧ i64 y.f1 ∧ i64 y.f2 := by
  obtain ⟨ys, n', _, _, hl, hyl, hf⟩ := DataW.trod_struct Try.underlying48 h
  rw [c48] at hl
  have hs : ∀ i, i < 3 → (ys[i]?).isSome = true := fun i hi => by
    have : i < ys.length := by rw [hyl]; exact hi
    simp [this]
  have h0 : DataW.trod enc Try.prog w base spare held n' 3 (List.take (Try.prog.cellsOf 3) (List.drop 0 cs)) = ys[0]? := hf 0 _ rfl
  have h1 : DataW.trod enc Try.prog w base spare held n' 3 (List.take (Try.prog.cellsOf 3) (List.drop 1 cs)) = ys[1]? := hf 1 _ rfl
  have h2 : DataW.trod enc Try.prog w base spare held n' 3 (List.take (Try.prog.cellsOf 3) (List.drop 2 cs)) = ys[2]? := hf 2 _ rfl
  rw [c3] at h0 h1 h2
  obtain ⟨a, ha, ra⟩ := int_of h0 (hs 0 (by omega))
  obtain ⟨b, hb, rb⟩ := int_of h1 (hs 1 (by omega))
  obtain ⟨c, hc, rc⟩ := int_of h2 (hs 2 (by omega))
  match cs, hl with
  | [x0, x1, x2], _ =>
    simp at ha hb hc
    exact ⟨⟨a, b, c⟩, by rw [ha, hb, hc], ra, rb, rc⟩
theorem elem45 {n : Nat} {cs : List Value} {x : DataW H × List MemPlace} (h : DataW.trod enc Try.prog w base spare held n 45 cs = some x) : ∃ y : S45, cs = [.int .i64 y.f0, .bool y.f1] ∧ i64 y.f0 := by
  obtain ⟨ys, n', _, _, hl, hyl, hf⟩ := DataW.trod_struct Try.underlying45 h
  rw [c45] at hl
  have hs : ∀ i, i < 2 → (ys[i]?).isSome = true := fun i hi => by
    have : i < ys.length := by rw [hyl]; exact hi
    simp [this]
  have h0 : DataW.trod enc Try.prog w base spare held n' 3 (List.take (Try.prog.cellsOf 3) (List.drop 0 cs)) = ys[0]? := hf 0 _ rfl
  have h1 : DataW.trod enc Try.prog w base spare held n' 4 (List.take (Try.prog.cellsOf 4) (List.drop 1 cs)) = ys[1]? := hf 1 _ rfl
  rw [c3] at h0
  rw [c4] at h1
  obtain ⟨a, ha, ra⟩ := int_of h0 (hs 0 (by omega))
  obtain ⟨b, hb⟩ := bool_of h1 (hs 1 (by omega))
  match cs, hl with
  | [x0, x1], _ =>
    simp at ha hb
    exact ⟨⟨a, b⟩, by rw [ha, hb], ra⟩
theorem open48 {fuel : Nat} {a : Option Addr} {len cap : Nat} {cs : List Value} {x : DataW H × List MemPlace} (hcs : cs = [.slice a len cap]) (h : DataW.trod enc Try.prog w base spare held fuel 22 cs = some x) :
    ∃ xs : List S48, len = xs.length ∧ xs.length ≤ cap ∧ Kd.C k48 w a xs.length xs ∧ ∀ y ∈ xs, i64 y.f0 ∧ i64 y.f1 ∧ i64 y.f2 := by
  rcases open_slice Try.underlying22 h with ⟨he, _⟩ | ⟨a', len', cap', m, n, D, Pl, he, hb, hl, hm, hmm, hx, hi⟩
  · rw [hcs] at he
    simp at he
    obtain ⟨rfl, rfl, rfl⟩ := he
    exact ⟨[], rfl, by simp, ⟨rfl, by simp, fun h => by simp at h⟩, by simp⟩
  · rw [hcs] at he
    simp at he
    obtain ⟨rfl, rfl, rfl⟩ := he
    have hml : len ≤ m := by rw [hmm]; split <;> omega
    obtain ⟨l, hll, hq⟩ := list_choice (Q := fun i (y : S48) => (∀ j u, ([.int .i64 y.f0, .int .i64 y.f1, .int .i64 y.f2] : List Value)[j]? = some u → w.cell? (a'.add (i * 3 + j)) = some u) ∧ i64 y.f0 ∧ i64 y.f1 ∧ i64 y.f2) len (fun i hlt => by
      obtain ⟨cs', hc, ht'⟩ := hi i (by omega)
      rw [c48] at hc
      obtain ⟨_, h3, hat⟩ := World.cells?_some hc
      obtain ⟨y, rfl, hr⟩ := elem48 ht'
      refine ⟨y, fun j u hj => ?_, hr⟩
      rw [← Addr.add_add, hat j (by have := (List.getElem?_eq_some_iff.1 hj).1; simpa using this), hj])
    refine ⟨l, hll.symm, by omega, ⟨rfl, by simp only [maxLen] at hm; omega, fun _ => ⟨a', rfl, fun j p hj => ?_⟩⟩, fun y hy => ?_⟩
    · obtain ⟨hlt, rfl⟩ := List.getElem?_eq_some_iff.1 hj
      exact ⟨_, rfl, k48_mk w l[j], (hq j hlt).1⟩
    · obtain ⟨j, hlt, rfl⟩ := List.getElem_of_mem hy
      exact (hq j hlt).2
theorem open45 {fuel : Nat} {a : Option Addr} {len cap : Nat} {cs : List Value} {x : DataW H × List MemPlace} (hcs : cs = [.slice a len cap]) (h : DataW.trod enc Try.prog w base spare held fuel 23 cs = some x) :
    ∃ xs : List S45, len = xs.length ∧ xs.length ≤ cap ∧ Kd.C k45 w a xs.length xs ∧ ∀ y ∈ xs, i64 y.f0 := by
  rcases open_slice Try.underlying23 h with ⟨he, _⟩ | ⟨a', len', cap', m, n, D, Pl, he, hb, hl, hm, hmm, hx, hi⟩
  · rw [hcs] at he
    simp at he
    obtain ⟨rfl, rfl, rfl⟩ := he
    exact ⟨[], rfl, by simp, ⟨rfl, by simp, fun h => by simp at h⟩, by simp⟩
  · rw [hcs] at he
    simp at he
    obtain ⟨rfl, rfl, rfl⟩ := he
    have hml : len ≤ m := by rw [hmm]; split <;> omega
    obtain ⟨l, hll, hq⟩ := list_choice (Q := fun i (y : S45) => (∀ j u, ([.int .i64 y.f0, .bool y.f1] : List Value)[j]? = some u → w.cell? (a'.add (i * 2 + j)) = some u) ∧ i64 y.f0) len (fun i hlt => by
      obtain ⟨cs', hc, ht'⟩ := hi i (by omega)
      rw [c45] at hc
      obtain ⟨_, h3, hat⟩ := World.cells?_some hc
      obtain ⟨y, rfl, hr⟩ := elem45 ht'
      refine ⟨y, fun j u hj => ?_, hr⟩
      rw [← Addr.add_add, hat j (by have := (List.getElem?_eq_some_iff.1 hj).1; simpa using this), hj])
    refine ⟨l, hll.symm, by omega, ⟨rfl, by simp only [maxLen] at hm; omega, fun _ => ⟨a', rfl, fun j p hj => ?_⟩⟩, fun y hy => ?_⟩
    · obtain ⟨hlt, rfl⟩ := List.getElem?_eq_some_iff.1 hj
      exact ⟨_, rfl, k45_mk w l[j], (hq j hlt).1⟩
    · obtain ⟨j, hlt, rfl⟩ := List.getElem_of_mem hy
      exact (hq j hlt).2
end
section
variable {H : Type} {enc : TypeId × Value → H} {w : World} {base : Nat} {spare : Nat → Bool} {held : Bool}
theorem c5 : Try.prog.cellsOf 5 = 1 := by kernel_rfl
theorem c57 : Try.prog.cellsOf 57 = 3 := by kernel_rfl
theorem openB {fuel : Nat} {a : Option Addr} {len cap : Nat} {cs : List Value} {x : DataW H × List MemPlace} (hcs : cs = [.slice a len cap]) (h : DataW.trod enc Try.prog w base spare held fuel 36 cs = some x) :
    ∃ xs : List Int, len = xs.length ∧ xs.length ≤ cap ∧ Kd.C (Kd.int .u8) w a xs.length xs ∧ ∀ y ∈ xs, 0 ≤ y ∧ y ≤ 255 := by
  rcases open_slice Try.underlying36 h with ⟨he, _⟩ | ⟨a', len', cap', m, n, D, Pl, he, hb, hl, hm, hmm, hx, hi⟩
  · rw [hcs] at he
    simp at he
    obtain ⟨rfl, rfl, rfl⟩ := he
    exact ⟨[], rfl, by simp, ⟨rfl, by simp, fun h => by simp at h⟩, by simp⟩
  · rw [hcs] at he
    simp at he
    obtain ⟨rfl, rfl, rfl⟩ := he
    have hml : len ≤ m := by rw [hmm]; split <;> omega
    obtain ⟨l, hll, hq⟩ := list_choice (Q := fun i (y : Int) => (∀ j u, ([.int .u8 y] : List Value)[j]? = some u → w.cell? (a'.add (i * 1 + j)) = some u) ∧ 0 ≤ y ∧ y ≤ 255) len (fun i hlt => by
      obtain ⟨cs', hc, ht'⟩ := hi i (by omega)
      rw [c5] at hc
      obtain ⟨_, h3, hat⟩ := World.cells?_some hc
      obtain ⟨y, hy, _, hr⟩ := DataW.trod_int Try.underlying5 ht'
      subst hy
      refine ⟨y, fun j u hj => ?_, bounds_u8 hr⟩
      rw [← Addr.add_add, hat j (by have := (List.getElem?_eq_some_iff.1 hj).1; simpa using this), hj])
    refine ⟨l, hll.symm, by omega, ⟨rfl, by simp only [maxLen] at hm; omega, fun _ => ⟨a', rfl, fun j p hj => ?_⟩⟩, fun y hy => ?_⟩
    · obtain ⟨hlt, rfl⟩ := List.getElem?_eq_some_iff.1 hj
      exact ⟨[.int .u8 l[j]], rfl, rfl, (hq j hlt).1⟩
    · obtain ⟨j, hlt, rfl⟩ := List.getElem_of_mem hy
      exact (hq j hlt).2
theorem elem57 {n : Nat} {cs : List Value} {x : DataW H × List MemPlace} (h : DataW.trod enc Try.prog w base spare held n 57 cs = some x) : ∃ y : S57, cs = [.int .i64 y.f0, .bool y.f1, .int .i64 y.f2] ∧ i64 y.f0 ∧ i64 y.f2 := by
  obtain ⟨ys, n', _, _, hl, hyl, hf⟩ := DataW.trod_struct Try.underlying57 h
  rw [c57] at hl
  have hs : ∀ i, i < 3 → (ys[i]?).isSome = true := fun i hi => by
    have : i < ys.length := by rw [hyl]; exact hi
    simp [this]
  have h0 : DataW.trod enc Try.prog w base spare held n' 3 (List.take (Try.prog.cellsOf 3) (List.drop 0 cs)) = ys[0]? := hf 0 _ rfl
  have h1 : DataW.trod enc Try.prog w base spare held n' 4 (List.take (Try.prog.cellsOf 4) (List.drop 1 cs)) = ys[1]? := hf 1 _ rfl
  have h2 : DataW.trod enc Try.prog w base spare held n' 3 (List.take (Try.prog.cellsOf 3) (List.drop 2 cs)) = ys[2]? := hf 2 _ rfl
  rw [c3] at h0 h2
  rw [c4] at h1
  obtain ⟨a, ha, ra⟩ := int_of h0 (hs 0 (by omega))
  obtain ⟨b, hb⟩ := bool_of h1 (hs 1 (by omega))
  obtain ⟨c, hc, rc⟩ := int_of h2 (hs 2 (by omega))
  match cs, hl with
  | [x0, x1, x2], _ =>
    simp at ha hb hc
    exact ⟨⟨a, b, c⟩, by rw [ha, hb, hc], ra, rc⟩
theorem open57 {fuel : Nat} {a : Option Addr} {len cap : Nat} {cs : List Value} {x : DataW H × List MemPlace} (hcs : cs = [.slice a len cap]) (h : DataW.trod enc Try.prog w base spare held fuel 24 cs = some x) :
    ∃ xs : List S57, len = xs.length ∧ xs.length ≤ cap ∧ Kd.C k57 w a xs.length xs ∧ ∀ y ∈ xs, i64 y.f0 ∧ i64 y.f2 := by
  rcases open_slice Try.underlying24 h with ⟨he, _⟩ | ⟨a', len', cap', m, n, D, Pl, he, hb, hl, hm, hmm, hx, hi⟩
  · rw [hcs] at he
    simp at he
    obtain ⟨rfl, rfl, rfl⟩ := he
    exact ⟨[], rfl, by simp, ⟨rfl, by simp, fun h => by simp at h⟩, by simp⟩
  · rw [hcs] at he
    simp at he
    obtain ⟨rfl, rfl, rfl⟩ := he
    have hml : len ≤ m := by rw [hmm]; split <;> omega
    obtain ⟨l, hll, hq⟩ := list_choice (Q := fun i (y : S57) => (∀ j u, ([.int .i64 y.f0, .bool y.f1, .int .i64 y.f2] : List Value)[j]? = some u → w.cell? (a'.add (i * 3 + j)) = some u) ∧ i64 y.f0 ∧ i64 y.f2) len (fun i hlt => by
      obtain ⟨cs', hc, ht'⟩ := hi i (by omega)
      rw [c57] at hc
      obtain ⟨_, h3, hat⟩ := World.cells?_some hc
      obtain ⟨y, rfl, hr⟩ := elem57 ht'
      refine ⟨y, fun j u hj => ?_, hr⟩
      rw [← Addr.add_add, hat j (by have := (List.getElem?_eq_some_iff.1 hj).1; simpa using this), hj])
    refine ⟨l, hll.symm, by omega, ⟨rfl, by simp only [maxLen] at hm; omega, fun _ => ⟨a', rfl, fun j p hj => ?_⟩⟩, fun y hy => ?_⟩
    · obtain ⟨hlt, rfl⟩ := List.getElem?_eq_some_iff.1 hj
      exact ⟨_, rfl, k57_mk w l[j], (hq j hlt).1⟩
    · obtain ⟨j, hlt, rfl⟩ := List.getElem_of_mem hy
      exact (hq j hlt).2
end
end Go.Proofs.Ytpbamfoaoeicgaa.PAll

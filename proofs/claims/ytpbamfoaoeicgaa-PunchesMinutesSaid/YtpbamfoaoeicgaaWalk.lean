/- The closure that tells the matches of the right alignment. -/
import Derived.Test.YtpbamfoaoeicgaaFill
import Derived.RangeFuncBox
set_option linter.unusedVariables false
set_option linter.unusedSimpArgs false
namespace Go.Proofs.Ytpbamfoaoeicgaa.PAll
open Go Go.RowKit Go.Proofs.YtpbamfoaoeicgaaW.PrintWords Go.Proofs.YtpbamfoaoeicgaaW.PrintLast Go.Proofs.YtpbamfoaoeicgaaW.PrintMore

/-- the matches from mark i and punch j on -/
def wk (ms : List S68) (ps : List S45) (i j : Nat) : List S57 :=
  if i < ms.length ∧ j < ps.length ∧ tab ms ps i j = cst (rd_T68 ms i) (rd_T45 ps j) + tab ms ps (i + 1) (j + 1) then ⟨(rd_T68 ms i).f0, (rd_T68 ms i).f1, j⟩ :: wk ms ps (i + 1) (j + 1)
  else if i < ms.length ∧ tab ms ps i j = 120 + tab ms ps (i + 1) j then ⟨(rd_T68 ms i).f0, (rd_T68 ms i).f1, -1⟩ :: wk ms ps (i + 1) j
  else if j < ps.length then ⟨-1, false, j⟩ :: wk ms ps i (j + 1)
  else []
termination_by (ms.length - i) + (ps.length - j)
decreasing_by all_goals omega

def flat57 (l : List S57) : List Value := l.flatMap fun x => [.int .i64 x.f0, .bool x.f1, .int .i64 x.f2]
theorem flat57_snoc (l : List S57) (x : S57) : flat57 (l ++ [x]) = flat57 l ++ [.int .i64 x.f0, .bool x.f1, .int .i64 x.f2] := by simp [flat57]

/-- the closure's value -/
def clo (L P T O : Nat) : Value := .func (.func 27) #[] #[.pointer (some ⟨L, 0, none⟩), .pointer (some ⟨P, 0, none⟩), .pointer (some ⟨T, 0, none⟩), .pointer (some ⟨O, 0, none⟩), .pointer (some ⟨O + 1, 0, none⟩)]

/-- what lies when the closure is first called -/
structure Lies (w1 : World) (ms : List S68) (ps : List S45) (al : Option Addr) (cl : Nat) (A1 : Option Addr) (c1 : Nat) (L P T O B : Nat) : Prop where
  hL : L < O
  hP : P < O
  hT : T < O
  hB : B < O
  lt : O + 2 ≤ w1.heap.size
  l : w1.cell? ⟨L, 0, none⟩ = some (.slice al ms.length cl)
  p : w1.cell? ⟨P, 0, none⟩ = some (.slice A1 ps.length c1)
  t : w1.cell? ⟨T, 0, none⟩ = some (.pointer (some ⟨B, 0, none⟩))
  rl : ∀ W, Below O w1 W → Kd.C k68 W al ms.length ms
  rp : ∀ W, Below O w1 W → Kd.C k45 W A1 ps.length ps
  fill : Filled B ms ps (fun _ _ => True) w1
  near : Near ms ps
  hm : ms.length ≤ 48
  hn : ps.length ≤ 60

/-- what has been collected -/
structure Clo (w1 : World) (L P T O : Nat) (W : World) (v : Value) (out : List S57) : Prop where
  below : Below O w1 W
  lt : O + 2 ≤ W.heap.size
  o : Boxed W O 24 v
  k : Boxed W (O + 1) 64 (clo L P T O)
  row : W.ownsRow O 57 3 v out.length (flat57 out)

/-- what lies behind 'out = append(out, x)' -/
theorem after_append {w1 W w2 : World} {L P T O gg cap : Nat} {v : Value} {out : List S57} (x : S57) {tmp : Obj} (hc : Clo w1 L P T O W v out) (q : Nat)
    (hown : w2.ownsRow O 57 3 (.slice (some ⟨gg, 0, none⟩) (out.length + 1) cap) (out.length + 1) (flat57 out ++ [.int .i64 x.f0, .bool x.f1, .int .i64 x.f2]))
    (hgrow : ((W.drewN q).alloc tmp).grownBy w2 v.ownBlock) :
    w2.cell? ⟨O, 0, none⟩ = some v ∧ w2.frozen? ⟨O, 0, none⟩ = false ∧
      w2.cell? ⟨O + 1, 0, none⟩ = some (.func (.func 27) #[] #[.pointer (some ⟨L, 0, none⟩), .pointer (some ⟨P, 0, none⟩), .pointer (some ⟨T, 0, none⟩), .pointer (some ⟨O, 0, none⟩), .pointer (some ⟨O + 1, 0, none⟩)]) ∧
      Clo w1 L P T O (w2.setCell ⟨O, 0, none⟩ (.slice (some ⟨gg, 0, none⟩) (out.length + 1) cap)) (.slice (some ⟨gg, 0, none⟩) (out.length + 1) cap) (out ++ [x]) := by
  have hlt := hc.lt
  obtain ⟨hb2, ho2, hr2, -, be2⟩ := Boxed.appended (n₀ := O) (t := 24) (W := W.drewN q) (m := out.length + 1) (show Boxed (W.drewN q) O 24 v from hc.o) (by decide) (show (W.drewN q).ownsRow O 57 3 v out.length (flat57 out) from hc.row) (show O ≤ W.heap.size by omega) (Nat.le_refl _) hown hgrow
  have hk2 : Boxed w2 (O + 1) 64 (clo L P T O) := Boxed.kept (Boxed.alloc (W := W.drewN q) (show Boxed (W.drewN q) (O + 1) 64 _ from hc.k) tmp) hgrow (Boxed.not_row hc.k (by decide) hc.row)
  have hk3 := Boxed.kept hk2 (grownBy_setCell' w2 O (.slice (some ⟨gg, 0, none⟩) (out.length + 1) cap)) (by simp)
  refine ⟨hb2.cell, hb2.frozen, hk2.cell, Below.trans (Below.trans hc.below (pw_below_drewN (Below.refl _ _) q)) be2, hk3.lt, ho2, hk3, ?_⟩
  rw [flat57_snoc]
  simpa using hr2

set_option maxRecDepth 100000 in
set_option maxHeartbeats 2000000 in
theorem walk_end (w1 : World) (ms : List S68) (ps : List S45) (al : Option Addr) (cl : Nat) (A1 : Option Addr) (c1 : Nat) (L P T O B : Nat) (h : Lies w1 ms ps al cl A1 c1 L P T O B)
    (W : World) (v : Value) (out : List S57) (hc : Clo w1 L P T O W v out) :
    Calls Try.prog 27 #[.int .i64 (ms.length : Int), .int .i64 (ps.length : Int), .pointer (some ⟨L, 0, none⟩), .pointer (some ⟨P, 0, none⟩), .pointer (some ⟨T, 0, none⟩), .pointer (some ⟨O, 0, none⟩), .pointer (some ⟨O + 1, 0, none⟩)] W
      fun e W' => e = .returned (.tuple #[]) ∧ W' = W := by
  have cl1 := (hc.below.cell (p := ⟨L, 0, none⟩) h.hL).trans h.l
  have cp1 := (hc.below.cell (p := ⟨P, 0, none⟩) h.hP).trans h.p
  go_enter Try.func27, Try.ntmps27
  go_wp2
  first | go_end0 | ((try simp only [Exit.inBlock, Exit.then]); refine bodyPost_ret (results_none rfl _ _ _) rfl ?_)
  exact ⟨rfl, rfl⟩

set_option maxRecDepth 100000 in
set_option maxHeartbeats 2000000 in
theorem walk_tail (w1 : World) (ms : List S68) (ps : List S45) (al : Option Addr) (cl : Nat) (A1 : Option Addr) (c1 : Nat) (L P T O B : Nat) (h : Lies w1 ms ps al cl A1 c1 L P T O B)
    (W : World) (v : Value) (out : List S57) (hc : Clo w1 L P T O W v out) (i j : Nat) (hi : i = ms.length) (hj : j < ps.length) (hlen : out.length ≤ i + j)
    (ih : Hid (∀ W v, Clo w1 L P T O W v (out ++ [⟨-1, false, j⟩]) → Calls Try.prog 27 #[.int .i64 (i : Int), .int .i64 ((j + 1 : Nat) : Int), .pointer (some ⟨L, 0, none⟩), .pointer (some ⟨P, 0, none⟩), .pointer (some ⟨T, 0, none⟩), .pointer (some ⟨O, 0, none⟩), .pointer (some ⟨O + 1, 0, none⟩)] W
      fun e W' => e = .returned (.tuple #[]) ∧ ∃ v', Clo w1 L P T O W' v' (out ++ [⟨-1, false, j⟩] ++ wk ms ps i (j + 1)))) :
    Calls Try.prog 27 #[.int .i64 (i : Int), .int .i64 (j : Int), .pointer (some ⟨L, 0, none⟩), .pointer (some ⟨P, 0, none⟩), .pointer (some ⟨T, 0, none⟩), .pointer (some ⟨O, 0, none⟩), .pointer (some ⟨O + 1, 0, none⟩)] W
      fun e W' => e = .returned (.tuple #[]) ∧ ∃ v', Clo w1 L P T O W' v' (out ++ [⟨-1, false, j⟩] ++ wk ms ps i (j + 1)) := by
  have cl1 := (hc.below.cell (p := ⟨L, 0, none⟩) h.hL).trans h.l
  have cp1 := (hc.below.cell (p := ⟨P, 0, none⟩) h.hP).trans h.p
  subst hi
  have e1 : ((ms.length : Int) == (ms.length : Int)) = true := by simp
  have e2 : ((j : Int) == (ps.length : Int)) = false := by simp; omega
  have e3 : decide ((ms.length : Int) < (ms.length : Int)) = false := by simp
  have co := hc.o.cell
  have fo := hc.o.frozen
  go_enter Try.func27, Try.ntmps27
  go_wp2_with (fail)
  go_quiet (fail)
  go_wp2_with (fail)
  go_quiet (fail)
  obtain ⟨i0, hi0, hz0, hz1, hz2⟩ := info_parts info57
  have HC := Lib.hid hc
  have HL := Lib.hid h
  clear hc h
  go_wp2_with (at_builtin; refine wpList_append_lies _ rfl _ _ _ rfl O 57 i0 _ 3 24 Try.underlying24 hi0 hz0 hz1 hz2 rfl (by omega) v out.length (flat57 out) (by rfl) (HC.out.row.alloc _) ⟨W.heap.size, 0, none⟩ 1 1 [.int .i64 (-1), .bool false, .int .i64 j] (by rfl) (by rfl) (World.news_of_block (cs := #[.int .i64 (-1), .bool false, .int .i64 j]) (t := 57) (fr := (0, 0)) (heap_alloc_new _ _)) (by simp [Value.oneCell']) (by omega) (by have := HL.out.hm; have := HL.out.hn; simp only [maxLen]; omega) (by have := HL.out.hm; have := HL.out.hn; omega) (by have := HC.out.lt; simp; omega) _ rfl ?_; intro gg cap w2 hown hgrow hat hgl; clear hat hgl; obtain ⟨co2, fo2, ck2, hc2⟩ := after_append ⟨-1, false, j⟩ HC.out _ hown hgrow; have HC2 := Lib.hid hc2; clear hc2 hown hgrow)
  have ej : wrap64 ((j : Int) + 1) = ((j + 1 : Nat) : Int) := by have := HL.out.hn; simp only [wrap64]; omega
  rw [ej]
  refine (ih.out _ _ HC2.out).mono ?_
  rintro e w3 ⟨rfl, h3⟩
  go_wp2
  first | go_end0 | ((try simp only [Exit.inBlock, Exit.then]); refine bodyPost_ret (results_none rfl _ _ _) rfl ?_)
  exact ⟨rfl, h3⟩
end Go.Proofs.Ytpbamfoaoeicgaa.PAll

/- The program's Lex: the tokens that its iterator tells, as a list, or the first error and its place. -/
import Derived.Test.YticmjkjojhcdpaaDoorTokens
import Derived.Maps.AppendAt
import Derived.WalkMore
import Derived.Shelf.RegionOpen
set_option linter.unusedVariables false
set_option linter.unusedSimpArgs false
namespace Go.Proofs.YticmjkjojhcdpaaDoor.PAll
open Go Go.RowKit Go.Shelf Go.Proofs.YticmjkjojhcdpaaDoorW.PrintWords Go.Proofs.YticmjkjojhcdpaaDoorW.PrintLast Go.Proofs.YticmjkjojhcdpaaDoorW.PrintMore

attribute [local go_sem] Oper.semAt_some

def toS (x : Tok) : S30 := ⟨x.1, x.2.1, x.2.2⟩
def flat (l : List Tok) : List Value := l.flatMap fun x => [.int .i64 x.1, .string x.2.1, .int .i64 x.2.2]
theorem flat_snoc (l : List Tok) (x : Tok) : flat (l ++ [x]) = flat l ++ [.int .i64 x.1, .string x.2.1, .int .i64 x.2.2] := by simp [flat]
/-- what Lex makes of the tokens that come, 'out' having been collected -/
def fin (out : List Tok) : List Tok → List Tok × Int × Int
  | [] => (out, 0, 0)
  | x :: r => if out.length = 2000 then ([], 2, x.2.2) else if x.1 = 0 then ([], 61, x.2.2) else fin (out ++ [x]) r
def rounds (s : ByteArray) : Nat := s.size + 100
def lexer_Lex.f (a0 : ByteArray) : Option (List S30 × Int × Int) :=
  if (a0.size : Int) > 6000 then some ([], 2, 0)
  else (lexer_gap.f (rounds a0) a0).bind fun g => if 0 ≤ g then (toks (rounds a0) a0 (rounds a0) g).bind fun l => some ((fin [] l).1.map toS, (fin [] l).2.1, (fin [] l).2.2) else none

theorem wide_scope {n : Nat} {P : Program} {Q : Exit → Act → World → Prop} {a : Act} {w : World} {c : Code} (h : c.wpIn Fence.wide n P (Exit.noGoto Q) a w) : (Code.scope c).wpIn Fence.wide n P Q a w :=
  wpIn_wide.2 (wp_scope_straight (wpIn_wide.1 h))
theorem wide_label {n : Nat} {P : Program} {Q : Exit → Act → World → Prop} {a : Act} {w : World} {l : Nat} (h : Q .normal a w) : (Code.label l).wpIn Fence.wide n P Q a w :=
  wpIn_wide.2 (wp_label h)
theorem KpL.refl (Bs : Nat) (W : World) : KpL Bs W W := ⟨rfl, rfl, Nat.le_refl _⟩
theorem KpL.alloc {Bs : Nat} {W W' : World} (h : KpL Bs W W') (h0 : 0 < W'.heap.size) (hs : Bs < W'.heap.size) (o : Obj) : KpL Bs W (W'.alloc o) :=
  ⟨(Below.heap_alloc _ _ _ h0).trans h.1, (Below.heap_alloc _ _ _ hs).trans h.2.1, by have := h.2.2; simp; omega⟩
theorem KpL.set {Bs b : Nat} {W W' : World} (h : KpL Bs W W') (h0 : b ≠ 0) (hs : b ≠ Bs) (v : Value) : KpL Bs W (W'.setCell ⟨b, 0, none⟩ v) :=
  ⟨(Below.heap_setCell W' ⟨b, 0, none⟩ v 0 (fun e => h0 e.symm)).trans h.1, (Below.heap_setCell W' ⟨b, 0, none⟩ v Bs (fun e => hs e.symm)).trans h.2.1, by have := h.2.2; have e := (KeepsWalks.setCell W' ⟨b, 0, none⟩ v).size; omega⟩
theorem KpL.grown {Bs : Nat} {W W' W2 : World} {row : Option Nat} (h : KpL Bs W W') (hg : W'.grownBy W2 row) (h0 : 0 < W'.heap.size) (hs : Bs < W'.heap.size) (r0 : some 0 ≠ row) (rs : some Bs ≠ row) : KpL Bs W W2 :=
  ⟨(hg.block 0 h0 r0).trans h.1, (hg.block Bs hs rs).trans h.2.1, Nat.le_trans h.2.2 hg.size⟩
def Box3 (W : World) (B : Nat) (x : Tok) : Prop := W.heap[B]? = some (.cells #[.int .i64 x.1, .string x.2.1, .int .i64 x.2.2] 30 (0, 0))

section
variable {W : World} {B : Nat} {x : Tok}
theorem Box3.cell0 (h : Box3 W B x) : W.cell? ⟨B, 0, none⟩ = some (.int .i64 x.1) := by simp [World.cell?, show W.heap[B]? = _ from h]
theorem Box3.cell1 (h : Box3 W B x) : W.cell? ⟨B, 1, none⟩ = some (.string x.2.1) := by simp [World.cell?, show W.heap[B]? = _ from h]
theorem Box3.cell2 (h : Box3 W B x) : W.cell? ⟨B, 2, none⟩ = some (.int .i64 x.2.2) := by simp [World.cell?, show W.heap[B]? = _ from h]
end
theorem owns_slice {W : World} {base e size n : Nat} {v : Value} {xs : List Value} (h : W.ownsRow base e size v n xs) : ∃ A cap, v = .slice A n cap := by
  rcases h.2 with ⟨rfl, rfl⟩ | ⟨g, cap, _, rfl, _⟩
  · exact ⟨none, 0, rfl⟩
  · exact ⟨_, cap, rfl⟩
theorem flat_len (l : List Tok) : (flat l).length = l.length * 3 := by
  induction l with
  | nil => rfl
  | cons x r ih => simp [flat] at ih ⊢; omega
theorem R_flat {W : World} {base : Nat} {v : Value} {l : List Tok} (h : W.ownsRow base 30 3 v l.length (flat l)) : Kd.R k30 30 W base (fun _ => True) v (l.map toS) := by
  refine ⟨fun _ _ => trivial, flat l, by rw [List.length_map]; exact h, by rw [flat_len, List.length_map]; rfl, ?_⟩
  intro j p hj
  obtain ⟨x, hx, rfl⟩ : ∃ x, l[j]? = some x ∧ toS x = p := by simpa using hj
  suffices e : ((flat l).drop (j * 3)).take 3 = [.int .i64 x.1, .string x.2.1, .int .i64 x.2.2] by
    show k30.M _ _ _ _ (((flat l).drop (j * 3)).take 3)
    rw [e]; exact k30_mkM _ _ _ (toS x)
  clear h hj
  induction l generalizing j with
  | nil => simp at hx
  | cons y r ih =>
    cases j with
    | zero => simp at hx; subst hx; simp [flat]
    | succ j =>
      have : flat (y :: r) = [.int .i64 y.1, .string y.2.1, .int .i64 y.2.2] ++ flat r := by simp [flat]
      rw [this, show (j + 1) * 3 = 3 + j * 3 by omega, ← List.drop_drop]
      exact ih j (by simpa using hx)
theorem wide_noPanic {n : Nat} {P : Program} {Q : Exit → Act → World → Prop} {a : Act} {w : World} {id : Nat} {ops : Array Oper} {b : Bool} (h : (Code.region id ops b).wpIn Fence.wide n P (NoPanic Q) a w) : (Code.region id ops b).wpIn Fence.wide n P Q a w :=
  wpIn_wide.2 (wp_region_noPanic (wpIn_wide.1 h))
theorem cell_three_new (w : World) (x y z : Value) (t : TypeId) : ∀ j u, [x, y, z][j]? = some u → (w.alloc (.cells #[x, y, z] t)).cell? ((⟨w.heap.size, 0, none⟩ : Addr).add j) = some u := by
  intro j u hj
  match j, hj with
  | 0, hj => simp at hj; subst hj; simp [Addr.add]
  | 1, hj => simp at hj; subst hj; simp [Addr.add]
  | 2, hj => simp at hj; subst hj; simp [Addr.add]
theorem fin_step {pre : List Tok} {x : Tok} (h : ∀ rest, fin [] (pre ++ rest) = fin pre rest) (rest : List Tok) : fin [] ((pre ++ [x]) ++ rest) = fin pre (x :: rest) := by
  rw [List.append_assoc, h]; rfl
theorem fin_full {pre : List Tok} {x : Tok} (h : ∀ rest, fin [] (pre ++ rest) = fin pre rest) (hl : pre.length = 2000) (rest : List Tok) : fin [] ((pre ++ [x]) ++ rest) = ([], 2, x.2.2) := by
  rw [fin_step h]; unfold fin; rw [if_pos hl]
theorem fin_bad {pre : List Tok} {x : Tok} (h : ∀ rest, fin [] (pre ++ rest) = fin pre rest) (hl : ¬ pre.length = 2000) (hx : x.1 = 0) (rest : List Tok) : fin [] ((pre ++ [x]) ++ rest) = ([], 61, x.2.2) := by
  rw [fin_step h]; unfold fin; rw [if_neg hl, if_pos hx]
theorem fin_more {pre : List Tok} {x : Tok} (h : ∀ rest, fin [] (pre ++ rest) = fin pre rest) (hl : ¬ pre.length = 2000) (hx : ¬ x.1 = 0) (rest : List Tok) : fin [] ((pre ++ [x]) ++ rest) = fin (pre ++ [x]) rest := by
  rw [fin_step h]; conv => lhs; unfold fin
  rw [if_neg hl, if_neg hx]
set_option maxRecDepth 100000 in
set_option maxHeartbeats 4000000 in
theorem Lex_in (n : Nat) (hn : 6 ≤ n) (k m0 : Nat) (s : ByteArray) (g0 : Int) (L : List Tok) (h6 : Hid (¬ (s.size : Int) > 6000)) (hg0 : Hid (0 ≤ g0))
    (HG0 : Hid (lexer_gap.f k s = some g0)) (HL : Hid (toks k s m0 g0 = some L)) (w : World) (hG : Hid (Glob w)) :
    CallsIn Fence.wide n Tryd.prog 11 #[.string s] w fun e w' => ∃ v0 : Value, e = .returned (.tuple #[v0, .int .i64 (fin [] L).2.1, .int .i64 (fin [] L).2.2]) ∧ Kd.R k30 30 w' w.heap.size (fun _ => True) v0 ((fin [] L).1.map toS) ∧ Below w.heap.size w w' := by
  have h1 : 1 ≤ n := by omega
  have c2b0 : decide (6000 < (s.size : Int)) = false := decide_eq_false (by have := h6.out; omega)
  have c2b1 : decide (6000 < s.size) = false := decide_eq_false (by have := h6.out; omega)
  refine callsIn_of_wp_marks Tryd.func11 rfl trivial ?_ rfl
  simp only [Tryd.ntmps11, List.size_toArray, List.length_cons, List.length_nil, Nat.reduceAdd, Nat.reduceSub, Array.replicate_succ, Array.replicate_zero, List.push_toArray, List.append_toArray, List.nil_append, List.cons_append]
  gi_wp2
  refine wide_scope ?_
  gi_wp2
  refine wide_label ?_
  gi_wp2
  refine ⟨trivial, (tokens_in _ s _).mono ?_⟩
  rintro e w' ⟨rfl, rfl⟩
  gi_wp2
  have b5 := (((Boxed.new w 23 (.slice none 0 0)).alloc (.cells #[.int .i64 0] 24)).alloc (.cells #[.int .i64 0] 3)).alloc (.cells #[.string s] 9)
  have b6 := ((Boxed.new (w.alloc (.cells #[.slice none 0 0] 23)) 24 (.int .i64 0)).alloc (.cells #[.int .i64 0] 3)).alloc (.cells #[.string s] 9)
  have b7 := (Boxed.new ((w.alloc (.cells #[.slice none 0 0] 23)).alloc (.cells #[.int .i64 0] 24)) 3 (.int .i64 0)).alloc (.cells #[.string s] 9)
  have b8 := Boxed.new (((w.alloc (.cells #[.slice none 0 0] 23)).alloc (.cells #[.int .i64 0] 24)).alloc (.cells #[.int .i64 0] 3)) 9 (.string s)
  simp only [World.size_alloc] at b6 b7 b8
  have hB0 : Below w.heap.size w ((((w.alloc (.cells #[.slice none 0 0] 23)).alloc (.cells #[.int .i64 0] 24)).alloc (.cells #[.int .i64 0] 3)).alloc (.cells #[.string s] 9)) := ((((Below.refl _ w).alloc (Nat.le_refl _) _).alloc (by simp) _).alloc (by simp; omega) _).alloc (by simp; omega) _
  have hsz : ((((w.alloc (.cells #[.slice none 0 0] 23)).alloc (.cells #[.int .i64 0] 24)).alloc (.cells #[.int .i64 0] 3)).alloc (.cells #[.string s] 9)).heap.size = w.heap.size + 4 := by simp
  obtain ⟨W0, hW0⟩ : ∃ W0, ((((w.alloc (.cells #[.slice none 0 0] 23)).alloc (.cells #[.int .i64 0] 24)).alloc (.cells #[.int .i64 0] 3)).alloc (.cells #[.string s] 9)) = W0 := ⟨_, rfl⟩
  rw [hW0] at b5 b6 b7 b8 hB0 hsz ⊢
  clear hW0
  have hG0 := hG.out.below hB0
  have hw0 := hG.out.2
  refine wpIn_rangeFunc_ownH rfl h1 (gf := 22) (lb := #[.pointer (some ⟨w.heap.size + 1 + 1 + 1, 0, none⟩)]) rfl trivial (enters_of Tryd.func22 (by kernel_rfl) rfl)
    (tokens_stops (n - 1) (w.heap.size + 1 + 1 + 1) k m0 s g0 L (Lib.hid (by have := h6.out; omega)) hg0.out HG0 HL W0 (by omega) hG0 b8.cell b8.frozen) KpL.trans (KpL.put (by omega) (by omega)) (Below.refl _ _) (fun _ => rfl)
    (fun pre W => (((((∃ v, Boxed W w.heap.size 23 v ∧ W.ownsRow w.heap.size 30 3 v pre.length (flat pre) ∧ True) ∧ Boxed W (w.heap.size + 1) 24 (.int .i64 0)) ∧ Boxed W (w.heap.size + 1 + 1) 3 (.int .i64 0)) ∧ Boxed W (w.heap.size + 1 + 1 + 1) 9 (.string s)) ∧ (pre.length ≤ 2000 ∧ ∀ rest, fin [] (pre ++ rest) = fin pre rest)) ∧ Below w.heap.size w W)
    (fun c pre W => ∃ p : Int × Int, (((c = .exit 0 ∧ (p.1 == 0) = false ∧ (p.1 != 0) = true ∧ ∀ rest, fin [] (pre ++ rest) = ([], p.1, p.2)) ∧ Boxed W (w.heap.size + 1) 24 (.int .i64 p.1)) ∧ Boxed W (w.heap.size + 1 + 1) 3 (.int .i64 p.2)) ∧ Below w.heap.size w W)
    (OwnFrom.and (OwnFrom.and (OwnFrom.and (OwnFrom.and (OwnFrom.and (Own.from (holdsRow_own _ _ _ _ _ (fun pre : List Tok => pre.length) (fun pre => flat pre) (fun _ _ => True)) _) (Own.from (boxed_own _ _ _) _)) (Own.from (boxed_own _ _ _) _)) (Own.from (boxed_own _ _ _) _)) (ownFrom_pure _ _)) (ownFrom_below (Nat.le_refl _) (by omega)))
    (fun c s' X Y row hs hg hr => by
      obtain ⟨p, hp⟩ := hs
      exact ⟨p, (OwnFrom.and (OwnFrom.and (OwnFrom.and (ownFrom_pure (β := Unit) _ (fun _ => _)) (Own.from (boxed_own _ _ (fun _ => .int .i64 p.1)) _)) (Own.from (boxed_own _ _ (fun _ => .int .i64 p.2)) _)) (ownFrom_below (Nat.le_refl _) (by omega))) () X Y row hp hg hr⟩)
    ⟨⟨⟨⟨⟨⟨_, b5, World.ownsRow_nil _ _ _ _, trivial⟩, b6⟩, b7⟩, b8⟩, by simp⟩, hB0⟩
    (fun x a' W => ∃ Bx, w.heap.size + 3 < Bx ∧ Box3 W Bx x ∧ a' = { tmps := #[Value.string s, undef, Value.slice none 0 0, Value.int IntKind.i64 0, Value.int IntKind.i64 0,
          .pointer (some ⟨w.heap.size, 0, none⟩), .pointer (some ⟨w.heap.size + 1, 0, none⟩), .pointer (some ⟨w.heap.size + 1 + 1, 0, none⟩), .pointer (some ⟨Bx, 0, none⟩), .string s,
          .int .i64 s.size, .bool false, .string s, .func (.func 22) #[] #[.pointer (some ⟨w.heap.size + 1 + 1 + 1, 0, none⟩)], .agg #[.int .i64 x.1, .string x.2.1, .int .i64 x.2.2],
          undef, undef, undef, undef, undef, undef, undef, undef, undef, undef, undef, undef, undef, undef, undef, undef, undef, undef, undef, undef, undef], defers := [] })
    (fun x a' _ X Y row hs hg hr => by
      obtain ⟨Bx, e1, e2, e3⟩ := hs
      refine ⟨Bx, e1, (hg.block Bx (Array.getElem?_eq_some_iff.1 e2).1 (fun e' => ?_)).trans e2, e3⟩
      obtain ⟨_, o, ho, hc⟩ := hr Bx e'.symm
      rw [show X.heap[Bx]? = _ from e2] at ho; cases ho; cases hc)
    ?assign ?body ?done ?stop
  case assign =>
    rintro l pre x W K ⟨⟨⟨⟨⟨⟨v, hv, hrow, -⟩, c6⟩, c7⟩, c8⟩, hpre⟩, hB⟩ hK
    dsimp only [encT]
    gi_wp2
    have l8 := c8.lt
    exact hK _ _ ((KeepsOthers.alloc _ _).from _) ((KpL.refl _ _).alloc (by omega) (by omega) _) ⟨⟨⟨⟨⟨⟨v, hv.alloc _, hrow.alloc _, trivial⟩, c6.alloc _⟩, c7.alloc _⟩, c8.alloc _⟩, hpre⟩, hB.alloc hB.size _⟩ ⟨W.heap.size, by omega, World.alloc_heap_new W _, rfl⟩
  case body =>
    rintro l pre x a' W hl ⟨r, hr⟩ ⟨⟨⟨⟨⟨⟨v, hv, hrow, -⟩, c6⟩, c7⟩, c8⟩, hlen, hfin⟩, hB⟩ ⟨Bx, hBx, bX, rfl⟩ hlt
    have l8 := c8.lt
    have x0 := bX.cell0
    have x1 := bX.cell1
    have x2 := bX.cell2
    have HF := Lib.hid hfin
    clear hfin
    obtain ⟨A, cap, rfl⟩ := owns_slice hrow
    have v1 := hv.cell
    have v2 := hv.frozen
    have u1 := c6.cell
    have u2 := c6.frozen
    have y1 := c7.cell
    have y2 := c7.frozen
    have hmo : Tryd.prog.follows .mixedOrders = true := by kernel_rfl
    by_cases h2k : pre.length = 2000
    · have t1 : ((pre.length : Int) == 2000) = true := by simpa using (by omega : (pre.length : Int) = 2000)
      have HK := Lib.hid h2k
      clear h2k
      gi_wp2
      gi_region_with_o (fail)
      all_goals gi_wp2
      all_goals exact ⟨(((KeepsOthers.setCell _ _ _).trans (KeepsOthers.setCell _ _ _)).trans (KeepsOthers.drew _)).from _, (2, x.2.2), ⟨⟨⟨rfl, rfl, rfl, fun rest => fin_full HF.out HK.out rest⟩, ((c6.set _).other (by omega) _)⟩, (c7.other (by omega) _).set _⟩, ((hB.setCell (p := ⟨w.heap.size + 1, 0, none⟩) (by simp) _).setCell (p := ⟨w.heap.size + 1 + 1, 0, none⟩) (by simp; omega) _).drew⟩
    · have t1 : ((pre.length : Int) == 2000) = false := by simpa using (by omega : ¬ (pre.length : Int) = 2000)
      have HK := Lib.hid h2k
      clear h2k
      by_cases hx0 : x.1 = 0
      · have t2 : (x.1 == 0) = true := by simpa using hx0
        have HX := Lib.hid hx0
        clear hx0
        gi_wp2
        gi_region_with_o (fail)
        all_goals gi_wp2
        all_goals exact ⟨(((KeepsOthers.setCell _ _ _).trans (KeepsOthers.setCell _ _ _)).trans (KeepsOthers.drew _)).from _, (61, x.2.2), ⟨⟨⟨rfl, rfl, rfl, fun rest => fin_bad HF.out HK.out HX.out rest⟩, ((c6.set _).other (by omega) _)⟩, (c7.other (by omega) _).set _⟩, ((hB.setCell (p := ⟨w.heap.size + 1, 0, none⟩) (by simp) _).setCell (p := ⟨w.heap.size + 1 + 1, 0, none⟩) (by simp; omega) _).drew⟩
      · have t2 : (x.1 == 0) = false := by simpa using hx0
        have HX := Lib.hid hx0
        clear hx0
        obtain ⟨i0, hi, hz0, hz1, hz2⟩ := info_parts info30
        gi_wp2_with (gi_at_builtin; refine wpListIn_append_own _ rfl _ _ 23 rfl w.heap.size 30 i0 (.agg #[.int .i64 0, .string ⟨#[]⟩, .int .i64 0]) 3 32 Tryd.underlying23 hi hz0 hz1 hz2 rfl (by decide) _ _ _ rfl (hrow.alloc _) ⟨W.heap.size, 0, none⟩ 1 1 [.int .i64 x.1, .string x.2.1, .int .i64 x.2.2] rfl rfl (cell_three_new _ _ _ _ _) (by simp [Value.oneCell']) (by unfold maxLen; omega) (by omega) (by have := hB.size; simp; omega) ?_; intro v' w1 hown' hgrow _; obtain ⟨g', cap', rfl⟩ := ownsRow_succ hown'; obtain ⟨hv1, hv2, hr2, hk2, hb2⟩ := hv.appended (by decide) hrow hB.size (Nat.le_refl _) hown' hgrow; have hc1 := hv1.cell; have hf1 := hv1.frozen)
        have r0 : some 0 ≠ (Value.slice A pre.length cap).ownBlock := fun e' => by have := own_base hrow 0 e'.symm; omega
        have r6 := c6.not_row (by decide) hrow
        have r7 := c7.not_row (by decide) hrow
        have r8 := c8.not_row (by decide) hrow
        exact ⟨hk2.from _, (((KpL.refl _ _).alloc (by omega) (by omega) _).grown hgrow (by simp) (by simp; omega) r0 r8).set (by omega) (by omega) _,
          ⟨⟨⟨⟨⟨_, hv2, by rw [flat_snoc, List.length_append]; exact hr2, trivial⟩, ((c6.alloc _).kept hgrow r6).other (by omega) _⟩, ((c7.alloc _).kept hgrow r7).other (by omega) _⟩, ((c8.alloc _).kept hgrow r8).other (by omega) _⟩,
            by have := HK.out; simp; omega, fun rest => fin_more HF.out HK.out HX.out rest⟩, hB.trans hb2⟩
  case done =>
    rintro D ys W hD hys ⟨⟨⟨⟨⟨⟨v, hv, hrow, -⟩, c6⟩, c7⟩, c8⟩, hlen, hfin⟩, hB⟩ hK
    have hF : fin [] L = (ys, 0, 0) := by rw [← hys, ← List.append_nil ys, hfin, List.append_nil]; rfl
    have HF := Lib.hid hF
    clear hF hfin hys
    have hv1 := hv.cell
    have hc6 := c6.cell
    gi_wp2
    refine ⟨by simp, .inl ⟨_, _, rfl, run_takeDeferred hK, ?_⟩⟩
    refine ⟨.tuple #[v, .int .i64 0, .int .i64 0], by simp [results, Tryd.f11, go_sem], v, by rw [HF.out], ?_, hB.trans (belowK_b (w := w) (Nat.le_refl _) W D _ _ (by omega) hK rfl rfl)⟩
    rw [HF.out]
    exact R_flat (ownsRow_putObj hrow _ hK rfl)
  case stop =>
    rintro D c pre W hD hpre ⟨⟨e, at_⟩, ⟨⟨⟨rfl, p0, p1, hfin⟩, c6⟩, c7⟩, hB⟩ hK
    have hF : fin [] L = ([], e, at_) := by obtain ⟨r, rfl⟩ := hpre; exact hfin r
    have HF := Lib.hid hF
    clear hF hfin
    dsimp only at p0 p1 c6 c7
    have hc6 := c6.cell
    have hc7 := c7.cell
    have hmo : Tryd.prog.follows .mixedOrders = true := by kernel_rfl
    gi_wp2
    refine wide_noPanic ?_
    gi_region_with_o (fail)
    all_goals dsimp only [NoPanic]
    all_goals gi_wp2
    all_goals refine ⟨by simp, .inl ⟨_, _, rfl, run_takeDeferred hK, ?_⟩⟩
    all_goals refine ⟨.tuple #[.slice none 0 0, .int .i64 e, .int .i64 at_], by simp [results, Tryd.f11, go_sem], .slice none 0 0, by rw [HF.out], ?_, (hB.drew).trans (belowK_b (w := w) (Nat.le_refl _) W.drew D _ _ (by omega) hK rfl rfl)⟩
    all_goals rw [HF.out]
    all_goals exact Kd.R_nil _ _ _ _ _
set_option maxRecDepth 100000 in
set_option maxHeartbeats 4000000 in
theorem Lex_long (n : Nat) (s : ByteArray) (h6 : (s.size : Int) > 6000) (w : World) :
    CallsIn Fence.wide n Tryd.prog 11 #[.string s] w fun e w' => ∃ v0 : Value, e = .returned (.tuple #[v0, .int .i64 2, .int .i64 0]) ∧ Kd.R k30 30 w' w.heap.size (fun _ => True) v0 [] ∧ Below w.heap.size w w' := by
  have c2b0 : decide (6000 < (s.size : Int)) = true := decide_eq_true h6
  have c2b1 : decide (6000 < s.size) = true := decide_eq_true (by omega)
  have H6 := Lib.hid h6
  clear h6
  refine callsIn_of_wp Tryd.func11 rfl trivial ?_ rfl
  simp only [Tryd.ntmps11, List.size_toArray, List.length_cons, List.length_nil, Nat.reduceAdd, Nat.reduceSub, Array.replicate_succ, Array.replicate_zero, List.push_toArray, List.append_toArray, List.nil_append, List.cons_append]
  gi_wp2
  refine wide_scope ?_
  gi_wp2
  rw [Exit.noGoto_ret]
  refine bodyPost_ret (v := .tuple #[.slice none 0 0, .int .i64 2, .int .i64 0]) (by simp [results, Tryd.f11, go_sem]) rfl ⟨_, rfl, Kd.R_nil _ _ _ _ _, Below.refl _ _⟩
/-- the contract of Lex -/
theorem lexer_Lex.calls (a0 : ByteArray) (r1 : List S30) (r2 r3 : Int) (w : World) (hG : Glob w) (h : lexer_Lex.f a0 = some (r1, r2, r3)) :
    Calls Tryd.prog 11 #[.string a0] w fun e w' => ∃ v0_ : Value, e = .returned (.tuple #[v0_, .int .i64 r2, .int .i64 r3]) ∧ Kd.R k30 30 w' w.heap.size (fun _ => True) v0_ r1 ∧ Below w.heap.size w w' := by
  unfold lexer_Lex.f at h
  by_cases h6 : (a0.size : Int) > 6000
  · rw [if_pos h6] at h
    cases h
    exact (callsIn_wide (n := 6)).1 (Lex_long 6 a0 h6 w)
  · rw [if_neg h6] at h
    obtain ⟨g, hg, h⟩ := Option.bind_eq_some_iff.1 h
    by_cases hg0 : 0 ≤ g
    · rw [if_pos hg0] at h
      obtain ⟨l, hl, h⟩ := Option.bind_eq_some_iff.1 h
      cases h
      exact (callsIn_wide (n := 6)).1 (Lex_in 6 (by omega) _ _ a0 g l (Lib.hid h6) (Lib.hid hg0) (Lib.hid hg) (Lib.hid hl) w (Lib.hid hG))
    · rw [if_neg hg0] at h; cases h

end Go.Proofs.YticmjkjojhcdpaaDoor.PAll

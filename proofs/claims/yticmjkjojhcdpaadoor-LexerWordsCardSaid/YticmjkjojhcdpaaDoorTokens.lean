/- The tokens of a source, as the program's iterator tells them. -/
import Derived.Test.YticmjkjojhcdpaaDoorFirst
import Derived.RangeFuncNested
import Derived.RangeFuncBound
import Derived.RangeFuncCalls
import Derived.RangeFuncLeaves
import Derived.Shelf.Abstract
import Derived.WalkKit
import Derived.OwnWalkIn
import Derived.TacticsInMore
import Derived.LoopNIn
import Derived.LoopIn
import Derived.Lib.Hide
set_option linter.unusedVariables false
set_option linter.unusedSimpArgs false
namespace Go.Proofs.YticmjkjojhcdpaaDoor.PAll
open Go Go.RowKit Go.Shelf

attribute [local go_sem] Oper.semAt_some

abbrev Tok := Int × ByteArray × Int
def encT (x : Tok) : Array Value := #[.agg #[.int .i64 x.1, .string x.2.1, .int .i64 x.2.2]]

/-- what a round must keep: the symbols' block and the source's box -/
def KpL (Bs : Nat) (W W' : World) : Prop := W'.heap[0]? = W.heap[0]? ∧ W'.heap[Bs]? = W.heap[Bs]? ∧ W.heap.size ≤ W'.heap.size
theorem KpL.trans {Bs : Nat} {A B C : World} (h : KpL Bs A B) (k : KpL Bs B C) : KpL Bs A C := ⟨k.1.trans h.1, k.2.1.trans h.2.1, Nat.le_trans h.2.2 k.2.2⟩
theorem KpL.cell {Bs : Nat} {W W' : World} (h : KpL Bs W W') : W'.cell? ⟨Bs, 0, none⟩ = W.cell? ⟨Bs, 0, none⟩ := World.cell?_of_block h.2.1
theorem KpL.frozen {Bs : Nat} {W W' : World} (h : KpL Bs W W') : W'.frozen? ⟨Bs, 0, none⟩ = W.frozen? ⟨Bs, 0, none⟩ := World.frozen?_of_block h.2.1
theorem KpL.put {Bs B : Nat} (h0 : 0 < B) (hB : Bs < B) (W : World) (l : Nat) (o o' : Obj) (hl : B ≤ l) (_ : W.heap[l]? = some o) (_ : o.isCells = false) (_ : o.isWalk = false) : KpL Bs W (W.putObj l o') :=
  ⟨World.putObj_heap_other (by omega), World.putObj_heap_other (by omega), by simp [World.putObj]⟩
/-- the tokens from place i on -/
def toks (k : Nat) (s : ByteArray) : Nat → Int → Option (List Tok)
  | 0, _ => none
  | m + 1, i =>
    if i < (s.size : Int) then
      (lexer_first.f k (s.extract i.toNat s.size)).bind fun p =>
        if 0 ≤ i ∧ 0 ≤ p.2 ∧ i + p.2 ≤ (s.size : Int) then
          if p.1 = 0 then some [(p.1, s.extract i.toNat (i + p.2).toNat, i)]
          else (lexer_gap.f k (s.extract (i + p.2).toNat s.size)).bind fun g =>
            if 0 ≤ g ∧ 0 < p.2 + g ∧ i + p.2 + g ≤ (s.size : Int) then (toks k s m (i + p.2 + g)).map fun r => (p.1, s.extract i.toNat (i + p.2).toNat, i) :: r
            else none
        else none
    else some []

set_option maxRecDepth 100000 in
set_option maxHeartbeats 1000000 in
theorem tokens1_in (n : Nat) (l Bs : Nat) (k m0 : Nat) (s : ByteArray) (g0 : Int) (L : List Tok) (h63 : Hid ((s.size : Int) < 2 ^ 62)) (hg0 : 0 ≤ g0)
    (HG0 : Hid (lexer_gap.f k s = some g0)) (HL : Hid (toks k s m0 g0 = some L)) (J Jx : List Tok → World → Prop)
    (hKG : ∀ W W' : World, Glob W → KpL Bs W W' → Glob W')
    (hD : ∀ t W j, J t W → J t (W.drewN j))
    (hY : ∀ pre x W, J pre W → pre.length < L.length → YieldAt Fence.wide (n - 1) Tryd.prog l (encT x) W fun e W' =>
      (e = .returned (.bool true) ∧ J (pre ++ [x]) W' ∧ KpL Bs W W') ∨ (e = .returned (.bool false) ∧ Jx (pre ++ [x]) W'))
    (W : World) (hG : Hid (Glob W)) (hb : W.cell? ⟨Bs, 0, none⟩ = some (.string s)) (hbf : W.frozen? ⟨Bs, 0, none⟩ = false) (h0 : J [] W) :
    CallsIn Fence.wide n Tryd.prog 22 #[.func (.yield l) #[] #[], .pointer (some ⟨Bs, 0, none⟩)] W fun e W' => (∃ v, e = .returned v) ∧
      ((∃ ys, ys = L ∧ J ys W') ∨ (∃ pre, pre <+: L ∧ Jx pre W')) := by
  refine callsIn_of_wp Tryd.func22 rfl trivial ?_ rfl
  simp only [Tryd.ntmps22, List.size_toArray, List.length_cons, List.length_nil, Nat.reduceAdd, Nat.reduceSub, Array.replicate_succ, Array.replicate_zero, List.push_toArray, List.append_toArray, List.nil_append, List.cons_append]
  gi_wp2
  refine ⟨trivial, fun h => (by cases h), callsIn_wide.2 ((lexer_gap.calls k s g0 _ HG0.out).mono ?_)⟩
  rintro e w' ⟨rfl, ⟨n1, rfl⟩⟩
  gi_wp2
  gi_loopw [3] (fun s3 wr => ∃ (pre L2 : List Tok) (m : Nat) (i : Int), s3 = .int .i64 i ∧ 0 ≤ i ∧ Hid (toks k s m i = some L2) ∧ Hid (L = pre ++ L2) ∧ Hid (Glob wr) ∧ wr.cell? ⟨Bs, 0, none⟩ = some (.string s) ∧ wr.frozen? ⟨Bs, 0, none⟩ = false ∧ J pre wr)
    (fun s3 _ => (s.size - intOf s3).toNat)
  case atStart =>
    exact ⟨[], L, m0, g0, rfl, hg0, HL, Lib.hid rfl, Lib.hid (hG.out.drewN n1), hb, hbf, hD _ _ _ h0⟩
  case round =>
    obtain ⟨pre, L2, m, i, rfl, hi, HT, HX, hGr, hbr, hfr, hJr⟩ := hrel
    have ht := HT.out
    clear HT
    cases m with
    | zero => cases ht
    | succ m =>
      unfold toks at ht
      by_cases hlt : i < (s.size : Int)
      · rw [if_pos hlt] at ht
        obtain ⟨⟨kd, nn⟩, hf, ht⟩ := Option.bind_eq_some_iff.1 ht
        have HF := Lib.hid hf
        clear hf
        dsimp only at ht
        by_cases hc : 0 ≤ i ∧ 0 ≤ nn ∧ i + nn ≤ (s.size : Int)
        · rw [if_pos hc] at ht
          obtain ⟨-, hn0, hnl⟩ := hc
          have HTT := Lib.hid ht
          clear ht
          gi_wp2
          refine ⟨trivial, fun h => (by cases h), callsIn_wide.2 ((lexer_first.calls k _ kd nn _ hGr.out HF.out).mono ?_)⟩
          rintro e w' ⟨rfl, ⟨n2, rfl⟩⟩
          have hw1 : wrap64 (i + nn) = i + nn := by have := h63.out; simp only [wrap64]; omega
          have hle1 : i ≤ i + nn := by omega
          have hpre : pre ++ [(kd, s.extract i.toNat (i + nn).toNat, i)] <+: L := by
            have h := HTT.out
            rw [HX.out]
            by_cases hk0 : kd = 0
            · rw [if_pos hk0] at h; cases h; exact List.prefix_refl _
            · rw [if_neg hk0] at h
              obtain ⟨g, -, h⟩ := Option.bind_eq_some_iff.1 h
              split at h
              · obtain ⟨r, -, rfl⟩ := Option.map_eq_some_iff.1 h; exact ⟨r, by simp⟩
              · cases h
          have hlen : pre.length < L.length := by have := hpre.length_le; simp at this; omega
          obtain ⟨fn, tmps, assign, body, hy, hR⟩ := hY pre (kd, s.extract i.toNat (i + nn).toNat, i) (wr.drewN n2) (hD _ _ _ hJr) hlen
          dsimp only [encT] at hy
          gi_wp2
          refine ⟨fun h => (by cases h), hR.mono ?_⟩
          rintro e1 W3 (⟨rfl, hJ3, hk3⟩ | ⟨rfl, hJx3⟩)
          · have hG3 := hGr.out.drewN n2
            have hb3 := hk3.cell.trans hbr
            have hf3 := hk3.frozen.trans hfr
            have hG4 : Hid (Glob W3) := Lib.hid (hKG _ _ hG3 hk3)
            clear hk3 hG3
            by_cases hk0 : kd = 0
            · have h := HTT.out
              rw [if_pos hk0] at h
              cases h
              have tk : (kd == 0) = true := by simpa using hk0
              gi_wp2
              refine bodyPost_ret (results_none rfl _ _ _) rfl ?_
              exact ⟨⟨_, rfl⟩, .inl ⟨_, HX.out.symm, hJ3⟩⟩
            · have h := HTT.out
              rw [if_neg hk0] at h
              obtain ⟨g, hg, h⟩ := Option.bind_eq_some_iff.1 h
              have HG := Lib.hid hg
              clear hg
              have tk : (kd == 0) = false := by simpa using hk0
              by_cases hc2 : 0 ≤ g ∧ 0 < nn + g ∧ i + nn + g ≤ (s.size : Int)
              · rw [if_pos hc2] at h
                obtain ⟨hg1, hg2, hg3⟩ := hc2
                obtain ⟨r, hr, rfl⟩ := Option.map_eq_some_iff.1 h
                have HR := Lib.hid hr
                clear hr h
                have hw2 : wrap64 (i + nn + g) = i + nn + g := by have := h63.out; simp only [wrap64]; omega
                have hge : 0 ≤ i + nn := by omega
                gi_wp2
                refine ⟨trivial, fun h => (by cases h), callsIn_wide.2 ((lexer_gap.calls k _ g _ HG.out).mono ?_)⟩
                rintro e w' ⟨rfl, ⟨n4, rfl⟩⟩
                gi_wp2
                refine ⟨⟨_, r, m, i + nn + g, by rw [hw2], by omega, HR, Lib.hid (by rw [HX.out]; simp), Lib.hid (hG4.out.drewN n4), hb3, hf3, hD _ _ _ hJ3⟩, ?_⟩
                rw [hw2]; simp only [intOf]; omega
              · rw [if_neg hc2] at h
                cases h
          · gi_wp2
            refine bodyPost_ret (results_none rfl _ _ _) rfl ?_
            exact ⟨⟨_, rfl⟩, .inr ⟨_, hpre, hJx3⟩⟩
        · rw [if_neg hc] at ht
          cases ht
      · rw [if_neg hlt] at ht
        cases ht
        gi_wp2
        go_end0
        have hx := HX.out
        rw [List.append_nil] at hx
        exact ⟨⟨_, rfl⟩, .inl (by rw [hx]; exact hJr)⟩

theorem Glob.kp {w W : World} {Bs : Nat} (h : Glob w) (hb : KpL Bs w W) : Glob W := by
  obtain ⟨⟨g0, g1, g2, g3, g4, g5, g6, g7, g8, g9, g10, g11, g12, g13, g14, g15, g16⟩, hs⟩ := h
  have e : ∀ {o : Nat} {v : Value}, w.cell? ⟨0, o, none⟩ = some v → W.cell? ⟨0, o, none⟩ = some v := fun h => (World.cell?_of_block hb.1).trans h
  exact ⟨⟨e g0, e g1, e g2, e g3, e g4, e g5, e g6, e g7, e g8, e g9, e g10, e g11, e g12, e g13, e g14, e g15, e g16⟩, Nat.lt_of_lt_of_le hs hb.2.2⟩

theorem tokens_stops (n : Nat) (Bs : Nat) (k m0 : Nat) (s : ByteArray) (g0 : Int) (L : List Tok) (h63 : Hid ((s.size : Int) < 2 ^ 62)) (hg0 : 0 ≤ g0)
    (HG0 : Hid (lexer_gap.f k s = some g0)) (HL : Hid (toks k s m0 g0 = some L)) (w : World) (hB : Bs < w.heap.size) (hG : Glob w)
    (hb : w.cell? ⟨Bs, 0, none⟩ = some (.string s)) (hbf : w.frozen? ⟨Bs, 0, none⟩ = false) :
    SeqStopsK Fence.wide n Tryd.prog 22 #[.pointer (some ⟨Bs, 0, none⟩)] encT (KpL Bs) (fun ys => ys = L) (fun pre => pre <+: L) L.length w :=
  fun l J Jx W hW hJ hJx hY h0 =>
    tokens1_in n l Bs k m0 s g0 L h63 hg0 HG0 HL J Jx (fun W W' h hb => h.kp hb)
      (fun t W j h => hJ t W _ none h ⟨rfl, rfl, rfl, Nat.le_refl _, fun _ _ _ => rfl⟩ (fun r e => by cases e))
      hY W (Lib.hid (hG.below hW)) ((hW.cell (p := ⟨Bs, 0, none⟩) hB).trans hb) ((hW.frozen (p := ⟨Bs, 0, none⟩) hB).trans hbf) h0

set_option maxHeartbeats 1000000 in
/-- the maker: the source is boxed; the function value captures the box. -/
theorem tokens_in (n : Nat) (s : ByteArray) (w : World) :
    CallsIn Fence.wide n Tryd.prog 19 #[.string s] w fun en w' => en = .returned (.func (.func 22) #[] #[.pointer (some ⟨w.heap.size, 0, none⟩)]) ∧
      w' = w.alloc (.cells #[.string s] 9) := by
  refine callsIn_of_wp Tryd.func19 rfl trivial ?_ rfl
  simp only [Tryd.ntmps19, List.size_toArray, List.length_cons, List.length_nil, Nat.reduceAdd, Nat.reduceSub, Array.replicate_succ, Array.replicate_zero, List.push_toArray, List.append_toArray, List.nil_append, List.cons_append]
  gi_wp2
  go_ret
  exact ⟨rfl, rfl⟩
end Go.Proofs.YticmjkjojhcdpaaDoor.PAll

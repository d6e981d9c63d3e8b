/- The law on gaps, over lists of bytes. -/
import Derived.Test.YticmjkjojhcdpaaDoorSame
import Derived.Test.YticmjkjojhcdpaaDoorPAllx14
import Derived.OpenShut
set_option linter.unusedVariables false
set_option linter.unusedSimpArgs false
namespace Go.Proofs.YticmjkjojhcdpaaDoor.Pure
open Go Go.RowKit Go.Proofs.YticmjkjojhcdpaaDoor.PAll Go.Proofs.YticmjkjojhcdpaaDoor.Lx Go.Proofs.YticmjkjojhcdpaaDoorW.PrintWords Go.Proofs.YticmjkjojhcdpaaDoorW.PrintLast

abbrev KB : List ByteArray := [(⟨#[32]⟩ : ByteArray), (⟨#[10]⟩ : ByteArray), (⟨#[9, 13]⟩ : ByteArray), (⟨#[32, 47, 47, 32, 99, 10]⟩ : ByteArray), (⟨#[32, 47, 47, 32, 69, 85, 82, 10, 32]⟩ : ByteArray)]
abbrev It := Bytes × Nat × Bytes
def GapOk (g : Bytes) : Prop := (∀ r, gapW (g ++ r) = g.length + gapW r) ∧ (∃ c r, g = c :: r ∧ wh c = true) ∧ g.length ≤ 9
def ItOk (x : It) : Prop := GapOk x.1 ∧ x.2.1 ≠ 0 ∧ tok x.2.2 = (x.2.1, x.2.2.length) ∧ gapW x.2.2 = 0
theorem gw (c : UInt8) (r : Bytes) (h : wh c = true) : gapW (c :: r) = gapW r + 1 := by simp only [gapW]; rw [if_pos h]
theorem gs (r : Bytes) : gapW (47 :: 47 :: r) = gapC (47 :: r) + 1 := by
  simp only [gapW]; rw [if_neg (by decide), if_pos ⟨by decide, by simp⟩]
theorem gc (c : UInt8) (r : Bytes) (h : ¬ c.toNat = 10) : gapC (c :: r) = gapC r + 1 := by simp only [gapC]; rw [if_neg h]
theorem gn (r : Bytes) : gapC (10 :: r) = gapW r + 1 := by simp only [gapC]; rw [if_pos (by decide)]
theorem gap_kinds (i : Nat) (h : i < 5) : GapOk (bs (rdOf ByteArray.empty KB (i : Int))) := by
  have : i = 0 ∨ i = 1 ∨ i = 2 ∨ i = 3 ∨ i = 4 := by omega
  rcases this with rfl | rfl | rfl | rfl | rfl
  · refine ⟨fun r => ?_, ⟨32, [], rfl, by decide⟩, by decide⟩
    show gapW (32 :: r) = 1 + gapW r
    rw [gw _ _ (by decide)]; omega
  · refine ⟨fun r => ?_, ⟨10, [], rfl, by decide⟩, by decide⟩
    show gapW (10 :: r) = 1 + gapW r
    rw [gw _ _ (by decide)]; omega
  · refine ⟨fun r => ?_, ⟨9, [13], rfl, by decide⟩, by decide⟩
    show gapW (9 :: 13 :: r) = 2 + gapW r
    rw [gw _ _ (by decide), gw _ _ (by decide)]; omega
  · refine ⟨fun r => ?_, ⟨32, [47, 47, 32, 99, 10], rfl, by decide⟩, by decide⟩
    show gapW (32 :: 47 :: 47 :: 32 :: 99 :: 10 :: r) = 6 + gapW r
    rw [gw _ _ (by decide), gs, gc _ _ (by decide), gc _ _ (by decide), gc _ _ (by decide), gn]; omega
  · refine ⟨fun r => ?_, ⟨32, [47, 47, 32, 69, 85, 82, 10, 32], rfl, by decide⟩, by decide⟩
    show gapW (32 :: 47 :: 47 :: 32 :: 69 :: 85 :: 82 :: 10 :: 32 :: r) = 9 + gapW r
    rw [gw _ _ (by decide), gs, gc _ _ (by decide), gc _ _ (by decide), gc _ _ (by decide), gc _ _ (by decide), gc _ _ (by decide), gn, gw _ _ (by decide)]; omega
theorem built_snoc (its : List It) (g : Bytes) (k : Nat) (t : Bytes) : built (its ++ [(g, k, t)]) = built its ++ (g ++ t) := by
  induction its with
  | nil => simp [built]
  | cons x its ih => obtain ⟨g', k', t'⟩ := x; simp [built, ih]
theorem want_snoc (its : List It) (g : Bytes) (k : Nat) (t : Bytes) : ∀ a, wantOf a (its ++ [(g, k, t)]) = wantOf a its ++ [(k, t, a + (built its).length + g.length)] := by
  induction its with
  | nil => intro a; simp [wantOf, built]
  | cons x its ih =>
    intro a
    obtain ⟨g', k', t'⟩ := x
    simp only [List.cons_append, wantOf, built, ih, List.length_append]
    congr 3
    simp only [Prod.mk.injEq, true_and]; omega
theorem want_len (its : List It) : ∀ a, (wantOf a its).length = its.length := by
  induction its with
  | nil => intro a; rfl
  | cons x its ih => intro a; obtain ⟨g', k', t'⟩ := x; simp [wantOf, ih]
theorem want_ok (its : List It) (h : ∀ x ∈ its, ItOk x) : ∀ a, Ok (wantOf a its) := by
  induction its with
  | nil => intro a x hx; simp [wantOf] at hx
  | cons x its ih =>
    intro a y hy
    have h1 := h x (by simp)
    have h2 := ih (fun y hy => h y (by simp [hy]))
    obtain ⟨g', k', t'⟩ := x
    simp only [wantOf] at hy
    rcases List.mem_cons.1 hy with rfl | hy
    · exact h1.2.1
    · exact h2 _ y hy
theorem finish (K : Nat) (gaps : List Int) (P : List PTok) (its : List It) (hits : ∀ x ∈ its, ItOk x) (hlen : its.length = P.length) (hl : P.length ≤ 2000) (other : ByteArray) (hb : bs other = built its) (i : Int) (hi : ¬ i < (P.length : Int)) (hK : 2005 ≤ K) :
    wageofficelaw06_LexerGaps.l0 (K + 1) gaps true (P.map toT) KB other ((wantOf 0 its).map toT) i = some true := by
  simp only [wageofficelaw06_LexerGaps.l0]
  rw [if_neg (by rw [List.length_map]; exact hi)]
  by_cases h6 : (other.size : Int) > 6000
  · rw [if_pos h6]
  · rw [if_neg h6]
    have hL := Lexes.ofBuilt its (fun x hx => by
      obtain ⟨⟨h1, h2, -⟩, h3, h4, h5⟩ := hits x hx
      exact ⟨h1, h2, h3, h4, h5⟩) 0
    rw [Lex_ok other (by omega) (by rw [hb]; exact hL) (want_ok its hits 0) (by rw [want_len]; omega), Option.bind_some, if_pos trivial]
    dsimp only
    rw [if_pos rfl, same_true _ (by rw [List.length_map, want_len]; omega) K (by rw [List.length_map, want_len]; omega)]
    rfl
theorem loop (gaps : List Int) (hgaps : ∀ x ∈ gaps, (Lit.int .u8 x).wf = true) (hgl : gaps.length ≤ 9223372036854775807) (P : List PTok) (hl : P.length ≤ 2000) (hP : ∀ x ∈ P, x.1 ≠ 0 ∧ tok x.2.1 = (x.1, x.2.1.length) ∧ gapW x.2.1 = 0 ∧ x.2.1.length ≤ 6000) :
    ∀ (d i K : Nat) (its : List It) (other : ByteArray), P.length = i + d → d + 2005 ≤ K → (∀ x ∈ its, ItOk x) → its.length = i → bs other = built its → other.size ≤ i * 7000 →
      wageofficelaw06_LexerGaps.l0 (K + 1) gaps true (P.map toT) KB other ((wantOf 0 its).map toT) (i : Int) = some true := by
  intro d
  induction d with
  | zero =>
    intro i K its other hi hK hits hlen hb hsz
    exact finish K gaps P its hits (by omega) hl other hb _ (by omega) (by omega)
  | succ d ih =>
    intro i K its other hi hK hits hlen hb hsz
    obtain ⟨q, hq⟩ : ∃ q, K = q + 1 := ⟨K - 1, by omega⟩
    have hx : P[i]? = some P[i] := List.getElem?_eq_getElem (by omega)
    obtain ⟨hx0, hxt, hxg, hxl⟩ := hP _ (List.mem_of_getElem? hx)
    have hrd := rdT_map P i hx
    generalize P[i] = x at *
    have fs : (⟨x.2.1.toArray⟩ : ByteArray).size = x.2.1.length := by
      show x.2.1.toArray.size = _
      rw [List.size_toArray]
    have next : ∀ gb : ByteArray, GapOk (bs gb) → wageofficelaw06_LexerGaps.l0 K gaps true (P.map toT) KB ((other ++ gb) ++ ⟨x.2.1.toArray⟩) ((wantOf 0 its).map toT ++ [(⟨(x.1 : Int), ⟨x.2.1.toArray⟩, ((other ++ gb).size : Int)⟩ : S30)]) ((i + 1 : Nat) : Int) = some true := by
      intro gb hgb
      have := ih (i + 1) q (its ++ [(bs gb, x.1, x.2.1)]) ((other ++ gb) ++ ⟨x.2.1.toArray⟩) (by omega) (by omega) ?_ (by simp; omega) ?_ ?_
      · rw [want_snoc, List.map_append] at this
        have e : [((x.1 : Nat), x.2.1, 0 + (built its).length + (bs gb).length)].map toT = [(⟨(x.1 : Int), ⟨x.2.1.toArray⟩, ((other ++ gb).size : Int)⟩ : S30)] := by
          have e2 : 0 + (built its).length + (bs gb).length = (other ++ gb).size := by rw [ByteArray.size_append, ← hb, bs_len, bs_len]; omega
          rw [e2]; rfl
        rw [e, ← hq] at this
        exact this
      · intro y hy
        rcases List.mem_append.1 hy with hy | hy
        · exact hits y hy
        · obtain rfl : y = _ := by simpa using hy
          exact ⟨hgb, hx0, hxt, hxg⟩
      · rw [built_snoc, ← hb]
        show (((other ++ gb) ++ (⟨x.2.1.toArray⟩ : ByteArray)).data).toList = _
        rw [ByteArray.data_append, ByteArray.data_append, Array.toList_append, Array.toList_append, List.append_assoc]
      · rw [ByteArray.size_append, ByteArray.size_append, fs]
        have := hgb.2.2
        rw [bs_len] at this
        omega
    have hwl : ((wantOf 0 its).map toT).length < 4398046511104 := by rw [List.length_map, want_len]; omega
    have hw : wrap64 ((i : Int) + 1) = ((i + 1 : Nat) : Int) := by rw [w64 (by omega) (by omega)]; omega
    simp only [wageofficelaw06_LexerGaps.l0]
    rw [hw, hrd, toT_f0, toT_f1, fs]
    clear hw
    rw [if_pos (by rw [List.length_map]; omega)]
    by_cases hgi : (i : Int) < (gaps.length : Int)
    · have hgx : gaps[i]? = some (rd gaps (i : Int)) := by
        unfold rd
        rw [Int.toNat_natCast, List.getD_eq_getElem?_getD, List.getElem?_eq_getElem (by omega)]; rfl
      have hbd := bounds_u8 (hgaps _ (List.mem_of_getElem? hgx))
      generalize rd gaps (i : Int) = v at *
      have hwv : wrap64 v = v := w64 (by omega) (by omega)
      rw [hwv]
      clear hwv
      have hm : Int.tmod v (5 : Int) = ((v.toNat % 5 : Nat) : Int) := by
        rw [Int.tmod_eq_emod_of_nonneg (by omega)]; omega
      have h5 : v.toNat % 5 < 5 := Nat.mod_lt _ (by omega)
      have h5l : ((KB.length : Nat) : Int) = 5 := rfl
      rw [h5l, hm]
      have hk := gap_kinds (v.toNat % 5) h5
      have hksz : (rdOf ByteArray.empty KB ((v.toNat % 5 : Nat) : Int)).size ≤ 9 := by have := hk.2.2; rwa [bs_len] at this
      generalize rdOf ByteArray.empty KB ((v.toNat % 5 : Nat) : Int) = gb at *
      rw [if_pos hgi, if_pos (by omega), if_neg (by omega), if_pos (by omega), if_pos (by omega), if_pos (by omega), if_pos hwl, if_pos (by rw [ByteArray.size_append]; omega)]
      exact next gb hk
    · rw [if_neg hgi, if_pos (by omega), if_pos (by omega), if_pos hwl, if_pos (by rw [ByteArray.size_append]; show other.size + 1 + _ ≤ _; omega)]
      exact next ⟨#[32]⟩ (gap_kinds 0 (by omega))
theorem LexerGaps : wageofficelaw06_LexerGaps.Pure := by
  intro s gaps hsz hgm _ hgaps
  obtain ⟨K, hK⟩ : ∃ K, K = 5000 := ⟨_, rfl⟩
  refine ⟨K + 2, ?_⟩
  unfold wageofficelaw06_LexerGaps.f
  rw [head_true (K + 2) (by omega), Option.bind_some]
  by_cases h7 : (s.size : Int) > 7000
  · rw [if_pos h7]
  rw [if_neg h7]
  have hup : ∀ (l : List S30) (e : Int), e ≠ 0 → wageofficelaw06_LexerGaps.j0 (K + 2) gaps true l e true = some true := by
    intro l e he
    simp only [wageofficelaw06_LexerGaps.j0]
    rw [if_pos trivial, if_pos trivial, show (e != 0) = true by simpa using he]
  by_cases h6 : 6000 < s.size
  · rw [Lex_long_f s h6, Option.bind_some]
    dsimp only
    rw [if_neg (by omega)]
    exact hup _ _ (by decide)
  · obtain ⟨P, hP, ⟨ho, hl, hL⟩ | ⟨j, x, e, hj, hok, hL, he⟩⟩ := Lex_any s (by omega)
    · rw [hL, Option.bind_some]
      dsimp only
      rw [if_pos rfl, List.length_map, decide_eq_false (by omega)]
      simp only [wageofficelaw06_LexerGaps.j0]
      rw [if_neg (by simp)]
      have hit : ∀ x ∈ P, x.1 ≠ 0 ∧ tok x.2.1 = (x.1, x.2.1.length) ∧ gapW x.2.1 = 0 ∧ x.2.1.length ≤ 6000 := by
        intro x hx
        have h1 := hP.each ho x hx
        have h2 := hP.at_le x hx
        rw [bs_len] at h2
        unfold endOf at h2
        exact ⟨ho x hx, h1.1, h1.2.1, by omega⟩
      exact loop gaps hgaps (by unfold maxLen at hgm; omega) P hl hit P.length 0 K [] ⟨#[]⟩ (by omega) (by omega) (fun x hx => by simp at hx) rfl rfl (by simp [ByteArray.size])
    · rw [hL, Option.bind_some]
      dsimp only
      rw [if_neg (by rcases he with ⟨_, rfl⟩ | ⟨_, _, rfl⟩ <;> decide)]
      exact hup _ _ (by rcases he with ⟨_, rfl⟩ | ⟨_, _, rfl⟩ <;> decide)
end Go.Proofs.YticmjkjojhcdpaaDoor.Pure

/- The law on coverage, over lists of bytes. -/
import Derived.Test.YticmjkjojhcdpaaDoorHd
import Derived.Test.YticmjkjojhcdpaaDoorPAllx12
set_option linter.unusedVariables false
set_option linter.unusedSimpArgs false
namespace Go.Proofs.YticmjkjojhcdpaaDoor.Pure
open Go Go.RowKit Go.Proofs.YticmjkjojhcdpaaDoor.PAll Go.Proofs.YticmjkjojhcdpaaDoor.Lx Go.Proofs.YticmjkjojhcdpaaDoorW.PrintWords Go.Proofs.YticmjkjojhcdpaaDoorW.PrintLast

theorem wh_code {α : Type} (c : UInt8) (F : Bool → α) : (if (c.toNat : Int) = 32 then F true else (if (c.toNat : Int) = 9 then F true else (if (c.toNat : Int) = 10 then F true else F ((c.toNat : Int) == 13)))) = F (wh c) := by
  unfold wh
  by_cases h1 : c.toNat = 32
  · rw [if_pos (by omega)]; simp [h1]
  rw [if_neg (by omega)]
  by_cases h2 : c.toNat = 9
  · rw [if_pos (by omega)]; simp [h2]
  rw [if_neg (by omega)]
  by_cases h3 : c.toNat = 10
  · rw [if_pos (by omega)]; simp [h3]
  rw [if_neg (by omega)]
  congr 1
  by_cases h4 : c.toNat = 13
  · simp [h4]
  · simp [h1, h2, h3, h4]; omega
theorem gap_code (s : ByteArray) (hs : s.size < 100000) : ∀ (d i : Nat), s.size = i + d →
    (∀ k, 4 * d + 10 ≤ k → wageofficelaw06_gap.l0 k s (i : Int) = some (gapW ((bs s).drop i) == d)) ∧
    (∀ k, 4 * d + 10 ≤ k → wageofficelaw06_gap.l1 k s (i : Int) = some (gapC ((bs s).drop i) == d)) := by
  intro d
  induction d with
  | zero =>
    intro i hi
    have hnil : (bs s).drop i = [] := List.drop_of_length_le (by rw [bs_len]; omega)
    have h0 : ∀ k, 4 * 0 + 9 ≤ k → wageofficelaw06_gap.l0 k s (i : Int) = some (gapW ((bs s).drop i) == 0) := by
      intro k hk
      obtain ⟨k, rfl⟩ : ∃ q, k = q + 1 := ⟨k - 1, by omega⟩
      simp only [wageofficelaw06_gap.l0]
      rw [if_neg (by omega), hnil]; rfl
    refine ⟨fun k hk => h0 k (by omega), fun k hk => ?_⟩
    obtain ⟨k, rfl⟩ : ∃ q, k = q + 1 := ⟨k - 1, by omega⟩
    simp only [wageofficelaw06_gap.l1]
    rw [if_neg (by omega), h0 k (by omega), hnil]; rfl
  | succ d ih =>
    intro i hi
    obtain ⟨c, hc⟩ := drop_cases s i (by omega)
    obtain ⟨ih0, ih1⟩ := ih (i + 1) (by omega)
    have hb := bt_drop s i hc
    have hw : wrap64 ((i : Int) + 1) = ((i + 1 : Nat) : Int) := by rw [w64 (by omega) (by omega)]; omega
    have hnext : ((i + 1 : Nat) : Int) < (s.size : Int) → ∃ e r, (bs s).drop (i + 1) = e :: r ∧ bt s ((i + 1 : Nat) : Int) = (e.toNat : Int) := by
      intro h
      obtain ⟨e, he⟩ := drop_cases s (i + 1) (by omega)
      exact ⟨e, _, he, bt_drop s (i + 1) he⟩
    have hend : ¬ ((i + 1 : Nat) : Int) < (s.size : Int) → (bs s).drop (i + 1) = [] := fun h => List.drop_of_length_le (by rw [bs_len]; omega)
    generalize hr : (bs s).drop (i + 1) = r at *
    -- l1 at i
    have k1 : ∀ k, 4 * d + 11 ≤ k → ¬ c.toNat = 10 → wageofficelaw06_gap.l1 k s (i : Int) = some (gapC r == d) := by
      intro k hk h10
      obtain ⟨k, rfl⟩ : ∃ q, k = q + 1 := ⟨k - 1, by omega⟩
      simp only [wageofficelaw06_gap.l1]
      rw [hw, hb, if_pos (by omega), if_pos (by omega), if_neg (by omega), ih1 k (by omega)]
    have k0 : ∀ k, 4 * d + 12 ≤ k → wh c = true → wageofficelaw06_gap.l0 k s (i : Int) = some (gapW r == d) := by
      intro k hk h
      obtain ⟨k, rfl⟩ : ∃ q, k = q + 2 := ⟨k - 2, by omega⟩
      simp only [wageofficelaw06_gap.l0]
      rw [hb, if_pos (by omega), if_pos (by omega), wh_code c (fun z => wageofficelaw06_gap.j1 (k + 1) s (i : Int) z), h]
      simp only [wageofficelaw06_gap.j1]
      rw [if_pos trivial, hw, ih0 k (by omega)]
    constructor
    · intro k hk
      rw [hc]
      by_cases h : wh c = true
      · rw [k0 k (by omega) h]
        simp only [gapW]
        rw [if_pos h]
        congr 1
        rw [Bool.eq_iff_iff, beq_iff_eq, beq_iff_eq]; omega
      · obtain ⟨k, rfl⟩ : ∃ q, k = q + 3 := ⟨k - 3, by omega⟩
        simp only [wageofficelaw06_gap.l0]
        rw [hb, if_pos (by omega), if_pos (by omega), wh_code c (fun z => wageofficelaw06_gap.j1 (k + 2) s (i : Int) z), eq_false_of_ne_true h]
        simp only [wageofficelaw06_gap.j1]
        rw [hw, if_neg (by simp), if_pos (by omega), if_pos (by omega), hb]
        simp only [gapW]
        rw [if_neg h]
        have hno : ∀ b : Bool, b = false → (¬ (c.toNat = 47 ∧ r.head?.map (·.toNat) = some 47)) → wageofficelaw06_gap.j2 (k + 1) s (i : Int) b = some ((if c.toNat = 47 ∧ r.head?.map (·.toNat) = some 47 then gapC r + 1 else 0) == d + 1) := by
          intro b hbf hn
          subst hbf
          simp only [wageofficelaw06_gap.j2]
          rw [if_neg (by simp), if_neg hn, show ((0 : Nat) == d + 1) = false by simp]
        by_cases h47 : c.toNat = 47
        · rw [if_pos (by omega)]
          by_cases hlt : ((i + 1 : Nat) : Int) < (s.size : Int)
          · obtain ⟨e, q, he, hbe⟩ := hnext hlt
            rw [if_pos hlt, if_pos (by omega), hbe]
            by_cases he47 : e.toNat = 47
            · have hy : c.toNat = 47 ∧ r.head?.map (·.toNat) = some 47 := ⟨h47, by rw [he]; simp [he47]⟩
              rw [show ((e.toNat : Int) == 47) = true by simp [he47], if_pos hy]
              simp only [wageofficelaw06_gap.j2]
              rw [if_pos trivial, k1 k (by omega) (by omega)]
              congr 1
              rw [Bool.eq_iff_iff, beq_iff_eq, beq_iff_eq]; omega
            · exact hno _ (by simp; omega) (fun hx => he47 (by have := hx.2; rw [he] at this; simpa using this))
          · rw [if_neg hlt]
            exact hno _ rfl (fun hx => by have := hx.2; rw [hend hlt] at this; simp at this)
        · rw [if_neg (by omega)]
          exact hno _ rfl (fun hx => h47 hx.1)
    · intro k hk
      rw [hc]
      simp only [gapC]
      by_cases h10 : c.toNat = 10
      · obtain ⟨k, rfl⟩ : ∃ q, k = q + 1 := ⟨k - 1, by omega⟩
        have hwc : wh c = true := by simp [wh, h10]
        simp only [wageofficelaw06_gap.l1]
        rw [hb, if_pos (by omega), if_pos (by omega), if_pos (by omega), k0 k (by omega) hwc, if_pos h10]
        congr 1
        rw [Bool.eq_iff_iff, beq_iff_eq, beq_iff_eq]; omega
      · rw [k1 k (by omega) h10, if_neg h10]
        congr 1
        rw [Bool.eq_iff_iff, beq_iff_eq, beq_iff_eq]; omega
theorem gapf_true (s : ByteArray) (hs : s.size < 100000) (k : Nat) (hk : 4 * s.size + 10 ≤ k) (h : gapW (bs s) = (bs s).length) : wageofficelaw06_gap.f k s = some true := by
  have := (gap_code s hs s.size 0 (by omega)).1 k hk
  rw [List.drop_zero, h, bs_len, beq_self_eq_true] at this
  exact this
theorem cover (s : ByteArray) (hs : s.size ≤ 6000) (P : List PTok) (ho : Ok P) (hlP : P.length ≤ 2000) : ∀ (d i k a : Nat), P.length = i + d → d + 4 * s.size + 20 ≤ k → a ≤ s.size → Lexes a ((bs s).drop a) (P.drop i) →
    wageofficelaw06_LexerCoverage.l0 k s true (P.map toT) (a : Int) (i : Int) = some true := by
  intro d
  induction d with
  | zero =>
    intro i k a hi hk ha hL
    obtain ⟨k, rfl⟩ : ∃ q, k = q + 1 := ⟨k - 1, by omega⟩
    have e0 : P.drop i = [] := List.drop_of_length_le (by omega)
    rw [e0] at hL
    clear e0
    have hg : gapW ((bs s).drop a) = ((bs s).drop a).length := by
      generalize (bs s).drop a = l at hL
      cases hL with
      | done h => exact h
    simp only [wageofficelaw06_LexerCoverage.l0]
    rw [if_neg (by rw [List.length_map]; omega), if_pos trivial, if_pos (by omega), if_pos (by omega), Int.toNat_natCast, gapf_true _ (by rw [ByteArray.size_extract]; omega) k (by rw [ByteArray.size_extract]; omega) (by rw [bs_tail]; exact hg)]
    rfl
  | succ d ih =>
    intro i k a hi hk ha hL
    obtain ⟨k, rfl⟩ : ∃ q, k = q + 1 := ⟨k - 1, by omega⟩
    have hx : P[i]? = some P[i] := List.getElem?_eq_getElem (by omega)
    rw [List.drop_eq_getElem_cons (show i < P.length by omega)] at hL
    have hk0 := ho _ (List.mem_of_getElem? hx)
    have hrd := rdT_map P i hx
    generalize P[i] = x at *
    generalize hl : (bs s).drop a = l at hL
    generalize hR : P.drop (i + 1) = R at hL
    cases hL with
    | bad hg ht h0 => exact absurd rfl hk0
    | @tok _ g r t kd L hg ht hk1 hr =>
      have hlen := tok_len ht hk1
      have e : (g ++ (t ++ r)).length = s.size - a := by rw [← hl, List.length_drop, bs_len]
      simp only [List.length_append] at e hlen
      have hd1 : (bs s).drop (a + g.length) = t ++ r := by rw [← List.drop_drop, hl, List.drop_left]
      have hd2 : (bs s).drop (a + g.length + t.length) = r := by rw [← List.drop_drop, hd1, List.drop_left]
      have hgg : gapW g = g.length := by
        have := (gap_take (g ++ (t ++ r))).1
        rwa [hg, List.take_left] at this
      simp only [wageofficelaw06_LexerCoverage.l0]
      have f0 : (toT (kd, t, a + g.length)).f0 = (kd : Int) := rfl
      have f1 : (toT (kd, t, a + g.length)).f1 = ⟨t.toArray⟩ := rfl
      have f2 : (toT (kd, t, a + g.length)).f2 = ((a + g.length : Nat) : Int) := rfl
      have fs : ((⟨t.toArray⟩ : ByteArray).size : Int) = (t.length : Int) := by
        show ((t.toArray.size : Nat) : Int) = _
        rw [List.size_toArray]
      rw [hrd, f0, f1, f2, fs]
      have hw1 : wrap64 (((a + g.length : Nat) : Int) + (t.length : Int)) = ((a + g.length + t.length : Nat) : Int) := by rw [w64 (by omega) (by omega)]; omega
      have hw2 : wrap64 ((i : Int) + 1) = ((i + 1 : Nat) : Int) := by rw [w64 (by omega) (by omega)]; omega
      rw [hw1, hw2]
      clear hw1 hw2
      rw [if_pos (by rw [List.length_map]; omega), if_pos (by omega), if_neg (by omega), if_neg (by omega), if_neg (by omega), if_pos (by omega), if_pos (by omega), if_pos (by omega), Int.toNat_natCast, Int.toNat_natCast]
      have hex : (s.extract (a + g.length) (a + g.length + t.length)) = ⟨t.toArray⟩ := by
        apply ba_ext
        rw [bs_ext, hd1, show a + g.length + t.length - (a + g.length) = t.length by omega, List.take_left]
      have hgx : bs (s.extract a (a + g.length)) = g := by
        rw [bs_ext, hl, show a + g.length - a = g.length by omega, List.take_left]
      rw [hex, if_pos rfl, if_pos (by omega), if_pos (by omega), if_pos (by omega), Int.toNat_natCast, gapf_true _ (by rw [ByteArray.size_extract]; omega) k (by rw [ByteArray.size_extract]; omega) (by rw [hgx]; exact hgg), Option.bind_some, if_pos rfl, if_neg (by omega), if_neg (by omega)]
      refine ih (i + 1) k (a + g.length + t.length) (by omega) (by omega) (by omega) ?_
      rw [hd2, hR]; exact hr
theorem LexerCoverage : wageofficelaw06_LexerCoverage.Pure := by
  intro s hsz
  obtain ⟨K, hK⟩ : ∃ K, K = 50000 := ⟨_, rfl⟩
  refine ⟨K, ?_⟩
  unfold wageofficelaw06_LexerCoverage.f
  rw [head_true K (by omega), Option.bind_some]
  by_cases h7 : (s.size : Int) > 7000
  · rw [if_pos h7]
  rw [if_neg h7]
  by_cases h6 : 6000 < s.size
  · rw [Lex_long_f s h6, Option.bind_some]
    dsimp only
    rw [if_neg (by omega)]
  · obtain ⟨P, hP, ⟨ho, hl, hL⟩ | ⟨j, x, e, hj, hok, hL, he⟩⟩ := Lex_any s (by omega)
    · rw [hL, Option.bind_some]
      dsimp only
      rw [if_pos rfl]
      exact cover s (by omega) P ho hl P.length 0 K 0 (by omega) (by omega) (by omega) hP
    · rw [hL, Option.bind_some]
      dsimp only
      rw [if_neg (by rcases he with ⟨_, rfl⟩ | ⟨_, _, rfl⟩ <;> decide)]
end Go.Proofs.YticmjkjojhcdpaaDoor.Pure

/- The reference's lexer tells the plain lexer's tokens. -/
import Derived.Test.YticmjkjojhcdpaaDoorSame
set_option linter.unusedVariables false
set_option linter.unusedSimpArgs false
namespace Go.Proofs.YticmjkjojhcdpaaDoor.PAll
open Go Go.RowKit Go.Proofs.YticmjkjojhcdpaaDoor.Lx Go.Proofs.YticmjkjojhcdpaaDoorW.PrintWords

theorem rWhite (c : UInt8) : wageofficeref06_White.f (c.toNat : Int) = some (wh c) := by
  unfold wageofficeref06_White.f wh
  by_cases h1 : c.toNat = 32
  · rw [if_pos (by omega)]; simp [h1]
  rw [if_neg (by omega)]
  by_cases h2 : c.toNat = 9
  · rw [if_pos (by omega)]; simp [h2]
  rw [if_neg (by omega)]
  by_cases h3 : c.toNat = 10
  · rw [if_pos (by omega)]; simp [h3]
  rw [if_neg (by omega)]
  congr 1
  by_cases h4 : c.toNat = 13
  · simp [h4]
  · simp [h1, h2, h3, h4]; omega
theorem rDigit (c : UInt8) : wageofficeref06_Digit.f (c.toNat : Int) = some (dg c) := by
  unfold wageofficeref06_Digit.f dg
  split
  · rw [Option.some.injEq, Bool.eq_iff_iff]; simp; omega
  · rw [Option.some.injEq, Bool.eq_iff_iff]; simp; omega
theorem rLower (c : UInt8) : wageofficeref06_Lower.f (c.toNat : Int) = some (lo c) := by
  unfold wageofficeref06_Lower.f lo
  split
  · rw [Option.some.injEq, Bool.eq_iff_iff]; simp; omega
  · rw [Option.some.injEq, Bool.eq_iff_iff]; simp; omega
theorem rUpper (c : UInt8) : wageofficeref06_Upper.f (c.toNat : Int) = some (up c) := by
  unfold wageofficeref06_Upper.f up
  split
  · rw [Option.some.injEq, Bool.eq_iff_iff]; simp; omega
  · rw [Option.some.injEq, Bool.eq_iff_iff]; simp; omega
theorem rWord (c : UInt8) : wageofficeref06_Word.f (c.toNat : Int) = some (wd c) := by
  unfold wageofficeref06_Word.f wd
  rw [rLower, Option.bind_some]
  by_cases h1 : lo c = true
  · rw [if_pos h1]; simp [h1]
  rw [if_neg h1, rUpper, Option.bind_some]
  by_cases h2 : up c = true
  · rw [if_pos h2]; simp [h2]
  rw [if_neg h2, rDigit, Option.bind_some]
  by_cases h3 : dg c = true
  · rw [if_pos h3]; simp [h3]
  rw [if_neg h3, eq_false_of_ne_true h1, eq_false_of_ne_true h2, eq_false_of_ne_true h3]
  simp only [Bool.false_or, un]
  rw [Option.some.injEq, Bool.eq_iff_iff]; simp; omega
theorem begins_eq (s t : ByteArray) (hs : s.size < 100000) (ht : t.size < 100000) (i : Nat) (hi : i ≤ s.size) : wageofficeref06_begins.f s (i : Int) t = some ((bs t).isPrefixOf ((bs s).drop i)) := by
  unfold wageofficeref06_begins.f
  have e1 : wrap64 ((s.size : Int) - (i : Int)) = ((s.size - i : Nat) : Int) := by rw [w64 (by omega) (by omega)]; omega
  have e2 : wrap64 ((i : Int) + (t.size : Int)) = ((i + t.size : Nat) : Int) := by rw [w64 (by omega) (by omega)]; omega
  rw [e1, e2]
  clear e1 e2
  by_cases h : t.size ≤ s.size - i
  · rw [if_pos (by omega), if_pos (by omega), if_pos (by omega), if_pos (by omega), Int.toNat_natCast, Int.toNat_natCast]
    rw [Option.some.injEq, Bool.eq_iff_iff, beq_iff_eq, List.isPrefixOf_iff_prefix, ByteArray.toList_eq, ByteArray.toList_eq]
    show bs (s.extract i (i + t.size)) = bs t ↔ _
    rw [bs_ext, show i + t.size - i = t.size by omega, List.prefix_iff_eq_take, bs_len]
    exact eq_comm
  · rw [if_neg (by omega), Option.some.injEq]
    symm
    apply eq_false_of_ne_true
    intro hp
    have := (List.isPrefixOf_iff_prefix.1 hp).length_le
    rw [bs_len, List.length_drop, bs_len] at this
    omega
theorem skip_code (s : ByteArray) (hs : s.size < 100000) : ∀ (d i : Nat), s.size = i + d →
    (∀ k, 4 * d + 10 ≤ k → wageofficeref06_Skip.l0 k s (i : Int) = some ((i + gapW ((bs s).drop i) : Nat) : Int)) ∧
    (∀ k, 4 * d + 10 ≤ k → wageofficeref06_Skip.l1 k s (i : Int) = some ((i + gapC ((bs s).drop i) : Nat) : Int)) := by
  intro d
  induction d with
  | zero =>
    intro i hi
    have hnil : (bs s).drop i = [] := List.drop_of_length_le (by rw [bs_len]; omega)
    have h0 : ∀ k, 4 * 0 + 9 ≤ k → wageofficeref06_Skip.l0 k s (i : Int) = some (i : Int) := by
      intro k hk
      obtain ⟨k, rfl⟩ : ∃ q, k = q + 1 := ⟨k - 1, by omega⟩
      simp only [wageofficeref06_Skip.l0]
      rw [if_neg (by omega)]
    rw [hnil]
    refine ⟨fun k hk => by rw [h0 k (by omega)]; rfl, fun k hk => ?_⟩
    obtain ⟨k, rfl⟩ : ∃ q, k = q + 1 := ⟨k - 1, by omega⟩
    simp only [wageofficeref06_Skip.l1]
    rw [if_neg (by omega), h0 k (by omega)]; rfl
  | succ d ih =>
    intro i hi
    obtain ⟨c, hc⟩ := drop_cases s i (by omega)
    obtain ⟨ih0, ih1⟩ := ih (i + 1) (by omega)
    have hb := bt_drop s i hc
    have hw : wrap64 ((i : Int) + 1) = ((i + 1 : Nat) : Int) := by rw [w64 (by omega) (by omega)]; omega
    have hbg := begins_eq s (⟨#[47, 47]⟩ : ByteArray) hs (by decide) i (by omega)
    generalize hr : (bs s).drop (i + 1) = r at *
    rw [hc] at hbg
    have k1 : ∀ k, 4 * d + 11 ≤ k → ¬ c.toNat = 10 → wageofficeref06_Skip.l1 k s (i : Int) = some ((i + (gapC r + 1) : Nat) : Int) := by
      intro k hk h10
      obtain ⟨k, rfl⟩ : ∃ q, k = q + 1 := ⟨k - 1, by omega⟩
      simp only [wageofficeref06_Skip.l1]
      rw [hw, hb, if_pos (by omega), if_pos (by omega), if_neg (by omega), ih1 k (by omega)]
      exact congrArg (fun z : Nat => some (z : Int)) (by omega)
    have k0 : ∀ k, 4 * d + 12 ≤ k → wh c = true → wageofficeref06_Skip.l0 k s (i : Int) = some ((i + (gapW r + 1) : Nat) : Int) := by
      intro k hk h
      obtain ⟨k, rfl⟩ : ∃ q, k = q + 1 := ⟨k - 1, by omega⟩
      simp only [wageofficeref06_Skip.l0]
      rw [hb, if_pos (by omega), if_pos (by omega), rWhite, Option.bind_some, if_pos h, hw, ih0 k (by omega)]
      exact congrArg (fun z : Nat => some (z : Int)) (by omega)
    rw [hc]
    constructor
    · intro k hk
      by_cases h : wh c = true
      · rw [k0 k (by omega) h]
        simp only [gapW]
        rw [if_pos h]
      · obtain ⟨k, rfl⟩ : ∃ q, k = q + 1 := ⟨k - 1, by omega⟩
        simp only [wageofficeref06_Skip.l0]
        rw [hb, if_pos (by omega), if_pos (by omega), rWhite, Option.bind_some, if_neg h, hbg, Option.bind_some]
        simp only [gapW]
        rw [if_neg h]
        have hiff : ((bs (⟨#[47, 47]⟩ : ByteArray)).isPrefixOf (c :: r) = true) ↔ (c.toNat = 47 ∧ r.head?.map (·.toNat) = some 47) := by
          show (([47, 47] : List UInt8).isPrefixOf (c :: r) = true) ↔ _
          cases r with
          | nil => simp [List.isPrefixOf]
          | cons e q =>
            simp only [List.isPrefixOf, Bool.and_true, Bool.and_eq_true, beq_iff_eq, List.head?_cons, Option.map_some, Option.some.injEq, ← UInt8.toNat_inj]
            constructor
            · rintro ⟨h1, h2⟩; exact ⟨h1.symm, h2.symm⟩
            · rintro ⟨h1, h2⟩; exact ⟨h1.symm, h2.symm⟩
        by_cases hp : (bs (⟨#[47, 47]⟩ : ByteArray)).isPrefixOf (c :: r) = true
        · have hx := hiff.1 hp
          rw [if_pos hp, if_pos hx, k1 k (by omega) (by omega)]
        · rw [if_neg hp, if_neg (fun hx => hp (hiff.2 hx))]; rfl
    · intro k hk
      simp only [gapC]
      by_cases h10 : c.toNat = 10
      · obtain ⟨k, rfl⟩ : ∃ q, k = q + 1 := ⟨k - 1, by omega⟩
        have hwc : wh c = true := by simp [wh, h10]
        simp only [wageofficeref06_Skip.l1]
        rw [hb, if_pos (by omega), if_pos (by omega), if_pos (by omega), k0 k (by omega) hwc, if_pos h10]
      · rw [k1 k (by omega) h10, if_neg h10]
theorem skip_eq (s : ByteArray) (hs : s.size < 100000) (i : Nat) (hi : i ≤ s.size) (k : Nat) (hk : 4 * s.size + 10 ≤ k) : wageofficeref06_Skip.f k s (i : Int) = some ((i + gapW ((bs s).drop i) : Nat) : Int) :=
  (skip_code s hs (s.size - i) i (by omega)).1 k (by omega)
theorem digits_l0 (s : ByteArray) (hs : s.size < 100000) : ∀ (d i k : Nat), s.size = i + d → d < k → wageofficeref06_digits.l0 k s (i : Int) = some ((i + run dg ((bs s).drop i) : Nat) : Int) := by
  intro d
  induction d with
  | zero =>
    intro i k hi hk
    obtain ⟨k, rfl⟩ : ∃ q, k = q + 1 := ⟨k - 1, by omega⟩
    have hnil : (bs s).drop i = [] := List.drop_of_length_le (by rw [bs_len]; omega)
    simp only [wageofficeref06_digits.l0]
    rw [if_neg (by omega), hnil]; rfl
  | succ d ih =>
    intro i k hi hk
    obtain ⟨k, rfl⟩ : ∃ q, k = q + 1 := ⟨k - 1, by omega⟩
    obtain ⟨c, hc⟩ := drop_cases s i (by omega)
    have hw : wrap64 ((i : Int) + 1) = ((i + 1 : Nat) : Int) := by rw [w64 (by omega) (by omega)]; omega
    simp only [wageofficeref06_digits.l0]
    rw [hw, bt_drop s i hc, if_pos (by omega), if_pos (by omega), rDigit, Option.bind_some, hc]
    simp only [run]
    by_cases h : dg c = true
    · rw [if_pos h, if_pos h, ih (i + 1) k (by omega) (by omega)]
      exact congrArg (fun z : Nat => some (z : Int)) (by omega)
    · rw [if_neg h, if_neg h]; rfl
theorem run_l0 (s : ByteArray) (hs : s.size < 100000) : ∀ (d i k : Nat), s.size = i + d → d < k → wageofficeref06_run.l0 k s (i : Int) = some ((i + run wd ((bs s).drop i) : Nat) : Int) := by
  intro d
  induction d with
  | zero =>
    intro i k hi hk
    obtain ⟨k, rfl⟩ : ∃ q, k = q + 1 := ⟨k - 1, by omega⟩
    have hnil : (bs s).drop i = [] := List.drop_of_length_le (by rw [bs_len]; omega)
    simp only [wageofficeref06_run.l0]
    rw [if_neg (by omega), hnil]; rfl
  | succ d ih =>
    intro i k hi hk
    obtain ⟨k, rfl⟩ : ∃ q, k = q + 1 := ⟨k - 1, by omega⟩
    obtain ⟨c, hc⟩ := drop_cases s i (by omega)
    have hw : wrap64 ((i : Int) + 1) = ((i + 1 : Nat) : Int) := by rw [w64 (by omega) (by omega)]; omega
    simp only [wageofficeref06_run.l0]
    rw [hw, bt_drop s i hc, if_pos (by omega), if_pos (by omega), rWord, Option.bind_some, hc]
    simp only [run]
    by_cases h : wd c = true
    · rw [if_pos h, if_pos h, ih (i + 1) k (by omega) (by omega)]
      exact congrArg (fun z : Nat => some (z : Int)) (by omega)
    · rw [if_neg h, if_neg h]; rfl
theorem free_eq (s : ByteArray) (i : Nat) : wageofficeref06_free.f s (i : Int) = some (fre ((bs s).drop i)) := by
  unfold wageofficeref06_free.f
  by_cases h : i < s.size
  · obtain ⟨c, hc⟩ := drop_cases s i h
    rw [if_neg (by omega), if_pos (by omega), if_pos (by omega), bt_drop s i hc, rWord, Option.bind_some, hc, fre_cons]
    by_cases hw : wd c = true
    · rw [if_pos hw, hw]; simp
    · rw [if_neg hw, eq_false_of_ne_true hw, Option.some.injEq, Bool.eq_iff_iff]; simp; omega
  · rw [if_pos (by omega), List.drop_of_length_le (by rw [bs_len]; omega)]; rfl
theorem date_l0 (s : ByteArray) (hs : s.size < 100000) (a : Nat) (h10 : a + 10 ≤ s.size) : ∀ (d i k : Nat), 10 = i + d → 2 * d < k → wageofficeref06_date.l0 k s (a : Int) (i : Int) = some (form (FM.drop i) ((bs s).drop (a + i))) := by
  intro d
  induction d with
  | zero =>
    intro i k hi hk
    obtain ⟨k, rfl⟩ : ∃ q, k = q + 1 := ⟨k - 1, by omega⟩
    obtain rfl : i = 10 := by omega
    simp only [wageofficeref06_date.l0]
    rw [if_neg (by omega)]
    rfl
  | succ d ih =>
    intro i k hi hk
    obtain ⟨k, rfl⟩ : ∃ q, k = q + 2 := ⟨k - 2, by omega⟩
    obtain ⟨c, hc⟩ := drop_cases s (a + i) (by omega)
    obtain ⟨f, hf, hb⟩ := fm_at i (by omega)
    have hn := ih (i + 1) k (by omega) (by omega)
    have hw : wrap64 ((i : Int) + 1) = ((i + 1 : Nat) : Int) := by rw [w64 (by omega) (by omega)]; omega
    have hw2 : wrap64 ((a : Int) + (i : Int)) = ((a + i : Nat) : Int) := by rw [w64 (by omega) (by omega)]; omega
    have hbt := bt_drop s (a + i) hc
    rw [show a + (i + 1) = a + i + 1 by omega] at hn
    have step : ∀ b : Bool, (b = true ↔ f = false) → wageofficeref06_date.j1 (k + 1) s (a : Int) (i : Int) (c.toNat : Int) b = some (form (f :: FM.drop (i + 1)) (c :: (bs s).drop (a + i + 1))) := by
      intro b hbf
      simp only [wageofficeref06_date.j1]
      rw [form_cons, hw, hn]
      by_cases hbt : b = true
      · rw [if_pos hbt, hbf.1 hbt]
        simp only [Bool.false_eq_true, if_false]
        by_cases h45 : c.toNat = 45
        · rw [if_pos (by omega), decide_eq_true h45]; simp
        · rw [if_neg (by omega), decide_eq_false h45]; simp
      · have hft : f = true := by
          cases f with
          | true => rfl
          | false => exact absurd (hbf.2 rfl) hbt
        rw [if_neg hbt, rDigit, Option.bind_some, hft]
        simp only [if_true]
        by_cases hd : dg c = true
        · rw [if_pos hd, hd]; simp
        · rw [if_neg hd, eq_false_of_ne_true hd]; simp
    simp only [wageofficeref06_date.l0]
    rw [hw2, hbt, if_pos (by omega), if_pos (by omega), if_pos (by omega), hc, hf]
    have hf4 : f = false ↔ i = 4 ∨ i = 7 := by
      have : i = 0 ∨ i = 1 ∨ i = 2 ∨ i = 3 ∨ i = 4 ∨ i = 5 ∨ i = 6 ∨ i = 7 ∨ i = 8 ∨ i = 9 := by omega
      rcases this with rfl | rfl | rfl | rfl | rfl | rfl | rfl | rfl | rfl | rfl <;> (simp at hf; simp [← hf])
    by_cases h4 : i = 4
    · rw [if_pos (by omega)]
      exact step true (by simp [hf4, h4])
    · rw [if_neg (by omega)]
      exact step _ (by rw [hf4]; simp [h4]; omega)
theorem date_eq (s : ByteArray) (hs : s.size < 100000) (a : Nat) (ha : a ≤ s.size) (k : Nat) (hk : 30 ≤ k) : wageofficeref06_date.f k s (a : Int) = some (isDate ((bs s).drop a)) := by
  unfold wageofficeref06_date.f
  have e1 : wrap64 ((s.size : Int) - (a : Int)) = ((s.size - a : Nat) : Int) := by rw [w64 (by omega) (by omega)]; omega
  rw [e1]
  clear e1
  by_cases h : s.size - a < 10
  · rw [if_pos (by omega), Option.some.injEq]
    symm
    apply eq_false_of_ne_true
    intro hd; have := isDate_len hd; rw [List.length_drop, bs_len] at this; omega
  · rw [if_neg (by omega)]
    exact date_l0 s hs a (by omega) 10 0 k (by omega) (by omega)
/-- what the reference tells of a token at a, where the plain lexer tells p -/
def Ans (s : ByteArray) (a : Nat) (p : Nat × Nat) (r : Option (Int × ByteArray × Int × Bool)) : Prop :=
  ∃ (kd : Int) (tx : ByteArray) (pa : Int) (ok : Bool), r = some (kd, tx, pa, ok) ∧ (p.1 = 0 → ok = false) ∧ (p.1 ≠ 0 → ok = true ∧ kd = (p.1 : Int) ∧ tx = s.extract a (a + p.2) ∧ pa = (a : Int))
theorem Ans.no {s : ByteArray} {a : Nat} (kd : Int) (tx : ByteArray) (pa : Int) : Ans s a (0, 0) (some (kd, tx, pa, false)) := ⟨kd, tx, pa, false, rfl, fun _ => rfl, fun h => absurd rfl h⟩
theorem Ans.yes {s : ByteArray} {a : Nat} {k n : Nat} (hk : k ≠ 0) : Ans s a (k, n) (some ((k : Int), s.extract a (a + n), (a : Int), true)) := ⟨_, _, _, true, rfl, fun h => absurd h hk, fun _ => ⟨rfl, rfl, rfl, rfl⟩⟩
theorem Ans.if_ {s : ByteArray} {a : Nat} {k n : Nat} (hk : k ≠ 0) (c : Prop) [Decidable c] (b : Bool) (hb : b = true ↔ c) : Ans s a (if c then (k, n) else (0, 0)) (some ((k : Int), s.extract a (a + n), (a : Int), b)) := by
  by_cases h : c
  · rw [if_pos h, hb.2 h]; exact Ans.yes hk
  · rw [if_neg h]
    have : b = false := eq_false_of_ne_true (fun hbt => h (hb.1 hbt))
    rw [this]; exact Ans.no _ _ _
theorem rnum_j1 (s : ByteArray) (hs : s.size < 100000) (a n : Nat) (hn : a + n ≤ s.size) (pl b : Bool) (hb : b = true ↔ ∃ c r, (bs s).drop (a + n) = c :: r ∧ c.toNat = 46) (k : Nat) (hk : s.size + 5 ≤ k) :
    Ans s a (numR pl n ((bs s).drop (a + n))) (wageofficeref06_numeric.j1 k s (a : Int) ((a + n : Nat) : Int) pl b) := by
  obtain ⟨k, rfl⟩ : ∃ q, k = q + 1 := ⟨k - 1, by omega⟩
  generalize hsp : numR pl n ((bs s).drop (a + n)) = sp
  simp only [wageofficeref06_numeric.j1]
  have e1 : wrap64 (((a + n : Nat) : Int) - (a : Int)) = (n : Int) := by rw [w64 (by omega) (by omega)]; omega
  have e2 : wrap64 (((a + n : Nat) : Int) + 1) = ((a + n + 1 : Nat) : Int) := by rw [w64 (by omega) (by omega)]; omega
  have e3 : wrap64 (((a + n : Nat) : Int) + 3) = ((a + n + 3 : Nat) : Int) := by rw [w64 (by omega) (by omega)]; omega
  rw [e1, e2, e3]
  clear e1 e2 e3
  by_cases hbt : b = true
  · obtain ⟨c, r, hc, h46⟩ := hb.1 hbt
    have hlt : a + n < s.size := by
      rcases Nat.lt_or_ge (a + n) s.size with h | h
      · exact h
      · rw [List.drop_of_length_le (by rw [bs_len]; omega)] at hc; cases hc
    have hr : (bs s).drop (a + n + 1) = r := by rw [← List.drop_drop, hc]; rfl
    have hrl := run_le dg r
    have hrl2 : r.length = s.size - (a + n + 1) := by rw [← hr, List.length_drop, bs_len]
    have hsp' : sp = if n ≤ 10 ∧ pl = true ∧ run dg r = 2 ∧ fre (r.drop 2) = true then (4, n + 3) else (0, 0) := by rw [← hsp, hc, numR_cons, if_pos h46]
    rw [if_pos hbt]
    unfold wageofficeref06_digits.f
    rw [digits_l0 s hs (s.size - (a + n + 1)) (a + n + 1) k (by omega) (by omega), Option.bind_some, hr, if_pos (by omega), if_pos (by omega), if_pos (by omega), Int.toNat_natCast, Int.toNat_natCast]
    by_cases hp : pl = true
    · rw [if_pos hp]
      by_cases h10 : n ≤ 10
      · rw [if_pos (by omega)]
        by_cases h2 : run dg r = 2
        · have hd : (bs s).drop (a + n + 1 + run dg r) = r.drop 2 := by rw [← List.drop_drop, hr, h2]
          rw [if_pos (by omega), free_eq, Option.bind_some, hd, h2, show a + n + 1 + 2 = a + (n + 3) by omega, hsp']
          exact Ans.if_ (by decide) _ _ ⟨fun h => ⟨h10, hp, h2, h⟩, fun h => h.2.2.2⟩
        · rw [if_neg (by omega), hsp', if_neg (fun h => h2 h.2.2.1)]; exact Ans.no _ _ _
      · rw [if_neg (by omega), hsp', if_neg (fun h => h10 h.1)]; exact Ans.no _ _ _
    · rw [if_neg hp, hsp', if_neg (fun h => hp h.2.1)]; exact Ans.no _ _ _
  · rw [if_neg hbt, if_pos (by omega), if_pos (by omega), if_pos (by omega), Int.toNat_natCast, Int.toNat_natCast]
    have hcase : numR pl n ((bs s).drop (a + n)) = if (n ≤ 12 ∧ pl = true) ∧ fre ((bs s).drop (a + n)) = true then (3, n) else (0, 0) := by
      cases hc : (bs s).drop (a + n) with
      | nil => simp [numR, fre]
      | cons c r =>
        have h46 : ¬ c.toNat = 46 := fun h => hbt (hb.2 ⟨c, r, hc, h⟩)
        rw [numR_cons, if_neg h46]
        simp only [and_assoc]
    rw [hsp] at hcase
    by_cases hp : pl = true
    · rw [if_pos hp]
      by_cases h12 : n ≤ 12
      · rw [if_pos (by omega), free_eq, Option.bind_some, hcase]
        exact Ans.if_ (by decide) _ _ ⟨fun h => ⟨⟨h12, hp⟩, h⟩, fun h => h.2⟩
      · rw [if_neg (by omega), hcase, if_neg (fun h => h12 h.1.1)]; exact Ans.no _ _ _
    · rw [if_neg hp, hcase, if_neg (fun h => hp h.1.2)]; exact Ans.no _ _ _
theorem rnum_j0 (s : ByteArray) (hs : s.size < 100000) (a n : Nat) (hn : a + n ≤ s.size) (pl : Bool) (k : Nat) (hk : s.size + 6 ≤ k) :
    Ans s a (numR pl n ((bs s).drop (a + n))) (wageofficeref06_numeric.j0 k s (a : Int) ((a + n : Nat) : Int) pl) := by
  obtain ⟨k, rfl⟩ : ∃ q, k = q + 1 := ⟨k - 1, by omega⟩
  simp only [wageofficeref06_numeric.j0]
  by_cases h : a + n < s.size
  · obtain ⟨c, hc⟩ := drop_cases s (a + n) h
    rw [if_pos (by omega), if_pos (by omega), bt_drop s (a + n) hc]
    refine rnum_j1 s hs a n hn pl _ ?_ k (by omega)
    rw [beq_iff_eq]
    constructor
    · intro h; exact ⟨c, _, hc, by omega⟩
    · rintro ⟨c', r', hc', h46⟩
      rw [hc] at hc'; cases hc'; omega
  · rw [if_neg (by omega)]
    refine rnum_j1 s hs a n hn pl _ ?_ k (by omega)
    constructor
    · intro h; cases h
    · rintro ⟨c', r', hc', h46⟩
      rw [List.drop_of_length_le (by rw [bs_len]; omega)] at hc'; cases hc'
theorem rnum_eq (s : ByteArray) (hs : s.size < 100000) (a : Nat) (ha : a < s.size) (k : Nat) (hk : s.size + 40 ≤ k) : Ans s a (num ((bs s).drop a)) (wageofficeref06_numeric.f k s (a : Int)) := by
  generalize hsp : num ((bs s).drop a) = sp
  unfold num at hsp
  unfold wageofficeref06_numeric.f
  rw [date_eq s hs a (by omega) k (by omega), Option.bind_some]
  have e1 : wrap64 ((a : Int) + 10) = ((a + 10 : Nat) : Int) := by rw [w64 (by omega) (by omega)]; omega
  have e2 : wrap64 ((a : Int) + 1) = ((a + 1 : Nat) : Int) := by rw [w64 (by omega) (by omega)]; omega
  rw [e1, e2]
  clear e1 e2
  have hnl := run_le dg ((bs s).drop a)
  rw [List.length_drop, bs_len] at hnl
  by_cases hd : isDate ((bs s).drop a) = true
  · have hl := isDate_len hd
    rw [List.length_drop, bs_len] at hl
    rw [if_pos hd, List.drop_drop] at hsp
    rw [if_pos hd, if_pos (by omega), if_pos (by omega), if_pos (by omega), free_eq, Option.bind_some, Int.toNat_natCast, Int.toNat_natCast, ← hsp]
    exact Ans.if_ (by decide) _ _ Iff.rfl
  · rw [if_neg hd, List.drop_drop] at hsp
    rw [if_neg hd]
    unfold wageofficeref06_digits.f
    rw [digits_l0 s hs (s.size - a) a k (by omega) (by omega), Option.bind_some]
    obtain ⟨c, hc⟩ := drop_cases s a ha
    have hpl : plain ((bs s).drop a) = (decide (run dg ((bs s).drop a) = 1) || !decide (c.toNat = 48)) := by
      unfold plain; rw [hc]
    rw [hpl] at hsp
    generalize hn : run dg ((bs s).drop a) = n at *
    by_cases h1 : n = 1
    · rw [decide_eq_true h1] at hsp
      rw [if_pos (by omega), ← hsp]
      exact rnum_j0 s hs a n (by omega) true k (by omega)
    · rw [decide_eq_false h1] at hsp
      rw [if_neg (by omega), if_pos (by omega), if_pos (by omega), bt_drop s a hc, ← hsp]
      have e : ((c.toNat : Int) != 48) = (false || !decide (c.toNat = 48)) := by
        rw [Bool.eq_iff_iff]; simp; omega
      rw [e]
      exact rnum_j0 s hs a n (by omega) _ k (by omega)
theorem up_lnu {c : UInt8} (h : up c = true) : lnu c = false := by simp [up, lnu, lo, dg, un] at *; omega
theorem wd_lnu {c : UInt8} (h : wd c = true) (h2 : up c = false) : lnu c = true := by simp [wd, h2, lnu] at *; exact h
theorem lnu_wd {c : UInt8} (h : lnu c = true) : wd c = true := by
  simp [wd, lnu] at *
  rcases h with (h | h) | h <;> simp [h]
theorem rname_l0 (s : ByteArray) (hs : s.size < 100000) (a e : Nat) (hae : a ≤ e) (hes : e ≤ s.size) : ∀ (d i k : Nat), e = i + d → d < k → run wd ((bs s).drop i) = d →
    wageofficeref06_name.l0 k s (a : Int) (e : Int) (i : Int) = if (run lnu ((bs s).drop i) == d) = true then some (1, s.extract a e, (a : Int), decide (e - a ≤ 16)) else some (0, ⟨#[]⟩, 0, false) := by
  intro d
  induction d with
  | zero =>
    intro i k hi hk hr
    obtain ⟨k, rfl⟩ : ∃ q, k = q + 1 := ⟨k - 1, by omega⟩
    have hle := run_mono (p := lnu) (q := wd) (fun c h => lnu_wd h) ((bs s).drop i)
    have e1 : wrap64 ((e : Int) - (a : Int)) = ((e - a : Nat) : Int) := by rw [w64 (by omega) (by omega)]; omega
    simp only [wageofficeref06_name.l0]
    rw [e1]
    clear e1
    rw [if_neg (by omega), if_pos (by omega), if_pos (by omega), if_pos (by omega), Int.toNat_natCast, Int.toNat_natCast, if_pos (by simp; omega)]
    have : decide (((e - a : Nat) : Int) ≤ 16) = decide (e - a ≤ 16) := by rw [decide_eq_decide]; omega
    rw [this]
  | succ d ih =>
    intro i k hi hk hr
    obtain ⟨k, rfl⟩ : ∃ q, k = q + 1 := ⟨k - 1, by omega⟩
    obtain ⟨c, hc⟩ := drop_cases s i (by omega)
    have hw : wrap64 ((i : Int) + 1) = ((i + 1 : Nat) : Int) := by rw [w64 (by omega) (by omega)]; omega
    rw [hc] at hr
    simp only [run] at hr
    have hwd : wd c = true := by
      by_cases h : wd c = true
      · exact h
      · rw [if_neg h] at hr; omega
    rw [if_pos hwd] at hr
    simp only [wageofficeref06_name.l0]
    rw [hw, bt_drop s i hc, if_pos (by omega), if_pos (by omega), if_pos (by omega), rUpper, Option.bind_some, hc]
    by_cases hu : up c = true
    · have e1 : run lnu (c :: (bs s).drop (i + 1)) = 0 := by simp [run, up_lnu hu]
      rw [if_pos hu, e1]; simp
    · have e1 : run lnu (c :: (bs s).drop (i + 1)) = run lnu ((bs s).drop (i + 1)) + 1 := by simp [run, wd_lnu hwd (eq_false_of_ne_true hu)]
      rw [if_neg hu, e1, ih (i + 1) k (by omega) (by omega) (by omega)]
      by_cases hx : run lnu ((bs s).drop (i + 1)) = d
      · rw [if_pos (by simpa using hx), if_pos (by simpa using hx)]
      · rw [if_neg (by simpa using hx), if_neg (by simpa using hx)]
theorem rcur_l0 (s : ByteArray) (hs : s.size < 100000) (a e : Nat) (hae : a ≤ e) (hes : e ≤ s.size) : ∀ (d i k : Nat), e = i + d → d < k → run wd ((bs s).drop i) = d →
    wageofficeref06_cur.l0 k s (a : Int) (e : Int) (i : Int) = if (run up ((bs s).drop i) == d) = true then some (2, s.extract a e, (a : Int), decide (e - a = 3)) else some (0, ⟨#[]⟩, 0, false) := by
  intro d
  induction d with
  | zero =>
    intro i k hi hk hr
    obtain ⟨k, rfl⟩ : ∃ q, k = q + 1 := ⟨k - 1, by omega⟩
    have hle := run_mono (p := up) (q := wd) (fun c h => up_wd h) ((bs s).drop i)
    have e1 : wrap64 ((e : Int) - (a : Int)) = ((e - a : Nat) : Int) := by rw [w64 (by omega) (by omega)]; omega
    simp only [wageofficeref06_cur.l0]
    rw [e1]
    clear e1
    rw [if_neg (by omega), if_pos (by omega), if_pos (by omega), if_pos (by omega), Int.toNat_natCast, Int.toNat_natCast, if_pos (by simp; omega)]
    have : (((e - a : Nat) : Int) == 3) = decide (e - a = 3) := by rw [Bool.eq_iff_iff]; simp; omega
    rw [this]
  | succ d ih =>
    intro i k hi hk hr
    obtain ⟨k, rfl⟩ : ∃ q, k = q + 1 := ⟨k - 1, by omega⟩
    obtain ⟨c, hc⟩ := drop_cases s i (by omega)
    have hw : wrap64 ((i : Int) + 1) = ((i + 1 : Nat) : Int) := by rw [w64 (by omega) (by omega)]; omega
    rw [hc] at hr
    simp only [run] at hr
    have hwd : wd c = true := by
      by_cases h : wd c = true
      · exact h
      · rw [if_neg h] at hr; omega
    rw [if_pos hwd] at hr
    simp only [wageofficeref06_cur.l0]
    rw [hw, bt_drop s i hc, if_pos (by omega), if_pos (by omega), if_pos (by omega), rUpper, Option.bind_some, hc]
    by_cases hu : up c = true
    · have e1 : run up (c :: (bs s).drop (i + 1)) = run up ((bs s).drop (i + 1)) + 1 := by simp [run, hu]
      rw [if_pos hu, e1, ih (i + 1) k (by omega) (by omega) (by omega)]
      by_cases hx : run up ((bs s).drop (i + 1)) = d
      · rw [if_pos (by simpa using hx), if_pos (by simpa using hx)]
      · rw [if_neg (by simpa using hx), if_neg (by simpa using hx)]
    · have e1 : run up (c :: (bs s).drop (i + 1)) = 0 := by simp [run, eq_false_of_ne_true hu]
      rw [if_neg hu, e1]; simp
theorem rsym_l0 (s : ByteArray) (hs : s.size < 100000) (a : Nat) (ha : a ≤ s.size) (ts : List ByteArray) (hts : ts.length < 100) (hb : ∀ t ∈ ts, t.size < 100) : ∀ (d i k : Nat), ts.length = i + d → d < k →
    Ans s a (sym ((bs s).drop a) ((ts.drop i).map bs)) (wageofficeref06_token.l0 k s (a : Int) ts (i : Int)) := by
  intro d
  induction d with
  | zero =>
    intro i k hi hk
    obtain ⟨k, rfl⟩ : ∃ q, k = q + 1 := ⟨k - 1, by omega⟩
    simp only [wageofficeref06_token.l0]
    rw [if_neg (by omega), List.drop_of_length_le (l := ts) (by omega)]
    exact Ans.no _ _ _
  | succ d ih =>
    intro i k hi hk
    obtain ⟨k, rfl⟩ : ∃ q, k = q + 1 := ⟨k - 1, by omega⟩
    have hw : wrap64 ((i : Int) + 1) = ((i + 1 : Nat) : Int) := by rw [w64 (by omega) (by omega)]; omega
    have hx : ts[i]? = some ts[i] := List.getElem?_eq_getElem (by omega)
    have hrd : rdOf ByteArray.empty ts (i : Int) = ts[i] := by
      unfold rdOf; rw [Int.toNat_natCast, List.getD_eq_getElem?_getD, hx]; rfl
    have hsz := hb _ (List.mem_of_getElem? hx)
    rw [List.drop_eq_getElem_cons (show i < ts.length by omega)]
    simp only [wageofficeref06_token.l0]
    rw [hrd, hw]
    generalize ts[i] = t at *
    rw [if_pos (by omega), if_pos (by omega), begins_eq s t hs (by omega) a ha, Option.bind_some, List.map_cons]
    simp only [sym]
    by_cases hp : (bs t).isPrefixOf ((bs s).drop a) = true
    · rw [if_pos hp, if_pos hp]
      have ht : t = s.extract a (a + (bs t).length) := by
        apply ba_ext
        rw [bs_ext, show a + (bs t).length - a = (bs t).length by omega]
        exact List.prefix_iff_eq_take.1 (List.isPrefixOf_iff_prefix.1 hp)
      exact ⟨_, _, _, _, rfl, (fun h => absurd (show (6 : Nat) = 0 from h) (by decide)), fun _ => ⟨rfl, rfl, ht, rfl⟩⟩
    · rw [if_neg hp, if_neg hp]
      exact ih (i + 1) k (by omega) (by omega)
theorem bind_eta (r : Option (Int × ByteArray × Int × Bool)) : (r.bind fun b => some (b.1, b.2.1, b.2.2.1, b.2.2.2)) = r := by cases r <;> rfl
theorem token_eq (s : ByteArray) (hs : s.size < 100000) (a : Nat) (ha : a < s.size) (k : Nat) (hk : s.size + 200 ≤ k) : Ans s a (tok ((bs s).drop a)) (wageofficeref06_token.f k s (a : Int)) := by
  obtain ⟨c, hc⟩ := drop_cases s a ha
  have ht : tok ((bs s).drop a) = if dg c then num ((bs s).drop a)
      else if lo c then (if run wd ((bs s).drop a) ≤ 16 ∧ run lnu ((bs s).drop a) = run wd ((bs s).drop a) then (1, run wd ((bs s).drop a)) else (0, 0))
      else if up c then (if run wd ((bs s).drop a) = 3 ∧ run up ((bs s).drop a) = run wd ((bs s).drop a) then (2, run wd ((bs s).drop a)) else (0, 0))
      else sym ((bs s).drop a) Lx.syms := by rw [hc]; rfl
  generalize hsp : tok ((bs s).drop a) = sp
  rw [hsp] at ht
  clear hsp
  have hwl := run_le wd ((bs s).drop a)
  rw [List.length_drop, bs_len] at hwl
  unfold wageofficeref06_token.f
  rw [if_pos (by omega), if_pos (by omega), bt_drop s a hc, rDigit, Option.bind_some]
  by_cases hd : dg c = true
  · rw [if_pos hd] at ht
    rw [if_pos hd, bind_eta, ht]
    exact rnum_eq s hs a ha k (by omega)
  rw [if_neg hd] at ht
  rw [if_neg hd, rLower, Option.bind_some]
  by_cases hl : lo c = true
  · rw [if_pos hl] at ht
    rw [if_pos hl, bind_eta, ht]
    unfold wageofficeref06_name.f wageofficeref06_run.f
    rw [run_l0 s hs (s.size - a) a k (by omega) (by omega), Option.bind_some, rname_l0 s hs a (a + run wd ((bs s).drop a)) (by omega) (by omega) (run wd ((bs s).drop a)) a k rfl (by omega) rfl]
    by_cases he : run lnu ((bs s).drop a) = run wd ((bs s).drop a)
    · rw [show ∀ x y : Option (Int × ByteArray × Int × Bool), (if (run lnu ((bs s).drop a) == run wd ((bs s).drop a)) = true then x else y) = x from fun x y => if_pos (by simpa using he)]
      exact Ans.if_ (k := 1) (by decide) _ _ (by rw [decide_eq_true_iff, Nat.add_sub_cancel_left]; exact ⟨fun h => ⟨h, he⟩, fun h => h.1⟩)
    · rw [if_neg (fun h => he h.2), if_neg (by simpa using he)]; exact Ans.no _ _ _
  rw [if_neg hl] at ht
  rw [if_neg hl, rUpper, Option.bind_some]
  by_cases hu : up c = true
  · rw [if_pos hu] at ht
    rw [if_pos hu, bind_eta, ht]
    unfold wageofficeref06_cur.f wageofficeref06_run.f
    rw [run_l0 s hs (s.size - a) a k (by omega) (by omega), Option.bind_some, rcur_l0 s hs a (a + run wd ((bs s).drop a)) (by omega) (by omega) (run wd ((bs s).drop a)) a k rfl (by omega) rfl]
    by_cases he : run up ((bs s).drop a) = run wd ((bs s).drop a)
    · rw [show ∀ x y : Option (Int × ByteArray × Int × Bool), (if (run up ((bs s).drop a) == run wd ((bs s).drop a)) = true then x else y) = x from fun x y => if_pos (by simpa using he)]
      exact Ans.if_ (k := 2) (by decide) _ _ (by rw [decide_eq_true_iff, Nat.add_sub_cancel_left]; exact ⟨fun h => ⟨h, he⟩, fun h => h.1⟩)
    · rw [if_neg (fun h => he h.2), if_neg (by simpa using he)]; exact Ans.no _ _ _
  rw [if_neg hu] at ht
  rw [if_neg hu, ht]
  unfold wageofficeref06_Symbols.f
  rw [Option.bind_some]
  exact rsym_l0 s hs a (by omega) PAll.syms (by decide) (by decide) 17 0 k rfl (by omega)
theorem rlex (s : ByteArray) (hs : s.size ≤ 6000) {a : Nat} {l : Bytes} {P : List PTok} (h : Lexes a l P) : ∀ (k : Nat) (out : List Tok), l = (bs s).drop a → a ≤ s.size → out.length ≤ 2000 → l.length + 4 * s.size + 300 ≤ k →
    wageofficeref06_Lex.l0 k s (out.map toS) ((a + gapW l : Nat) : Int) = some ((fin out (P.map cv)).1.map toS, (fin out (P.map cv)).2.1, (fin out (P.map cv)).2.2) := by
  induction h with
  | @done a l h =>
    intro k out hl ha ho hk
    obtain ⟨k, rfl⟩ : ∃ q, k = q + 1 := ⟨k - 1, by omega⟩
    have e : l.length = s.size - a := by rw [hl, List.length_drop, bs_len]
    simp only [wageofficeref06_Lex.l0]
    rw [if_neg (by omega)]; rfl
  | @tok a g r t kd L hg ht hk0 hr ih =>
    intro k out hl ha ho hk
    obtain ⟨k, rfl⟩ : ∃ q, k = q + 1 := ⟨k - 1, by omega⟩
    have hlen := tok_len ht hk0
    have e : (g ++ (t ++ r)).length = s.size - a := by rw [hl, List.length_drop, bs_len]
    simp only [List.length_append] at e hk hlen
    have hd1 : (bs s).drop (a + g.length) = t ++ r := by rw [← List.drop_drop, ← hl, List.drop_left]
    have hd2 : (bs s).drop (a + g.length + t.length) = r := by rw [← List.drop_drop, hd1, List.drop_left]
    obtain ⟨kd', tx, pa, ok, hr', -, hyes⟩ := token_eq s (by omega) (a + g.length) (by omega) k (by omega)
    rw [hd1, ht] at hyes
    obtain ⟨rfl, rfl, rfl, rfl⟩ := hyes hk0
    simp only [wageofficeref06_Lex.l0]
    rw [hg, if_pos (by omega), List.map_cons]
    by_cases h2k : out.length = 2000
    · rw [if_pos (by rw [List.length_map]; omega)]
      unfold fin; rw [if_pos h2k]; rfl
    · rw [if_neg (by rw [List.length_map]; omega), hr', Option.bind_some]
      dsimp only
      have htx : (s.extract (a + g.length) (a + g.length + t.length)).size = t.length := by rw [ByteArray.size_extract]; omega
      have ht' : s.extract (a + g.length) (a + g.length + t.length) = ⟨t.toArray⟩ := by
        apply ba_ext
        rw [bs_ext, hd1, show a + g.length + t.length - (a + g.length) = t.length by omega, List.take_left]
      have hw : wrap64 (((a + g.length : Nat) : Int) + ((s.extract (a + g.length) (a + g.length + t.length)).size : Int)) = ((a + g.length + t.length : Nat) : Int) := by
        rw [htx, w64 (by omega) (by omega)]; omega
      rw [hw]
      clear hw
      rw [if_pos rfl, if_pos (by rw [List.length_map]; omega), skip_eq s (by omega) (a + g.length + t.length) (by omega) k (by omega), Option.bind_some, hd2, ht']
      have := ih k (out ++ [cv (kd, t, a + g.length)]) hd2.symm (by omega) (by rw [List.length_append]; simp; omega) (by omega)
      rw [List.map_append] at this
      have ef : fin out (cv (kd, t, a + g.length) :: L.map cv) = fin (out ++ [cv (kd, t, a + g.length)]) (L.map cv) := by
        conv => lhs; unfold fin
        rw [if_neg h2k, if_neg (by show ¬ ((kd : Nat) : Int) = 0; omega)]
      rw [ef]
      exact this
  | @bad a g r t hg ht h0 =>
    intro k out hl ha ho hk
    obtain ⟨k, rfl⟩ : ∃ q, k = q + 1 := ⟨k - 1, by omega⟩
    have e : (g ++ (t ++ r)).length = s.size - a := by rw [hl, List.length_drop, bs_len]
    have hn : (t ++ r).length ≠ 0 := fun h => h0 (List.length_eq_zero_iff.1 h)
    simp only [List.length_append] at e hk hn
    have hd1 : (bs s).drop (a + g.length) = t ++ r := by rw [← List.drop_drop, ← hl, List.drop_left]
    obtain ⟨kd', tx, pa, ok, hr', hno, -⟩ := token_eq s (by omega) (a + g.length) (by omega) k (by omega)
    rw [hd1, ht] at hno
    obtain rfl := hno rfl
    simp only [wageofficeref06_Lex.l0]
    rw [hg, if_pos (by omega), List.map_cons]
    by_cases h2k : out.length = 2000
    · rw [if_pos (by rw [List.length_map]; omega)]
      unfold fin; rw [if_pos h2k]; rfl
    · rw [if_neg (by rw [List.length_map]; omega), hr', Option.bind_some]
      dsimp only
      rw [if_neg (by simp)]
      unfold fin; rw [if_neg h2k, if_pos (by rfl)]; rfl
theorem rLex_eq (s : ByteArray) (hs : s.size ≤ 6000) {P : List PTok} (h : Lexes 0 (bs s) P) (k : Nat) (hk : 5 * s.size + 400 ≤ k) : wageofficeref06_Lex.f k s = lexer_Lex.f s := by
  rw [Lex_is s hs h]
  unfold wageofficeref06_Lex.f
  have h1 := skip_eq s (by omega) 0 (by omega) k (by omega)
  rw [List.drop_zero, Nat.zero_add] at h1
  rw [if_neg (by omega), show wageofficeref06_Skip.f k s 0 = _ from h1, Option.bind_some]
  have := rlex s hs h k [] (by rw [List.drop_zero]) (by omega) (by simp) (by rw [bs_len]; omega)
  rw [Nat.zero_add] at this
  exact this
end Go.Proofs.YticmjkjojhcdpaaDoor.PAll

/- The program's first token of a text, and its Lex, as functions on lists of bytes. -/
import Derived.Test.YticmjkjojhcdpaaDoorBr
set_option linter.unusedVariables false
set_option linter.unusedSimpArgs false
namespace Go.Proofs.YticmjkjojhcdpaaDoor.PAll
open Go Go.RowKit Go.Proofs.YticmjkjojhcdpaaDoor.Lx Go.Proofs.YticmjkjojhcdpaaDoorW.PrintWords

theorem form_cons (f : Bool) (fs : List Bool) (c : UInt8) (r : List UInt8) : form (f :: fs) (c :: r) = ((if f = true then dg c else decide (c.toNat = 45)) && form fs r) := rfl
theorem fre_cons (c : UInt8) (r : List UInt8) : fre (c :: r) = !(wd c || decide (c.toNat = 46)) := rfl
theorem numR_cons (pl : Bool) (n : Nat) (c : UInt8) (r : List UInt8) : numR pl n (c :: r) = if c.toNat = 46 then (if n ≤ 10 ∧ pl = true ∧ run dg r = 2 ∧ fre (r.drop 2) = true then (4, n + 3) else (0, 0))
      else if n ≤ 12 ∧ pl = true ∧ fre (c :: r) = true then (3, n) else (0, 0) := rfl
theorem cls4 (c : UInt8) : clsI c = 4 ↔ dg c = true := by
  unfold clsI
  by_cases x1 : lo c = true
  · rw [if_pos x1]; have : dg c = false := by simp [lo, dg] at *; omega
    simp [this]
  rw [if_neg x1]
  by_cases x2 : up c = true
  · rw [if_pos x2]; have : dg c = false := by simp [up, dg] at *; omega
    simp [this]
  rw [if_neg x2]
  by_cases x3 : dg c = true
  · rw [if_pos x3]; simp [x3]
  rw [if_neg x3]
  split
  · simp [x3]
  · split <;> simp [x3]
abbrev FM : List Bool := [true, true, true, true, false, true, true, false, true, true]
abbrev fstr : ByteArray := ⟨#[100, 100, 100, 100, 45, 100, 100, 45, 100, 100]⟩
theorem fm_at (i : Nat) (h : i < 10) : ∃ f, FM.drop i = f :: FM.drop (i + 1) ∧ bt fstr (i : Int) = if f = true then 100 else 45 := by
  have : i = 0 ∨ i = 1 ∨ i = 2 ∨ i = 3 ∨ i = 4 ∨ i = 5 ∨ i = 6 ∨ i = 7 ∨ i = 8 ∨ i = 9 := by omega
  rcases this with rfl | rfl | rfl | rfl | rfl | rfl | rfl | rfl | rfl | rfl <;> exact ⟨_, rfl, rfl⟩
theorem isDate_l0 (s : ByteArray) (hs : s.size < 100000) (h10 : 10 ≤ s.size) : ∀ (d i k : Nat), 10 = i + d → d + 5 ≤ k → lexer_isDate.l0 k s (i : Int) = some (form (FM.drop i) ((bs s).drop i)) := by
  intro d
  induction d with
  | zero =>
    intro i k hi hk
    obtain ⟨k, rfl⟩ : ∃ q, k = q + 1 := ⟨k - 1, by omega⟩
    obtain rfl : i = 10 := by omega
    unfold lexer_isDate.l0
    rw [if_neg (by omega)]
    rfl
  | succ d ih =>
    intro i k hi hk
    obtain ⟨k, rfl⟩ : ∃ q, k = q + 1 := ⟨k - 1, by omega⟩
    obtain ⟨c, hc⟩ := drop_cases s i (by omega)
    obtain ⟨f, hf, hb⟩ := fm_at i (by omega)
    unfold lexer_isDate.l0
    rw [if_pos (by omega), if_pos (by omega), if_pos (by omega), bt_drop s i hc, class_eq k c (by omega), Option.bind_some, hc, hf]
    have hn := ih (i + 1) k (by omega) (by omega)
    have hw : wrap64 ((i : Int) + 1) = ((i + 1 : Nat) : Int) := by rw [w64 (by omega) (by omega)]; omega
    rw [hw, hn, hb, form_cons]
    have hd := cls4 c
    cases f with
    | true =>
      simp only [if_true]
      by_cases hx : dg c = true
      · have e : (clsI c == 4) = true := by rw [beq_iff_eq, hd]; exact hx
        rw [e, hx]; simp
      · have e : (clsI c == 4) = false := by rw [beq_eq_false_iff_ne]; exact fun h => hx (hd.1 h)
        rw [e, eq_false_of_ne_true hx]; simp
    | false =>
      simp only [Bool.false_eq_true, if_false]
      by_cases hx : dg c = true
      · have e : (clsI c == 4) = true := by rw [beq_iff_eq, hd]; exact hx
        have : ¬ c.toNat = 45 := by simp [dg] at hx; omega
        rw [e, decide_eq_false this]; simp
      · have e : (clsI c == 4) = false := by rw [beq_eq_false_iff_ne]; exact fun h => hx (hd.1 h)
        rw [e]
        by_cases h45 : c.toNat = 45
        · rw [decide_eq_true h45, if_neg (by simp), if_pos (by simp), if_pos (by omega)]; simp
        · rw [decide_eq_false h45, if_neg (by simp), if_pos (by simp), if_neg (by omega)]; simp
theorem isDate_eq (s : ByteArray) (hs : s.size < 100000) (k : Nat) (hk : 20 ≤ k) : lexer_isDate.f k s = some (isDate (bs s)) := by
  unfold lexer_isDate.f
  by_cases h : s.size < 10
  · rw [if_pos (by omega)]
    have : isDate (bs s) = false := by
      apply eq_false_of_ne_true
      intro hd; have := isDate_len hd; rw [bs_len] at this; omega
    rw [this]
  · rw [if_neg (by omega)]
    have := isDate_l0 s hs (by omega) 10 0 k (by omega) (by omega)
    exact this
/-- the test behind a token of digits -/
theorem free_code {α : Type} (s : ByteArray) (i : Nat) (k : Nat) (hk : 4 ≤ k) (x y : α) :
    (if (i : Int) < (s.size : Int) then (if 0 ≤ (i : Int) then ((lexer_class.f k (bt s (i : Int))).bind fun t => (if (Go.bits .and .i64 t 15) = 0 then (if (bt s (i : Int)) = 46 then some x else some y) else some x)) else none) else some y) =
      some (if fre ((bs s).drop i) = true then y else x) := by
  by_cases h : i < s.size
  · obtain ⟨c, hc⟩ := drop_cases s i h
    rw [if_pos (by omega), if_pos (by omega), bt_drop s i hc, class_eq k c hk, Option.bind_some, hc, fre_cons]
    by_cases hw : wd c = true
    · rw [if_neg (by rw [mask_wd c, hw]; simp), hw]; simp
    · rw [if_pos ((mask_wd c).2 (eq_false_of_ne_true hw)), eq_false_of_ne_true hw]
      by_cases h46 : c.toNat = 46
      · rw [if_pos (by omega)]; simp [h46]
      · rw [if_neg (by omega)]; simp [h46]
  · rw [if_neg (by omega), List.drop_of_length_le (by rw [bs_len]; omega)]
    simp [fre]
theorem free_code0 {α : Type} (s : ByteArray) (i : Nat) (k : Nat) (hk : 4 ≤ k) (x y : α) :
    (if (i : Int) < (s.size : Int) then ((lexer_class.f k (bt s (i : Int))).bind fun t => (if (Go.bits .and .i64 t 15) = 0 then (if (bt s (i : Int)) = 46 then some x else some y) else some x)) else some y) =
      some (if fre ((bs s).drop i) = true then y else x) := by
  rw [← free_code s i k hk x y, if_pos (by omega : 0 ≤ (i : Int))]
def cast2 (p : Nat × Nat) : Int × Int := ((p.1 : Int), (p.2 : Int))
theorem j1_eq (s : ByteArray) (hs : s.size < 100000) (n : Nat) (hn : n ≤ s.size) (pl : Bool) (k : Nat) (hk : s.size + 10 ≤ k) (b : Bool) (hb : b = true ↔ ∃ c r, (bs s).drop n = c :: r ∧ c.toNat = 46) :
    lexer_numeric.j1 k s 3 (n : Int) (decide (n ≤ 12) && pl) b = some (cast2 (numR pl n ((bs s).drop n))) := by
  obtain ⟨k, rfl⟩ : ∃ q, k = q + 1 := ⟨k - 1, by omega⟩
  simp only [lexer_numeric.j1]
  by_cases hbt : b = true
  · obtain ⟨c, r, hc, h46⟩ := hb.1 hbt
    rw [if_pos hbt, hc]
    have hlt : n < s.size := by
      rcases Nat.lt_or_ge n s.size with h | h
      · exact h
      · rw [List.drop_of_length_le (by rw [bs_len]; omega)] at hc; cases hc
    have hr : (bs s).drop (n + 1) = r := by rw [← List.drop_drop, hc]; rfl
    have e0 : ((wrap64 ((n : Int) + 1)) : Int) = ((n + 1 : Nat) : Int) := by rw [w64 (by omega) (by omega)]; omega
    have e3 : ((wrap64 ((n : Int) + 3)) : Int) = ((n + 3 : Nat) : Int) := by rw [w64 (by omega) (by omega)]; omega
    rw [numR_cons, if_pos h46, e0, e3]
    by_cases hok : (decide (n ≤ 12) && pl) = true
    · rw [if_pos hok]
      obtain ⟨h12, hp⟩ : n ≤ 12 ∧ pl = true := by simpa using hok
      by_cases h10 : n ≤ 10
      · rw [if_pos (by omega), if_pos (by omega), if_pos (by omega), Int.toNat_natCast, span_eq mask_dg _ (by rw [ByteArray.size_extract]; omega) k (by rw [ByteArray.size_extract]; omega), Option.bind_some, bs_tail, hr]
        by_cases h2 : run dg r = 2
        · rw [h2, if_pos (by rfl), free_code s (n + 3) k (by omega)]
          have hd : (bs s).drop (n + 3) = r.drop 2 := by rw [← hr, List.drop_drop]
          rw [hd]
          by_cases hf : fre (r.drop 2) = true
          · rw [if_pos hf, if_pos ⟨h10, hp, rfl, hf⟩]; rfl
          · rw [if_neg hf, if_neg (fun h => hf h.2.2.2)]; rfl
        · rw [if_neg (by omega), if_neg (fun h => h2 h.2.2.1)]; rfl
      · rw [if_neg (by omega), if_neg (fun h => h10 h.1)]; rfl
    · rw [if_neg hok, if_neg]
      · rfl
      · rintro ⟨h10, hp, -⟩; exact hok (by simp [hp]; omega)
  · rw [if_neg hbt]
    have hcase : numR pl n ((bs s).drop n) = if (n ≤ 12 ∧ pl = true) ∧ fre ((bs s).drop n) = true then (3, n) else (0, 0) := by
      cases hc : (bs s).drop n with
      | nil => simp [numR, fre]
      | cons c r =>
        have h46 : ¬ c.toNat = 46 := fun h => hbt (hb.2 ⟨c, r, hc, h⟩)
        rw [numR_cons, if_neg h46]
        simp only [and_assoc]
    rw [hcase]
    by_cases hok : (decide (n ≤ 12) && pl) = true
    · have hok' : n ≤ 12 ∧ pl = true := by simpa using hok
      rw [if_pos hok, free_code s n k (by omega)]
      by_cases hf : fre ((bs s).drop n) = true
      · rw [if_pos hf, if_pos ⟨hok', hf⟩]; rfl
      · rw [if_neg hf, if_neg (fun h => hf h.2)]; rfl
    · rw [if_neg hok, if_neg]
      · rfl
      · rintro ⟨⟨h12, hp⟩, -⟩; exact hok (by simp [hp, h12])
theorem j0_eq (s : ByteArray) (hs : s.size < 100000) (n : Nat) (hn : n = run dg (bs s)) (k : Nat) (hk : s.size + 30 ≤ k) :
    lexer_numeric.j0 k s 3 (n : Int) (decide (n ≤ 12) && plain (bs s)) = some (cast2 (num (bs s))) := by
  obtain ⟨k, rfl⟩ : ∃ q, k = q + 1 := ⟨k - 1, by omega⟩
  have hle := run_le dg (bs s)
  rw [bs_len, ← hn] at hle
  simp only [lexer_numeric.j0]
  unfold num
  rw [isDate_eq s hs k (by omega), Option.bind_some]
  by_cases hd : isDate (bs s) = true
  · rw [if_pos hd, if_pos hd]
    have := free_code0 s 10 k (by omega) ((0 : Int), (0 : Int)) ((5 : Int), (10 : Int))
    refine Eq.trans ?_ (this.trans ?_)
    · rfl
    · by_cases hf : fre ((bs s).drop 10) = true
      · rw [if_pos hf, if_pos hf]; rfl
      · rw [if_neg hf, if_neg hf]; rfl
  · rw [if_neg hd, if_neg hd, ← hn]
    by_cases h : n < s.size
    · obtain ⟨c, hc⟩ := drop_cases s n h
      rw [if_pos (by omega), if_pos (by omega), bt_drop s n hc]
      refine j1_eq s hs n hle _ k (by omega) _ ?_
      rw [beq_iff_eq]
      constructor
      · intro h; exact ⟨c, _, hc, by omega⟩
      · rintro ⟨c', r', hc', h46⟩
        rw [hc] at hc'; cases hc'; omega
    · rw [if_neg (by omega)]
      refine j1_eq s hs n hle _ k (by omega) _ ?_
      constructor
      · intro h; cases h
      · rintro ⟨c', r', hc', h46⟩
        rw [List.drop_of_length_le (by rw [bs_len]; omega)] at hc'; cases hc'
theorem numeric_eq (s : ByteArray) (hs : s.size < 100000) (h0 : 0 < s.size) (k : Nat) (hk : s.size + 30 ≤ k) : lexer_numeric.f k s = some (cast2 (num (bs s))) := by
  unfold lexer_numeric.f
  rw [span_eq mask_dg s hs k (by omega), Option.bind_some]
  obtain ⟨c, hc⟩ := drop_cases s 0 h0
  rw [List.drop_zero] at hc
  have hb : bt s 0 = (c.toNat : Int) := bt_drop s 0 (by rw [List.drop_zero]; exact hc)
  have key := j0_eq s hs (run dg (bs s)) rfl k hk
  generalize hn : run dg (bs s) = n at key
  have hpl : plain (bs s) = (decide (n = 1) || !decide (c.toNat = 48)) := by
    unfold plain; rw [hn]; rw [hc]
  rw [hpl] at key
  by_cases h12 : n ≤ 12
  · rw [if_pos (by omega)]
    by_cases h1 : n = 1
    · rw [if_pos (by omega)]
      rw [decide_eq_true h12, decide_eq_true h1] at key
      exact key
    · rw [if_neg (by omega), if_pos (by omega), hb]
      rw [decide_eq_true h12, decide_eq_false h1] at key
      have e : ((c.toNat : Int) != 48) = !decide (c.toNat = 48) := by
        rw [Bool.eq_iff_iff]; simp; omega
      rw [e]
      exact key
  · rw [if_neg (by omega)]
    rw [decide_eq_false h12] at key
    exact key

theorem sym_eq (s : ByteArray) (ts : List ByteArray) : symAt s ts = cast2 (sym (bs s) (ts.map bs)) := by
  induction ts with
  | nil => rfl
  | cons t ts ih =>
    simp only [symAt, List.map_cons, sym]
    rw [hasPre_eq]
    split
    · simp [cast2, bs_len]
    · exact ih
theorem syms_eq : PAll.syms.map bs = Lx.syms := rfl
theorem clsI_cases (c : UInt8) : (dg c = true → clsI c = 4) ∧ (lo c = true → clsI c = 1) ∧ (up c = true → clsI c = 2) ∧ (dg c = false → lo c = false → up c = false → clsI c ≠ 4 ∧ clsI c ≠ 1 ∧ clsI c ≠ 2) := by
  have d1 : dg c = true → lo c = false ∧ up c = false := by simp [lo, up, dg]; omega
  have d2 : lo c = true → up c = false := by simp [lo, up]; omega
  have d3 : up c = true → lo c = false := by simp [lo, up]; omega
  unfold clsI
  refine ⟨fun h => ?_, fun h => ?_, fun h => ?_, fun h1 h2 h3 => ?_⟩
  · simp [d1 h, h]
  · simp [h]
  · simp [d3 h, h]
  · simp only [h1, h2, h3, Bool.false_eq_true, if_false]
    split
    · decide
    · split <;> decide
theorem first_eq (s : ByteArray) (hs : s.size < 100000) (h0 : 0 < s.size) (k : Nat) (hk : s.size + 30 ≤ k) : lexer_first.f k s = some (cast2 (tok (bs s))) := by
  unfold lexer_first.f
  rw [span_eq mask_wd s hs k (by omega), Option.bind_some, if_pos (by omega)]
  obtain ⟨c, hc⟩ := drop_cases s 0 h0
  rw [List.drop_zero] at hc
  have hb : bt s 0 = (c.toNat : Int) := bt_drop s 0 (by rw [List.drop_zero]; exact hc)
  rw [hb, class_eq k c (by omega), Option.bind_some]
  obtain ⟨k1, k2, k3, k4⟩ := clsI_cases c
  have hnum := numeric_eq s hs h0 k hk
  have h13 := span_eq mask_lnu s hs k (by omega)
  have h2 := span_eq mask_up s hs k (by omega)
  have hsy := sym_eq s PAll.syms
  rw [syms_eq] at hsy
  have ht : tok (bs s) = if dg c then num (bs s)
      else if lo c then (if run wd (bs s) ≤ 16 ∧ run lnu (bs s) = run wd (bs s) then (1, run wd (bs s)) else (0, 0))
      else if up c then (if run wd (bs s) = 3 ∧ run up (bs s) = run wd (bs s) then (2, run wd (bs s)) else (0, 0))
      else sym (bs s) Lx.syms := by rw [hc]; rfl
  rw [ht]
  by_cases hd : dg c = true
  · rw [k1 hd, if_pos rfl, if_pos hd, hnum]
  have hd' := eq_false_of_ne_true hd
  rw [if_neg hd]
  by_cases hl : lo c = true
  · rw [k2 hl, if_neg (by decide), if_pos rfl, if_pos hl]
    by_cases h16 : run wd (bs s) ≤ 16
    · rw [if_pos (by omega), h13, Option.bind_some]
      by_cases he : run lnu (bs s) = run wd (bs s)
      · rw [if_pos (by omega), if_pos ⟨h16, he⟩]; rfl
      · rw [if_neg (by omega), if_neg (fun h => he h.2)]; rfl
    · rw [if_neg (by omega), if_neg (fun h => h16 h.1)]; rfl
  have hl' := eq_false_of_ne_true hl
  rw [if_neg hl]
  by_cases hu : up c = true
  · rw [k3 hu, if_neg (by decide), if_neg (by decide), if_pos rfl, if_pos hu]
    by_cases h16 : run wd (bs s) = 3
    · rw [if_pos (by omega), h2, Option.bind_some]
      by_cases he : run up (bs s) = run wd (bs s)
      · rw [if_pos (by omega), if_pos ⟨h16, he⟩]; rfl
      · rw [if_neg (by omega), if_neg (fun h => he h.2)]; rfl
    · rw [if_neg (by omega), if_neg (fun h => h16 h.1)]; rfl
  have hu' := eq_false_of_ne_true hu
  obtain ⟨n4, n1, n2⟩ := k4 hd' hl' hu'
  rw [if_neg n4, if_neg n1, if_neg n2, if_neg hu, hsy]
end Go.Proofs.YticmjkjojhcdpaaDoor.PAll

/- The functions that the program's Lex comes to, as functions on lists of bytes: they are the plain lexer's. -/
import Derived.Test.YticmjkjojhcdpaaDoorLex
import Derived.Test.YticmjkjojhcdpaaDoorLx
set_option linter.unusedVariables false
set_option linter.unusedSimpArgs false
namespace Go.Proofs.YticmjkjojhcdpaaDoor.PAll
open Go Go.RowKit Go.Proofs.YticmjkjojhcdpaaDoor.Lx Go.Proofs.YticmjkjojhcdpaaDoorW.PrintWords

abbrev bs (s : ByteArray) : List UInt8 := s.data.toList
theorem bs_len (s : ByteArray) : (bs s).length = s.size := data_length s
theorem bs_ext (s : ByteArray) (i j : Nat) : bs (s.extract i j) = ((bs s).drop i).take (j - i) := by
  show ((s.extract i j).data).toList = _
  rw [ByteArray.data_extract, Array.toList_extract, List.extract_eq_take_drop]
theorem bs_tail (s : ByteArray) (i : Nat) : bs (s.extract i s.size) = (bs s).drop i := by
  rw [bs_ext, List.take_of_length_le]; rw [List.length_drop, bs_len]; omega
theorem ba_ext {s t : ByteArray} (h : bs s = bs t) : s = t := by
  obtain ⟨⟨a⟩⟩ := s; obtain ⟨⟨b⟩⟩ := t; cases h; rfl
theorem ba_mk (l : List UInt8) : bs ⟨l.toArray⟩ = l := rfl
theorem bt_get (s : ByteArray) (i : Nat) {c : UInt8} (h : (bs s)[i]? = some c) : bt s (i : Int) = (c.toNat : Int) := by
  obtain ⟨hi, e⟩ := List.getElem?_eq_some_iff.1 h
  have hi' : i < s.size := by rw [← bs_len]; exact hi
  unfold bt
  rw [Int.toNat_natCast, dif_pos hi']
  rw [← e]; rfl
theorem bt_drop (s : ByteArray) (i : Nat) {c : UInt8} {r : List UInt8} (h : (bs s).drop i = c :: r) : bt s (i : Int) = (c.toNat : Int) :=
  bt_get s i (by rw [← List.head?_drop, h]; rfl)
theorem w64 {x : Int} (h0 : 0 ≤ x) (h1 : x < 2 ^ 62) : wrap64 x = x := by unfold wrap64; omega

/-! #### classes -/
def clsI (c : UInt8) : Int := if lo c then 1 else if up c then 2 else if dg c then 4 else if un c then 8 else if wh c then 16 else 0
theorem ixw (c : UInt8) : decide (Go.Lib.indexByte [32, 9, 10, 13] c ≥ 0) = wh c := by
  have e : ∀ n : UInt8, (n == c) = decide (c.toNat = n.toNat) := by
    intro n; rw [Bool.eq_iff_iff, beq_iff_eq, decide_eq_true_iff, ← UInt8.toNat_inj]; exact eq_comm
  simp only [Go.Lib.indexByte, e, wh]
  by_cases h1 : c.toNat = 32
  · simp [h1]
  by_cases h2 : c.toNat = 9
  · simp [h2]
  by_cases h3 : c.toNat = 10
  · simp [h3]
  by_cases h4 : c.toNat = 13
  · simp [h4]
  simp [h1, h2, h3, h4]
theorem class_eq (k : Nat) (c : UInt8) (hk : 4 ≤ k) : lexer_class.f k (c.toNat : Int) = some (clsI c) := by
  obtain ⟨k, rfl⟩ : ∃ q, k = q + 3 := ⟨k - 3, by omega⟩
  have hlt := c.toNat_lt
  unfold lexer_class.f clsI
  by_cases h1 : lo c = true
  · have : 97 ≤ c.toNat ∧ c.toNat ≤ 122 := by simpa [lo] using h1
    rw [if_pos (by omega), decide_eq_true (by omega), if_pos h1]
    simp [lexer_class.j0]
  have n1 : ¬ (97 ≤ c.toNat ∧ c.toNat ≤ 122) := by simpa [lo] using h1
  rw [if_neg h1]
  have e1 : (if (c.toNat : Int) ≥ 97 then (lexer_class.j0 (k + 3) (c.toNat : Int) (decide ((c.toNat : Int) ≤ 122))) else (lexer_class.j0 (k + 3) (c.toNat : Int) false)) = lexer_class.j0 (k + 3) (c.toNat : Int) false := by
    split
    · rw [decide_eq_false (by omega)]
    · rfl
  rw [e1]; clear e1
  by_cases h2 : up c = true
  · have : 65 ≤ c.toNat ∧ c.toNat ≤ 90 := by simpa [up] using h2
    simp only [lexer_class.j0]
    rw [if_neg (by simp), if_pos (by omega), decide_eq_true (by omega), if_pos h2]
    simp [lexer_class.j1]
  have n2 : ¬ (65 ≤ c.toNat ∧ c.toNat ≤ 90) := by simpa [up] using h2
  rw [if_neg h2]
  have e1 : lexer_class.j0 (k + 3) (c.toNat : Int) false = lexer_class.j1 (k + 2) (c.toNat : Int) false := by
    simp only [lexer_class.j0]
    rw [if_neg (by simp)]
    split
    · rw [decide_eq_false (by omega)]
    · rfl
  rw [e1]; clear e1
  by_cases h3 : dg c = true
  · have : 48 ≤ c.toNat ∧ c.toNat ≤ 57 := by simpa [dg] using h3
    simp only [lexer_class.j1]
    rw [if_neg (by simp), if_pos (by omega), decide_eq_true (by omega), if_pos h3]
    simp [lexer_class.j2]
  have n3 : ¬ (48 ≤ c.toNat ∧ c.toNat ≤ 57) := by simpa [dg] using h3
  rw [if_neg h3]
  have e1 : lexer_class.j1 (k + 2) (c.toNat : Int) false = lexer_class.j2 (k + 1) (c.toNat : Int) false := by
    simp only [lexer_class.j1]
    rw [if_neg (by simp)]
    split
    · rw [decide_eq_false (by omega)]
    · rfl
  rw [e1]; clear e1
  simp only [lexer_class.j2]
  rw [if_neg (by simp)]
  by_cases h4 : un c = true
  · have : c.toNat = 95 := by simpa [un] using h4
    rw [if_pos (by omega), if_pos h4]
  have n4 : ¬ c.toNat = 95 := by simpa [un] using h4
  rw [if_neg (by omega), if_neg h4]
  have e2 : strings_IndexByte.f (⟨#[32, 9, 10, 13]⟩ : ByteArray) (c.toNat : Int) = some (Go.Lib.indexByte [32, 9, 10, 13] c) := by
    unfold strings_IndexByte.f stringslite_IndexByte.f
    simp
  rw [e2]
  simp only [Option.bind_some]
  have := ixw c
  by_cases h5 : wh c = true
  · rw [h5] at this; rw [if_pos (of_decide_eq_true this), if_pos h5]
  · rw [eq_false_of_ne_true h5] at this; rw [if_neg (of_decide_eq_false this), if_neg h5]

/-- a mask of classes, as a test of bytes -/
def Mask (m : Int) (p : UInt8 → Bool) : Prop := ∀ c, (Go.bits .and .i64 (clsI c) m = 0) ↔ p c = false
theorem mask_of {m : Int} {p : UInt8 → Bool} (b1 b2 b4 b8 b16 : Bool)
    (h1 : (Go.bits .and .i64 1 m = 0) ↔ b1 = false) (h2 : (Go.bits .and .i64 2 m = 0) ↔ b2 = false) (h4 : (Go.bits .and .i64 4 m = 0) ↔ b4 = false) (h8 : (Go.bits .and .i64 8 m = 0) ↔ b8 = false) (h16 : (Go.bits .and .i64 16 m = 0) ↔ b16 = false) (h0 : Go.bits .and .i64 0 m = 0)
    (hp : ∀ c, p c = ((b1 && lo c) || (b2 && up c) || (b4 && dg c) || (b8 && un c) || (b16 && wh c))) : Mask m p := by
  intro c
  rw [hp]
  have d1 : lo c = true → up c = false ∧ dg c = false ∧ un c = false ∧ wh c = false := by simp [lo, up, dg, un, wh]; omega
  have d2 : up c = true → dg c = false ∧ un c = false ∧ wh c = false := by simp [lo, up, dg, un, wh]; omega
  have d3 : dg c = true → un c = false ∧ wh c = false := by simp [lo, up, dg, un, wh]; omega
  have d4 : un c = true → wh c = false := by simp [lo, up, dg, un, wh]; omega
  unfold clsI
  by_cases x1 : lo c = true
  · obtain ⟨e1, e2, e3, e4⟩ := d1 x1
    rw [if_pos x1, x1, e1, e2, e3, e4, h1]; cases b1 <;> simp
  rw [if_neg x1, eq_false_of_ne_true x1]
  by_cases x2 : up c = true
  · obtain ⟨e2, e3, e4⟩ := d2 x2
    rw [if_pos x2, x2, e2, e3, e4, h2]; cases b2 <;> simp
  rw [if_neg x2, eq_false_of_ne_true x2]
  by_cases x3 : dg c = true
  · obtain ⟨e3, e4⟩ := d3 x3
    rw [if_pos x3, x3, e3, e4, h4]; cases b4 <;> simp
  rw [if_neg x3, eq_false_of_ne_true x3]
  by_cases x4 : un c = true
  · have e4 := d4 x4
    rw [if_pos x4, x4, e4, h8]; cases b8 <;> simp
  rw [if_neg x4, eq_false_of_ne_true x4]
  by_cases x5 : wh c = true
  · rw [if_pos x5, x5, h16]; cases b16 <;> simp
  rw [if_neg x5, eq_false_of_ne_true x5, h0]; simp
theorem mask_wd : Mask 15 wd := mask_of true true true true false (by decide) (by decide) (by decide) (by decide) (by decide) (by decide) (fun c => by simp [wd])
theorem mask_lnu : Mask 13 lnu := mask_of true false true true false (by decide) (by decide) (by decide) (by decide) (by decide) (by decide) (fun c => by simp [lnu])
theorem mask_up : Mask 2 up := mask_of false true false false false (by decide) (by decide) (by decide) (by decide) (by decide) (by decide) (fun c => by simp)
theorem mask_dg : Mask 4 dg := mask_of false false true false false (by decide) (by decide) (by decide) (by decide) (by decide) (by decide) (fun c => by simp)
theorem mask_wh : Mask 16 wh := mask_of false false false false true (by decide) (by decide) (by decide) (by decide) (by decide) (by decide) (fun c => by simp)

theorem drop_cases (s : ByteArray) (i : Nat) (h : i < s.size) : ∃ c, (bs s).drop i = c :: (bs s).drop (i + 1) := by
  have hi : i < (bs s).length := by rw [bs_len]; exact h
  exact ⟨_, List.drop_eq_getElem_cons hi⟩

theorem span_l0 {m : Int} {p : UInt8 → Bool} (hm : Mask m p) (s : ByteArray) (hs : s.size < 100000) : ∀ (d i k : Nat), s.size = i + d → d + 5 ≤ k → lexer_span.l0 k s m (i : Int) = some ((i + run p ((bs s).drop i) : Nat) : Int) := by
  intro d
  induction d with
  | zero =>
    intro i k hi hk
    obtain ⟨k, rfl⟩ : ∃ q, k = q + 1 := ⟨k - 1, by omega⟩
    simp only [lexer_span.l0]
    rw [if_neg (by omega), List.drop_of_length_le (by rw [bs_len]; omega)]
    simp [run]
  | succ d ih =>
    intro i k hi hk
    obtain ⟨k, rfl⟩ : ∃ q, k = q + 1 := ⟨k - 1, by omega⟩
    obtain ⟨c, hc⟩ := drop_cases s i (by omega)
    simp only [lexer_span.l0]
    rw [if_pos (by omega), if_pos (by omega), bt_drop s i hc, class_eq k c (by omega), hc]
    simp only [Option.bind_some, run]
    by_cases hp : p c = true
    · rw [if_neg (by rw [hm c, hp]; simp), if_pos hp, w64 (by omega) (by omega), show (i : Int) + 1 = ((i + 1 : Nat) : Int) by omega, ih (i + 1) k (by omega) (by omega)]
      exact congrArg (fun z : Nat => some (z : Int)) (by omega)
    · rw [if_pos ((hm c).2 (eq_false_of_ne_true hp)), if_neg hp]; rfl
theorem span_eq {m : Int} {p : UInt8 → Bool} (hm : Mask m p) (s : ByteArray) (hs : s.size < 100000) (k : Nat) (hk : s.size + 5 ≤ k) : lexer_span.f k s m = some ((run p (bs s) : Nat) : Int) := by
  have := span_l0 hm s hs s.size 0 k (by omega) hk
  rw [Nat.zero_add, List.drop_zero] at this
  exact this

/-! #### gaps -/
theorem hasPre_eq (s t : ByteArray) : hasPre s t = (bs t).isPrefixOf (bs s) := by
  unfold hasPre
  rw [Bool.eq_iff_iff, List.isPrefixOf_iff_prefix]
  by_cases h : s.size ≥ t.size
  · rw [if_pos h, beq_iff_eq, ByteArray.toList_eq, ByteArray.toList_eq]
    show bs (s.extract 0 t.size) = bs t ↔ _
    rw [bs_ext, List.drop_zero, Nat.sub_zero, List.prefix_iff_eq_take, bs_len]
    exact eq_comm
  · rw [if_neg h]
    constructor
    · simp
    · intro hp; have := hp.length_le; rw [bs_len, bs_len] at this; omega
theorem gapW_run (l : List UInt8) : gapW l = run wh l + gapW (l.drop (run wh l)) := by
  induction l with
  | nil => simp [run]
  | cons c r ih =>
    by_cases hw : wh c = true
    · have e1 : run wh (c :: r) = run wh r + 1 := by simp [run, hw]
      have e2 : gapW (c :: r) = gapW r + 1 := by simp [gapW, hw]
      rw [e1, e2, List.drop_succ_cons, ih]; omega
    · have e1 : run wh (c :: r) = 0 := by simp [run, hw]
      rw [e1]; simp
theorem run_drop (p : UInt8 → Bool) (l : List UInt8) : ∀ c r, l.drop (run p l) = c :: r → p c = false := by
  induction l with
  | nil => simp [run]
  | cons d l ih =>
    intro c r h
    by_cases hp : p d = true
    · rw [show run p (d :: l) = run p l + 1 by simp [run, hp], List.drop_succ_cons] at h; exact ih c r h
    · rw [show run p (d :: l) = 0 by simp [run, hp], List.drop_zero] at h; cases h; exact eq_false_of_ne_true hp
theorem gapC_ix (l : List UInt8) : (Go.Lib.indexByte l 10 < 0 → gapC l = l.length) ∧ (0 ≤ Go.Lib.indexByte l 10 → ∃ j : Nat, Go.Lib.indexByte l 10 = j ∧ j < l.length ∧ gapC l = j + gapW (l.drop j)) := by
  induction l with
  | nil => simp [Go.Lib.indexByte, gapC]
  | cons c r ih =>
    have hge := Go.Lib.indexByte_ge r 10
    simp only [Go.Lib.indexByte, gapC]
    by_cases h10 : c.toNat = 10
    · have e : (c == 10) = true := by rw [beq_iff_eq, ← UInt8.toNat_inj]; exact h10
      have hw : wh c = true := by simp [wh, h10]
      rw [if_pos e, if_pos h10]
      refine ⟨fun h => by omega, fun _ => ⟨0, rfl, by simp, ?_⟩⟩
      simp [gapW, hw]
    · have e : ¬ (c == 10) = true := by rw [beq_iff_eq, ← UInt8.toNat_inj]; exact h10
      rw [if_neg e, if_neg h10]
      by_cases hm : (Go.Lib.indexByte r 10 == -1) = true
      · have hm' : Go.Lib.indexByte r 10 = -1 := by simpa using hm
        rw [if_pos hm]
        exact ⟨fun _ => by rw [ih.1 (by omega)]; simp, fun h => by omega⟩
      · have hm' : ¬ Go.Lib.indexByte r 10 = -1 := by simpa using hm
        rw [if_neg hm]
        refine ⟨fun h => by omega, fun _ => ?_⟩
        obtain ⟨j, e1, e2, e3⟩ := ih.2 (by omega)
        exact ⟨j + 1, by omega, by simp; omega, by rw [e3, List.drop_succ_cons]; omega⟩
theorem gap_slash (r : List UInt8) : gapW (47 :: 47 :: r) = gapC (47 :: 47 :: r) := by
  have h : wh 47 = false := by decide
  simp [gapW, gapC, h]
theorem ix_slash (r : List UInt8) : 0 < Go.Lib.indexByte (47 :: r) 10 ∨ Go.Lib.indexByte (47 :: r) 10 < 0 := by
  have hge := Go.Lib.indexByte_ge r 10
  have e : ¬ (((47 : UInt8) == 10) = true) := by decide
  unfold Go.Lib.indexByte
  rw [if_neg e]
  by_cases hm : (Go.Lib.indexByte r 10 == -1) = true
  · rw [if_pos hm]; omega
  · rw [if_neg hm]
    have hm' : ¬ Go.Lib.indexByte r 10 = -1 := by simpa using hm
    omega
theorem gap_noslash (l : List UInt8) (h : ([47, 47] : List UInt8).isPrefixOf l = false) (hw : ∀ c r, l = c :: r → wh c = false) : gapW l = 0 := by
  cases l with
  | nil => rfl
  | cons c r =>
    simp only [gapW]
    rw [if_neg (by rw [hw c r rfl]; simp), if_neg]
    rintro ⟨h1, h2⟩
    cases r with
    | nil => simp at h2
    | cons d r =>
      simp at h2
      have e1 : c = 47 := by rw [← UInt8.toNat_inj]; exact h1
      have e2 : d = 47 := by rw [← UInt8.toNat_inj]; exact h2
      subst e1; subst e2
      simp [List.isPrefixOf] at h
theorem gap_l0 (s : ByteArray) (hs : s.size < 100000) : ∀ (d i k : Nat), s.size = i + d → d + 10 ≤ k → lexer_gap.l0 k s (i : Int) = some ((i + gapW ((bs s).drop i) : Nat) : Int) := by
  intro d
  induction d using Nat.strongRecOn with
  | ind d ih =>
    intro i k hi hk
    obtain ⟨k, rfl⟩ : ∃ q, k = q + 1 := ⟨k - 1, by omega⟩
    have hsz : (s.extract i s.size).size = s.size - i := by rw [ByteArray.size_extract]; omega
    have hr := run_le wh ((bs s).drop i)
    rw [List.length_drop, bs_len] at hr
    simp only [lexer_gap.l0]
    rw [if_pos (by omega), if_pos (by omega), Int.toNat_natCast, span_eq mask_wh (s.extract i s.size) (by omega) k (by omega), bs_tail, Option.bind_some]
    have hg := gapW_run ((bs s).drop i)
    have hrd := run_drop wh ((bs s).drop i)
    generalize run wh ((bs s).drop i) = n at *
    rw [List.drop_drop] at hg hrd
    rw [w64 (by omega) (by omega), show (i : Int) + (n : Int) = ((i + n : Nat) : Int) by omega, if_pos (by omega), if_pos (by omega), Int.toNat_natCast, hp_f, Option.bind_some]
    rw [hasPre_eq, bs_tail]
    by_cases hp : ([47, 47] : List UInt8).isPrefixOf ((bs s).drop (i + n)) = true
    · rw [show bs (⟨#[47, 47]⟩ : ByteArray) = [47, 47] from rfl, if_pos hp]
      obtain ⟨r, hr'⟩ := List.isPrefixOf_iff_prefix.1 hp
      have hgc : gapW ((bs s).drop (i + n)) = gapC ((bs s).drop (i + n)) := by rw [← hr']; exact gap_slash r
      have e2 : strings_IndexByte.f (s.extract (i + n) s.size) 10 = some (Go.Lib.indexByte ((bs s).drop (i + n)) 10) := by
        unfold strings_IndexByte.f stringslite_IndexByte.f
        rw [Option.bind_some, ← bs_tail]; rfl
      rw [e2, Option.bind_some]
      have hix := gapC_ix ((bs s).drop (i + n))
      have hpos : 0 < Go.Lib.indexByte ((bs s).drop (i + n)) 10 ∨ Go.Lib.indexByte ((bs s).drop (i + n)) 10 < 0 := by
        rw [← hr']; exact ix_slash _
      by_cases hneg : Go.Lib.indexByte ((bs s).drop (i + n)) 10 < 0
      · rw [if_pos hneg, hg, hgc, hix.1 hneg, List.length_drop, bs_len]
        exact congrArg (fun z : Nat => some (z : Int)) (by omega)
      · obtain ⟨j, e1, e3, e4⟩ := hix.2 (by omega)
        rw [List.length_drop, bs_len] at e3
        rw [if_neg hneg, e1, w64 (by omega) (by omega), show ((i + n : Nat) : Int) + (j : Int) = ((i + n + j : Nat) : Int) by omega]
        rw [ih (s.size - (i + n + j)) (by omega) (i + n + j) k (by omega) (by omega)]
        rw [hg, hgc, e4, List.drop_drop]
        exact congrArg (fun z : Nat => some (z : Int)) (by omega)
    · rw [show bs (⟨#[47, 47]⟩ : ByteArray) = [47, 47] from rfl, if_neg hp]
      rw [hg, gap_noslash _ (eq_false_of_ne_true hp) hrd]; rfl
theorem gap_eq (s : ByteArray) (hs : s.size < 100000) (k : Nat) (hk : s.size + 10 ≤ k) : lexer_gap.f k s = some ((gapW (bs s) : Nat) : Int) := by
  have := gap_l0 s hs s.size 0 k (by omega) hk
  rw [Nat.zero_add, List.drop_zero] at this
  exact this
end Go.Proofs.YticmjkjojhcdpaaDoor.PAll

/- A plain lexer over lists of bytes, and what is known of it: how a token and a gap stand to what follows and to what is cut off. -/
set_option linter.unusedVariables false
set_option linter.unusedSimpArgs false
namespace Go.Proofs.YticmjkjojhcdpaaDoor.Lx

abbrev Bytes := List UInt8
def lo (c : UInt8) : Bool := decide (97 ≤ c.toNat) && decide (c.toNat ≤ 122)
def up (c : UInt8) : Bool := decide (65 ≤ c.toNat) && decide (c.toNat ≤ 90)
def dg (c : UInt8) : Bool := decide (48 ≤ c.toNat) && decide (c.toNat ≤ 57)
def un (c : UInt8) : Bool := decide (c.toNat = 95)
def wh (c : UInt8) : Bool := decide (c.toNat = 32) || decide (c.toNat = 9) || decide (c.toNat = 10) || decide (c.toNat = 13)
def wd (c : UInt8) : Bool := lo c || up c || dg c || un c
def lnu (c : UInt8) : Bool := lo c || dg c || un c

/-- the length of the longest beginning whose bytes are all p -/
def run (p : UInt8 → Bool) : Bytes → Nat
  | [] => 0
  | c :: r => if p c then run p r + 1 else 0
mutual
/-- the length of the gap at the beginning -/
def gapW : Bytes → Nat
  | [] => 0
  | c :: r => if wh c then gapW r + 1 else if c.toNat = 47 ∧ (r.head?.map (·.toNat)) = some 47 then gapC r + 1 else 0
/-- the same within a comment -/
def gapC : Bytes → Nat
  | [] => 0
  | c :: r => if c.toNat = 10 then gapW r + 1 else gapC r + 1
end
/-- does a text begin with this form (true: a digit; false: a hyphen)? -/
def form : List Bool → Bytes → Bool
  | [], _ => true
  | _ :: _, [] => false
  | f :: fs, c :: r => (if f then dg c else decide (c.toNat = 45)) && form fs r
def isDate (l : Bytes) : Bool := form [true, true, true, true, false, true, true, false, true, true] l
/-- can a token of digits end here? -/
def fre : Bytes → Bool
  | [] => true
  | c :: _ => !(wd c || decide (c.toNat = 46))
/-- what stands behind n digits -/
def numR (pl : Bool) (n : Nat) : Bytes → Nat × Nat
  | [] => if n ≤ 12 ∧ pl = true then (3, n) else (0, 0)
  | c :: r => if c.toNat = 46 then (if n ≤ 10 ∧ pl = true ∧ run dg r = 2 ∧ fre (r.drop 2) = true then (4, n + 3) else (0, 0))
      else if n ≤ 12 ∧ pl = true ∧ fre (c :: r) = true then (3, n) else (0, 0)
/-- the first digit is not 0 unless it is the only one -/
def plain (l : Bytes) : Bool := decide (run dg l = 1) || (match l with | [] => true | c :: _ => !decide (c.toNat = 48))
def num (l : Bytes) : Nat × Nat :=
  if isDate l then (if fre (l.drop 10) then (5, 10) else (0, 0)) else numR (plain l) (run dg l) (l.drop (run dg l))
def sym (l : Bytes) : List Bytes → Nat × Nat
  | [] => (0, 0)
  | t :: r => if t.isPrefixOf l then (6, t.length) else sym l r
def syms : List Bytes := [[61, 61], [33, 61], [60, 61], [62, 61], [60], [62], [43], [45], [42], [47], [40], [41], [123], [125], [58], [59], [44]]
/-- the kind and the length of the token at the beginning; (0, 0) if there is none -/
def tok : Bytes → Nat × Nat
  | [] => (0, 0)
  | c :: r => if dg c then num (c :: r)
      else if lo c then (if run wd (c :: r) ≤ 16 ∧ run lnu (c :: r) = run wd (c :: r) then (1, run wd (c :: r)) else (0, 0))
      else if up c then (if run wd (c :: r) = 3 ∧ run up (c :: r) = run wd (c :: r) then (2, run wd (c :: r)) else (0, 0))
      else sym (c :: r) syms

/-! #### runs -/
theorem run_le (p : UInt8 → Bool) (l : Bytes) : run p l ≤ l.length := by
  induction l with
  | nil => simp [run]
  | cons c r ih => unfold run; split <;> simp <;> omega
theorem run_app (p : UInt8 → Bool) (l : Bytes) {c : UInt8} (r : Bytes) (hc : p c = false) : run p (l ++ c :: r) = run p l := by
  induction l with
  | nil => simp [run, hc]
  | cons d l ih => simp only [List.cons_append, run, ih]
theorem run_take (p : UInt8 → Bool) (l : Bytes) (m : Nat) : run p (l.take m) = min (run p l) m := by
  induction l generalizing m with
  | nil => simp [run]
  | cons c r ih =>
    cases m with
    | zero => simp [run]
    | succ m =>
      rw [List.take_succ_cons]; unfold run
      split
      · rw [ih]; omega
      · omega
theorem run_mono {p q : UInt8 → Bool} (h : ∀ c, p c = true → q c = true) (l : Bytes) : run p l ≤ run q l := by
  induction l with
  | nil => simp [run]
  | cons c r ih =>
    unfold run
    by_cases hp : p c = true
    · rw [if_pos hp, if_pos (h c hp)]; omega
    · rw [if_neg hp]; omega

/-! #### classes -/
theorem wh_wd {c : UInt8} (h : wh c = true) : wd c = false := by
  simp [wh, wd, lo, up, dg, un] at *; omega
theorem wh_dg {c : UInt8} (h : wh c = true) : dg c = false := by
  simp [wh, dg] at *; omega
theorem wh_lnu {c : UInt8} (h : wh c = true) : lnu c = false := by
  simp [wh, lnu, lo, dg, un] at *; omega
theorem wh_up {c : UInt8} (h : wh c = true) : up c = false := by
  simp [wh, up] at *; omega
theorem wh_lo {c : UInt8} (h : wh c = true) : lo c = false := by
  simp [wh, lo] at *; omega
theorem wh_46 {c : UInt8} (h : wh c = true) : ¬ c.toNat = 46 := by
  simp [wh] at *; omega
theorem wh_45 {c : UInt8} (h : wh c = true) : ¬ c.toNat = 45 := by
  simp [wh] at *; omega
theorem wh_47 {c : UInt8} (h : wh c = true) : ¬ c.toNat = 47 := by
  simp [wh] at *; omega
theorem dg_wd {c : UInt8} (h : dg c = true) : wd c = true := by simp [wd, h]
theorem dg_46 {c : UInt8} (h : dg c = true) : ¬ c.toNat = 46 := by simp [dg] at *; omega
theorem up_wd {c : UInt8} (h : up c = true) : wd c = true := by simp [wd, h]
theorem lo_wd {c : UInt8} (h : lo c = true) : wd c = true := by simp [wd, h]

/-! #### a token and what follows it -/
theorem form_app (fs : List Bool) (l : Bytes) {c : UInt8} (r : Bytes) (hc : wh c = true) : form fs (l ++ c :: r) = form fs l := by
  induction fs generalizing l with
  | nil => simp [form]
  | cons f fs ih =>
    cases l with
    | nil =>
      simp only [List.nil_append, form]
      cases f <;> simp [wh_dg hc, wh_45 hc]
    | cons d l => simp only [List.cons_append, form, ih]
theorem form_len {fs : List Bool} {l : Bytes} (h : form fs l = true) : fs.length ≤ l.length := by
  induction fs generalizing l with
  | nil => simp
  | cons f fs ih =>
    cases l with
    | nil => simp [form] at h
    | cons d l => simp [form] at h; simp; exact ih h.2
theorem isDate_len {l : Bytes} (h : isDate l = true) : 10 ≤ l.length := form_len h
theorem fre_app (l : Bytes) {c : UInt8} (r : Bytes) (hc : wh c = true) : fre (l ++ c :: r) = fre l := by
  cases l with
  | nil => simp [fre, wh_wd hc, wh_46 hc]
  | cons d l => rfl
theorem numR_app (pl : Bool) (n : Nat) (l : Bytes) {c : UInt8} (r : Bytes) (hc : wh c = true) : numR pl n (l ++ c :: r) = numR pl n l := by
  cases l with
  | nil => simp [numR, wh_46 hc, fre, wh_wd hc]
  | cons d l =>
    simp only [List.cons_append, numR, run_app dg l r (wh_dg hc)]
    have e : fre (d :: (l ++ c :: r)) = fre (d :: l) := rfl
    rw [e]
    by_cases h2 : run dg l = 2
    · have := run_le dg l
      rw [List.drop_append_of_le_length (by omega), fre_app _ _ hc]
    · simp [h2]
theorem plain_app (l : Bytes) {c : UInt8} (r : Bytes) (hc : wh c = true) : plain (l ++ c :: r) = plain l := by
  unfold plain
  rw [run_app dg l r (wh_dg hc)]
  cases l with
  | nil => simp [wh] at *; omega
  | cons d l => rfl
theorem num_app (l : Bytes) {c : UInt8} (r : Bytes) (hc : wh c = true) : num (l ++ c :: r) = num l := by
  unfold num
  have e : isDate (l ++ c :: r) = isDate l := form_app _ _ _ hc
  rw [e, run_app dg l r (wh_dg hc), plain_app l r hc, List.drop_append_of_le_length (run_le dg l), numR_app _ _ _ _ hc]
  by_cases h : isDate l = true
  · rw [if_pos h, if_pos h, List.drop_append_of_le_length (isDate_len h), fre_app _ _ hc]
  · rw [if_neg h, if_neg h]
theorem pre_app {t l : Bytes} {c : UInt8} (r : Bytes) (hc : ∀ x ∈ t, x ≠ c) : t.isPrefixOf (l ++ c :: r) = t.isPrefixOf l := by
  induction t generalizing l with
  | nil => simp
  | cons a t ih =>
    cases l with
    | nil =>
      have := hc a (by simp)
      simp [List.isPrefixOf, this]
    | cons d l =>
      simp only [List.cons_append, List.isPrefixOf]
      rw [ih (fun x hx => hc x (by simp [hx]))]
theorem sym_app (ts : List Bytes) (l : Bytes) {c : UInt8} (r : Bytes) (hc : ∀ t ∈ ts, ∀ x ∈ t, x ≠ c) : sym (l ++ c :: r) ts = sym l ts := by
  induction ts with
  | nil => rfl
  | cons t ts ih =>
    simp only [sym]
    rw [pre_app r (hc t (by simp)), ih (fun t' h => hc t' (by simp [h]))]
theorem syms_wh {c : UInt8} (hc : wh c = true) : ∀ t ∈ syms, ∀ x ∈ t, x ≠ c := by
  intro t ht x hx e
  subst e
  have : ∀ t ∈ syms, ∀ x ∈ t, wh x = false := by decide
  rw [this t ht x hx] at hc; cases hc
/-- a white byte behind a text changes nothing of its first token -/
theorem tok_app {l : Bytes} (hl : l ≠ []) {c : UInt8} (r : Bytes) (hc : wh c = true) : tok (l ++ c :: r) = tok l := by
  cases l with
  | nil => exact absurd rfl hl
  | cons d l =>
    have e1 := run_app wd (d :: l) r (wh_wd hc)
    have e2 := run_app lnu (d :: l) r (wh_lnu hc)
    have e3 := run_app up (d :: l) r (wh_up hc)
    have e4 := num_app (d :: l) r hc
    have e5 := sym_app syms (d :: l) r (syms_wh hc)
    simp only [List.cons_append] at *
    simp only [tok, e1, e2, e3, e4, e5]

/-! #### a text that is cut behind its first token -/
theorem form_take (fs : List Bool) (l : Bytes) (m : Nat) (h : fs.length ≤ m) : form fs (l.take m) = form fs l := by
  induction fs generalizing l m with
  | nil => simp [form]
  | cons f fs ih =>
    cases l with
    | nil => simp [form]
    | cons d l =>
      cases m with
      | zero => simp at h
      | succ m => simp only [List.take_succ_cons, form]; rw [ih _ _ (by simpa using h)]
theorem form_take_le (fs : List Bool) (l : Bytes) (m : Nat) (h : form fs l = false) : form fs (l.take m) = false := by
  induction fs generalizing l m with
  | nil => simp [form] at h
  | cons f fs ih =>
    cases l with
    | nil => simp [form]
    | cons d l =>
      cases m with
      | zero => simp [form]
      | succ m =>
        simp only [List.take_succ_cons, form, Bool.and_eq_false_iff] at h ⊢
        exact h.imp id (fun h => ih _ _ h)
theorem fre_take (l : Bytes) (m : Nat) (h : fre l = true) : fre (l.take m) = true := by
  cases l with
  | nil => simp [fre]
  | cons d l =>
    cases m with
    | zero => simp [fre]
    | succ m => rw [List.take_succ_cons]; exact h
theorem numR_take {pl : Bool} {n : Nat} {l : Bytes} {k n' : Nat} (h : numR pl n l = (k, n')) (hk : k ≠ 0) (m : Nat) (hm : n' ≤ n + m) : numR pl n (l.take m) = (k, n') := by
  cases l with
  | nil => simpa using h
  | cons c r =>
    simp only [numR] at h
    by_cases h46 : c.toNat = 46
    · rw [if_pos h46] at h
      split at h
      · rename_i hx
        obtain ⟨h10, hp, h2, hf⟩ := hx
        cases h
        obtain ⟨m, rfl⟩ : ∃ q, m = q + 3 := ⟨m - 3, by omega⟩
        have e1 : run dg (r.take (m + 2)) = 2 := by rw [run_take]; omega
        have e2 : fre ((r.take (m + 2)).drop 2) = true := by rw [List.drop_take]; exact fre_take _ _ hf
        rw [show m + 3 = (m + 2) + 1 from rfl, List.take_succ_cons]
        simp only [numR]
        rw [if_pos h46, if_pos ⟨h10, hp, e1, e2⟩]
      · cases h; exact absurd rfl hk
    · rw [if_neg h46] at h
      split at h
      · rename_i hx
        obtain ⟨h12, hp, hf⟩ := hx
        cases h
        cases m with
        | zero => simp [numR, h12, hp]
        | succ m =>
          rw [List.take_succ_cons]
          simp only [numR]
          rw [if_neg h46, if_pos ⟨h12, hp, hf⟩]
      · cases h; exact absurd rfl hk
theorem numR_len {pl : Bool} {n : Nat} {l : Bytes} {k n' : Nat} (h : numR pl n l = (k, n')) (hk : k ≠ 0) : n ≤ n' ∧ n' ≤ n + l.length ∧ 3 ≤ k ∧ k ≤ 4 := by
  cases l with
  | nil => simp only [numR] at h; split at h <;> cases h <;> simp at * <;> omega
  | cons c r =>
    simp only [numR] at h
    split at h
    · split at h
      · rename_i hx
        have := run_le dg r
        cases h; simp; omega
      · cases h; exact absurd rfl hk
    · split at h
      · cases h; simp
      · cases h; exact absurd rfl hk
theorem num_take {l : Bytes} {k n : Nat} (h : num l = (k, n)) (hk : k ≠ 0) (m : Nat) (hm : n ≤ m) (h0 : 1 ≤ run dg l) : num (l.take m) = (k, n) := by
  unfold num at h ⊢
  by_cases hd : isDate l = true
  · rw [if_pos hd] at h
    split at h
    · rename_i hf
      cases h
      have e : isDate (l.take m) = true := by unfold isDate; rw [form_take _ _ _ (by simpa using hm)]; exact hd
      rw [if_pos e, List.drop_take, if_pos (fre_take _ _ hf)]
    · cases h; exact absurd rfl hk
  · rw [if_neg hd] at h
    have e : ¬ isDate (l.take m) = true := by
      have := form_take_le _ _ m (eq_false_of_ne_true hd)
      unfold isDate; rw [this]; simp
    rw [if_neg e]
    obtain ⟨hl, -, -⟩ := numR_len h hk
    have e1 : run dg (l.take m) = run dg l := by rw [run_take]; omega
    have e2 : plain (l.take m) = plain l := by
      unfold plain; rw [e1]
      cases l with
      | nil => simp
      | cons c r =>
        cases m with
        | zero => omega
        | succ m => rfl
    rw [e1, e2, List.drop_take]
    exact numR_take h hk _ (by omega)
theorem pre_take {t l : Bytes} (m : Nat) (h : t.length ≤ m) : t.isPrefixOf (l.take m) = t.isPrefixOf l := by
  induction t generalizing l m with
  | nil => simp
  | cons a t ih =>
    cases l with
    | nil => simp
    | cons d l =>
      cases m with
      | zero => simp at h
      | succ m => simp only [List.take_succ_cons, List.isPrefixOf]; rw [ih _ (by simpa using h)]
theorem pre_take_le {t l : Bytes} (m : Nat) (h : t.isPrefixOf l = false) : t.isPrefixOf (l.take m) = false := by
  induction t generalizing l m with
  | nil => simp at h
  | cons a t ih =>
    cases l with
    | nil => simp
    | cons d l =>
      cases m with
      | zero => simp
      | succ m =>
        simp only [List.take_succ_cons, List.isPrefixOf, Bool.and_eq_false_iff] at h ⊢
        exact h.imp id (fun h => ih _ h)
theorem sym_take {ts : List Bytes} {l : Bytes} {k n : Nat} (h : sym l ts = (k, n)) (hk : k ≠ 0) (m : Nat) (hm : n ≤ m) : sym (l.take m) ts = (k, n) := by
  induction ts with
  | nil => cases h; exact absurd rfl hk
  | cons t ts ih =>
    simp only [sym] at h ⊢
    by_cases hp : t.isPrefixOf l = true
    · rw [if_pos hp] at h
      cases h
      rw [pre_take _ hm, if_pos hp]
    · rw [if_neg hp] at h
      rw [pre_take_le _ (eq_false_of_ne_true hp), if_neg (by simp)]
      exact ih h
theorem sym_len {ts : List Bytes} {l : Bytes} {k n : Nat} (h : sym l ts = (k, n)) (hk : k ≠ 0) (hts : ∀ t ∈ ts, 1 ≤ t.length) : 1 ≤ n ∧ n ≤ l.length ∧ k = 6 := by
  induction ts with
  | nil => cases h; exact absurd rfl hk
  | cons t ts ih =>
    simp only [sym] at h
    split at h
    · rename_i hp
      cases h
      exact ⟨hts t (by simp), (List.isPrefixOf_iff_prefix.1 hp).length_le, rfl⟩
    · exact ih h (fun t' ht => hts t' (by simp [ht]))
theorem num_len {l : Bytes} {k n : Nat} (h : num l = (k, n)) (hk : k ≠ 0) (h0 : 1 ≤ run dg l) : 1 ≤ n ∧ n ≤ l.length ∧ 3 ≤ k ∧ k ≤ 5 := by
  unfold num at h
  split at h
  · rename_i hd
    split at h
    · cases h; exact ⟨by omega, isDate_len hd, by omega, by omega⟩
    · cases h; exact absurd rfl hk
  · have := numR_len h hk
    have h1 := run_le dg l
    rw [List.length_drop] at this
    omega
theorem tok_len {l : Bytes} {k n : Nat} (h : tok l = (k, n)) (hk : k ≠ 0) : 1 ≤ n ∧ n ≤ l.length ∧ 1 ≤ k ∧ k ≤ 6 := by
  cases l with
  | nil => cases h; exact absurd rfl hk
  | cons c r =>
    simp only [tok] at h
    by_cases hd : dg c = true
    · rw [if_pos hd] at h
      have := num_len h hk (by unfold run; rw [if_pos hd]; omega)
      omega
    rw [if_neg hd] at h
    by_cases hl : lo c = true
    · rw [if_pos hl] at h
      split at h
      · cases h
        exact ⟨by unfold run; rw [if_pos (lo_wd hl)]; omega, run_le _ _, by omega, by omega⟩
      · cases h; exact absurd rfl hk
    rw [if_neg hl] at h
    by_cases hu : up c = true
    · rw [if_pos hu] at h
      split at h
      · cases h
        exact ⟨by unfold run; rw [if_pos (up_wd hu)]; omega, run_le _ _, by omega, by omega⟩
      · cases h; exact absurd rfl hk
    rw [if_neg hu] at h
    have := sym_len h hk (by decide)
    omega
/-- a text that is cut behind its first token, or later, has this token -/
theorem tok_take {l : Bytes} {k n : Nat} (h : tok l = (k, n)) (hk : k ≠ 0) (m : Nat) (hm : n ≤ m) : tok (l.take m) = (k, n) := by
  have hlen := tok_len h hk
  cases l with
  | nil => cases h; exact absurd rfl hk
  | cons c r =>
    obtain ⟨m, rfl⟩ : ∃ q, m = q + 1 := ⟨m - 1, by omega⟩
    have t1 : (c :: r).take (m + 1) = c :: r.take m := rfl
    have w1 := run_take wd (c :: r) (m + 1)
    have w2 := run_take lnu (c :: r) (m + 1)
    have w3 := run_take up (c :: r) (m + 1)
    rw [t1] at w1 w2 w3 ⊢
    simp only [tok] at h ⊢
    by_cases hd : dg c = true
    · rw [if_pos hd] at h ⊢
      exact num_take h hk (m + 1) hm (by unfold run; rw [if_pos hd]; omega)
    rw [if_neg hd] at h ⊢
    by_cases hl : lo c = true
    · rw [if_pos hl] at h ⊢
      split at h
      · rename_i hx
        cases h
        rw [w1, w2, Nat.min_eq_left (by omega), Nat.min_eq_left (by omega), if_pos hx]
      · cases h; exact absurd rfl hk
    rw [if_neg hl] at h ⊢
    by_cases hu : up c = true
    · rw [if_pos hu] at h ⊢
      split at h
      · rename_i hx
        cases h
        rw [w1, w3, Nat.min_eq_left (by omega), Nat.min_eq_left (by omega), if_pos hx]
      · cases h; exact absurd rfl hk
    rw [if_neg hu] at h ⊢
    exact sym_take h hk (m + 1) hm

/-! #### gaps -/
theorem gap_le (l : Bytes) : gapW l ≤ l.length ∧ gapC l ≤ l.length := by
  induction l with
  | nil => simp [gapW, gapC]
  | cons c r ih =>
    simp only [gapW, gapC, List.length_cons]
    constructor
    · split
      · omega
      · split <;> omega
    · split <;> omega
theorem gapC_pos {l : Bytes} (h : l ≠ []) : 0 < gapC l := by
  cases l with
  | nil => exact absurd rfl h
  | cons c r => simp only [gapC]; split <;> omega
/-- what stands behind a gap begins no gap -/
theorem gap_drop (l : Bytes) : gapW (l.drop (gapW l)) = 0 ∧ gapW (l.drop (gapC l)) = 0 := by
  induction l with
  | nil => simp [gapW, gapC]
  | cons c r ih =>
    constructor
    · by_cases hw : wh c = true
      · rw [show gapW (c :: r) = gapW r + 1 by simp [gapW, hw], List.drop_succ_cons]; exact ih.1
      · by_cases hs : c.toNat = 47 ∧ (r.head?.map (·.toNat)) = some 47
        · rw [show gapW (c :: r) = gapC r + 1 by simp only [gapW]; rw [if_neg hw, if_pos hs], List.drop_succ_cons]; exact ih.2
        · have e : gapW (c :: r) = 0 := by simp only [gapW]; rw [if_neg hw, if_neg hs]
          rw [e, List.drop_zero]; exact e
    · by_cases h10 : c.toNat = 10
      · rw [show gapC (c :: r) = gapW r + 1 by simp only [gapC]; rw [if_pos h10], List.drop_succ_cons]; exact ih.1
      · rw [show gapC (c :: r) = gapC r + 1 by simp only [gapC]; rw [if_neg h10], List.drop_succ_cons]; exact ih.2
/-- a gap before other text that begins no gap -/
theorem gap_same (g : Bytes) {r0 r : Bytes} (h0 : r0 ≠ []) (hr : gapW r = 0) :
    (gapW (g ++ r0) = g.length → gapW (g ++ r) = g.length) ∧ (gapC (g ++ r0) = g.length → gapC (g ++ r) = g.length) := by
  induction g with
  | nil =>
    constructor
    · intro _; simpa using hr
    · intro h; have := gapC_pos h0; simp at h; omega
  | cons c g ih =>
    simp only [List.cons_append, gapW, gapC, List.length_cons]
    constructor
    · by_cases hw : wh c = true
      · rw [if_pos hw, if_pos hw]; intro h; have := ih.1 (by omega); omega
      · rw [if_neg hw, if_neg hw]
        by_cases hs : c.toNat = 47 ∧ ((g ++ r0).head?.map (·.toNat)) = some 47
        · rw [if_pos hs]
          intro h
          have hg : g ≠ [] := by
            rintro rfl
            have := gapC_pos h0
            simp at h; omega
          have hs' : c.toNat = 47 ∧ ((g ++ r).head?.map (·.toNat)) = some 47 := by
            cases g with
            | nil => exact absurd rfl hg
            | cons d g => exact hs
          rw [if_pos hs']
          have := ih.2 (by omega); omega
        · rw [if_neg hs]; intro h; omega
    · by_cases h10 : c.toNat = 10
      · rw [if_pos h10, if_pos h10]; intro h; have := ih.1 (by omega); omega
      · rw [if_neg h10, if_neg h10]; intro h; have := ih.2 (by omega); omega
/-- a text that is a gap, a line feed behind it -/
theorem gap_lf (g r : Bytes) {c : UInt8} (hc : c.toNat = 10) :
    (gapW g = g.length → gapW (g ++ c :: r) = g.length + 1 + gapW r) ∧ (gapC g = g.length → gapC (g ++ c :: r) = g.length + 1 + gapW r) := by
  have hwc : wh c = true := by simp [wh, hc]
  induction g with
  | nil => simp [gapW, gapC, hc, hwc]; omega
  | cons d g ih =>
    simp only [List.cons_append, gapW, gapC, List.length_cons]
    constructor
    · by_cases hw : wh d = true
      · rw [if_pos hw, if_pos hw]; intro h; have := ih.1 (by omega); omega
      · rw [if_neg hw, if_neg hw]
        by_cases hs : d.toNat = 47 ∧ (g.head?.map (·.toNat)) = some 47
        · rw [if_pos hs]
          intro h
          have hs' : d.toNat = 47 ∧ ((g ++ c :: r).head?.map (·.toNat)) = some 47 := by
            cases g with
            | nil => simp at hs
            | cons e g => exact hs
          rw [if_pos hs']
          have := ih.2 (by omega); omega
        · rw [if_neg hs]; intro h; omega
    · by_cases h10 : d.toNat = 10
      · rw [if_pos h10, if_pos h10]; intro h; have := ih.1 (by omega); omega
      · rw [if_neg h10, if_neg h10]; intro h; have := ih.2 (by omega); omega
/-- a gap by itself -/
theorem gap_take (l : Bytes) : gapW (l.take (gapW l)) = gapW l ∧ gapC (l.take (gapC l)) = gapC l := by
  induction l with
  | nil => simp [gapW, gapC]
  | cons c r ih =>
    constructor
    · by_cases hw : wh c = true
      · rw [show gapW (c :: r) = gapW r + 1 by simp [gapW, hw], List.take_succ_cons]
        simp only [gapW]; rw [if_pos hw, ih.1]
      · by_cases hs : c.toNat = 47 ∧ (r.head?.map (·.toNat)) = some 47
        · rw [show gapW (c :: r) = gapC r + 1 by simp only [gapW]; rw [if_neg hw, if_pos hs], List.take_succ_cons]
          have hs' : c.toNat = 47 ∧ ((r.take (gapC r)).head?.map (·.toNat)) = some 47 := by
            cases r with
            | nil => simp at hs
            | cons d r =>
              obtain ⟨q, hq⟩ : ∃ q, gapC (d :: r) = q + 1 := ⟨gapC (d :: r) - 1, by have := gapC_pos (l := d :: r) (by simp); omega⟩
              rw [hq, List.take_succ_cons]; exact hs
          simp only [gapW]; rw [if_neg hw, if_pos hs', ih.2]
        · have e : gapW (c :: r) = 0 := by simp only [gapW]; rw [if_neg hw, if_neg hs]
          rw [e]; simp [gapW]
    · by_cases h10 : c.toNat = 10
      · rw [show gapC (c :: r) = gapW r + 1 by simp only [gapC]; rw [if_pos h10], List.take_succ_cons]
        simp only [gapC]; rw [if_pos h10, ih.1]
      · rw [show gapC (c :: r) = gapC r + 1 by simp only [gapC]; rw [if_neg h10], List.take_succ_cons]
        simp only [gapC]; rw [if_neg h10, ih.2]
/-- no gap begins here, whatever is cut off or follows -/
theorem start_take {l : Bytes} (h : gapW l = 0) (m : Nat) : gapW (l.take m) = 0 := by
  cases l with
  | nil => simpa using h
  | cons c r =>
    cases m with
    | zero => simp [gapW]
    | succ m =>
      rw [List.take_succ_cons]
      simp only [gapW] at h ⊢
      by_cases hw : wh c = true
      · rw [if_pos hw] at h; omega
      · rw [if_neg hw] at h ⊢
        by_cases hs : c.toNat = 47 ∧ (r.head?.map (·.toNat)) = some 47
        · rw [if_pos hs] at h; omega
        · rw [if_neg]
          rintro ⟨h1, h2⟩
          refine hs ⟨h1, ?_⟩
          cases r with
          | nil => simp at h2
          | cons d r =>
            cases m with
            | zero => simp at h2
            | succ m => simpa using h2
theorem start_app {l : Bytes} (hl : l ≠ []) (h : gapW l = 0) {c : UInt8} (r : Bytes) (hc : wh c = true) : gapW (l ++ c :: r) = 0 := by
  cases l with
  | nil => exact absurd rfl hl
  | cons d l =>
    simp only [List.cons_append, gapW] at h ⊢
    by_cases hw : wh d = true
    · rw [if_pos hw] at h; omega
    · rw [if_neg hw] at h ⊢
      by_cases hs : d.toNat = 47 ∧ (l.head?.map (·.toNat)) = some 47
      · rw [if_pos hs] at h; omega
      · rw [if_neg]
        rintro ⟨h1, h2⟩
        cases l with
        | nil => simp at h2; exact wh_47 hc h2
        | cons e l => exact hs ⟨h1, h2⟩
theorem gapW_split (l : Bytes) : ∃ g r, l = g ++ r ∧ gapW l = g.length ∧ gapW r = 0 :=
  ⟨l.take (gapW l), l.drop (gapW l), (List.take_append_drop _ _).symm, by rw [List.length_take]; have := (gap_le l).1; omega, (gap_drop l).1⟩

/-! #### the tokens of a text -/
abbrev PTok := Nat × Bytes × Nat
/-- L are the tokens of l, which begins at 'at'; the last one may be an error (kind 0) -/
inductive Lexes : Nat → Bytes → List PTok → Prop
  | done {a : Nat} {l : Bytes} (h : gapW l = l.length) : Lexes a l []
  | tok {a : Nat} {g r t : Bytes} {k : Nat} {L : List PTok} (hg : gapW (g ++ (t ++ r)) = g.length) (ht : tok (t ++ r) = (k, t.length)) (hk : k ≠ 0) (h : Lexes (a + g.length + t.length) r L) : Lexes a (g ++ (t ++ r)) ((k, t, a + g.length) :: L)
  | bad {a : Nat} {g r t : Bytes} (hg : gapW (g ++ (t ++ r)) = g.length) (ht : tok (t ++ r) = (0, t.length)) (h0 : t ++ r ≠ []) : Lexes a (g ++ (t ++ r)) [(0, t, a + g.length)]

/-- by a bound on the rounds -/
def lexF : Nat → Nat → Bytes → List PTok
  | 0, _, _ => []
  | f + 1, a, l =>
    if gapW l < l.length then
      if (tok (l.drop (gapW l))).1 = 0 then [(0, (l.drop (gapW l)).take (tok (l.drop (gapW l))).2, a + gapW l)]
      else ((tok (l.drop (gapW l))).1, (l.drop (gapW l)).take (tok (l.drop (gapW l))).2, a + gapW l) :: lexF f (a + gapW l + (tok (l.drop (gapW l))).2) ((l.drop (gapW l)).drop (tok (l.drop (gapW l))).2)
    else []
theorem sym_le {ts : List Bytes} {l : Bytes} : (sym l ts).2 ≤ l.length := by
  induction ts with
  | nil => simp [sym]
  | cons t ts ih =>
    simp only [sym]; split
    · rename_i hp; exact (List.isPrefixOf_iff_prefix.1 hp).length_le
    · exact ih
theorem tok_zero {l : Bytes} (h : (tok l).1 = 0) : (tok l).2 = 0 := by
  have hs : ∀ ts : List Bytes, ∀ l, (sym l ts).1 = 0 → (sym l ts).2 = 0 := by
    intro ts l
    induction ts with
    | nil => simp [sym]
    | cons t ts ih => simp only [sym]; split <;> simp_all
  have hn : ∀ pl n l, (numR pl n l).1 = 0 → (numR pl n l).2 = 0 := by
    intro pl n l
    cases l with
    | nil => simp only [numR]; split <;> simp
    | cons c r => simp only [numR]; split <;> split <;> simp
  cases l with
  | nil => rfl
  | cons c r =>
    simp only [tok] at h ⊢
    split at h
    · rename_i hd; rw [if_pos hd]
      unfold num at h ⊢
      split at h
      · rename_i h1; rw [if_pos h1]; split at h
        · cases h
        · rename_i h2; rw [if_neg h2]
      · rename_i h1; rw [if_neg h1]; exact hn _ _ _ h
    · rename_i hd; rw [if_neg hd]
      split at h
      · rename_i h1; rw [if_pos h1]; split at h
        · cases h
        · rename_i h2; rw [if_neg h2]
      · rename_i h1; rw [if_neg h1]
        split at h
        · rename_i h1; rw [if_pos h1]; split at h
          · cases h
          · rename_i h2; rw [if_neg h2]
        · rename_i h1; rw [if_neg h1]; exact hs _ _ h
theorem lexF_ok (f a : Nat) (l : Bytes) (hf : l.length < f) : Lexes a l (lexF f a l) := by
  induction f generalizing a l with
  | zero => omega
  | succ f ih =>
    unfold lexF
    by_cases hg : gapW l < l.length
    · rw [if_pos hg]
      generalize hkn : tok (l.drop (gapW l)) = kn
      obtain ⟨k, n⟩ := kn
      have e1 : l = l.take (gapW l) ++ ((l.drop (gapW l)).take n ++ (l.drop (gapW l)).drop n) := by rw [List.take_append_drop, List.take_append_drop]
      have e2 : (l.take (gapW l)).length = gapW l := by rw [List.length_take]; omega
      dsimp only
      by_cases hk : k = 0
      · rw [if_pos hk]
        subst hk
        have hn : n = 0 := by have := tok_zero (l := l.drop (gapW l)) (by rw [hkn]); rw [hkn] at this; exact this
        subst hn
        have := Lexes.bad (a := a) (g := l.take (gapW l)) (t := (l.drop (gapW l)).take 0) (r := (l.drop (gapW l)).drop 0) (by rw [← e1, e2]) (by rw [List.take_append_drop, hkn]; simp) (by rw [List.take_append_drop]; intro h; have := congrArg List.length h; simp at this; omega)
        rw [← e1, e2] at this
        exact this
      · rw [if_neg hk]
        have hl := tok_len hkn hk
        rw [List.length_drop] at hl
        have e3 : ((l.drop (gapW l)).take n).length = n := by rw [List.length_take, List.length_drop]; omega
        have := Lexes.tok (a := a) (g := l.take (gapW l)) (t := (l.drop (gapW l)).take n) (r := (l.drop (gapW l)).drop n) (k := k) (by rw [← e1, e2]) (by rw [List.take_append_drop, hkn, e3]) hk (ih _ _ (by rw [List.length_drop, List.length_drop]; omega))
        rw [← e1, e2, e3] at this
        exact this
    · rw [if_neg hg]
      exact .done (by have := (gap_le l).1; omega)
theorem app_inj {g g' x x' : Bytes} (h : g ++ x = g' ++ x') (hl : g.length = g'.length) : g = g' ∧ x = x' := List.append_inj h hl
theorem Lexes.unique {a : Nat} {l : Bytes} {L L' : List PTok} (h : Lexes a l L) (h' : Lexes a l L') : L = L' := by
  induction h generalizing L' with
  | @done a l h =>
    generalize hl : l = l' at h'
    cases h' with
    | done _ => rfl
    | @tok _ g r t k L hg ht hk hr =>
      subst hl
      have := tok_len ht hk
      rw [h] at hg; simp only [List.length_append] at hg this; omega
    | @bad _ g r t hg ht h0 =>
      subst hl
      rw [h] at hg; simp at hg
      simp [hg] at h0
  | @tok a g r t k L hg ht hk hr ih =>
    generalize hl : g ++ (t ++ r) = l' at h'
    cases h' with
    | done h =>
      rw [← hl, hg] at h
      have := tok_len ht hk
      simp only [List.length_append] at h this; omega
    | @tok _ g' r' t' k' L' hg' ht' hk' hr' =>
      have e : g.length = g'.length := by rw [← hg, ← hg', hl]
      obtain ⟨rfl, e2⟩ := app_inj hl e
      rw [e2, ht'] at ht
      have e3 : t'.length = t.length := congrArg Prod.snd ht
      obtain ⟨rfl, rfl⟩ := app_inj e2 e3.symm
      obtain rfl : k' = k := congrArg Prod.fst ht
      rw [ih hr']
    | @bad _ g' r' t' hg' ht' h0' =>
      have e : g.length = g'.length := by rw [← hg, ← hg', hl]
      obtain ⟨rfl, e2⟩ := app_inj hl e
      rw [e2, ht'] at ht
      exact absurd (congrArg Prod.fst ht).symm hk
  | @bad a g r t hg ht h0 =>
    generalize hl : g ++ (t ++ r) = l' at h'
    cases h' with
    | done h =>
      rw [← hl, hg] at h
      simp at h; simp [h] at h0
    | @tok _ g' r' t' k' L' hg' ht' hk' hr' =>
      have e : g.length = g'.length := by rw [← hg, ← hg', hl]
      obtain ⟨rfl, e2⟩ := app_inj hl e
      rw [e2, ht'] at ht
      exact absurd (congrArg Prod.fst ht) hk'
    | @bad _ g' r' t' hg' ht' h0' =>
      have e : g.length = g'.length := by rw [← hg, ← hg', hl]
      obtain ⟨rfl, e2⟩ := app_inj hl e
      rw [e2, ht'] at ht
      have e3 : t'.length = t.length := congrArg Prod.snd ht
      obtain ⟨rfl, rfl⟩ := app_inj e2 e3.symm
      rfl
def Ok (L : List PTok) : Prop := ∀ x ∈ L, x.1 ≠ 0

/-! #### what is cut off behind a token, or ahead of one -/
theorem take_app (t r : Bytes) (m : Nat) : (t ++ r).take (t.length + m) = t ++ r.take m := by
  rw [List.take_append, List.take_of_length_le (l := t) (by omega), show t.length + m - t.length = m by omega]
theorem take_gt (g t r : Bytes) (m : Nat) : (g ++ (t ++ r)).take (g.length + t.length + m) = g ++ (t ++ r.take m) := by
  rw [← List.append_assoc, ← List.append_assoc, List.take_append, List.length_append]
  rw [List.take_of_length_le (by rw [List.length_append]; omega), show g.length + t.length + m - (g.length + t.length) = m by omega]
theorem start_gt {g t r : Bytes} (hg : gapW (g ++ (t ++ r)) = g.length) : gapW (t ++ r) = 0 := by
  have := (gap_drop (g ++ (t ++ r))).1
  rw [hg, List.drop_left] at this
  exact this
theorem gap_gt {g t r : Bytes} {k : Nat} (hg : gapW (g ++ (t ++ r)) = g.length) (ht : tok (t ++ r) = (k, t.length)) (hk : k ≠ 0) (m : Nat) : gapW (g ++ (t ++ r.take m)) = g.length := by
  have hl := tok_len ht hk
  have e : t ++ r.take m = (t ++ r).take (t.length + m) := by
    exact (take_app t r m).symm
  refine (gap_same g ?_ ?_).1 hg
  · intro h; have := congrArg List.length h; simp only [List.length_append, List.length_nil] at this; omega
  · rw [e]; exact start_take (start_gt hg) _
theorem tok_gt {t r : Bytes} {k : Nat} (ht : tok (t ++ r) = (k, t.length)) (hk : k ≠ 0) (m : Nat) : tok (t ++ r.take m) = (k, t.length) := by
  have e : t ++ r.take m = (t ++ r).take (t.length + m) := by
    exact (take_app t r m).symm
  rw [e]; exact tok_take ht hk _ (by omega)
/-- where the i-th token ends -/
def endOf (x : PTok) : Nat := x.2.2 + x.2.1.length
theorem Lexes.at_le {a : Nat} {l : Bytes} {L : List PTok} (h : Lexes a l L) : ∀ x ∈ L, a ≤ x.2.2 ∧ endOf x ≤ a + l.length := by
  induction h with
  | done h => simp
  | @tok a g r t k L hg ht hk hr ih =>
    intro x hx
    simp only [List.length_append]
    rcases List.mem_cons.1 hx with rfl | hx
    · simp [endOf]; omega
    · have := ih x hx; omega
  | @bad a g r t hg ht h0 =>
    intro x hx
    simp only [List.length_append]
    obtain rfl : x = _ := by simpa using hx
    simp [endOf]; omega
theorem Lexes.at_lt {a : Nat} {l : Bytes} {L : List PTok} (h : Lexes a l L) : ∀ x ∈ L, x.2.2 < a + l.length := by
  induction h with
  | done h => simp
  | @tok a g r t k L hg ht hk hr ih =>
    intro x hx
    have := tok_len ht hk
    simp only [List.length_append] at this ⊢
    rcases List.mem_cons.1 hx with rfl | hx
    · simp; omega
    · have := ih x hx; omega
  | @bad a g r t hg ht h0 =>
    intro x hx
    have hn : (t ++ r).length ≠ 0 := fun h => h0 (List.length_eq_zero_iff.1 h)
    simp only [List.length_append] at hn ⊢
    obtain rfl : x = _ := by simpa using hx
    simp; omega
/-- what is known of each token by itself -/
theorem Lexes.each {a : Nat} {l : Bytes} {L : List PTok} (h : Lexes a l L) (hok : Ok L) : ∀ x ∈ L, Lx.tok x.2.1 = (x.1, x.2.1.length) ∧ gapW x.2.1 = 0 ∧ x.2.1 ≠ [] := by
  induction h with
  | done h => simp
  | @tok a g r t k L hg ht hk hr ih =>
    intro x hx
    rcases List.mem_cons.1 hx with rfl | hx
    · have hl := tok_len ht hk
      have e1 := tok_gt ht hk 0
      have e2 := start_take (start_gt hg) t.length
      rw [List.take_zero, List.append_nil] at e1
      rw [List.take_left] at e2
      exact ⟨e1, e2, by rintro rfl; simp at hl⟩
    · exact ih (fun y hy => hok y (by simp [hy])) x hx
  | @bad a g r t hg ht h0 => exact absurd rfl (hok (0, t, a + g.length) (by simp))
/-- texts with gaps of one's own ahead of them -/
def built : List (Bytes × Nat × Bytes) → Bytes
  | [] => []
  | (g, _, t) :: r => g ++ (t ++ built r)
def wantOf (a : Nat) : List (Bytes × Nat × Bytes) → List PTok
  | [] => []
  | (g, k, t) :: r => (k, t, a + g.length) :: wantOf (a + g.length + t.length) r
theorem Lexes.ofBuilt (its : List (Bytes × Nat × Bytes)) (h : ∀ x ∈ its, (∀ r, gapW (x.1 ++ r) = x.1.length + gapW r) ∧ (∃ c r, x.1 = c :: r ∧ wh c = true) ∧ x.2.1 ≠ 0 ∧ Lx.tok x.2.2 = (x.2.1, x.2.2.length) ∧ gapW x.2.2 = 0) :
    ∀ a, Lexes a (built its) (wantOf a its) := by
  induction its with
  | nil => intro a; exact .done rfl
  | cons x its ih =>
    intro a
    obtain ⟨g, k, t⟩ := x
    obtain ⟨hg, hc, hk, ht, h0⟩ := h (g, k, t) (by simp)
    have hr := ih (fun y hy => h y (by simp [hy]))
    dsimp only at hg hc hk ht h0
    have hl := tok_len ht hk
    have hne : t ≠ [] := by rintro rfl; simp at hl
    have key : gapW (t ++ built its) = 0 ∧ Lx.tok (t ++ built its) = (k, t.length) := by
      cases its with
      | nil => simp only [built, List.append_nil]; exact ⟨h0, ht⟩
      | cons y its =>
        obtain ⟨g', k', t'⟩ := y
        obtain ⟨-, ⟨c, r, e, hw⟩, -⟩ := h (g', k', t') (by simp)
        dsimp only at e
        simp only [built]
        rw [e, List.cons_append]
        exact ⟨start_app hne h0 _ hw, by rw [tok_app hne _ hw]; exact ht⟩
    exact Lexes.tok (by rw [hg, key.1]; rfl) key.2 hk (hr _)
/-- up to the end of a token -/
theorem Lexes.upto {a : Nat} {l : Bytes} {L : List PTok} (h : Lexes a l L) (hok : Ok L) : ∀ (j : Nat) (x : PTok), L[j]? = some x → Lexes a (l.take (endOf x - a)) (L.take (j + 1)) := by
  induction h with
  | done h => intro j x hx; simp at hx
  | @tok a g r t k L hg ht hk hr ih =>
    intro j x hx
    cases j with
    | zero =>
      simp at hx; subst hx
      have e : (g ++ (t ++ r)).take (endOf (k, t, a + g.length) - a) = g ++ (t ++ r.take 0) := by
        rw [← take_gt]; congr 1; simp [endOf]; omega
      rw [e]
      refine Lexes.tok (gap_gt hg ht hk 0) (tok_gt ht hk 0) hk (.done ?_)
      simp [gapW]
    | succ j =>
      have hx' : L[j]? = some x := by simpa using hx
      have hm := List.mem_of_getElem? hx'
      have hb := hr.at_le x hm
      have e : (g ++ (t ++ r)).take (endOf x - a) = g ++ (t ++ r.take (endOf x - (a + g.length + t.length))) := by
        rw [← take_gt]; congr 1; unfold endOf at *; omega
      rw [e, List.take_succ_cons]
      exact Lexes.tok (gap_gt hg ht hk _) (tok_gt ht hk _) hk (ih (fun y hy => hok y (by simp [hy])) j x hx')
  | @bad a g r t hg ht h0 => exact absurd rfl (hok (0, t, a + g.length) (by simp))
/-- up to the place where a token, or an error, begins -/
theorem Lexes.before {a : Nat} {l : Bytes} {L : List PTok} (h : Lexes a l L) : ∀ (j : Nat) (x : PTok), L[j]? = some x → Lexes a (l.take (x.2.2 - a)) (L.take j) := by
  have hz : ∀ (a : Nat) (g t r : Bytes), gapW (g ++ (t ++ r)) = g.length → Lexes a ((g ++ (t ++ r)).take (a + g.length - a)) [] := by
    intro a g t r hg
    have e : (g ++ (t ++ r)).take (a + g.length - a) = g := by rw [Nat.add_sub_cancel_left, List.take_left]
    rw [e]
    have := (gap_take (g ++ (t ++ r))).1
    rw [hg, List.take_left] at this
    exact .done this
  induction h with
  | done h => intro j x hx; simp at hx
  | @tok a g r t k L hg ht hk hr ih =>
    intro j x hx
    cases j with
    | zero =>
      simp at hx; subst hx
      exact hz a g t r hg
    | succ j =>
      have hx' : L[j]? = some x := by simpa using hx
      have hm := List.mem_of_getElem? hx'
      have hb := hr.at_le x hm
      have e : (g ++ (t ++ r)).take (x.2.2 - a) = g ++ (t ++ r.take (x.2.2 - (a + g.length + t.length))) := by
        rw [← take_gt]; congr 1; omega
      rw [e, List.take_succ_cons]
      exact Lexes.tok (gap_gt hg ht hk _) (tok_gt ht hk _) hk (ih j x hx')
  | @bad a g r t hg ht h0 =>
    intro j x hx
    cases j with
    | zero => simp at hx; subst hx; exact hz a g t r hg
    | succ j => simp at hx
/-! #### two texts joined by a line feed -/
theorem Lexes.join {a : Nat} {l : Bytes} {L : List PTok} (h : Lexes a l L) (hok : Ok L) {c : UInt8} (hc : c.toNat = 10) {m : Bytes} {M : List PTok} (hM : Lexes (a + l.length + 1) m M) : Lexes a (l ++ c :: m) (L ++ M) := by
  have hw : wh c = true := by simp [wh, hc]
  induction h with
  | @done a l h =>
    have e := (gap_lf l m hc).1 h
    generalize ha : a + l.length + 1 = a' at hM
    cases hM with
    | done hm =>
      refine .done ?_
      rw [e, hm]; simp; omega
    | @tok _ g r t k L hg ht hk hr =>
      subst ha
      rw [hg] at e
      have e2 : l ++ c :: (g ++ (t ++ r)) = (l ++ c :: g) ++ (t ++ r) := by simp
      have e3 : (l ++ c :: g).length = l.length + 1 + g.length := by simp; omega
      rw [e2] at e ⊢
      have := Lexes.tok (a := a) (g := l ++ c :: g) (by rw [e, e3]) ht hk (L := L) (by rw [e3]; rwa [show a + (l.length + 1 + g.length) + t.length = a + l.length + 1 + g.length + t.length by omega])
      rw [e3, show a + (l.length + 1 + g.length) = a + l.length + 1 + g.length by omega] at this
      exact this
    | @bad _ g r t hg ht h0 =>
      subst ha
      rw [hg] at e
      have e2 : l ++ c :: (g ++ (t ++ r)) = (l ++ c :: g) ++ (t ++ r) := by simp
      have e3 : (l ++ c :: g).length = l.length + 1 + g.length := by simp; omega
      rw [e2] at e ⊢
      have := Lexes.bad (a := a) (g := l ++ c :: g) (by rw [e, e3]) ht h0
      rw [e3, show a + (l.length + 1 + g.length) = a + l.length + 1 + g.length by omega] at this
      exact this
  | @tok a g r t k L hg ht hk hr ih =>
    have hl := tok_len ht hk
    have hne : t ++ r ≠ [] := by intro h; have := congrArg List.length h; simp only [List.length_append, List.length_nil] at this; omega
    have e2 : (g ++ (t ++ r)) ++ c :: m = g ++ (t ++ (r ++ c :: m)) := by simp
    have e3 : t ++ (r ++ c :: m) = (t ++ r) ++ c :: m := by simp
    have hs := start_gt hg
    rw [e2]
    refine Lexes.tok ?_ ?_ hk (ih (fun y hy => hok y (by simp [hy])) ?_)
    · refine (gap_same g hne ?_).1 hg
      rw [e3]; exact start_app hne hs _ hw
    · rw [e3, tok_app hne _ hw]; exact ht
    · rwa [show a + g.length + t.length + r.length + 1 = a + (g ++ (t ++ r)).length + 1 by simp only [List.length_append]; omega]
  | @bad a g r t hg ht h0 => exact absurd rfl (hok (0, t, a + g.length) (by simp))
theorem Lexes.shift {a : Nat} {l : Bytes} {L : List PTok} (h : Lexes a l L) (d : Nat) : Lexes (a + d) l (L.map fun x => (x.1, x.2.1, x.2.2 + d)) := by
  induction h with
  | done h => exact .done h
  | @tok a g r t k L hg ht hk hr ih =>
    have := Lexes.tok (a := a + d) hg ht hk (by rwa [show a + d + g.length + t.length = a + g.length + t.length + d by omega])
    rw [show a + d + g.length = a + g.length + d by omega] at this
    exact this
  | @bad a g r t hg ht h0 =>
    have := Lexes.bad (a := a + d) hg ht h0
    rw [show a + d + g.length = a + g.length + d by omega] at this
    exact this
end Go.Proofs.YticmjkjojhcdpaaDoor.Lx

/- Words of equal letters and of equal digits, lexed. -/
import Derived.Test.YticmjkjojhcdpaaDoorWds
set_option linter.unusedVariables false
set_option linter.unusedSimpArgs false
namespace Go.Proofs.YticmjkjojhcdpaaDoor.PAll
open Go Go.RowKit Go.Proofs.YticmjkjojhcdpaaDoor.Lx Go.Proofs.YticmjkjojhcdpaaDoorW.PrintWords

def rep (i : Nat) (v : Int) : ByteArray := strOfNums (List.replicate i v)
theorem rep_size (i : Nat) (v : Int) : (rep i v).size = i := by simp [rep, strOfNums, ByteArray.size]
theorem rep_succ (i : Nat) (v : Int) : rep i v ++ strOfNums [v] = rep (i + 1) v := by
  apply ba_ext
  show ((rep i v ++ strOfNums [v]).data).toList = _
  rw [ByteArray.data_append, Array.toList_append]
  simp [rep, strOfNums, List.replicate_succ']
theorem rep_bs (i : Nat) (v : Int) : bs (rep i v) = List.replicate i v.toNat.toUInt8 := by
  show (strOfNums (List.replicate i v)).data.toList = _
  rw [strOfNums_data, List.map_replicate]
theorem byte_nat (v : Int) (h0 : 0 ≤ v) (h1 : v < 256) : (v.toNat.toUInt8.toNat : Int) = v := by
  have : v.toNat.toUInt8.toNat = v.toNat % 256 := by simp
  rw [this]; omega
theorem run_rep (p : UInt8 → Bool) (x : UInt8) (h : p x = true) (n : Nat) : run p (List.replicate n x) = n := by
  induction n with
  | zero => rfl
  | succ n ih => rw [List.replicate_succ]; unfold run; rw [if_pos h, ih]
theorem tok_lower (x : UInt8) (h : lo x = true) (n : Nat) (hn : 0 < n) : tok (List.replicate n x) = if n ≤ 16 then (1, n) else (0, 0) := by
  obtain ⟨m, rfl⟩ : ∃ m, n = m + 1 := ⟨n - 1, by omega⟩
  have hd : dg x = false := by simp [lo, dg] at *; omega
  have hl : lnu x = true := by simp [lnu, h]
  have e1 := run_rep wd x (lo_wd h) (m + 1)
  have e2 := run_rep lnu x hl (m + 1)
  rw [List.replicate_succ] at *
  simp only [tok]
  rw [if_neg (by simp [hd]), if_pos h, e1, e2]
  by_cases h16 : m + 1 ≤ 16
  · rw [if_pos ⟨h16, rfl⟩, if_pos h16]
  · rw [if_neg (fun hx => h16 hx.1), if_neg h16]
theorem tok_upper (x : UInt8) (h : up x = true) (n : Nat) (hn : 0 < n) : tok (List.replicate n x) = if n = 3 then (2, n) else (0, 0) := by
  obtain ⟨m, rfl⟩ : ∃ m, n = m + 1 := ⟨n - 1, by omega⟩
  have hd : dg x = false := by simp [up, dg] at *; omega
  have hl : lo x = false := by simp [up, lo] at *; omega
  have e1 := run_rep wd x (up_wd h) (m + 1)
  have e2 := run_rep up x h (m + 1)
  rw [List.replicate_succ] at *
  simp only [tok]
  rw [if_neg (by simp [hd]), if_neg (by simp [hl]), if_pos h, e1, e2]
  by_cases h16 : m + 1 = 3
  · rw [if_pos ⟨h16, rfl⟩, if_pos h16]
  · rw [if_neg (fun hx => h16 hx.1), if_neg h16]
theorem notDate (l : Bytes) (c : UInt8) (h4 : l[4]? = some c) (hc : ¬ c.toNat = 45) : isDate l = false := by
  rcases l with _ | ⟨a, _ | ⟨b, _ | ⟨d, _ | ⟨e, _ | ⟨f, l⟩⟩⟩⟩⟩ <;> simp at h4
  subst h4
  simp [isDate, form, hc]
theorem notDate_rep (x : UInt8) (h : dg x = true) (n : Nat) : isDate (List.replicate n x) = false := by
  have h45 : ¬ x.toNat = 45 := by simp [dg] at h; omega
  by_cases hn : n < 10
  · apply eq_false_of_ne_true
    intro hd; have := isDate_len hd; rw [List.length_replicate] at this; omega
  · exact notDate _ x (by rw [List.getElem?_replicate, if_pos (by omega)]) h45
theorem tok_digit (x : UInt8) (h : dg x = true) (hz : ¬ x.toNat = 48) (n : Nat) (hn : 0 < n) : tok (List.replicate n x) = if n ≤ 12 then (3, n) else (0, 0) := by
  have e0 := notDate_rep x h n
  have e1 := run_rep dg x h n
  obtain ⟨m, rfl⟩ : ∃ m, n = m + 1 := ⟨n - 1, by omega⟩
  have hp : plain (List.replicate (m + 1) x) = true := by
    unfold plain; rw [List.replicate_succ]; simp [hz]
  have e : tok (List.replicate (m + 1) x) = num (List.replicate (m + 1) x) := by
    rw [List.replicate_succ]; simp only [tok]; rw [if_pos h]
  rw [e]
  unfold num
  rw [e0, if_neg (by simp), e1, hp, List.drop_of_length_le (by rw [List.length_replicate]; omega)]
  simp [numR]
theorem tok_zero_digits (x : UInt8) (h : dg x = true) (n : Nat) (hn : 0 < n) : tok (48 :: List.replicate n x) = (0, 0) := by
  have h45 : ¬ x.toNat = 45 := by simp [dg] at h; omega
  have e1 := run_rep dg x h n
  have d48 : dg 48 = true := by decide
  have e0 : isDate (48 :: List.replicate n x) = false := by
    by_cases h9 : n < 9
    · apply eq_false_of_ne_true
      intro hd; have := isDate_len hd; rw [List.length_cons, List.length_replicate] at this; omega
    · exact notDate _ x (by rw [List.getElem?_cons_succ, List.getElem?_replicate, if_pos (by omega)]) h45
  have hr : run dg (48 :: List.replicate n x) = n + 1 := by unfold run; rw [if_pos d48, e1]
  have hp : plain (48 :: List.replicate n x) = false := by
    unfold plain; rw [hr]; simp; omega
  have e : tok (48 :: List.replicate n x) = num (48 :: List.replicate n x) := by
    simp only [tok]; rw [if_pos d48]
  rw [e]
  unfold num
  rw [e0, if_neg (by simp), hr, hp, List.drop_of_length_le (by rw [List.length_cons, List.length_replicate]; omega)]
  simp [numR]
theorem gap_start {c : UInt8} {r : Bytes} (h1 : wh c = false) (h2 : ¬ c.toNat = 47) : gapW (c :: r) = 0 := by
  simp only [gapW]; rw [if_neg (by simp [h1]), if_neg (fun h => h2 h.1)]
theorem wd_start {c : UInt8} {r : Bytes} (h : wd c = true) : gapW (c :: r) = 0 := by
  refine gap_start ?_ ?_
  · apply eq_false_of_ne_true; intro hw; rw [wh_wd hw] at h; cases h
  · intro h47; simp [wd, lo, up, dg, un, h47] at h
theorem Lex_one (s : ByteArray) (hs : s.size ≤ 6000) (k : Nat) (hk : k ≠ 0) (hg : gapW (bs s) = 0) (ht : tok (bs s) = (k, (bs s).length)) : lexer_Lex.f s = some ([⟨(k : Int), s, 0⟩], 0, 0) := by
  have hL : Lexes 0 (bs s) [(k, bs s, 0)] := by
    have := Lexes.tok (a := 0) (g := []) (t := bs s) (r := []) (k := k) (L := []) (by simpa using hg) (by simpa using ht) hk (.done (by simp [gapW]))
    simpa using this
  rw [Lex_ok s hs hL (fun x hx => by obtain rfl : x = _ := (by simpa using hx); exact hk) (by simp)]
  have : (⟨(bs s).toArray⟩ : ByteArray) = s := ba_ext rfl
  simp only [List.map_cons, List.map_nil, toT, this]
  rfl
theorem Lex_none (s : ByteArray) (hs : s.size ≤ 6000) (h0 : bs s ≠ []) (hg : gapW (bs s) = 0) (ht : tok (bs s) = (0, 0)) : lexer_Lex.f s = some ([], 61, 0) := by
  have hL : Lexes 0 (bs s) [(0, [], 0)] := by
    have := Lexes.bad (a := 0) (g := []) (t := []) (r := bs s) (by simpa using hg) (by simpa using ht) (by simpa using h0)
    simpa using this
  rw [Lex_is s hs hL]
  rfl
/-- what the closure answers of the law's words -/
def Yes (s : ByteArray) (kind : Int) (b : Bool) : Prop := ∀ W, Glob W → Calls Tryd.prog 16 #[.string s, .int .i64 kind, .bool b] W fun e w' => e = .returned (.bool true) ∧ Below W.heap.size W w'
theorem yes_of (s : ByteArray) (hs : s.size ≤ 6000) (k n : Nat) (hk : k ≠ 0) (h0 : bs s ≠ []) (hg : gapW (bs s) = 0) (hn : (bs s).length = n) (c : Prop) [Decidable c] (b : Bool) (hb : b = true ↔ c) (ht : tok (bs s) = if c then (k, n) else (0, 0)) : Yes s (k : Int) b := by
  intro W hG
  by_cases h : c
  · rw [hb.2 h]
    rw [if_pos h, ← hn] at ht
    exact one_yes s k W hG 0 0 (Lex_one s hs k hk hg ht)
  · have : b = false := eq_false_of_ne_true (fun hx => h (hb.1 hx))
    rw [this]
    rw [if_neg h] at ht
    exact one_no s k W hG 0 (Lex_none s hs h0 hg ht)
theorem rep_start (N : Nat) (hN : 0 < N) (v : Int) : bs (rep N v) = v.toNat.toUInt8 :: List.replicate (N - 1) v.toNat.toUInt8 := by
  rw [rep_bs]; obtain ⟨m, rfl⟩ : ∃ m, N = m + 1 := ⟨N - 1, by omega⟩; rw [List.replicate_succ]; rfl
theorem yes_lower (N : Nat) (hN : 0 < N) (hN2 : N ≤ 255) (c : Int) (hc : 0 ≤ c) : Yes (rep N (97 + c % 26)) 1 (decide ((N : Int) ≤ 16)) := by
  have hx := byte_nat (97 + c % 26) (by omega) (by omega)
  have hl : lo (97 + c % 26).toNat.toUInt8 = true := by simp only [lo, Bool.and_eq_true, decide_eq_true_eq]; omega
  refine yes_of _ (by rw [rep_size]; omega) 1 N (by decide) (by rw [rep_start N hN]; simp) (by rw [rep_start N hN]; exact wd_start (lo_wd hl)) (by rw [bs_len, rep_size]) (N ≤ 16) _ (by rw [decide_eq_true_iff]; omega) ?_
  rw [rep_bs]; exact tok_lower _ hl N hN
theorem yes_upper (N : Nat) (hN : 0 < N) (hN2 : N ≤ 255) (c : Int) (hc : 0 ≤ c) : Yes (rep N (65 + c % 26)) 2 ((N : Int) == 3) := by
  have hx := byte_nat (65 + c % 26) (by omega) (by omega)
  have hl : up (65 + c % 26).toNat.toUInt8 = true := by simp only [up, Bool.and_eq_true, decide_eq_true_eq]; omega
  refine yes_of _ (by rw [rep_size]; omega) 2 N (by decide) (by rw [rep_start N hN]; simp) (by rw [rep_start N hN]; exact wd_start (up_wd hl)) (by rw [bs_len, rep_size]) (N = 3) _ (by rw [beq_iff_eq]; omega) ?_
  rw [rep_bs]; exact tok_upper _ hl N hN
theorem yes_digit (N : Nat) (hN : 0 < N) (hN2 : N ≤ 255) (c : Int) (hc : 0 ≤ c) : Yes (rep N (49 + c % 9)) 3 (decide ((N : Int) ≤ 12)) := by
  have hx := byte_nat (49 + c % 9) (by omega) (by omega)
  have hl : dg (49 + c % 9).toNat.toUInt8 = true := by simp only [dg, Bool.and_eq_true, decide_eq_true_eq]; omega
  refine yes_of _ (by rw [rep_size]; omega) 3 N (by decide) (by rw [rep_start N hN]; simp) (by rw [rep_start N hN]; exact wd_start (dg_wd hl)) (by rw [bs_len, rep_size]) (N ≤ 12) _ (by rw [decide_eq_true_iff]; omega) ?_
  rw [rep_bs]; exact tok_digit _ hl (by omega) N hN
theorem yes_zero (N : Nat) (hN : 0 < N) (hN2 : N ≤ 255) (c : Int) (hc : 0 ≤ c) : Yes ((⟨#[48]⟩ : ByteArray) ++ rep N (49 + c % 9)) 3 false := by
  have hx := byte_nat (49 + c % 9) (by omega) (by omega)
  have hl : dg (49 + c % 9).toNat.toUInt8 = true := by simp only [dg, Bool.and_eq_true, decide_eq_true_eq]; omega
  have hb : bs ((⟨#[48]⟩ : ByteArray) ++ rep N (49 + c % 9)) = 48 :: List.replicate N (49 + c % 9).toNat.toUInt8 := by
    show (((⟨#[48]⟩ : ByteArray) ++ rep N (49 + c % 9)).data).toList = _
    rw [ByteArray.data_append, Array.toList_append, ← rep_bs]; rfl
  refine yes_of _ (by rw [ByteArray.size_append, rep_size]; show 1 + N ≤ 6000; omega) 3 (N + 1) (by decide) (by rw [hb]; simp) (by rw [hb]; exact wd_start (by decide)) (by rw [hb]; simp) False _ (by simp) ?_
  rw [hb, if_neg (fun h => h)]; exact tok_zero_digits _ hl N hN
end Go.Proofs.YticmjkjojhcdpaaDoor.PAll

/- Plain arithmetic: primes, Fermat, the two primes of the group. -/
namespace Go.Proofs.YtkpjmhomgifdbaaDoor.M

/-! plain arithmetic -/
def IsPrime (p : Nat) : Prop := 2 ≤ p ∧ ∀ d, d ∣ p → d = 1 ∨ d = p

theorem IsPrime.coprime {p a : Nat} (hp : IsPrime p) (h : ¬ p ∣ a) : Nat.Coprime p a := by
  have hd := hp.2 (Nat.gcd p a) (Nat.gcd_dvd_left p a)
  rcases hd with hd | hd
  · exact hd
  · exact absurd (hd ▸ Nat.gcd_dvd_right p a) h

theorem IsPrime.dvd_mul {p a b : Nat} (hp : IsPrime p) (h : p ∣ a * b) : p ∣ a ∨ p ∣ b := by
  by_cases ha : p ∣ a
  · exact .inl ha
  · exact .inr ((hp.coprime ha).dvd_of_dvd_mul_left h)

/-- no divisor 2*j+1 with lo ≤ j < lo + 2^k -/
def oddFree (p : Nat) : Nat → Nat → Bool
  | 0, lo => !(Nat.beq (p % (2 * lo + 1)) 0)
  | k + 1, lo => oddFree p k lo && oddFree p k (lo + 2 ^ k)

theorem oddFree_spec (p : Nat) : ∀ k lo, oddFree p k lo = true → ∀ j, lo ≤ j → j < lo + 2 ^ k → ¬ (2 * j + 1) ∣ p := by
  intro k
  induction k with
  | zero =>
    intro lo h j h1 h2
    obtain rfl : j = lo := by simp at h2; omega
    simp only [oddFree, Bool.not_eq_true'] at h
    intro hd
    have := Nat.mod_eq_zero_of_dvd hd
    rw [this] at h
    simp at h
  | succ k ih =>
    intro lo h j h1 h2
    simp only [oddFree, Bool.and_eq_true] at h
    rw [Nat.pow_succ] at h2
    by_cases hj : j < lo + 2 ^ k
    · exact ih lo h.1 j h1 hj
    · exact ih (lo + 2 ^ k) h.2 j (by omega) (by omega)

theorem prime_of_oddFree (p k : Nat) (h2 : p % 2 = 1) (hp : 3 ≤ p) (h : oddFree p k 1 = true) (hk : p < (2 * 2 ^ k + 3) * (2 * 2 ^ k + 3)) : IsPrime p := by
  have hs : ∀ m d, d ≤ m → 2 ≤ d → d < 2 * 2 ^ k + 3 → d ∣ p → False := by
    intro m d _ h2d hlt hd
    by_cases he : d % 2 = 0
    · have : 2 ∣ p := Nat.dvd_trans (Nat.dvd_of_mod_eq_zero he) hd
      omega
    · have hj : d = 2 * (d / 2) + 1 := by omega
      exact oddFree_spec p k 1 h (d / 2) (by omega) (by omega) (by rw [← hj]; exact hd)
  refine ⟨by omega, fun d hd => ?_⟩
  by_cases h1 : d = 1
  · exact .inl h1
  right
  have hdpos : 0 < d := Nat.pos_of_dvd_of_pos hd (by omega)
  obtain ⟨e, he⟩ := hd
  by_cases hlt : d < 2 * 2 ^ k + 3
  · exact (hs d d (Nat.le_refl _) (by omega) hlt ⟨e, he⟩).elim
  · have hepos : 0 < e := by
      rcases Nat.eq_zero_or_pos e with h0 | h0
      · subst h0; omega
      · exact h0
    by_cases he1 : e = 1
    · subst he1; omega
    · have hle : e < 2 * 2 ^ k + 3 := by
        refine Nat.lt_of_not_le fun hge => ?_
        have : (2 * 2 ^ k + 3) * (2 * 2 ^ k + 3) ≤ d * e := Nat.mul_le_mul (by omega) hge
        omega
      exact (hs e e (Nat.le_refl _) (by omega) hle ⟨d, by rw [he, Nat.mul_comm]⟩).elim

/-! Fermat -/
def choose : Nat → Nat → Nat
  | _, 0 => 1
  | 0, _ + 1 => 0
  | n + 1, k + 1 => choose n k + choose n (k + 1)

theorem choose_zero (n : Nat) : choose n 0 = 1 := by cases n <;> rfl
theorem choose_succ (n k : Nat) : choose (n + 1) (k + 1) = choose n k + choose n (k + 1) := rfl
theorem choose_gt : ∀ n k, n < k → choose n k = 0 := by
  intro n
  induction n with
  | zero => intro k h; cases k with
    | zero => omega
    | succ k => rfl
  | succ n ih => intro k h; cases k with
    | zero => omega
    | succ k => rw [choose_succ, ih k (by omega), ih (k + 1) (by omega)]
theorem choose_self (n : Nat) : choose n n = 1 := by
  induction n with
  | zero => rfl
  | succ n ih => rw [choose_succ, ih, choose_gt n (n + 1) (by omega)]

theorem succ_mul_choose : ∀ n k, (n + 1) * choose n k = choose (n + 1) (k + 1) * (k + 1) := by
  intro n
  induction n with
  | zero =>
    intro k; cases k with
    | zero => rfl
    | succ k => simp [choose]
  | succ n ih =>
    intro k; cases k with
    | zero =>
      rw [choose_succ (n + 1) 0, choose_zero]
      have := ih 0
      rw [choose_zero] at this
      simp at this ⊢
      omega
    | succ k =>
      have h1 := ih k
      have h2 := ih (k + 1)
      rw [choose_succ (n + 1) (k + 1)]
      generalize hA : choose (n + 1) (k + 1) = A at *
      generalize hB : choose (n + 1) (k + 2) = B at *
      have hA' : A = choose n k + choose n (k + 1) := by rw [← hA]; rfl
      have e : (A + B) * (k + 1 + 1) = A * (k + 1) + A + B * (k + 1 + 1) := by
        rw [Nat.add_mul, Nat.mul_add A (k + 1) 1, Nat.mul_one]
      rw [e, ← h1, ← h2]
      have e2 : (n + 1 + 1) * A = (n + 1) * A + A := by rw [Nat.add_mul (n + 1) 1 A, Nat.one_mul]
      rw [e2, hA', Nat.mul_add]
      omega

def sum (f : Nat → Nat) : Nat → Nat
  | 0 => 0
  | n + 1 => sum f n + f n

theorem sum_add (f g : Nat → Nat) (n : Nat) : sum (fun k => f k + g k) n = sum f n + sum g n := by
  induction n with
  | zero => rfl
  | succ n ih => simp only [sum, ih]; omega
theorem sum_mul (f : Nat → Nat) (c n : Nat) : sum (fun k => c * f k) n = c * sum f n := by
  induction n with
  | zero => rfl
  | succ n ih => simp only [sum, ih, Nat.mul_add]
theorem sum_congr {f g : Nat → Nat} (n : Nat) (h : ∀ k, k < n → f k = g k) : sum f n = sum g n := by
  induction n with
  | zero => rfl
  | succ n ih => simp only [sum]; rw [ih fun k hk => h k (by omega), h n (by omega)]
theorem sum_shift (f : Nat → Nat) (n : Nat) : sum f (n + 1) = f 0 + sum (fun k => f (k + 1)) n := by
  induction n with
  | zero => simp [sum]
  | succ n ih => rw [sum, ih, sum]; omega

theorem binom (a n : Nat) : (a + 1) ^ n = sum (fun k => choose n k * a ^ k) (n + 1) := by
  induction n with
  | zero => rfl
  | succ n ih =>
    rw [Nat.pow_succ, ih, sum_shift (fun k => choose (n + 1) k * a ^ k)]
    have e : sum (fun k => choose (n + 1) (k + 1) * a ^ (k + 1)) (n + 1) = sum (fun k => a * (choose n k * a ^ k)) (n + 1) + sum (fun k => choose n (k + 1) * a ^ (k + 1)) (n + 1) := by
      rw [← sum_add]
      refine sum_congr _ fun k _ => ?_
      rw [choose_succ, Nat.add_mul, Nat.pow_succ]
      congr 1
      rw [Nat.mul_comm (a ^ k) a, ← Nat.mul_assoc, ← Nat.mul_assoc, Nat.mul_comm a]
    rw [e, sum_mul]
    have e3 : sum (fun k => choose n (k + 1) * a ^ (k + 1)) (n + 1) = sum (fun k => choose n (k + 1) * a ^ (k + 1)) n := by
      rw [sum, choose_gt n (n + 1) (by omega)]; simp
    rw [e3]
    have e2 := sum_shift (fun k => choose n k * a ^ k) n
    rw [choose_zero, Nat.pow_zero, Nat.one_mul] at e2
    rw [choose_zero, Nat.pow_zero, Nat.one_mul, Nat.mul_add, Nat.mul_one, Nat.mul_comm]
    omega

theorem dvd_choose {p : Nat} (hp : IsPrime p) {k : Nat} (h0 : 0 < k) (hk : k < p) : p ∣ choose p k := by
  obtain ⟨n, rfl⟩ : ∃ n, p = n + 1 := ⟨p - 1, by have := hp.1; omega⟩
  obtain ⟨j, rfl⟩ : ∃ j, k = j + 1 := ⟨k - 1, by omega⟩
  have h := succ_mul_choose n j
  rcases hp.dvd_mul (a := choose (n + 1) (j + 1)) (b := j + 1) ⟨_, h.symm⟩ with h | h
  · exact h
  · exact absurd (Nat.le_of_dvd (by omega) h) (by omega)

theorem sum_dvd {p : Nat} {f : Nat → Nat} (n : Nat) (h : ∀ k, k < n → p ∣ f k) : p ∣ sum f n := by
  induction n with
  | zero => exact Nat.dvd_zero p
  | succ n ih => exact Nat.dvd_add (ih fun k hk => h k (by omega)) (h n (by omega))

theorem frob {p : Nat} (hp : IsPrime p) (a : Nat) : ((a + 1) ^ p) % p = (a ^ p + 1) % p := by
  obtain ⟨n, rfl⟩ : ∃ n, p = n + 1 := ⟨p - 1, by have := hp.1; omega⟩
  rw [binom, sum, choose_self, Nat.one_mul, sum_shift, choose_zero, Nat.pow_zero, Nat.one_mul]
  obtain ⟨c, hc⟩ : (n + 1) ∣ sum (fun k => choose (n + 1) (k + 1) * a ^ (k + 1)) n :=
    sum_dvd n fun k hk => Nat.dvd_trans (dvd_choose hp (by omega) (by omega)) (Nat.dvd_mul_right _ _)
  rw [hc]
  rw [show 1 + (n + 1) * c + a ^ (n + 1) = a ^ (n + 1) + 1 + (n + 1) * c by omega, Nat.add_mul_mod_self_left]

theorem fermat_self {p : Nat} (hp : IsPrime p) (a : Nat) : a ^ p % p = a % p := by
  induction a with
  | zero => rw [Nat.zero_pow (by have := hp.1; omega)]
  | succ a ih => rw [frob hp, Nat.add_mod, ih, ← Nat.add_mod]

theorem fermat {p : Nat} (hp : IsPrime p) (a : Nat) (ha : ¬ p ∣ a) : a ^ (p - 1) % p = 1 := by
  have h := fermat_self hp a
  obtain ⟨n, hn⟩ : ∃ n, p = n + 1 := ⟨p - 1, by have := hp.1; omega⟩
  have hpos : 1 ≤ a ^ (p - 1) := Nat.pos_of_ne_zero fun h0 => by
    have : a = 0 := by
      rcases Nat.eq_zero_or_pos a with h1 | h1
      · exact h1
      · have := Nat.pow_pos (n := p - 1) h1; omega
    exact ha (this ▸ Nat.dvd_zero p)
  have hd : p ∣ a * (a ^ (p - 1) - 1) := by
    rw [Nat.mul_sub, Nat.mul_one, show a * a ^ (p - 1) = a ^ p by rw [hn, Nat.add_sub_cancel, Nat.pow_succ, Nat.mul_comm]]
    exact Nat.dvd_of_mod_eq_zero (Nat.sub_mod_eq_zero_of_mod_eq h)
  rcases hp.dvd_mul hd with h1 | h1
  · exact absurd h1 ha
  · obtain ⟨c, hc⟩ := h1
    have : a ^ (p - 1) = 1 + p * c := by omega
    rw [this, Nat.add_mul_mod_self_left, Nat.mod_eq_of_lt (by have := hp.1; omega)]

/-! the numbers -/
abbrev P : Nat := 2147483579
abbrev Q : Nat := 1073741789
theorem primeP : IsPrime P := prime_of_oddFree P 15 (by decide) (by decide) (by decide +kernel) (by decide)
theorem primeQ : IsPrime Q := prime_of_oddFree Q 14 (by decide) (by decide) (by decide +kernel) (by decide)

/-- a fast power -/
def fp (p : Nat) : Nat → Nat → Nat → Nat
  | 0, _, _ => 1 % p
  | k + 1, b, e => if e % 2 = 1 then fp p k (b * b % p) (e / 2) * b % p else fp p k (b * b % p) (e / 2)
theorem fp_eq (p : Nat) : ∀ k b e, e < 2 ^ k → fp p k b e = b ^ e % p := by
  intro k
  induction k with
  | zero => intro b e h; obtain rfl : e = 0 := by simpa using h
            rfl
  | succ k ih =>
    intro b e h
    rw [Nat.pow_succ] at h
    have hb : b ^ e = (b * b) ^ (e / 2) * b ^ (e % 2) := by
      rw [← Nat.pow_two, ← Nat.pow_mul, ← Nat.pow_add, Nat.div_add_mod]
    rw [fp, ih _ _ (by omega), ← Nat.pow_mod]
    split
    · rename_i h1; rw [Nat.mod_mul_mod, hb, h1, Nat.pow_one]
    · rename_i h1; rw [hb, show e % 2 = 0 by omega, Nat.pow_zero, Nat.mul_one]
theorem four_Q : 4 ^ Q % P = 1 := by rw [← fp_eq P 31 4 Q (by decide)]; decide +kernel
theorem nine_Q : 9 ^ Q % P = 1 := by rw [← fp_eq P 31 9 Q (by decide)]; decide +kernel
end Go.Proofs.YtkpjmhomgifdbaaDoor.M

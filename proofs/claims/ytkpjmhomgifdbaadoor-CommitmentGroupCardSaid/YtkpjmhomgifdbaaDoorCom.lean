/- Plain arithmetic: the commitments. -/
import Derived.Test.YtkpjmhomgifdbaaDoorPow
namespace Go.Proofs.YtkpjmhomgifdbaaDoor.M

/-- base^exp mod P, as a number -/
def pw (b e : Nat) : Nat := b ^ e % P
theorem pw_lt (b e : Nat) : pw b e < P := Nat.mod_lt _ (by decide)
theorem not_dvd {b : Nat} (h0 : 0 < b) (h1 : b < P) : ¬ P ∣ b := fun h => by have := Nat.le_of_dvd h0 h; omega
theorem not_dvd_pow {b : Nat} (h : ¬ P ∣ b) (e : Nat) : ¬ P ∣ b ^ e := by
  induction e with
  | zero => rw [Nat.pow_zero]; intro h; have := Nat.le_of_dvd (by decide) h; simp [P] at this
  | succ e ih => rw [Nat.pow_succ]; intro hd; rcases primeP.dvd_mul hd with hd | hd
                 · exact ih hd
                 · exact h hd
theorem mod_pos {x : Nat} (h : ¬ P ∣ x) : 0 < x % P := Nat.pos_of_ne_zero fun e => h (Nat.dvd_of_mod_eq_zero e)
theorem pw_pos {b : Nat} (h : ¬ P ∣ b) (e : Nat) : 0 < pw b e := mod_pos (not_dvd_pow h e)
theorem nd4 : ¬ P ∣ 4 := not_dvd (by decide) (by decide)
theorem nd9 : ¬ P ∣ 9 := not_dvd (by decide) (by decide)

theorem pw_add (b m n : Nat) : pw b m * pw b n % P = pw b (m + n) := by
  unfold pw; rw [← Nat.mul_mod, ← Nat.pow_add]
theorem pw_mul (b m n : Nat) : pw (pw b m) n = pw b (m * n) := by
  unfold pw; rw [← Nat.pow_mod, ← Nat.pow_mul]
theorem pw_fermat {b : Nat} (h : ¬ P ∣ b) : pw b (P - 1) = 1 := fermat primeP b h
theorem sq_one {y : Nat} (hy : y < P) (h : y * y % P = 1) : y = 1 ∨ y = P - 1 := by
  have h0 : 0 < y := Nat.pos_of_ne_zero fun e => by subst e; simp at h
  have hd : P ∣ (y - 1) * (y + 1) := by
    have e : (y - 1) * (y + 1) = y * y - 1 := by
      obtain ⟨z, rfl⟩ : ∃ z, y = z + 1 := ⟨y - 1, by omega⟩
      rw [Nat.add_sub_cancel, Nat.mul_add, Nat.mul_one, Nat.mul_add, Nat.add_mul, Nat.mul_add]; omega
    rw [e]
    exact Nat.dvd_of_mod_eq_zero (Nat.sub_mod_eq_zero_of_mod_eq (by rw [h]; decide))
  rcases primeP.dvd_mul hd with hd | hd
  · left
    rcases Nat.eq_zero_or_pos (y - 1) with h1 | h1
    · omega
    · have := Nat.le_of_dvd h1 hd; omega
  · right
    have := Nat.le_of_dvd (by omega) hd; omega
theorem pw_Q {b : Nat} (h : ¬ P ∣ b) : pw b Q = 1 ∨ pw b Q = P - 1 := by
  refine sq_one (pw_lt b Q) ?_
  rw [pw_add]; exact pw_fermat h

/-- the commitment -/
def com (v r : Nat) : Nat := pw 4 v * pw 9 r % P
theorem com_eq (v r : Nat) : com v r = 4 ^ v * 9 ^ r % P := by unfold com pw; rw [← Nat.mul_mod]
theorem com_lt (v r : Nat) : com v r < P := Nat.mod_lt _ (by decide)
theorem not_dvd_mul {a b : Nat} (ha : ¬ P ∣ a) (hb : ¬ P ∣ b) : ¬ P ∣ a * b := fun h => (primeP.dvd_mul h).elim ha hb
theorem com_pos (v r : Nat) : 0 < com v r := by
  rw [com_eq]; exact mod_pos (not_dvd_mul (not_dvd_pow nd4 v) (not_dvd_pow nd9 r))
theorem nd_com (v r : Nat) : ¬ P ∣ com v r := not_dvd (com_pos v r) (com_lt v r)
theorem pow_Q_mul (b : Nat) (hb : b ^ Q % P = 1) (n : Nat) : b ^ (Q * n) % P = 1 := by
  rw [Nat.pow_mul, Nat.pow_mod, hb, Nat.one_pow]; decide
theorem pow_mod_Q (b : Nat) (hb : b ^ Q % P = 1) (n : Nat) : b ^ n % P = b ^ (n % Q) % P := by
  conv => lhs; rw [← Nat.div_add_mod n Q, Nat.pow_add, Nat.mul_mod, pow_Q_mul b hb, Nat.one_mul, Nat.mod_mod]
theorem com_mod (v r : Nat) : com (v % Q) (r % Q) = com v r := by
  unfold com pw; rw [← pow_mod_Q 4 four_Q, ← pow_mod_Q 9 nine_Q]
theorem com_add (v r w s : Nat) : com v r * com w s % P = com (v + w) (r + s) := by
  rw [com_eq, com_eq, com_eq, ← Nat.mul_mod, Nat.pow_add, Nat.pow_add]
  congr 1
  rw [Nat.mul_mul_mul_comm]
theorem com_Q (v r : Nat) : pw (com v r) Q = 1 := by
  unfold pw; rw [com_eq, ← Nat.pow_mod, Nat.mul_pow, Nat.mul_mod, ← Nat.pow_mul, ← Nat.pow_mul, Nat.mul_comm v, Nat.mul_comm r, pow_Q_mul 4 four_Q, pow_Q_mul 9 nine_Q]; decide
theorem com_zero : com 0 0 = 1 := by decide

/-- cancelling -/
theorem cancel {a b c : Nat} (hc : ¬ P ∣ c) (ha : a < P) (hb : b < P) (h : a * c % P = b * c % P) : a = b := by
  have key : ∀ a b : Nat, a < P → b ≤ a → a * c % P = b * c % P → a = b := by
    intro a b ha hab h
    have hd : P ∣ (a - b) * c := by
      rw [Nat.sub_mul]; exact Nat.dvd_of_mod_eq_zero (Nat.sub_mod_eq_zero_of_mod_eq h)
    rcases primeP.dvd_mul hd with hd | hd
    · rcases Nat.eq_zero_or_pos (a - b) with h0 | h0
      · omega
      · have := Nat.le_of_dvd h0 hd; omega
    · exact absurd hd hc
  rcases Nat.le_total b a with hab | hab
  · exact key a b ha hab h
  · exact (key b a hb hab h.symm).symm

/-- the order of a base whose Qth power is 1, and which is not 1 -/
theorem order {b : Nat} (hb : b ^ Q % P = 1) (h1 : b % P ≠ 1) {d : Nat} (hd : b ^ d % P = 1) : Q ∣ d := by
  refine Decidable.byContradiction fun hnd => ?_
  -- the least positive exponent with power 1, by the Euclidean road: b^(gcd d Q) = 1
  have hg : ∀ m n : Nat, b ^ m % P = 1 → b ^ n % P = 1 → b ^ (Nat.gcd m n) % P = 1 := by
    intro m n
    induction m, n using Nat.gcd.induction with
    | H0 n => intro _ h; rw [Nat.gcd_zero_left]; exact h
    | H1 m n hm ih =>
      intro hm1 hn1
      rw [Nat.gcd_rec]
      refine ih ?_ hm1
      have : b ^ n % P = b ^ (n % m) % P := by
        conv => lhs; rw [← Nat.div_add_mod n m, Nat.pow_add, Nat.mul_mod, Nat.pow_mul, Nat.pow_mod (b ^ m), hm1, Nat.one_pow]
        rw [show 1 % P = 1 by decide, Nat.one_mul, Nat.mod_mod]
      rw [← this]; exact hn1
  have := hg Q d hb hd
  rw [show Nat.gcd Q d = 1 from primeQ.coprime hnd, Nat.pow_one] at this
  exact h1 this

theorem pow_inj {b : Nat} (hb : b ^ Q % P = 1) (h1 : b % P ≠ 1) (hnd : ¬ P ∣ b) {v w : Nat} (hv : v < Q) (hw : w < Q) (h : b ^ v % P = b ^ w % P) : v = w := by
  have key : ∀ v w : Nat, v < Q → w ≤ v → b ^ v % P = b ^ w % P → v = w := by
    intro v w hv hwv h
    have e : b ^ v = b ^ (v - w) * b ^ w := by rw [← Nat.pow_add, Nat.sub_add_cancel hwv]
    have h2 : b ^ (v - w) % P = 1 := by
      refine cancel (not_dvd_pow hnd w) (Nat.mod_lt _ (by decide)) (by decide) ?_
      rw [Nat.mod_mul_mod, ← e, Nat.one_mul]; exact h
    have := order hb h1 h2
    rcases Nat.eq_zero_or_pos (v - w) with h0 | h0
    · omega
    · have := Nat.le_of_dvd h0 this; omega
  rcases Nat.le_total w v with hwv | hwv
  · exact key v w hv hwv h
  · exact (key w v hw hwv h.symm).symm

theorem com_inj_v {v w r : Nat} (hv : v < Q) (hw : w < Q) (h : com v r = com w r) : v = w := by
  refine pow_inj four_Q (by decide) nd4 hv hw ?_
  refine cancel (not_dvd_pow nd9 r) (Nat.mod_lt _ (by decide)) (Nat.mod_lt _ (by decide)) ?_
  rw [Nat.mod_mul_mod, Nat.mod_mul_mod, ← com_eq, ← com_eq]; exact h
theorem com_inj_r {v r s : Nat} (hr : r < Q) (hs : s < Q) (h : com v r = com v s) : r = s := by
  refine pow_inj nine_Q (by decide) nd9 hr hs ?_
  refine cancel (not_dvd_pow nd4 v) (Nat.mod_lt _ (by decide)) (Nat.mod_lt _ (by decide)) ?_
  rw [Nat.mod_mul_mod, Nat.mod_mul_mod, Nat.mul_comm (9 ^ r), Nat.mul_comm (9 ^ s), ← com_eq, ← com_eq]; exact h

/-- an odd power of the negative -/
theorem neg_mul (a b : Nat) (ha : a ≤ P) (hb : b ≤ P) : (P - a) * (P - b) % P = a * b % P := by
  have e : (P - a) * (P - b) + (a * P + b * P) = a * b + P * P := by
    obtain ⟨x, hx⟩ : ∃ x, P = a + x := ⟨P - a, by omega⟩
    obtain ⟨y, hy⟩ : ∃ y, P = b + y := ⟨P - b, by omega⟩
    have h1 : P - a = x := by omega
    have h2 : P - b = y := by omega
    rw [h1, h2]
    generalize hp : P = p at *
    have e1 : a * p = a * b + a * y := by rw [hy, Nat.mul_add]
    have e2 : p * p = (a + x) * (b + y) := by rw [← hx, ← hy]
    have e3 : b * p = a * b + b * x := by rw [hx, Nat.mul_add, Nat.mul_comm b a]
    have e4 : (a + x) * (b + y) = a * b + a * y + x * b + x * y := by rw [Nat.add_mul, Nat.mul_add, Nat.mul_add]; omega
    rw [e1, e3, e2, e4, Nat.mul_comm b x]; omega
  have h1 : ((P - a) * (P - b) + (a * P + b * P)) % P = (P - a) * (P - b) % P := by
    rw [← Nat.add_mul, Nat.add_mul_mod_self_right]
  have h2 : (a * b + P * P) % P = a * b % P := Nat.add_mul_mod_self_right _ _ _
  rw [← h1, e, h2]
theorem neg_sq (a : Nat) (ha : a < P) (k : Nat) : pw (P - a) (2 * k) = pw a (2 * k) := by
  unfold pw
  rw [Nat.pow_mul, Nat.pow_mul, Nat.pow_two, Nat.pow_two, Nat.pow_mod, neg_mul a a (by omega) (by omega), ← Nat.pow_mod]
theorem pw_odd (b k : Nat) : pw b (2 * k + 1) = pw b (2 * k) * b % P := by
  unfold pw; rw [Nat.mod_mul_mod, Nat.pow_succ]
theorem neg_sum (x : Nat) {a : Nat} (ha : a < P) : (x * (P - a) + x * a) % P = 0 := by
  rw [← Nat.mul_add, Nat.sub_add_cancel (Nat.le_of_lt ha)]; exact Nat.mul_mod_left _ _
theorem pw_neg' {a k : Nat} (ha : a < P) (h : pw a (2 * k + 1) = 1) : pw (P - a) (2 * k + 1) ≠ 1 := by
  intro h2
  rw [pw_odd] at h
  rw [pw_odd, neg_sq a ha] at h2
  have e3 := neg_sum (pw a (2 * k)) ha
  rw [Nat.add_mod, h, h2] at e3
  exact absurd e3 (by decide)
theorem pw_neg {a : Nat} (ha : a < P) (h : pw a Q = 1) : pw (P - a) Q ≠ 1 := pw_neg' (k := 536870894) ha h
end Go.Proofs.YtkpjmhomgifdbaaDoor.M

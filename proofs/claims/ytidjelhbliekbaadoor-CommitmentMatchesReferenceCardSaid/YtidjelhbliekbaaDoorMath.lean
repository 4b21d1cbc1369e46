/-
  Plain arithmetic for the commitment layer: powers modulo the prime 2147483579.
-/
namespace Wage26

/-- A divisor in a range of 2^k numbers from lo on: none of them divides n. -/
def noDiv (n lo : Nat) : Nat → Bool
  | 0 => n % lo != 0
  | k + 1 => noDiv n lo k && noDiv n (lo + 2 ^ k) k

theorem noDiv_spec (n : Nat) : ∀ (k lo : Nat), noDiv n lo k = true → ∀ d, lo ≤ d → d < lo + 2 ^ k → n % d ≠ 0 := by
  intro k
  induction k with
  | zero =>
    intro lo h d h1 h2
    have : d = lo := by simp at h2; omega
    subst this
    simpa [noDiv] using h
  | succ k ih =>
    intro lo h d h1 h2
    simp only [noDiv, Bool.and_eq_true] at h
    by_cases hd : d < lo + 2 ^ k
    · exact ih lo h.1 d h1 hd
    · exact ih (lo + 2 ^ k) h.2 d (by omega) (by rw [Nat.pow_succ] at h2; omega)

def Prime (p : Nat) : Prop := 2 ≤ p ∧ ∀ d, d ∣ p → d = 1 ∨ d = p

theorem prime_of_noDiv (p k : Nat) (hp : 2 ≤ p) (hk : p < (2 + 2 ^ k) * (2 + 2 ^ k)) (h : noDiv p 2 k = true) : Prime p := by
  refine ⟨hp, fun d hd => ?_⟩
  obtain ⟨e, he⟩ := hd
  by_cases d1 : d = 1
  · exact .inl d1
  by_cases e1 : e = 1
  · right; rw [he, e1, Nat.mul_one]
  exfalso
  have d0 : d ≠ 0 := by intro h0; rw [h0, Nat.zero_mul] at he; omega
  have e0 : e ≠ 0 := by intro h0; rw [h0, Nat.mul_zero] at he; omega
  have key : ∀ x y, p = x * y → 2 ≤ x → x < 2 + 2 ^ k → False := by
    intro x y hxy hx1 hx2
    exact noDiv_spec p k 2 h x hx1 hx2 (by rw [hxy]; exact Nat.mul_mod_right x y)
  by_cases hd : d < 2 + 2 ^ k
  · exact key d e he (by omega) hd
  · by_cases hee : e < 2 + 2 ^ k
    · exact key e d (by rw [he, Nat.mul_comm]) (by omega) hee
    · have : (2 + 2 ^ k) * (2 + 2 ^ k) ≤ d * e := Nat.mul_le_mul (by omega) (by omega)
      omega

abbrev P : Nat := 2147483579
abbrev Q : Nat := 1073741789

theorem prime_P : Prime P := prime_of_noDiv P 16 (by decide) (by decide) (by decide +kernel)
theorem prime_Q : Prime Q := prime_of_noDiv Q 15 (by decide) (by decide) (by decide +kernel)

theorem coprime_of_prime {p a : Nat} (hp : Prime p) (h : ¬ p ∣ a) : Nat.Coprime p a := by
  rcases hp.2 (Nat.gcd p a) (Nat.gcd_dvd_left p a) with h1 | h1
  · exact h1
  · exact absurd (h1 ▸ Nat.gcd_dvd_right p a) h

theorem euclid {p a b : Nat} (hp : Prime p) (h : p ∣ a * b) : p ∣ a ∨ p ∣ b := by
  by_cases ha : p ∣ a
  · exact .inl ha
  · exact .inr ((coprime_of_prime hp ha).dvd_of_dvd_mul_left h)

/-- Binomial coefficients. -/
def ch : Nat → Nat → Nat
  | _, 0 => 1
  | 0, _ + 1 => 0
  | n + 1, k + 1 => ch n k + ch n (k + 1)

theorem ch_gt : ∀ n k, n < k → ch n k = 0 := by
  intro n
  induction n with
  | zero => intro k h; cases k with | zero => omega | succ k => rfl
  | succ n ih => intro k h; cases k with | zero => omega | succ k => simp [ch, ih k (by omega), ih (k + 1) (by omega)]

theorem ch_self : ∀ n, ch n n = 1 := by
  intro n
  induction n with
  | zero => rfl
  | succ n ih => simp [ch, ih, ch_gt n (n + 1) (by omega)]

theorem ch_absorb : ∀ n k, (k + 1) * ch (n + 1) (k + 1) = (n + 1) * ch n k := by
  intro n
  induction n with
  | zero =>
    intro k
    cases k with
    | zero => rfl
    | succ k => simp [ch]
  | succ n ih =>
    intro k
    cases k with
    | zero =>
      have := ih 0
      simp only [ch] at this ⊢
      omega
    | succ k =>
      have h1 := ih k
      have h2 := ih (k + 1)
      have e : ch (n + 1 + 1) (k + 1 + 1) = ch (n + 1) (k + 1) + ch (n + 1) (k + 1 + 1) := rfl
      have e2 : ch (n + 1) (k + 1) = ch n k + ch n (k + 1) := rfl
      rw [e, Nat.mul_add, h2]
      have : (k + 1 + 1) * ch (n + 1) (k + 1) = (k + 1) * ch (n + 1) (k + 1) + ch (n + 1) (k + 1) := by rw [Nat.add_mul]; simp
      rw [this, h1]
      conv => rhs; rw [Nat.add_mul, Nat.one_mul, e2, Nat.mul_add]
      rw [e2]; omega

theorem ch_dvd {p : Nat} (hp : Prime p) (k : Nat) (h0 : 0 < k) (hk : k < p) : p ∣ ch p k := by
  obtain ⟨p', rfl⟩ : ∃ p', p = p' + 1 := ⟨p - 1, by have := hp.1; omega⟩
  obtain ⟨k', rfl⟩ : ∃ k', k = k' + 1 := ⟨k - 1, by omega⟩
  have h := ch_absorb p' k'
  have hd : (p' + 1) ∣ (k' + 1) * ch (p' + 1) (k' + 1) := ⟨ch p' k', h⟩
  rcases euclid hp hd with h1 | h1
  · exact absurd (Nat.le_of_dvd (by omega) h1) (by omega)
  · exact h1

/-- The sum of ch n i * a^i for i below m. -/
def bs (n a : Nat) : Nat → Nat
  | 0 => 0
  | m + 1 => bs n a m + ch n m * a ^ m

theorem bs_shift (n a : Nat) : ∀ m, bs (n + 1) a (m + 1) = bs n a (m + 1) + a * bs n a m := by
  intro m
  induction m with
  | zero => simp [bs, ch]
  | succ m ih =>
    have e : bs (n + 1) a (m + 1 + 1) = bs (n + 1) a (m + 1) + ch (n + 1) (m + 1) * a ^ (m + 1) := rfl
    have e1 : bs n a (m + 1 + 1) = bs n a (m + 1) + ch n (m + 1) * a ^ (m + 1) := rfl
    have e2 : bs n a (m + 1) = bs n a m + ch n m * a ^ m := rfl
    have e3 : ch (n + 1) (m + 1) = ch n m + ch n (m + 1) := rfl
    rw [e, ih, e1, e3, Nat.add_mul]
    have : a * bs n a (m + 1) = a * bs n a m + ch n m * a ^ (m + 1) := by
      rw [e2, Nat.mul_add, Nat.pow_succ]
      rw [show a * (ch n m * a ^ m) = ch n m * (a ^ m * a) by rw [Nat.mul_comm (a ^ m) a, Nat.mul_left_comm]]
    rw [this]; omega

theorem binom (a : Nat) : ∀ n, (a + 1) ^ n = bs n a (n + 1) := by
  intro n
  induction n with
  | zero => simp [bs, ch]
  | succ n ih =>
    have e : bs n a (n + 1 + 1) = bs n a (n + 1) + ch n (n + 1) * a ^ (n + 1) := rfl
    rw [bs_shift, e, ch_gt n (n + 1) (by omega), Nat.pow_succ, ih, Nat.mul_add, Nat.mul_one, Nat.mul_comm a]
    omega

theorem bs_mod {p : Nat} (hp : Prime p) (a : Nat) : ∀ m, 0 < m → m ≤ p → bs p a m % p = 1 % p := by
  intro m
  induction m with
  | zero => intro h; omega
  | succ m ih =>
    intro _ hm
    cases m with
    | zero => simp [bs, ch]
    | succ m =>
      have h := ih (by omega) (by omega)
      obtain ⟨c, hc⟩ := ch_dvd hp (m + 1) (by omega) (by omega)
      show (bs p a (m + 1) + ch p (m + 1) * a ^ (m + 1)) % p = _
      rw [hc, Nat.mul_assoc, Nat.add_mul_mod_self_left, h]

theorem dream {p : Nat} (hp : Prime p) (a : Nat) : (a + 1) ^ p % p = (a ^ p + 1) % p := by
  rw [binom]
  show (bs p a p + ch p p * a ^ p) % p = _
  rw [ch_self, Nat.one_mul, Nat.add_mod, bs_mod hp a p (by have := hp.1; omega) (Nat.le_refl _), ← Nat.add_mod, Nat.add_comm]

theorem fermat' {p : Nat} (hp : Prime p) : ∀ a, a ^ p % p = a % p := by
  intro a
  induction a with
  | zero => rw [Nat.zero_pow (by have := hp.1; omega)]
  | succ a ih => rw [dream hp, Nat.add_mod, ih, ← Nat.add_mod]

theorem dvd_of_mod_eq {p a b : Nat} (h : a % p = b % p) (hab : b ≤ a) : p ∣ a - b := by
  have e1 := Nat.div_add_mod a p
  have e2 := Nat.div_add_mod b p
  refine ⟨a / p - b / p, ?_⟩
  rw [Nat.mul_sub]
  have := Nat.div_le_div_right (c := p) hab
  have := Nat.mul_le_mul_left p this
  omega

theorem mod_eq_of_dvd {p a b : Nat} (hab : b ≤ a) (h : p ∣ a - b) : a % p = b % p := by
  obtain ⟨c, hc⟩ := h
  have : a = b + p * c := by omega
  rw [this, Nat.add_mul_mod_self_left]

/-- Cancelling a factor that the prime does not divide. -/
theorem cancel {p a b c : Nat} (hp : Prime p) (hc : ¬ p ∣ c) (h : c * a % p = c * b % p) : a % p = b % p := by
  by_cases hab : b ≤ a
  · have := dvd_of_mod_eq h (Nat.mul_le_mul_left c hab)
    rw [← Nat.mul_sub] at this
    exact mod_eq_of_dvd hab ((euclid hp this).resolve_left hc)
  · have := dvd_of_mod_eq h.symm (Nat.mul_le_mul_left c (by omega : a ≤ b))
    rw [← Nat.mul_sub] at this
    exact (mod_eq_of_dvd (by omega) ((euclid hp this).resolve_left hc)).symm

theorem fermat {p a : Nat} (hp : Prime p) (ha : ¬ p ∣ a) : a ^ (p - 1) % p = 1 % p := by
  refine cancel hp ha ?_
  rw [Nat.mul_one, Nat.mul_comm, ← Nat.pow_succ]
  rw [show (p - 1).succ = p by have := hp.1; omega]
  exact fermat' hp a

theorem not_dvd_of_lt {p a : Nat} (h0 : 0 < a) (h : a < p) : ¬ p ∣ a := fun hd => by
  have := Nat.le_of_dvd h0 hd; omega

/-- The power modulo P. -/
def pw (b n : Nat) : Nat := b ^ n % P

theorem pw_lt (b n : Nat) : pw b n < P := Nat.mod_lt _ (by decide)
theorem pw_zero (b : Nat) : pw b 0 = 1 := rfl
theorem pw_add (b m n : Nat) : pw b m * pw b n % P = pw b (m + n) := by
  unfold pw; rw [← Nat.mul_mod, Nat.pow_add]
theorem pw_pw (b m n : Nat) : pw (pw b m) n = pw b (m * n) := by
  unfold pw; rw [← Nat.pow_mod, Nat.pow_mul]
theorem pw_mul (a b n : Nat) : pw a n * pw b n % P = pw (a * b % P) n := by
  unfold pw; rw [← Nat.mul_mod, ← Nat.pow_mod, Nat.mul_pow]
theorem pw_mod (b n : Nat) : pw (b % P) n = pw b n := by
  unfold pw; rw [← Nat.pow_mod]

theorem not_dvd_pow {p a : Nat} (hp : Prime p) (ha : ¬ p ∣ a) : ∀ n, ¬ p ∣ a ^ n := by
  intro n
  induction n with
  | zero => intro h; rw [Nat.pow_zero] at h; have := Nat.le_of_dvd (by decide) h; have := hp.1; omega
  | succ n ih => intro h; rw [Nat.pow_succ] at h; rcases euclid hp h with h | h; exact ih h; exact ha h

theorem pw_pos {b : Nat} (h0 : 0 < b) (h : b < P) (n : Nat) : 1 ≤ pw b n := by
  have := not_dvd_pow prime_P (not_dvd_of_lt h0 h) n
  unfold pw
  rcases Nat.eq_zero_or_pos (b ^ n % P) with h1 | h1
  · exact absurd (Nat.dvd_of_mod_eq_zero h1) this
  · exact h1

theorem pw_fermat {b : Nat} (h0 : 0 < b) (h : b < P) : pw b (P - 1) = 1 := fermat prime_P (not_dvd_of_lt h0 h)

/-- A square root of one is one or minus one. -/
theorem sqrt_one {y : Nat} (h0 : 0 < y) (h : y < P) (hs : y * y % P = 1) : y = 1 ∨ y = P - 1 := by
  have h1 : P ∣ y * y - 1 := dvd_of_mod_eq (by rw [hs]; rfl) (Nat.mul_pos h0 h0)
  have e : y * y - 1 = (y + 1) * (y - 1) := by
    obtain ⟨z, rfl⟩ : ∃ z, y = z + 1 := ⟨y - 1, by omega⟩
    have e1 : (z + 1) * (z + 1) = z * z + 2 * z + 1 := by rw [Nat.add_mul, Nat.mul_add]; omega
    have e2 : (z + 1 + 1) * (z + 1 - 1) = z * z + 2 * z := by rw [Nat.add_sub_cancel, Nat.add_mul, Nat.add_mul]; omega
    rw [e1, e2]; omega
  rw [e] at h1
  rcases euclid prime_P h1 with h1 | h1
  · have := Nat.le_of_dvd (by omega) h1; right; omega
  · left
    rcases Nat.eq_zero_or_pos (y - 1) with h2 | h2
    · omega
    · have := Nat.le_of_dvd h2 h1; omega

theorem pw_Q {b : Nat} (h0 : 0 < b) (h : b < P) : pw b Q = 1 ∨ pw b Q = P - 1 :=
  sqrt_one (pw_pos h0 h Q) (pw_lt b Q) (by rw [pw_add]; exact pw_fermat h0 h)

theorem pw_one (n : Nat) : pw 1 n = 1 := by unfold pw; rw [Nat.one_pow]; rfl

theorem g4 : pw 4 Q = 1 := by
  have : pw (pw 2 2) Q = pw 2 (2 * Q) := pw_pw 2 2 Q
  have h2 : pw 2 2 = 4 := rfl
  rw [h2] at this; rw [this]; exact pw_fermat (b := 2) (by decide) (by decide)
theorem g9 : pw 9 Q = 1 := by
  have : pw (pw 3 2) Q = pw 3 (2 * Q) := pw_pw 3 2 Q
  have h2 : pw 3 2 = 9 := rfl
  rw [h2] at this; rw [this]; exact pw_fermat (b := 3) (by decide) (by decide)

/-- Exponents of an element of the group count modulo Q. -/
theorem pw_modQ {g : Nat} (hg : pw g Q = 1) (n : Nat) : pw g (n % Q) = pw g n := by
  have e := Nat.div_add_mod n Q
  conv => rhs; rw [← e]
  rw [← pw_add, ← pw_pw, hg, pw_one, Nat.one_mul]
  exact (Nat.mod_eq_of_lt (pw_lt _ _)).symm

/-- In a group of prime order a power below the order is one only for the neutral element. -/
theorem order_one {g : Nat} (hg : pw g Q = 1) : ∀ (n d : Nat), d ≤ n → 0 < d → d < Q → pw g d = 1 → g % P = 1 := by
  intro n
  induction n with
  | zero => intro d h1 h2; omega
  | succ n ih =>
    intro d h1 h2 h3 h4
    by_cases hd : d = 1
    · subst hd; simpa [pw] using h4
    · have hr : Q % d ≠ 0 := by
        intro h
        rcases prime_Q.2 d (Nat.dvd_of_mod_eq_zero h) with h | h
        · exact hd h
        · omega
      have hl : Q % d < d := Nat.mod_lt _ h2
      refine ih (Q % d) (by omega) (by omega) (by omega) ?_
      have e := Nat.div_add_mod Q d
      have h5 : pw g (d * (Q / d) + Q % d) = 1 := by rw [e]; exact hg
      rw [← pw_add, ← pw_pw, h4, pw_one, Nat.one_mul, Nat.mod_eq_of_lt (pw_lt _ _)] at h5
      exact h5

theorem pw_inj_lt {g : Nat} (h0 : 0 < g) (hP : g < P) (h1 : g ≠ 1) (hg : pw g Q = 1) {v w : Nat} (hv : v < w) (hw : w < Q) : pw g v ≠ pw g w := by
  intro h
  have e : pw g v * pw g (w - v) % P = pw g v * 1 % P := by
    rw [pw_add, Nat.mul_one, show v + (w - v) = w by omega, ← h, Nat.mod_eq_of_lt (pw_lt _ _)]
  have hc := cancel prime_P (not_dvd_of_lt (pw_pos h0 hP v) (pw_lt g v)) e
  rw [Nat.mod_eq_of_lt (pw_lt _ _)] at hc
  have := order_one hg (w - v) (w - v) (Nat.le_refl _) (by omega) (by omega) hc
  rw [Nat.mod_eq_of_lt hP] at this
  exact h1 this

theorem pw_inj {g : Nat} (h0 : 0 < g) (hP : g < P) (h1 : g ≠ 1) (hg : pw g Q = 1) {v w : Nat} (hv : v < Q) (hw : w < Q) (h : pw g v = pw g w) : v = w := by
  rcases Nat.lt_trichotomy v w with h2 | h2 | h2
  · exact absurd h (pw_inj_lt h0 hP h1 hg h2 hw)
  · exact h2
  · exact absurd h.symm (pw_inj_lt h0 hP h1 hg h2 hv)

/-- The commitment to v with the blinding number r. -/
def cm (v r : Nat) : Nat := pw 4 v * pw 9 r % P

theorem cm_lt (v r : Nat) : cm v r < P := Nat.mod_lt _ (by decide)
theorem mul_pos_mod {a b : Nat} (ha : 0 < a) (ha' : a < P) (hb : 0 < b) (hb' : b < P) : 1 ≤ a * b % P := by
  rcases Nat.eq_zero_or_pos (a * b % P) with h | h
  · rcases euclid prime_P (Nat.dvd_of_mod_eq_zero h) with h | h
    · exact absurd h (not_dvd_of_lt ha ha')
    · exact absurd h (not_dvd_of_lt hb hb')
  · exact h
theorem cm_pos (v r : Nat) : 1 ≤ cm v r :=
  mul_pos_mod (pw_pos (by decide) (by decide) v) (pw_lt _ _) (pw_pos (by decide) (by decide) r) (pw_lt _ _)
theorem pw_exp_one {g : Nat} (hg : pw g Q = 1) (n : Nat) : pw (pw g n) Q = 1 := by
  rw [pw_pw, Nat.mul_comm, ← pw_pw, hg, pw_one]
theorem cm_group (v r : Nat) : pw (cm v r) Q = 1 := by
  unfold cm
  rw [← pw_mul, pw_exp_one g4, pw_exp_one g9]; rfl
theorem mul4 (a b c d : Nat) : (a * b % P) * (c * d % P) % P = ((a * c % P) * (b * d % P)) % P := by
  rw [← Nat.mul_mod, ← Nat.mul_mod]
  congr 1
  rw [Nat.mul_assoc, Nat.mul_assoc, Nat.mul_left_comm b c d]
theorem cm_add (v r w s : Nat) : cm v r * cm w s % P = cm ((v + w) % Q) ((r + s) % Q) := by
  unfold cm
  rw [mul4, pw_add, pw_add, pw_modQ g4, pw_modQ g9]
theorem cm_zero : cm 0 0 = 1 := rfl
theorem cm_inj_left {v w r : Nat} (hv : v < Q) (hw : w < Q) (h : cm v r = cm w r) : v = w := by
  unfold cm at h
  rw [Nat.mul_comm (pw 4 v), Nat.mul_comm (pw 4 w)] at h
  have := cancel prime_P (not_dvd_of_lt (pw_pos (b := 9) (by decide) (by decide) r) (pw_lt _ _)) h
  rw [Nat.mod_eq_of_lt (pw_lt _ _), Nat.mod_eq_of_lt (pw_lt _ _)] at this
  exact pw_inj (by decide) (by decide) (by decide) g4 hv hw this
theorem cm_inj_right {v r s : Nat} (hr : r < Q) (hs : s < Q) (h : cm v r = cm v s) : r = s := by
  unfold cm at h
  have := cancel prime_P (not_dvd_of_lt (pw_pos (b := 4) (by decide) (by decide) v) (pw_lt _ _)) h
  rw [Nat.mod_eq_of_lt (pw_lt _ _), Nat.mod_eq_of_lt (pw_lt _ _)] at this
  exact pw_inj (by decide) (by decide) (by decide) g9 hr hs this

theorem neg_eq {a : Nat} (h0 : 1 ≤ a) (hP : a < P) : (P - 1) * a % P = P - a := by
  obtain ⟨b, rfl⟩ : ∃ b, a = b + 1 := ⟨a - 1, by omega⟩
  have e : (P - 1) * (b + 1) = (P - (b + 1)) + P * b := by
    have : (P - 1) * (b + 1) = (P - 1) * b + (P - 1) := by rw [Nat.mul_add, Nat.mul_one]
    rw [this, Nat.sub_mul]
    have : P * b ≥ 1 * b := Nat.mul_le_mul_right b (by decide)
    omega
  rw [e, Nat.add_mul_mod_self_left, Nat.mod_eq_of_lt (by omega)]
theorem neg_Q : pw (P - 1) Q = P - 1 := by
  have e : Q = 2 * 536870894 + 1 := rfl
  have h2 : pw (P - 1) 2 = 1 := by decide +kernel
  have h1 : pw (P - 1) 1 = P - 1 := by decide +kernel
  rw [e, ← pw_add, ← pw_pw, h2, pw_one, h1]; decide
/-- The negative of an element of the group is none. -/
theorem neg_group {a : Nat} (h0 : 1 ≤ a) (hP : a < P) (hg : pw a Q = 1) : pw (P - a) Q ≠ 1 := by
  rw [← neg_eq h0 hP, ← pw_mul, neg_Q, hg]
  decide

end Wage26

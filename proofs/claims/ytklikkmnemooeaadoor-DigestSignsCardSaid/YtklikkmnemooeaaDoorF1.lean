/- Fermat's little theorem, Pocklington's test, and the group's two primes. Plain numbers alone. -/
namespace Go.Proofs.YtklikkmnemooeaaDoor.NT
def IsPrime (p : Nat) : Prop := 2 ≤ p ∧ ∀ d, d ∣ p → d = 1 ∨ d = p

theorem prime_coprime {p a : Nat} (hp : IsPrime p) (h : ¬ p ∣ a) : Nat.gcd p a = 1 := by
  rcases hp.2 (Nat.gcd p a) (Nat.gcd_dvd_left p a) with h1 | h1
  · exact h1
  · exact absurd (h1 ▸ Nat.gcd_dvd_right p a) h
theorem prime_dvd_mul {p a b : Nat} (hp : IsPrime p) (h : p ∣ a * b) : p ∣ a ∨ p ∣ b := by
  by_cases ha : p ∣ a
  · exact .inl ha
  · exact .inr (Nat.Coprime.dvd_of_dvd_mul_left (prime_coprime hp ha) h)

/-! the binomial sum -/
def choose : Nat → Nat → Nat
  | _, 0 => 1
  | 0, _ + 1 => 0
  | n + 1, k + 1 => choose n k + choose n (k + 1)
theorem choose_mul (n : Nat) : ∀ k, (k + 1) * choose (n + 1) (k + 1) = (n + 1) * choose n k := by
  induction n with
  | zero =>
    intro k
    cases k with
    | zero => rfl
    | succ k => simp [choose]
  | succ n ih =>
    intro k
    cases k with
    | zero =>
      have := ih 0
      simp [choose] at this ⊢
      omega
    | succ k =>
      have h1 := ih k
      have h2 := ih (k + 1)
      have e : choose (n + 2) (k + 2) = choose (n + 1) (k + 1) + choose (n + 1) (k + 2) := rfl
      have e2 : choose (n + 1) (k + 1) = choose n k + choose n (k + 1) := rfl
      rw [e, Nat.mul_add, h2, show k + 1 + 1 = (k + 1) + 1 from rfl, Nat.add_mul (k + 1) 1, h1, Nat.one_mul, show n + 1 + 1 = (n + 1) + 1 from rfl, Nat.add_mul (n + 1) 1, Nat.one_mul, e2, Nat.mul_add]
      omega
theorem choose_gt (n : Nat) : ∀ k, n < k → choose n k = 0 := by
  induction n with
  | zero => intro k hk; cases k with | zero => omega | succ k => rfl
  | succ n ih =>
    intro k hk
    cases k with
    | zero => omega
    | succ k => rw [choose, ih k (by omega), ih (k + 1) (by omega)]
theorem choose_self (n : Nat) : choose n n = 1 := by
  induction n with
  | zero => rfl
  | succ n ih => rw [choose, ih, choose_gt n (n + 1) (by omega)]
def bsum (f : Nat → Nat) : Nat → Nat
  | 0 => f 0
  | m + 1 => bsum f m + f (m + 1)
theorem bsum_step (n a : Nat) : ∀ m, bsum (fun k => choose (n + 1) k * a ^ k) (m + 1) = a * bsum (fun k => choose n k * a ^ k) m + bsum (fun k => choose n k * a ^ k) (m + 1) := by
  intro m
  induction m with
  | zero =>
    cases n with
    | zero => simp [bsum, choose]; omega
    | succ n => simp [bsum, choose, Nat.add_mul]; omega
  | succ m ih =>
    rw [bsum, ih, bsum.eq_2 (fun k => choose n k * a ^ k) m, bsum.eq_2 (fun k => choose n k * a ^ k) (m + 1), Nat.mul_add]
    have e : choose (n + 1) (m + 1 + 1) = choose n (m + 1) + choose n (m + 1 + 1) := rfl
    rw [e, Nat.add_mul]
    have e2 : choose n (m + 1) * a ^ (m + 1 + 1) = a * (choose n (m + 1) * a ^ (m + 1)) := by rw [Nat.pow_succ a (m + 1), ← Nat.mul_assoc, Nat.mul_comm _ a]
    rw [e2]
    rw [bsum.eq_2 (fun k => choose n k * a ^ k) m]
    omega
theorem binom (a n : Nat) : (a + 1) ^ n = bsum (fun k => choose n k * a ^ k) n := by
  induction n with
  | zero => simp [bsum, choose]
  | succ n ih =>
    rw [bsum_step, bsum, choose_gt n (n + 1) (by omega), Nat.zero_mul, Nat.pow_succ, ih, Nat.mul_add, Nat.mul_one, Nat.mul_comm a]
    rfl
theorem prime_choose {p : Nat} (hp : IsPrime p) (k : Nat) (h0 : 0 < k) (h1 : k < p) : p ∣ choose p k := by
  obtain ⟨p', rfl⟩ : ∃ p', p = p' + 1 := ⟨p - 1, by have := hp.1; omega⟩
  obtain ⟨k', rfl⟩ : ∃ k', k = k' + 1 := ⟨k - 1, by omega⟩
  have h := choose_mul p' k'
  rcases prime_dvd_mul hp (show p' + 1 ∣ (k' + 1) * choose (p' + 1) (k' + 1) from ⟨_, h⟩) with h2 | h2
  · have := Nat.le_of_dvd (by omega) h2; omega
  · exact h2
theorem bsum_mod (f : Nat → Nat) (p : Nat) : ∀ m, (∀ k, 0 < k → k ≤ m → p ∣ f k) → bsum f m % p = f 0 % p := by
  intro m
  induction m with
  | zero => intro _; rfl
  | succ m ih =>
    intro h
    rw [bsum, Nat.add_mod, ih fun k h0 h1 => h k h0 (by omega), Nat.mod_eq_zero_of_dvd (h (m + 1) (by omega) (by omega)), Nat.add_zero, Nat.mod_mod]
theorem fermat_succ {p : Nat} (hp : IsPrime p) (a : Nat) : (a + 1) ^ p % p = (a ^ p + 1) % p := by
  have h2 := hp.1
  obtain ⟨p', hp'⟩ : ∃ p', p = p' + 1 := ⟨p - 1, by omega⟩
  rw [binom]
  have hb : bsum (fun k => choose p k * a ^ k) p = bsum (fun k => choose p k * a ^ k) p' + a ^ p := by
    conv => lhs; rw [hp']
    rw [bsum, ← hp', choose_self, Nat.one_mul]
  rw [hb, Nat.add_mod, bsum_mod _ p p' fun k h0 h1 => Nat.dvd_trans (prime_choose hp k h0 (by omega)) (Nat.dvd_mul_right _ _)]
  rw [← Nat.add_mod]
  have : choose p 0 = 1 := by cases p <;> rfl
  rw [this, Nat.pow_zero, Nat.mul_one, Nat.add_comm]
theorem fermat {p : Nat} (hp : IsPrime p) (a : Nat) : a ^ p % p = a % p := by
  induction a with
  | zero => rw [Nat.zero_pow (by have := hp.1; omega)]
  | succ a ih => rw [fermat_succ hp, Nat.add_mod, ih, ← Nat.add_mod]
theorem fermat1 {p a : Nat} (hp : IsPrime p) (h : ¬ p ∣ a) : a ^ (p - 1) % p = 1 := by
  have h2 := hp.1
  have hf := fermat hp a
  have ha : 0 < a := Nat.pos_of_ne_zero fun e => h (e ▸ Nat.dvd_zero p)
  have h1 : 1 ≤ a ^ (p - 1) := by have := Nat.pow_le_pow_left ha (p - 1); rwa [Nat.one_pow] at this
  have e : a ^ p = a * a ^ (p - 1) := by
    obtain ⟨p', rfl⟩ : ∃ p', p = p' + 1 := ⟨p - 1, by omega⟩
    rw [Nat.pow_succ, Nat.mul_comm, Nat.add_sub_cancel]
  have hd : p ∣ a * (a ^ (p - 1) - 1) := by
    rw [Nat.mul_sub, Nat.mul_one, ← e]
    exact Nat.dvd_of_mod_eq_zero (Nat.sub_mod_eq_zero_of_mod_eq hf)
  rcases prime_dvd_mul hp hd with h3 | h3
  · exact absurd h3 h
  · obtain ⟨c, hc⟩ := h3
    have : a ^ (p - 1) = 1 + p * c := by omega
    rw [this, Nat.add_mul_mod_self_left, Nat.mod_eq_of_lt (by omega)]

/-! powers modulo a number -/
theorem pow_gcd {d b : Nat} (hd : 2 ≤ d) : ∀ m k, b ^ m % d = 1 → b ^ k % d = 1 → b ^ Nat.gcd m k % d = 1 := by
  intro m
  induction m using Nat.strongRecOn with
  | ind m ih =>
    intro k hm hk
    cases m with
    | zero => rw [Nat.gcd_zero_left]; exact hk
    | succ m =>
      rw [Nat.gcd_succ]
      refine ih _ (Nat.mod_lt _ (by omega)) _ ?_ hm
      have e : b ^ k = (b ^ (m + 1)) ^ (k / (m + 1)) * b ^ (k % (m + 1)) := by rw [← Nat.pow_mul, ← Nat.pow_add, Nat.div_add_mod]
      rw [e, Nat.mul_mod, Nat.pow_mod, hm, Nat.one_pow, Nat.mod_eq_of_lt (show 1 < d by omega), Nat.one_mul, Nat.mod_mod] at hk
      exact hk
def pm (m : Nat) : Nat → Nat → Nat → Nat → Nat
  | 0, _, _, acc => acc
  | f + 1, a, n, acc => if n = 0 then acc else pm m f (a * a % m) (n / 2) (if n % 2 = 1 then acc * a % m else acc)
theorem pm_eq (m : Nat) : ∀ f a n acc, n < 2 ^ f → pm m f a n acc % m = acc * a ^ n % m := by
  intro f
  induction f with
  | zero =>
    intro a n acc h
    have h0 : n = 0 := by simpa using h
    subst h0
    show acc % m = _
    rw [Nat.pow_zero, Nat.mul_one]
  | succ f ih =>
    intro a n acc h
    rw [pm]
    by_cases h0 : n = 0
    · rw [if_pos h0, h0]; simp
    · rw [if_neg h0, ih _ _ _ (by rw [Nat.pow_succ] at h; omega)]
      have e : a ^ n = (a * a) ^ (n / 2) * a ^ (n % 2) := by
        rw [show a * a = a ^ 2 by rw [Nat.pow_succ, Nat.pow_one], ← Nat.pow_mul, ← Nat.pow_add, Nat.div_add_mod]
      have e2 : (a * a % m) ^ (n / 2) % m = (a * a) ^ (n / 2) % m := (Nat.pow_mod _ _ _).symm
      rw [e]
      by_cases h1 : n % 2 = 1
      · rw [if_pos h1, h1, Nat.pow_one, Nat.mul_mod, Nat.mod_mod, e2, ← Nat.mul_mod]
        congr 1
        rw [Nat.mul_assoc, Nat.mul_comm a]
      · have h2 : n % 2 = 0 := by omega
        rw [if_neg h1, h2, Nat.pow_zero, Nat.mul_one, Nat.mul_mod, e2, ← Nat.mul_mod]

/-! tests for primes -/
theorem prime_factor : ∀ n, 2 ≤ n → ∃ p, IsPrime p ∧ p ∣ n := by
  intro n
  induction n using Nat.strongRecOn with
  | ind n ih =>
    intro hn
    by_cases hp : IsPrime n
    · exact ⟨n, hp, Nat.dvd_refl n⟩
    · have : ∃ d, d ∣ n ∧ d ≠ 1 ∧ d ≠ n := by
        apply Classical.byContradiction
        intro h
        refine hp ⟨hn, fun d hd => Classical.byContradiction fun h2 => h ⟨d, hd, fun e => h2 (.inl e), fun e => h2 (.inr e)⟩⟩
      obtain ⟨d, hd, h1, h2⟩ := this
      have hle := Nat.le_of_dvd (by omega) hd
      have h0 : d ≠ 0 := fun e => by rw [e] at hd; have := Nat.eq_zero_of_zero_dvd hd; omega
      obtain ⟨p, hp, hpd⟩ := ih d (by omega) (by omega)
      exact ⟨p, hp, Nat.dvd_trans hpd hd⟩
theorem small_factor {n : Nat} (hn : 2 ≤ n) (h : ¬ IsPrime n) : ∃ p, IsPrime p ∧ p ∣ n ∧ p * p ≤ n := by
  have : ∃ d, d ∣ n ∧ d ≠ 1 ∧ d ≠ n := by
    apply Classical.byContradiction
    intro h'
    exact h ⟨hn, fun d hd => Classical.byContradiction fun h2 => h' ⟨d, hd, fun e => h2 (.inl e), fun e => h2 (.inr e)⟩⟩
  obtain ⟨d, ⟨e, he⟩, h1, h2⟩ := this
  have hd0 : d ≠ 0 := fun z => by rw [z, Nat.zero_mul] at he; omega
  have he0 : e ≠ 0 := fun z => by rw [z, Nat.mul_zero] at he; omega
  have he1 : e ≠ 1 := fun z => by rw [z, Nat.mul_one] at he; exact h2 he.symm
  by_cases hc : d ≤ e
  · obtain ⟨p, hp, hpd⟩ := prime_factor d (by omega)
    have hl := Nat.le_of_dvd (by omega) hpd
    refine ⟨p, hp, Nat.dvd_trans hpd ⟨e, he⟩, ?_⟩
    rw [he]; exact Nat.mul_le_mul hl (by omega)
  · obtain ⟨p, hp, hpd⟩ := prime_factor e (by omega)
    have hl := Nat.le_of_dvd (by omega) hpd
    refine ⟨p, hp, Nat.dvd_trans hpd ⟨d, by rw [he, Nat.mul_comm]⟩, ?_⟩
    rw [he]; exact Nat.mul_le_mul (by omega) hl
/-- Pocklington's test. -/
theorem pock {n q r a : Nat} (hq : IsPrime q) (hn : 2 ≤ n) (hr : n - 1 = q * r) (hs : n ≤ q * q) (h1 : a ^ (n - 1) % n = 1) (h2 : Nat.gcd (a ^ r % n + (n - 1)) n = 1) : IsPrime n := by
  apply Classical.byContradiction
  intro hnp
  obtain ⟨d, hd, ⟨e, hdn⟩, hdd⟩ := small_factor hn hnp
  have hd2 := hd.1
  have h1d : a ^ (n - 1) % d = 1 := by
    have := congrArg (· % d) h1
    simp only [hdn, Nat.mod_mul_right_mod] at this
    rw [← hdn] at this
    rw [this, Nat.mod_eq_of_lt (by omega)]
  have hb : (a ^ r) ^ q % d = 1 := by rw [← Nat.pow_mul, Nat.mul_comm r q, ← hr]; exact h1d
  have hcop : ¬ d ∣ a ^ r := by
    intro h
    have hz : (a ^ r) ^ q % d = 0 := Nat.mod_eq_zero_of_dvd (Nat.dvd_trans h (by
      obtain ⟨q', hq'⟩ : ∃ q', q = q' + 1 := ⟨q - 1, by have := hq.1; omega⟩
      rw [hq', Nat.pow_succ]; exact Nat.dvd_mul_left _ _))
    omega
  have hf := fermat1 hd hcop
  have hg := pow_gcd hd2 q (d - 1) hb hf
  have hbne : a ^ r % d ≠ 1 := by
    intro h
    have hdiv : d ∣ Nat.gcd (a ^ r % n + (n - 1)) n := by
      refine Nat.dvd_gcd ?_ ⟨e, hdn⟩
      apply Nat.dvd_of_mod_eq_zero
      have e1 : a ^ r % n % d = 1 := by
        conv => lhs; rw [hdn]
        rw [Nat.mod_mul_right_mod]; exact h
      have e2 : (1 + (n - 1)) % d = 0 := by rw [show 1 + (n - 1) = n by omega]; exact Nat.mod_eq_zero_of_dvd ⟨e, hdn⟩
      rw [Nat.add_mod, e1]
      rw [Nat.add_mod, Nat.mod_eq_of_lt (show 1 < d by omega)] at e2
      exact e2
    rw [h2] at hdiv
    have := Nat.le_of_dvd (by omega) hdiv
    omega
  by_cases hqd : q ∣ d - 1
  · have := Nat.le_of_dvd (by omega) hqd
    have h3 : q * q < d * d := Nat.mul_lt_mul'' (by omega) (by omega)
    omega
  · rw [prime_coprime hq hqd, Nat.pow_one] at hg
    exact hbne hg
def noDiv (n : Nat) : Nat → Nat → Bool
  | 0, _ => true
  | f + 1, d => (n % d != 0) && noDiv n f (d + 1)
theorem noDiv_spec {n : Nat} : ∀ f d, noDiv n f d = true → ∀ x, d ≤ x → x < d + f → ¬ x ∣ n := by
  intro f
  induction f with
  | zero => intro d _ x h1 h2; omega
  | succ f ih =>
    intro d h x h1 h2 hx
    rw [noDiv, Bool.and_eq_true, bne_iff_ne] at h
    by_cases e : x = d
    · rw [e] at hx; exact h.1 (Nat.mod_eq_zero_of_dvd hx)
    · exact ih (d + 1) h.2 x (by omega) (by omega) hx
theorem trial {n f : Nat} (hn : 2 ≤ n) (hf : n < (f + 2) * (f + 2)) (h : noDiv n f 2 = true) : IsPrime n := by
  apply Classical.byContradiction
  intro hnp
  obtain ⟨d, hd, hdn, hdd⟩ := small_factor hn hnp
  refine noDiv_spec f 2 h d hd.1 ?_ hdn
  rcases Nat.lt_or_ge d (2 + f) with h | h
  · exact h
  · have := Nat.mul_le_mul h h
    rw [show 2 + f = f + 2 by omega] at this
    omega
theorem pock' {n q r a : Nat} (hq : IsPrime q) (hn : 2 ≤ n) (hr : n - 1 = q * r) (hs : n ≤ q * q) (hp : n - 1 < 2 ^ 64 ∧ r < 2 ^ 64) (h1 : pm n 64 a (n - 1) 1 % n = 1) (h2 : Nat.gcd (pm n 64 a r 1 % n + (n - 1)) n = 1) : IsPrime n := by
  refine pock hq hn hr hs ?_ ?_ (a := a)
  · rw [pm_eq _ _ _ _ _ hp.1, Nat.one_mul] at h1; exact h1
  · rw [pm_eq _ _ _ _ _ hp.2, Nat.one_mul] at h2; exact h2
theorem prime_a : IsPrime 95189 := trial (f := 310) (by decide) (by decide) (by decide +kernel)
theorem prime_b : IsPrime 2835870689 := pock' (q := 95189) (r := 29792) (a := 2) prime_a (by decide) (by decide) (by decide) (by decide) (by decide +kernel) (by decide +kernel)
theorem prime_c : IsPrime 5671741379 := pock' (q := 2835870689) (r := 2) (a := 2) prime_b (by decide) (by decide) (by decide) (by decide) (by decide +kernel) (by decide +kernel)
theorem prime_d : IsPrime 288230376151711447 := pock' (q := 5671741379) (r := 50818674) (a := 2) prime_c (by decide) (by decide) (by decide) (by decide) (by decide +kernel) (by decide +kernel)
def order : Nat := 1152921504606845789
def prime : Nat := 2305843009213691579
theorem prime_order : IsPrime 1152921504606845789 := pock' (q := 288230376151711447) (r := 4) (a := 2) prime_d (by decide) (by decide) (by decide) (by decide) (by decide +kernel) (by decide +kernel)
theorem prime_prime : IsPrime 2305843009213691579 := pock' (q := 1152921504606845789) (r := 2) (a := 2) prime_order (by decide) (by decide) (by decide) (by decide) (by decide +kernel) (by decide +kernel)
end Go.Proofs.YtklikkmnemooeaaDoor.NT

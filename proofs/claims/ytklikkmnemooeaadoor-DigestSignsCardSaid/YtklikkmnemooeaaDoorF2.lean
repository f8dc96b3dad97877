/- The laws of the group of powers of 4 modulo a prime P = 2 Q + 1, Q prime. Plain numbers alone. -/
import Derived.Test.YtklikkmnemooeaaDoorF1
namespace Go.Proofs.YtklikkmnemooeaaDoor.NT
section
variable {P Q : Nat} (hP : IsPrime P) (hQ : IsPrime Q) (hPQ : P = 2 * Q + 1) (h5 : 5 < P)
include hP h5
omit hP h5 in
theorem not_dvd {P a : Nat} (h0 : 1 ≤ a) (h1 : a < P) : ¬ P ∣ a := fun h => by have := Nat.le_of_dvd (by omega) h; omega
theorem pow_dvd_not {a : Nat} (h : ¬ P ∣ a) (n : Nat) : ¬ P ∣ a ^ n := by
  induction n with
  | zero => rw [Nat.pow_zero]; exact fun h => by have := Nat.le_of_dvd (by omega) h; omega
  | succ n ih =>
    rw [Nat.pow_succ]
    intro h2
    rcases prime_dvd_mul hP h2 with h3 | h3
    · exact ih h3
    · exact h h3
theorem pow_pos_mod {a : Nat} (h : ¬ P ∣ a) (n : Nat) : 1 ≤ a ^ n % P ∧ a ^ n % P < P := by
  have h1 := pow_dvd_not hP h5 h n
  have h2 : a ^ n % P < P := Nat.mod_lt _ (by omega)
  refine ⟨?_, h2⟩
  rcases Nat.eq_zero_or_pos (a ^ n % P) with h3 | h3
  · exact absurd (Nat.dvd_of_mod_eq_zero h3) h1
  · exact h3
omit hP in
theorem four : ¬ P ∣ 4 := not_dvd (by omega) (by omega)
omit hP h5 in
theorem pow_mod_mod (P a n : Nat) : (a % P) ^ n % P = a ^ n % P := (Nat.pow_mod a n P).symm
include hPQ in
theorem four_order : 4 ^ Q % P = 1 := by
  have h := fermat1 hP (not_dvd (a := 2) (by omega) (by omega))
  have e : (4 : Nat) ^ Q = 2 ^ (P - 1) := by
    rw [show (4 : Nat) = 2 ^ 2 from rfl, ← Nat.pow_mul, show P - 1 = 2 * Q by omega]
  rw [e]; exact h
include hPQ hQ in
theorem four_ne {x : Nat} (h0 : 0 < x) (h1 : x < Q) : 4 ^ x % P ≠ 1 := by
  intro h
  have hg := pow_gcd (d := P) (b := 4) (by omega) Q x (four_order hP hPQ h5) h
  rw [prime_coprime hQ (fun hd => by have := Nat.le_of_dvd h0 hd; omega), Nat.pow_one, Nat.mod_eq_of_lt (by omega)] at hg
  omega
/-- an inverse: a power of P - 2 -/
theorem inverse {a : Nat} (h : ¬ P ∣ a) : a * (a ^ (P - 2) % P) % P = 1 := by
  have hf := fermat1 hP h
  have e : a * a ^ (P - 2) = a ^ (P - 1) := by rw [Nat.mul_comm, ← Nat.pow_succ, show (P - 2).succ = P - 1 by omega]
  rw [Nat.mul_mod, Nat.mod_mod, ← Nat.mul_mod, e]
  exact hf
include hPQ hQ in
/-- keys are valid -/
theorem key_valid {x : Nat} (h0 : 0 < x) (h1 : x < Q) : 1 < 4 ^ x % P ∧ 4 ^ x % P < P ∧ (4 ^ x % P) ^ Q % P = 1 := by
  have h := pow_pos_mod hP h5 (four h5) x
  have hn := four_ne hP hQ hPQ h5 h0 h1
  refine ⟨by omega, h.2, ?_⟩
  rw [pow_mod_mod, ← Nat.pow_mul, Nat.mul_comm, Nat.pow_mul, ← pow_mod_mod, four_order hP hPQ h5, Nat.one_pow]
  exact Nat.mod_eq_of_lt (by omega)
omit hP h5 in
theorem shared (P x y : Nat) : (4 ^ y % P) ^ x % P = (4 ^ x % P) ^ y % P := by
  rw [pow_mod_mod, pow_mod_mod, ← Nat.pow_mul, ← Nat.pow_mul, Nat.mul_comm]
include hPQ in
theorem four_mod (n : Nat) : 4 ^ (n % Q) % P = 4 ^ n % P := by
  have e : (4 : Nat) ^ n = (4 ^ Q) ^ (n / Q) * 4 ^ (n % Q) := by rw [← Nat.pow_mul, ← Nat.pow_add, Nat.div_add_mod]
  have e2 : (4 ^ Q) ^ (n / Q) % P = 1 := by rw [← pow_mod_mod P (4 ^ Q), four_order hP hPQ h5, Nat.one_pow]; exact Nat.mod_eq_of_lt (by omega)
  rw [e, Nat.mul_mod, e2, Nat.one_mul, Nat.mod_mod]
include hPQ in
/-- a signature belongs to its key -/
theorem signed (x n e : Nat) : (4 ^ ((n + x * e % Q) % Q) % P) * (((4 ^ x % P) ^ e % P) ^ (P - 2) % P) % P = 4 ^ n % P := by
  have e1 : 4 ^ ((n + x * e % Q) % Q) % P = 4 ^ (n + x * e) % P := by
    have h1 := four_mod hP hPQ h5 (n + x * e)
    rw [← h1, Nat.add_mod n (x * e % Q), Nat.mod_mod, ← Nat.add_mod]
  have e2 : (4 ^ x % P) ^ e % P = 4 ^ (x * e) % P := by rw [pow_mod_mod, ← Nat.pow_mul]
  have hf := fermat1 hP (pow_dvd_not hP h5 (four h5) (x * e))
  have e3 : 4 ^ (x * e) * (4 ^ (x * e)) ^ (P - 2) = (4 ^ (x * e)) ^ (P - 1) := by rw [Nat.mul_comm, ← Nat.pow_succ, show (P - 2).succ = P - 1 by omega]
  rw [e1, e2, pow_mod_mod, ← Nat.mul_mod, Nat.pow_add, Nat.mul_assoc, e3, Nat.mul_mod, hf, Nat.mul_one, Nat.mod_mod]
end
end Go.Proofs.YtklikkmnemooeaaDoor.NT

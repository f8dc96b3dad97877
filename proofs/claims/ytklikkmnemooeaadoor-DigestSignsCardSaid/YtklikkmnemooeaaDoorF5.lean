/- The facts of Div64's walk at Prime, over whole numbers. Plain numbers alone. -/
import Derived.Test.YtklikkmnemooeaaDoorF4
import Derived.IntWalk
import Derived.Laws.BitsAllLaws
namespace Go.Proofs.YtklikkmnemooeaaDoor.Ord
theorem wrapu (x : Nat) (h : x < 18446744073709551616) : IntKind.u64.wrap (x : Int) = (x : Int) := by rw [IntKind.wrap_u64]; omega
theorem wrapi (x : Int) (h0 : 0 ≤ x) (h : x < 18446744073709551616) : IntKind.u64.wrap x = x := by rw [IntKind.wrap_u64]; omega
theorem digit_le (q u r : Nat) (h : q * 4294967295 + r = u) (hu : u < 18446744073709551616) : IntKind.u64.wrap ((q : Int) * 4294967295) = (q : Int) * 4294967295 := by
  rw [show (q : Int) * 4294967295 = ((q * 4294967295 : Nat) : Int) from (Int.natCast_mul q 4294967295).symm, wrapu _ (by omega)]
theorem digit_rest (q u r : Nat) (h : q * 4294967295 + r = u) (hr : r < 4294967295) : IntKind.u64.wrap ((u : Int) - (q : Int) * 4294967295) = (r : Int) := by
  rw [← wrapu r (by omega)]; congr 1; omega
theorem or8 (hi t : Nat) (h1 : hi < 1152921504606845789) (ht : t < 16) : bits .or .u64 ((hi : Int) * 16) (t : Int) = ((hi * 16 + t : Nat) : Int) := by
  rw [show (hi : Int) * 16 = ((hi * 16 : Nat) : Int) by omega, u64_or_nat _ _ (by omega) (by omega), nat_join 4 _ _ (by omega) (by omega)]
theorem and32 (x : Nat) (hx : x < 18446744073709551616) : bits .and .u64 (x : Int) 4294967295 = ((x % 4294967296 : Nat) : Int) := by
  rw [show (4294967295 : Int) = ((4294967295 : Nat) : Int) from rfl, u64_and_nat _ _ hx (by decide)]
  rw [show (4294967295 : Nat) = 2 ^ 32 - 1 from rfl, Nat.and_two_pow_sub_one_eq_mod]
abbrev YY : Nat := 18446744073709532624
/-- a place in the search of a digit -/
def DZ (U A Q R : Int) : Prop := ∃ u a q r : Nat, U = u ∧ A = a ∧ Q = q ∧ R = r ∧ u < YY ∧ a < 4294967296 ∧ r < 4294967296 ∧ NT.Dig 4294967296 YY 4294967295 u a q r
/-- the digit -/
def DE (U A Q : Int) : Prop := ∃ u a : Nat, U = u ∧ A = a ∧ u < YY ∧ a < 4294967296 ∧ Q = ((u * 4294967296 + a) / YY : Nat)
section
variable {U A Q R : Int}
theorem YY_eq : YY = 4294967295 * 4294967296 + 4294948304 := by decide
theorem dz_start (u a : Nat) (hu : u < YY) (ha : a < 4294967296) : DZ u a ((u / 4294967295 : Nat)) ((u % 4294967295 : Nat)) :=
  ⟨u, a, _, _, rfl, rfl, rfl, rfl, hu, ha, Nat.lt_of_lt_of_le (Nat.mod_lt _ (by decide)) (by decide), NT.dig_start (y0 := 4294948304) YY_eq (by decide) ha⟩
theorem dz_bound (h : DZ U A Q R) : 0 ≤ Q ∧ Q ≤ 4294967297 ∧ 0 ≤ R ∧ R < 4294967296 ∧ 0 ≤ A ∧ A < 4294967296 := by
  obtain ⟨u, a, q, r, rfl, rfl, rfl, rfl, hu, ha, hr, hd⟩ := h
  have := NT.dig_bound (y0 := 4294948304) YY_eq (by decide) (by decide) hu hd
  omega
theorem dz_hard (h : DZ U A Q R) : (4294967296 ≤ Q ∨ 4294967296 * R + A < Q * 4294948304) → 0 < Q ∧ (R + 4294967295 < 4294967296 → DZ U A (Q - 1) (R + 4294967295)) ∧ (4294967296 ≤ R + 4294967295 → DE U A (Q - 1)) := by
  intro hc
  obtain ⟨u, a, q, r, rfl, rfl, rfl, rfl, hu, ha, hr, hd⟩ := h
  have hc2 : 4294967296 ≤ q ∨ 4294967296 * r + a < q * 4294948304 := by omega
  have hq := (NT.dig_up (y0 := 4294948304) YY_eq hu ha hd hc2).1
  refine ⟨by omega, fun h1 => ⟨u, a, q - 1, r + 4294967295, rfl, rfl, by omega, by omega, hu, ha, by omega, NT.dig_step YY_eq hu ha hd hc2⟩, fun h1 => ⟨u, a, rfl, rfl, hu, ha, ?_⟩⟩
  rw [← NT.dig_break (y0 := 4294948304) YY_eq (by decide) (by decide) hu ha hd hc2 (by omega)]
  omega
theorem dz_end (h : DZ U A Q R) (hc : Q * 4294948304 ≤ 4294967296 * R + A) : DE U A Q := by
  obtain ⟨u, a, q, r, rfl, rfl, rfl, rfl, hu, ha, hr, hd⟩ := h
  refine ⟨u, a, rfl, rfl, hu, ha, ?_⟩
  rw [← NT.dig_end (y0 := 4294948304) YY_eq (by decide) hd (by omega)]
theorem wd1 (h : DZ U A Q R) (hq : 0 < Q) : IntKind.u64.wrap (Q - 1) = Q - 1 := by have := dz_bound h; exact wrapi _ (by omega) (by omega)
theorem wd2 (h : DZ U A Q R) : IntKind.u64.wrap (R + 4294967295) = R + 4294967295 := by have := dz_bound h; exact wrapi _ (by omega) (by omega)
theorem wd3 (h : DZ U A Q R) (hq : Q < 4294967296) : IntKind.u64.wrap (Q * 4294948304) = Q * 4294948304 := by have := dz_bound h; exact wrapi _ (by omega) (by omega)
theorem wd4 (h : DZ U A Q R) : IntKind.u64.wrap (4294967296 * R) = 4294967296 * R := by have := dz_bound h; exact wrapi _ (by omega) (by omega)
theorem wd5 (h : DZ U A Q R) : IntKind.u64.wrap (4294967296 * R + A) = 4294967296 * R + A := by have := dz_bound h; exact wrapi _ (by omega) (by omega)
/-- what is left of the number behind a digit -/
theorem w_rest (h : DE U A Q) : ∃ N : Nat, IntKind.u64.wrap (IntKind.u64.wrap (IntKind.u64.wrap (U * 4294967296) + A) - IntKind.u64.wrap (Q * 18446744073709532624)) = (N : Int) ∧ N < YY ∧ ∃ u a : Nat, U = u ∧ A = a ∧ N = (u * 4294967296 + a) % YY := by
  obtain ⟨u, a, rfl, rfl, hu, ha, rfl⟩ := h
  refine ⟨(u * 4294967296 + a) % YY, ?_, Nat.mod_lt _ (by decide), u, a, rfl, rfl, rfl⟩
  have e := Nat.div_add_mod (u * 4294967296 + a) YY
  have hl : (u * 4294967296 + a) % YY < YY := Nat.mod_lt _ (by decide)
  generalize (u * 4294967296 + a) % YY = n at *
  generalize (u * 4294967296 + a) / YY = q at *
  simp only [IntKind.wrap_u64]
  have e2 : (u : Int) * 4294967296 + a - q * 18446744073709532624 = n := by unfold YY at e; omega
  have h3 : ((u : Int) * 4294967296 % 18446744073709551616 + a) % 18446744073709551616 = ((u : Int) * 4294967296 + a) % 18446744073709551616 := by rw [Int.emod_add_emod]
  rw [h3, ← Int.sub_emod, e2]
  unfold YY at hl
  omega
theorem quo2 (x B a Y : Nat) (hY : 0 < Y) : x / Y * B + (x % Y * B + a) / Y = (x * B + a) / Y := by
  have e := Nat.div_add_mod x Y
  generalize x % Y = m at *
  generalize x / Y = q at *
  rw [← e, Nat.add_mul, Nat.mul_assoc, Nat.add_assoc, Nat.mul_add_div hY]
theorem hn1 (hi lo l8 t a1 a0 : Nat) (e1 : 4294967296 * a1 + a0 = l8) (e2 : t * 18446744073709551616 + l8 = lo * 16) : ((hi * 16 + t) * 4294967296 + a1) * 4294967296 + a0 = (hi * 18446744073709551616 + lo) * 16 := by
  have e3 : ((hi * 16 + t) * 4294967296 + a1) * 4294967296 + a0 = (hi * 16 + t) * (4294967296 * 4294967296) + (4294967296 * a1 + a0) := by
    rw [Nat.add_mul, Nat.mul_assoc, Nat.add_assoc, Nat.mul_comm a1]
  rw [e3, e1, Nat.add_mul, Nat.add_assoc, show t * (4294967296 * 4294967296) + l8 = lo * 16 from e2, Nat.add_mul, Nat.mul_assoc, Nat.mul_assoc]
theorem hn2 (lo l8 t : Nat) (ht : t = lo / 1152921504606846976) (h8 : l8 = lo * 16 % 18446744073709551616) : t * 18446744073709551616 + l8 = lo * 16 := by omega
/-- both digits -/
theorem w_quo (hi lo l8 t u a1 a0 : Nat) (ht : t = lo / 1152921504606846976) (h8 : l8 = lo * 16 % 18446744073709551616) (hu : u = hi * 16 + t) (ha1 : a1 = l8 / 4294967296) (ha0 : a0 = l8 % 4294967296) :
    (u * 4294967296 + a1) / YY * 4294967296 + ((u * 4294967296 + a1) % YY * 4294967296 + a0) / YY = (hi * 18446744073709551616 + lo) / 1152921504606845789 ∧ ((u * 4294967296 + a1) % YY * 4294967296 + a0) % YY / 16 = (hi * 18446744073709551616 + lo) % 1152921504606845789 := by
  have hn : (u * 4294967296 + a1) * 4294967296 + a0 = (hi * 18446744073709551616 + lo) * 16 := by
    rw [hu]
    exact hn1 hi lo l8 t a1 a0 (by rw [ha1, ha0]; exact Nat.div_add_mod l8 4294967296) (hn2 lo l8 t ht h8)
  have hY : YY = 1152921504606845789 * 16 := by decide
  constructor
  · rw [quo2 _ _ _ _ (by decide), hn, hY]
    exact Nat.mul_div_mul_right _ _ (by decide)
  · rw [NT.two_digits, hn, hY]
    exact NT.shifted _ _ 4
theorem DE.at {U A Q : Int} (h : DE U A Q) (u a : Nat) (hu : U = u) (ha : A = a) : Q = ((u * 4294967296 + a) / YY : Nat) := by
  obtain ⟨u', a', hu', ha', _, _, e⟩ := h
  obtain rfl : u' = u := by omega
  obtain rfl : a' = a := by omega
  exact e
theorem rest_at {U A Q : Int} (h : DE U A Q) (u a M : Nat) (hu : U = u) (ha : A = a) (hM : M = (u * 4294967296 + a) % YY) : IntKind.u64.wrap (IntKind.u64.wrap (IntKind.u64.wrap (U * 4294967296) + A) - IntKind.u64.wrap (Q * 18446744073709532624)) = (M : Int) := by
  obtain ⟨N, e, _, u', a', hu', ha', e2⟩ := w_rest h
  obtain rfl : u' = u := by omega
  obtain rfl : a' = a := by omega
  rw [e, e2, hM]
theorem fin_rem (hi lo n a0 M R : Nat) (hq : (n * 4294967296 + a0) % YY / 16 = (hi * 18446744073709551616 + lo) % 1152921504606845789) (hM : M = (n * 4294967296 + a0) % YY) (hR : R = (hi * 18446744073709551616 + lo) % 1152921504606845789) : (M : Int) / 16 = (R : Int) := by
  rw [hR, ← hq, ← hM]; exact (Int.natCast_ediv M 16).symm
theorem fin_quo (x y z : Nat) (Q1 Q3 : Int) (d1 : Q1 = (x : Nat)) (d3 : Q3 = (y : Nat)) (h : x * 4294967296 + y = z) (hz : z < 18446744073709551616) : IntKind.u64.wrap (IntKind.u64.wrap (Q1 * 4294967296) + Q3) = (z : Int) := by
  subst d1 d3
  rw [wrapi ((x : Int) * 4294967296) (by omega) (by omega), wrapi _ (by omega) (by omega)]
  omega
theorem quo_lt (hi lo : Nat) (h1 : hi < 1152921504606845789) (h2 : lo < 18446744073709551616) : (hi * 18446744073709551616 + lo) / 1152921504606845789 < 18446744073709551616 := by
  rw [Nat.div_lt_iff_lt_mul (by decide)]
  have : (hi + 1) * 18446744073709551616 ≤ 1152921504606845789 * 18446744073709551616 := Nat.mul_le_mul_right _ h1
  rw [Nat.add_mul, Nat.one_mul] at this
  rw [Nat.mul_comm 18446744073709551616]
  exact Nat.lt_of_lt_of_le (Nat.add_lt_add_left h2 _) this
end
end Go.Proofs.YtklikkmnemooeaaDoor.Ord

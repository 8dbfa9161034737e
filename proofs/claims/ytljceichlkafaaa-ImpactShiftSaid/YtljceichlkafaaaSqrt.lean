/- Plain facts on the square root by bits. -/
import Derived.Test.YtljceichlkafaaaBase
import Derived.Test.YtljceichlkafaaaPImpactx4
namespace Go.Proofs.Ytljceichlkafaaa.Plain
open Go.RowKit Go.Proofs.YtljceichlkafaaaW.PrintWords Go.Proofs.YtljceichlkafaaaW.PrintLast Go.Proofs.Ytljceichlkafaaa.PImpact

/-- The product of two numbers of 64 bits, as two of them. -/
theorem mul64 (a b : Int) (ha0 : 0 ≤ a) (ha : a < 18446744073709551616) (hb0 : 0 ≤ b) (hb : b < 18446744073709551616) :
    bits_Mul64.f a b = some (a * b / 18446744073709551616, a * b % 18446744073709551616) := by
  have hm := mul_halves a b ha0 ha hb0 hb
  have e1 := lo32 a ha0 ha
  have e2 := lo32 b hb0 hb
  have h11 := half_mul (x := a / 4294967296) (y := b / 4294967296) (by omega) (by omega) (by omega) (by omega)
  have h10 := half_mul (x := a / 4294967296) (y := b % 4294967296) (by omega) (by omega) (by omega) (by omega)
  have h01 := half_mul (x := a % 4294967296) (y := b / 4294967296) (by omega) (by omega) (by omega) (by omega)
  have h00 := half_mul (x := a % 4294967296) (y := b % 4294967296) (by omega) (by omega) (by omega) (by omega)
  unfold bits_Mul64.f
  rw [e1, e2]
  generalize (a / 4294967296) * (b / 4294967296) = p11 at *
  generalize (a / 4294967296) * (b % 4294967296) = p10 at *
  generalize (a % 4294967296) * (b / 4294967296) = p01 at *
  generalize (a % 4294967296) * (b % 4294967296) = p00 at *
  generalize a * b = p at *
  clear e1 e2
  simp only [wu64]
  rw [show p11 % 18446744073709551616 = p11 by omega, show p10 % 18446744073709551616 = p10 by omega, show p01 % 18446744073709551616 = p01 by omega, show p00 % 18446744073709551616 = p00 by omega]
  have ht : (p10 + p00 / 4294967296) % 18446744073709551616 = p10 + p00 / 4294967296 := by omega
  rw [ht, lo32 _ (by omega) (by omega)]
  congr 2
  omega
theorem mul_lt_sq {s t : Int} (h0 : 0 ≤ s) (h : s < t) : s * s < t * t := by
  have h1 : s * s ≤ s * t := Int.mul_le_mul_of_nonneg_left (by omega) h0
  have h2 : s * t < t * t := Int.mul_lt_mul_of_pos_right h (by omega)
  omega
theorem sq_le {s t : Int} (h0 : 0 ≤ s) (h : s ≤ t) : s * s ≤ t * t := by
  have h1 : s * s ≤ s * t := Int.mul_le_mul_of_nonneg_left h h0
  have h2 : s * t ≤ t * t := Int.mul_le_mul_of_nonneg_right h (by omega)
  omega
/-- Is a number's square above n? -/
theorem above_eq (s n : Int) (hs0 : 0 ≤ s) (hs : s < 18446744073709551616) (hn0 : 0 ≤ n) (hn : n < 18446744073709551616) :
    wide_above.f s 0 n = some (decide (s * s > n)) := by
  have hp : 0 ≤ s * s := Int.mul_nonneg hs0 hs0
  unfold wide_above.f
  rw [mul64 s s hs0 hs hs0 hs]
  simp only [Option.bind_some, wu64]
  generalize s * s = p at *
  by_cases h1 : p / 18446744073709551616 > 0 % 18446744073709551616
  · rw [if_pos h1]; congr 1; symm; apply decide_eq_true; omega
  · rw [if_neg h1]
    by_cases h2 : p / 18446744073709551616 = 0 % 18446744073709551616
    · rw [if_pos h2]; congr 1
      have : p % 18446744073709551616 = p := by omega
      rw [this]
    · omega
/-- The loop of the root: bit by bit, from the highest one on. -/
theorem sqrt_loop (n : Int) (hn0 : 0 ≤ n) (hn : n < 18446744073709551616) : ∀ (j : Nat) (k : Nat) (s : Int), j ≤ 63 → j + 1 < k → 0 ≤ s → s % 2 ^ (j + 1) = 0 → s + 2 ^ (j + 1) ≤ 18446744073709551616 →
    s * s ≤ n → n < (s + 2 ^ (j + 1)) * (s + 2 ^ (j + 1)) → ∃ r, wide_Wide_Sqrt.l0 k s (2 ^ j) 0 n = some (r, true) ∧ 0 ≤ r ∧ r * r ≤ n ∧ n < (r + 1) * (r + 1) ∧ r < 18446744073709551616 := by
  intro j
  induction j with
  | zero =>
    intro k s hj hk hs0 hm hb hlo hhi
    obtain ⟨k, rfl⟩ : ∃ m, k = m + 2 := ⟨k - 2, by omega⟩
    have ho : Go.bits .or .u64 s 1 = s + 1 := bits_join .u64 64 (by decide) wraps_u64 1 s 1 hs0 (by simpa using hm) (by simp at hb; omega) (by decide) (by decide) (by decide)
    simp only [Nat.zero_add, Int.pow_zero, Int.pow_succ, Int.one_mul] at *
    simp only [wide_Wide_Sqrt.l0]
    rw [if_pos (by decide), ho, above_eq _ _ (by omega) (by omega) hn0 hn]
    simp only [Option.bind_some]
    by_cases h : (s + 1) * (s + 1) > n
    · rw [if_pos (by simpa using h), if_neg (by decide)]
      exact ⟨s, rfl, hs0, hlo, h, by omega⟩
    · rw [if_neg (by simpa using h), if_neg (by decide)]
      exact ⟨s + 1, rfl, by omega, by omega, by simpa [Int.add_assoc] using hhi, by omega⟩
  | succ j ih =>
    intro k s hj hk hs0 hm hb hlo hhi
    obtain ⟨k, rfl⟩ : ∃ m, k = m + 1 := ⟨k - 1, by omega⟩
    have hp : (0 : Int) < 2 ^ j := Int.pow_pos (by decide)
    have e1 : (2 : Int) ^ (j + 1) = 2 * 2 ^ j := by rw [Int.pow_succ, Int.mul_comm]
    have e2 : (2 : Int) ^ (j + 1 + 1) = 4 * 2 ^ j := by rw [Int.pow_succ, e1]; omega
    have ho : Go.bits .or .u64 s (2 ^ (j + 1)) = s + 2 ^ (j + 1) := bits_join .u64 64 (by decide) wraps_u64 (j + 1 + 1) s _ hs0 hm (by omega) (by omega) (by omega) (by omega)
    have hd : (2 : Int) ^ (j + 1) / 2 = 2 ^ j := by omega
    have hm1 : s % 2 ^ (j + 1) = 0 := by
      rw [e2] at hm; rw [e1]
      have h4 : s = 4 * 2 ^ j * (s / (4 * 2 ^ j)) := by have := Int.emod_add_mul_ediv s (4 * 2 ^ j); omega
      rw [h4, show 4 * 2 ^ j * (s / (4 * 2 ^ j)) = 2 * 2 ^ j * (2 * (s / (4 * 2 ^ j))) by grind]
      exact Int.mul_emod_right _ _
    have hm2 : (s + 2 ^ (j + 1)) % 2 ^ (j + 1) = 0 := by rw [Int.add_emod_right]; exact hm1
    simp only [wide_Wide_Sqrt.l0]
    rw [if_pos (by omega), ho, above_eq _ _ (by omega) (by omega) hn0 hn, hd]
    simp only [Option.bind_some]
    by_cases h : (s + 2 ^ (j + 1)) * (s + 2 ^ (j + 1)) > n
    · rw [if_pos (by simpa using h)]
      exact ih k s (by omega) (by omega) hs0 hm1 (by omega) hlo h
    · rw [if_neg (by simpa using h)]
      exact ih k _ (by omega) (by omega) (by omega) hm2 (by omega) (by omega) (by rw [show s + 2 ^ (j + 1) + 2 ^ (j + 1) = s + 2 ^ (j + 1 + 1) by omega]; exact hhi)
end Go.Proofs.Ytljceichlkafaaa.Plain

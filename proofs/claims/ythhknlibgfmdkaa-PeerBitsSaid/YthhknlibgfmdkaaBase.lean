/- Plain facts on numbers of 64 bits: what wraps, what bits of them are. -/
import Derived.RowKit
import Derived.Laws.BitsLemmas
namespace Go.Proofs.Ythhknlibgfmdkaa.Plain
open Go.RowKit

theorem ilt_or_ge (a b : Int) : a < b ∨ b ≤ a := by omega
theorem w64 {x : Int} (h0 : -9223372036854775808 ≤ x) (h1 : x ≤ 9223372036854775807) : wrap64 x = x := by unfold wrap64; omega
theorem wrap64_range (x : Int) : -9223372036854775808 ≤ wrap64 x ∧ wrap64 x ≤ 9223372036854775807 := by unfold wrap64; omega
theorem wrap64_cong {x y : Int} (h : (x - y) % 18446744073709551616 = 0) : wrap64 x = wrap64 y := by unfold wrap64; omega
theorem wu64 (x : Int) : IntKind.u64.wrap x = x % 18446744073709551616 := by simp [IntKind.wrap, IntKind.bits, IntKind.signed]
theorem wu32 (x : Int) : IntKind.u32.wrap x = x % 4294967296 := IntKind.wrap_u32 x
theorem wu16 (x : Int) : IntKind.u16.wrap x = x % 65536 := by simp [IntKind.wrap, IntKind.bits, IntKind.signed]
theorem wf_i64 {x : Int} (h : (Lit.int .i64 x).wf = true) : -9223372036854775808 ≤ x ∧ x ≤ 9223372036854775807 := by
  have hmin : IntKind.i64.min = -9223372036854775808 := rfl
  have hmax : IntKind.i64.max = 9223372036854775807 := rfl
  simp only [Lit.wf, Bool.and_eq_true, decide_eq_true_eq] at h; omega
theorem wf_u64 {x : Int} (h : (Lit.int .u64 x).wf = true) : 0 ≤ x ∧ x ≤ 18446744073709551615 := by
  have hmin : IntKind.u64.min = 0 := rfl
  have hmax : IntKind.u64.max = 18446744073709551615 := rfl
  simp only [Lit.wf, Bool.and_eq_true, decide_eq_true_eq] at h; omega
theorem wf_u32 {x : Int} (h : (Lit.int .u32 x).wf = true) : 0 ≤ x ∧ x ≤ 4294967295 := by
  have hmin : IntKind.u32.min = 0 := rfl
  have hmax : IntKind.u32.max = 4294967295 := rfl
  simp only [Lit.wf, Bool.and_eq_true, decide_eq_true_eq] at h; omega
theorem wf_u16 {x : Int} (h : (Lit.int .u16 x).wf = true) : 0 ≤ x ∧ x ≤ 65535 := by
  have hmin : IntKind.u16.min = 0 := rfl
  have hmax : IntKind.u16.max = 65535 := rfl
  simp only [Lit.wf, Bool.and_eq_true, decide_eq_true_eq] at h; omega
theorem wraps_u64 (n : Int) (h0 : 0 ≤ n) (h1 : n < 2 ^ 64) : IntKind.u64.wrap n = n := by rw [wu64]; omega
/-- The lowest i bits of any number of 64 bits. -/
theorem and_mask (x : Int) (i : Nat) (hi : i ≤ 62) : Go.bits .and .i64 x (2 ^ i - 1) = x % 2 ^ i := by
  have hpos : 0 < 2 ^ i := Nat.two_pow_pos i
  have hle : 2 ^ i ≤ 4611686018427387904 := Nat.pow_le_pow_right (n := 2) (i := i) (j := 62) (by decide) hi
  have hc : ((2 : Int) ^ i - 1) = ((2 ^ i - 1 : Nat) : Int) := by rw [Int.natCast_sub hpos]; simp
  have hs : (2 ^ i - 1) % 2 ^ 64 = 2 ^ i - 1 := Nat.mod_eq_of_lt (by omega)
  have hz : ((2 ^ i : Nat) : Int) = (2 : Int) ^ i := by rw [Int.natCast_pow]; rfl
  have hip : (0 : Int) < 2 ^ i := by rw [← hz]; omega
  have hle2 : (2 : Int) ^ i ≤ 4611686018427387904 := by rw [← hz]; omega
  rw [hc]
  show IntKind.i64.wrap (((BitVec.ofInt 64 x &&& BitVec.ofInt 64 ((2 ^ i - 1 : Nat) : Int)).toNat : Nat) : Int) = _
  rw [BitVec.ofInt_natCast, BitVec.toNat_and, BitVec.toNat_ofNat, hs, Nat.and_two_pow_sub_one_eq_mod]
  have ht : ((BitVec.ofInt 64 x).toNat : Int) = x % 18446744073709551616 := by
    rw [BitVec.toNat_ofInt, Int.toNat_of_nonneg (Int.emod_nonneg _ (by decide))]; rfl
  have hm : (((BitVec.ofInt 64 x).toNat % 2 ^ i : Nat) : Int) = x % 2 ^ i := by
    rw [Int.natCast_emod, ht]
    have hd : ((2 ^ i : Nat) : Int) ∣ 18446744073709551616 := by
      have : (2 ^ i) ∣ (18446744073709551616 : Nat) := (Nat.pow_dvd_pow 2 (by omega) : 2 ^ i ∣ 2 ^ 64)
      exact Int.natCast_dvd_natCast.2 this
    rw [Int.emod_emod_of_dvd _ hd, hz]
  rw [hm, IntKind.wrap_i64]
  have h1 : x % 2 ^ i < 2 ^ i := Int.emod_lt_of_pos _ hip
  have h2 : 0 ≤ x % 2 ^ i := Int.emod_nonneg _ (by omega)
  omega
/-- The lower 32 bits of a number of 64 bits. -/
theorem lo32 (x : Int) (h0 : 0 ≤ x) (h1 : x < 18446744073709551616) : Go.bits .and .u64 x 4294967295 = x % 4294967296 :=
  bits_mask .u64 64 (by decide) wraps_u64 32 (by decide) x h0 h1
/-- The product of two numbers of 64 bits, by halves of them. -/
theorem mul_halves (a b : Int) (ha0 : 0 ≤ a) (ha : a < 18446744073709551616) (hb0 : 0 ≤ b) (hb : b < 18446744073709551616) :
    a * b = (a / 4294967296) * (b / 4294967296) * 18446744073709551616 + ((a / 4294967296) * (b % 4294967296) + (a % 4294967296) * (b / 4294967296)) * 4294967296 + (a % 4294967296) * (b % 4294967296) := by
  have e1 : a = (a / 4294967296) * 4294967296 + a % 4294967296 := by omega
  have e2 : b = (b / 4294967296) * 4294967296 + b % 4294967296 := by omega
  generalize a / 4294967296 = p at *
  generalize a % 4294967296 = q at *
  generalize b / 4294967296 = r at *
  generalize b % 4294967296 = s at *
  subst e1 e2
  grind
theorem half_mul {x y : Int} (hx0 : 0 ≤ x) (hx : x < 4294967296) (hy0 : 0 ≤ y) (hy : y < 4294967296) : 0 ≤ x * y ∧ x * y ≤ 18446744065119617025 := by
  refine ⟨Int.mul_nonneg hx0 hy0, ?_⟩
  have h1 : x * y ≤ 4294967295 * y := Int.mul_le_mul_of_nonneg_right (by omega) hy0
  omega
theorem mask10 (x : Int) : Go.bits .and .i64 x 1023 = x % 1024 := and_mask x 10 (by decide)
theorem mask30 (x : Int) : Go.bits .and .i64 x 1073741823 = x % 1073741824 := and_mask x 30 (by decide)
theorem mask8 (x : Int) : Go.bits .and .i64 x 255 = x % 256 := and_mask x 8 (by decide)
theorem tmod_bd (x m : Int) (hm : 0 < m) : -m < Int.tmod x m ∧ Int.tmod x m < m := by
  rcases Int.le_total 0 x with h | h
  · have a := Int.tmod_nonneg m h
    have b := Int.tmod_lt_of_pos x hm
    omega
  · obtain ⟨y, rfl⟩ : ∃ y, x = -y := ⟨-x, by omega⟩
    rw [Int.neg_tmod]
    have a := Int.tmod_nonneg m (a := y) (by omega)
    have b := Int.tmod_lt_of_pos y hm
    omega
/-- '1 + int64(uint64(g)%100)' -/
theorem g_eq (g : Int) : wrap64 (1 + wrap64 (Int.tmod (IntKind.u64.wrap g) 100)) = 1 + g % 18446744073709551616 % 100 := by
  rw [wu64, Int.tmod_eq_emod_of_nonneg (by omega), w64 (x := g % 18446744073709551616 % 100) (by omega) (by omega), w64 (by omega) (by omega)]
end Go.Proofs.Ythhknlibgfmdkaa.Plain

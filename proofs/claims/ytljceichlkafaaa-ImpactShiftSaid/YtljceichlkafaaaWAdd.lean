/- Plain facts on sums of numbers of 128 bits, and of 64. -/
import Derived.Test.YtljceichlkafaaaBase
import Derived.Test.YtljceichlkafaaaPImpactx4
import Derived.Test.YtljceichlkafaaaPImpactx6
namespace Go.Proofs.Ytljceichlkafaaa.Plain
open Go.RowKit Go.Proofs.YtljceichlkafaaaW.PrintWords Go.Proofs.YtljceichlkafaaaW.PrintLast Go.Proofs.Ytljceichlkafaaa.PImpact

theorem ofInt_msb {x : Int} (h0 : -9223372036854775808 ≤ x) (h1 : x ≤ 9223372036854775807) : (BitVec.ofInt 64 x).msb = decide (x < 0) := by
  rw [BitVec.msb_eq_toInt, BitVec.toInt_ofInt]
  congr 1
  rw [Int.bmod_eq_of_le (by omega) (by omega)]
theorem bits_and64 (x y : Int) : Go.bits .and .i64 x y = (BitVec.ofInt 64 x &&& BitVec.ofInt 64 y).toInt := by
  show IntKind.i64.wrap (((BitVec.ofInt 64 x &&& BitVec.ofInt 64 y).toNat : Nat) : Int) = _
  generalize BitVec.ofInt 64 x &&& BitVec.ofInt 64 y = v
  rw [IntKind.wrap_i64, BitVec.toInt_eq_toNat_cond]
  have := v.isLt
  split <;> omega
theorem bits_xor64 (x y : Int) : Go.bits .xor .i64 x y = (BitVec.ofInt 64 x ^^^ BitVec.ofInt 64 y).toInt := by
  show IntKind.i64.wrap (((BitVec.ofInt 64 x ^^^ BitVec.ofInt 64 y).toNat : Nat) : Int) = _
  generalize BitVec.ofInt 64 x ^^^ BitVec.ofInt 64 y = v
  rw [IntKind.wrap_i64, BitVec.toInt_eq_toNat_cond]
  have := v.isLt
  split <;> omega
/-- The sign of '(a ^ s) & (b ^ s)'. -/
theorem signs {a b c d : Int} (ha : -9223372036854775808 ≤ a) (ha' : a ≤ 9223372036854775807) (hb : -9223372036854775808 ≤ b) (hb' : b ≤ 9223372036854775807)
    (hc : -9223372036854775808 ≤ c) (hc' : c ≤ 9223372036854775807) (hd : -9223372036854775808 ≤ d) (hd' : d ≤ 9223372036854775807) :
    (Go.bits .and .i64 (Go.bits .xor .i64 a b) (Go.bits .xor .i64 c d) < 0) ↔ ((a < 0 ↔ ¬ b < 0) ∧ (c < 0 ↔ ¬ d < 0)) := by
  rw [bits_and64, bits_xor64, bits_xor64, BitVec.ofInt_toInt, BitVec.ofInt_toInt]
  have h : ∀ v : BitVec 64, (v.toInt < 0) ↔ v.msb = true := fun v => by rw [BitVec.msb_eq_toInt]; simp
  rw [h, BitVec.msb_and, BitVec.msb_xor, BitVec.msb_xor, ofInt_msb ha ha', ofInt_msb hb hb', ofInt_msb hc hc', ofInt_msb hd hd']
  by_cases h1 : a < 0 <;> by_cases h2 : b < 0 <;> by_cases h3 : c < 0 <;> by_cases h4 : d < 0 <;> simp [h1, h2, h3, h4]
theorem add64s_eq (x y c : Int) (hx : 0 ≤ x) (hy : 0 ≤ y) (hc : 0 ≤ c) : add64s x y c = (x + y + c) % 18446744073709551616 := by
  unfold add64s
  show (((x.toNat + y.toNat + c.toNat) % 18446744073709551616 : Nat) : Int) = _
  omega
theorem add64c_eq (x y c : Int) (hx : 0 ≤ x) (hy : 0 ≤ y) (hc : 0 ≤ c) : add64c x y c = (x + y + c) / 18446744073709551616 := by
  unfold add64c
  show (((x.toNat + y.toNat + c.toNat) / 18446744073709551616 : Nat) : Int) = _
  omega
/-- A sum of two numbers of 128 bits that is one. -/
theorem wide_add {ha la hb lb : Int} (h1 : -9223372036854775808 ≤ ha) (h2 : ha ≤ 9223372036854775807) (h3 : 0 ≤ la) (h4 : la < 18446744073709551616)
    (h5 : -9223372036854775808 ≤ hb) (h6 : hb ≤ 9223372036854775807) (h7 : 0 ≤ lb) (h8 : lb < 18446744073709551616)
    (hs : -9223372036854775808 ≤ ha + hb + (la + lb) / 18446744073709551616) (hs' : ha + hb + (la + lb) / 18446744073709551616 ≤ 9223372036854775807) :
    wide_Wide_Add.f ha la hb lb = some (ha + hb + (la + lb) / 18446744073709551616, (la + lb) % 18446744073709551616, true) := by
  unfold wide_Wide_Add.f
  rw [add64c_eq la lb 0 h3 h7 (by omega), add64s_eq la lb 0 h3 h7 (by omega), wu64, wu64, Int.add_zero]
  rw [add64s_eq _ _ _ (by omega) (by omega) (by omega)]
  have e : wrap64 ((ha % 18446744073709551616 + hb % 18446744073709551616 + (la + lb) / 18446744073709551616) % 18446744073709551616) = ha + hb + (la + lb) / 18446744073709551616 := by unfold wrap64; omega
  rw [e, if_pos (by omega), if_neg]
  rw [signs h1 h2 hs hs' h5 h6 hs hs']
  omega
theorem int_of (n : Int) (h0 : -9223372036854775808 ≤ n) (h1 : n ≤ 9223372036854775807) : wide_Wide_Int.f (n / 18446744073709551616) (n % 18446744073709551616) = some (n, true) := by
  have e : wrap64 (n % 18446744073709551616) = n := by unfold wrap64; omega
  have e2 : n / 9223372036854775808 = n / 18446744073709551616 := by omega
  unfold wide_Wide_Int.f wide_Of.f
  rw [e]
  simp only [Option.bind_some, wu64, e2]
  simp
theorem add_fine (a b : Int) (ha : -9223372036854775808 ≤ a) (ha' : a ≤ 9223372036854775807) (hb : -9223372036854775808 ≤ b) (hb' : b ≤ 9223372036854775807)
    (hs : -9223372036854775808 ≤ a + b) (hs' : a + b ≤ 9223372036854775807) : fix_Add.f a b = some (a + b, true) := by
  unfold fix_Add.f wide_Of.f
  simp only [Option.bind_some, wu64]
  have h := wide_add (ha := a / 9223372036854775808) (la := a % 18446744073709551616) (hb := b / 9223372036854775808) (lb := b % 18446744073709551616) (by omega) (by omega) (by omega) (by omega) (by omega) (by omega) (by omega) (by omega) (by omega) (by omega)
  rw [h]
  simp only [Option.bind_some, fix_told.f, if_true]
  have e1 : a / 9223372036854775808 + b / 9223372036854775808 + (a % 18446744073709551616 + b % 18446744073709551616) / 18446744073709551616 = (a + b) / 18446744073709551616 := by omega
  have e2 : (a % 18446744073709551616 + b % 18446744073709551616) % 18446744073709551616 = (a + b) % 18446744073709551616 := by omega
  rw [e1, e2, int_of _ hs hs']
  simp only [Option.bind_some]
end Go.Proofs.Ytljceichlkafaaa.Plain

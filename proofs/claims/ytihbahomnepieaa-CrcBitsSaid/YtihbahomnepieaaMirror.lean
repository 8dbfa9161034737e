/- The sum of 16 bits goes from the highest bit on: mirrored it goes from the lowest one on. -/
import Derived.Test.YtihbahomnepieaaBurstG
namespace Go.Proofs.Ytihbahomnepieaa.Plain
/-- One step of the sum of 16 bits, the highest bit first; and its mirror. -/
def F16 (a : BitVec 16) : BitVec 16 := if a.msb then (a <<< 1) ^^^ 0x1021#16 else a <<< 1
theorem rev_xor (x y : BitVec 16) : (x ^^^ y).reverse = x.reverse ^^^ y.reverse := by
  apply BitVec.eq_of_getLsbD_eq
  intro i hi
  simp [BitVec.getLsbD_reverse, BitVec.getMsbD_xor]
theorem rev_shl (a : BitVec 16) : (a <<< 1).reverse = a.reverse >>> 1 := by
  apply BitVec.eq_of_getLsbD_eq
  intro i hi
  simp [BitVec.getLsbD_reverse, BitVec.getMsbD_shiftLeft, BitVec.getLsbD_ushiftRight, Nat.add_comm]
theorem rev_F16 (a : BitVec 16) : (F16 a).reverse.toNat = hN 0x8408 a.reverse.toNat := by
  have hm : a.msb = decide (a.reverse.toNat % 2 = 1) := by
    rw [← Nat.testBit_zero, ← BitVec.getLsbD, BitVec.getLsbD_reverse]
    rfl
  unfold F16 hN
  rw [hm]
  by_cases h : a.reverse.toNat % 2 = 1
  · rw [if_pos (by simp [h]), if_neg (by omega), rev_xor, rev_shl, show (0x1021#16).reverse = 0x8408#16 from by decide, BitVec.toNat_xor, BitVec.toNat_ushiftRight, Nat.shiftRight_eq_div_pow]
    rfl
  · rw [if_neg (by simp [h]), if_pos (by omega), rev_shl, BitVec.toNat_ushiftRight, Nat.shiftRight_eq_div_pow]
def F16s : Nat → BitVec 16 → BitVec 16
  | 0, a => a
  | n + 1, a => F16s n (F16 a)
theorem rev_F16s (n : Nat) : ∀ a, (F16s n a).reverse.toNat = hNs 0x8408 n a.reverse.toNat := by
  induction n with
  | zero => intro a; rfl
  | succ n ih => intro a; unfold F16s hNs; rw [ih, rev_F16]
def rev8 (b : Nat) : Nat := (BitVec.ofNat 8 b).reverse.toNat
theorem rev8_lt (b : Nat) : rev8 b < 256 := (BitVec.ofNat 8 b).reverse.isLt
theorem rev_hi (c : BitVec 8) : ((c.setWidth 16) <<< 8).reverse.toNat = c.reverse.toNat := by
  rw [← BitVec.toNat_setWidth_of_le (w' := 16) (by decide : 8 ≤ 16)]
  congr 1
  revert c
  decide
/-- The sum of 16 bits, gone on with bytes. -/
def gon16 (x : BitVec 16) (l : List Nat) : BitVec 16 := l.foldl (fun x b => F16s 8 (x ^^^ (((BitVec.ofNat 8 b).setWidth 16) <<< 8))) x
theorem gon16_nil (x : BitVec 16) : gon16 x [] = x := by unfold gon16; rw [List.foldl_nil]
theorem gon16_cons (x : BitVec 16) (b : Nat) (l : List Nat) : gon16 x (b :: l) = gon16 (F16s 8 (x ^^^ (((BitVec.ofNat 8 b).setWidth 16) <<< 8))) l := by unfold gon16; rw [List.foldl_cons]
theorem gon16_append (x : BitVec 16) (l m : List Nat) : gon16 x (l ++ m) = gon16 (gon16 x l) m := by unfold gon16; rw [List.foldl_append]
theorem rev_gon16 (l : List Nat) : ∀ x, (gon16 x l).reverse.toNat = gN 0x8408 x.reverse.toNat (l.map rev8) := by
  induction l with
  | nil => intro x; rw [gon16_nil, List.map_nil, gN_nil]
  | cons b l ih =>
    intro x
    rw [gon16_cons, List.map_cons, gN_cons, ih, rev_F16s, rev_xor, BitVec.toNat_xor, rev_hi]
    rfl
theorem rev_inj {a b : BitVec 16} (h : a.reverse.toNat = b.reverse.toNat) : a = b := by
  have := BitVec.eq_of_toNat_eq h
  apply BitVec.eq_of_getLsbD_eq
  intro i hi
  have e : ∀ c : BitVec 16, c.getLsbD i = c.reverse.getLsbD (15 - i) := by
    intro c
    rw [BitVec.getLsbD_reverse, BitVec.getMsbD, decide_eq_true (by omega), Bool.true_and]
    congr 1
    omega
  rw [e, e, this]
end Go.Proofs.Ytihbahomnepieaa.Plain

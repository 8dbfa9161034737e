/- The document's sum of 32 bits is the program's. -/
import Derived.Test.YtihbahomnepieaaCrc
import Derived.Test.YtihbahomnepieaaPCrcx1
namespace Go.Proofs.Ytihbahomnepieaa.Plain
open Go.RowKit Go.Proofs.YtihbahomnepieaaW.PrintWords Go.Proofs.YtihbahomnepieaaW.PrintLast Go.Proofs.YtihbahomnepieaaW.PrintMore Go.Proofs.Ytihbahomnepieaa.PCrc

theorem ref_one (k : Nat) (a : BitVec 32) (i j : Int) (h : i < 8) (h0 : 0 ≤ i) (hj : i + 1 = j) : apogeeref04_Step32.l0 (k + 1) (I a) i = apogeeref04_Step32.l0 k (I (half a)) j := by
  have hr := I_lt a
  have e1 : Int.tmod (I a) 2 = I a % 2 := Int.tmod_eq_emod_of_nonneg hr.1
  have e2 : Int.tdiv (I a) 2 % (4294967296 : Int) = I (a >>> 1) := by rw [Int.tdiv_eq_ediv_of_nonneg hr.1, shr1]; have := I_lt (a >>> 1); omega
  rw [apogeeref04_Step32.l0, if_pos h, e1, e2, poly, xor32, w64 (by omega) (by omega), hj]
  unfold half
  by_cases c : I a % 2 = 0
  · rw [if_neg (by omega), if_pos c]
  · rw [if_pos (by omega), if_neg c]
theorem ref_end (k : Nat) (x : Int) : apogeeref04_Step32.l0 (k + 1) x 8 = some x := by rw [apogeeref04_Step32.l0, if_neg (by omega)]
theorem ref_ok (k : Nat) (a : BitVec 32) : apogeeref04_Step32.f (k + 9) (I a) = some (I (st a)) := by
  unfold apogeeref04_Step32.f
  rw [ref_one _ _ 0 1 (by omega) (by omega) (by omega), ref_one _ _ 1 2 (by omega) (by omega) (by omega), ref_one _ _ 2 3 (by omega) (by omega) (by omega), ref_one _ _ 3 4 (by omega) (by omega) (by omega),
    ref_one _ _ 4 5 (by omega) (by omega) (by omega), ref_one _ _ 5 6 (by omega) (by omega) (by omega), ref_one _ _ 6 7 (by omega) (by omega) (by omega), ref_one _ _ 7 8 (by omega) (by omega) (by omega), ref_end]
  rfl
theorem r_end (k : Nat) (x n : Int) (s : ByteArray) (h : (s.size : Int) = n) : apogeeref04_Sum32.l0 (k + 1) s x n = some (Go.bits .xor .u32 x 4294967295) := by
  rw [apogeeref04_Sum32.l0, if_neg (by omega)]
theorem r_step (k : Nat) (x : BitVec 32) (s : ByteArray) (i : Nat) (i' j : Int) (hs : s.size ≤ 1000000) (hi : i < (L s).length) (hi' : (i : Int) = i') (hj : i' + 1 = j) (hk : 9 ≤ k) :
    apogeeref04_Sum32.l0 (k + 1) s (I x) i' = apogeeref04_Sum32.l0 k s (I (st (x ^^^ BitVec.ofNat 32 (L s)[i].toNat))) j := by
  have hn := L_len s
  have hr := I_lt (BitVec.ofNat 32 (L s)[i].toNat)
  have hb : bt s i' % (4294967296 : Int) = I (BitVec.ofNat 32 (L s)[i].toNat) := by
    rw [← hi', bt_get s i hi]; omega
  obtain ⟨m, hm⟩ : ∃ m, k = m + 9 := ⟨k - 9, by omega⟩
  have hst : apogeeref04_Step32.f k (I (x ^^^ BitVec.ofNat 32 (L s)[i].toNat)) = some (I (st (x ^^^ BitVec.ofNat 32 (L s)[i].toNat))) := by rw [hm]; exact ref_ok m _
  rw [apogeeref04_Sum32.l0, if_pos (by omega), if_pos (by omega), hb, xor32, hst, Option.bind_some, w64 (by omega) (by omega), hj]
theorem rsum_go (s : ByteArray) (hs : s.size ≤ 1000000) : ∀ (n : Nat) (x : BitVec 32) (i k : Nat), i + n = (L s).length → n + 10 ≤ k → apogeeref04_Sum32.l0 k s (I x) (i : Int) = some (Go.bits .xor .u32 (I (gon x ((L s).drop i))) 4294967295) := by
  intro n
  induction n with
  | zero =>
    intro x i k hi hk
    have hl : (s.size : Int) = (i : Int) := by rw [← L_len]; omega
    obtain ⟨m, rfl⟩ : ∃ m, k = m + 1 := ⟨k - 1, by omega⟩
    rw [r_end m _ _ _ hl, List.drop_of_length_le (by omega), gon_nil]
  | succ n ih =>
    intro x i k hi hk
    have hi' : i < (L s).length := by omega
    obtain ⟨m, rfl⟩ : ∃ m, k = m + 1 := ⟨k - 1, by omega⟩
    rw [r_step m x s i _ ((i + 1 : Nat) : Int) hs hi' rfl (by omega) (by omega), ih _ (i + 1) m (by omega) (by omega), List.drop_eq_getElem_cons hi', gon_cons]
theorem rsum_ok (s : ByteArray) (hs : s.size ≤ 1000000) (k : Nat) (hk : s.size + 20 ≤ k) : apogeeref04_Sum32.f k s = some (I (sum (L s))) := by
  have hn := L_len s
  unfold apogeeref04_Sum32.f
  rw [ones, show (0 : Int) = ((0 : Nat) : Int) from rfl, rsum_go s hs (L s).length _ 0 k (by omega) (by omega), ones, xor32, List.drop_zero]
  rfl
end Go.Proofs.Ytihbahomnepieaa.Plain

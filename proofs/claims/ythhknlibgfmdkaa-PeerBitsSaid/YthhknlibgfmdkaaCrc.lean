/- The sum of 32 bits, over plain numbers of 32 bits; the program's is it. -/
import Derived.Test.YthhknlibgfmdkaaBase
import Derived.Test.YthhknlibgfmdkaaPPeerBitsx3
import Derived.Lib.Strings
namespace Go.Proofs.Ythhknlibgfmdkaa.Plain
open Go.RowKit Go.Proofs.YthhknlibgfmdkaaW.PrintWords Go.Proofs.YthhknlibgfmdkaaW.PrintLast Go.Proofs.YthhknlibgfmdkaaW.PrintMore Go.Proofs.Ythhknlibgfmdkaa.PPeerBits

def I (a : BitVec 32) : Int := ((a.toNat : Nat) : Int)
theorem I_lt (a : BitVec 32) : 0 ≤ I a ∧ I a ≤ 4294967295 := by have := a.isLt; unfold I; omega
theorem I_of {x : Int} (h0 : 0 ≤ x) (h1 : x ≤ 4294967295) : x = I (BitVec.ofNat 32 x.toNat) := by
  unfold I; rw [BitVec.toNat_ofNat]; omega
theorem I_inj {a b : BitVec 32} (h : I a = I b) : a = b := by
  apply BitVec.eq_of_toNat_eq; unfold I at h; omega
theorem ofInt_I (a : BitVec 32) : BitVec.ofInt 32 (I a) = a := by
  unfold I; rw [BitVec.ofInt_natCast]; simp
theorem xor32 (a b : BitVec 32) : Go.bits .xor .u32 (I a) (I b) = I (a ^^^ b) := by
  show IntKind.u32.wrap (((BitVec.ofInt 32 (I a) ^^^ BitVec.ofInt 32 (I b)).toNat : Nat) : Int) = _
  rw [ofInt_I, ofInt_I, wu32]
  have := (a ^^^ b).isLt
  unfold I; omega
theorem and1 (a : BitVec 32) : Go.bits .and .u32 (I a) 1 = I a % 2 := by
  show IntKind.u32.wrap (((BitVec.ofInt 32 (I a) &&& BitVec.ofInt 32 1).toNat : Nat) : Int) = _
  rw [ofInt_I, wu32, BitVec.toNat_and, show (BitVec.ofInt 32 1).toNat = 2 ^ 1 - 1 from rfl, Nat.and_two_pow_sub_one_eq_mod]
  unfold I; omega
theorem shr1 (a : BitVec 32) : I a / (2 : Int) = I (a >>> 1) := by
  unfold I; rw [BitVec.toNat_ushiftRight, Nat.shiftRight_eq_div_pow]; omega
def half (a : BitVec 32) : BitVec 32 := if I a % 2 = 0 then a >>> 1 else (a >>> 1) ^^^ 3988292384#32
def stn : Nat → BitVec 32 → BitVec 32
  | 0, a => a
  | n + 1, a => stn n (half a)
def st (a : BitVec 32) : BitVec 32 := stn 8 a
theorem poly : (3988292384 : Int) = I 3988292384#32 := by decide
theorem ones : (4294967295 : Int) = I 4294967295#32 := by decide
theorem step_one (k : Nat) (a : BitVec 32) (i j : Int) (h : i < 8) (h0 : 0 ≤ i) (hj : i + 1 = j) : crc_step32.l0 (k + 1) (I a) i = crc_step32.l0 k (I (half a)) j := by
  rw [crc_step32.l0, if_pos h, and1, shr1, poly, xor32, w64 (by omega) (by omega), hj]
  unfold half
  split <;> rfl
theorem step_end (k : Nat) (x : Int) : crc_step32.l0 (k + 1) x 8 = some x := by rw [crc_step32.l0, if_neg (by omega)]
theorem step_ok (k : Nat) (a : BitVec 32) : crc_step32.f (k + 9) (I a) = some (I (st a)) := by
  unfold crc_step32.f
  rw [step_one _ _ 0 1 (by omega) (by omega) (by omega), step_one _ _ 1 2 (by omega) (by omega) (by omega), step_one _ _ 2 3 (by omega) (by omega) (by omega), step_one _ _ 3 4 (by omega) (by omega) (by omega),
    step_one _ _ 4 5 (by omega) (by omega) (by omega), step_one _ _ 5 6 (by omega) (by omega) (by omega), step_one _ _ 6 7 (by omega) (by omega) (by omega), step_one _ _ 7 8 (by omega) (by omega) (by omega), step_end]
  rfl
/-- The sum, gone on with bytes. -/
def gon (x : BitVec 32) (l : List UInt8) : BitVec 32 := l.foldl (fun x b => st (x ^^^ BitVec.ofNat 32 b.toNat)) x
def sum (l : List UInt8) : BitVec 32 := gon 4294967295#32 l ^^^ 4294967295#32
abbrev L (s : ByteArray) : List UInt8 := s.data.toList
theorem L_len (s : ByteArray) : (L s).length = s.size := data_length s
theorem bt_get (s : ByteArray) (i : Nat) (h : i < (L s).length) : bt s (i : Int) = I (BitVec.ofNat 32 (L s)[i].toNat) := by
  have h' : i < s.size := by rw [← L_len]; exact h
  have hb : (L s)[i].toNat < 256 := (L s)[i].toNat_lt
  have e : bt s (i : Int) = (((L s)[i].toNat : Nat) : Int) := by
    unfold bt
    rw [dif_pos (by simpa using h')]
    simp [L, ByteArray.getElem_eq_getElem_data]
  rw [e]
  unfold I
  rw [BitVec.toNat_ofNat]
  omega
theorem gon_nil (x : BitVec 32) : gon x [] = x := by unfold gon; rw [List.foldl_nil]
theorem gon_cons (x : BitVec 32) (b : UInt8) (l : List UInt8) : gon x (b :: l) = gon (st (x ^^^ BitVec.ofNat 32 b.toNat)) l := by unfold gon; rw [List.foldl_cons]
theorem s_end (k : Nat) (x n : Int) (l : List Int) (h : (l.length : Int) = n) : crc_Sum32.l0 (k + 1) x l n = some (Go.bits .xor .u32 x 4294967295) := by
  rw [crc_Sum32.l0, if_neg (by omega)]
theorem s_step (k : Nat) (x : BitVec 32) (s : ByteArray) (i : Nat) (i' j : Int) (hs : s.size ≤ 1000000) (hi : i < (L s).length) (hi' : (i : Int) = i') (hj : i' + 1 = j) (hk : 9 ≤ k) :
    crc_Sum32.l0 (k + 1) (I x) (bytesOf s) i' = crc_Sum32.l0 k (I (st (x ^^^ BitVec.ofNat 32 (L s)[i].toNat))) (bytesOf s) j := by
  have hl : ((bytesOf s).length : Int) = (s.size : Int) := by rw [bytesOf_length]
  have hn := L_len s
  have hr := I_lt (BitVec.ofNat 32 (L s)[i].toNat)
  have hb : rd (bytesOf s) i' % (4294967296 : Int) = I (BitVec.ofNat 32 (L s)[i].toNat) := by
    rw [rd_bytesOf, ← hi', bt_get s i hi]; omega
  obtain ⟨m, hm⟩ : ∃ m, k = m + 9 := ⟨k - 9, by omega⟩
  have hst : crc_step32.f k (I (x ^^^ BitVec.ofNat 32 (L s)[i].toNat)) = some (I (st (x ^^^ BitVec.ofNat 32 (L s)[i].toNat))) := by rw [hm]; exact step_ok m _
  rw [crc_Sum32.l0, hl, if_pos (by omega), if_pos (by omega), hb, xor32, hst, Option.bind_some, w64 (by omega) (by omega), hj]
theorem sum_go (s : ByteArray) (hs : s.size ≤ 1000000) : ∀ (n : Nat) (x : BitVec 32) (i k : Nat), i + n = (L s).length → n + 10 ≤ k → crc_Sum32.l0 k (I x) (bytesOf s) (i : Int) = some (Go.bits .xor .u32 (I (gon x ((L s).drop i))) 4294967295) := by
  intro n
  induction n with
  | zero =>
    intro x i k hi hk
    have hl : ((bytesOf s).length : Int) = (i : Int) := by rw [bytesOf_length, ← L_len]; omega
    obtain ⟨m, rfl⟩ : ∃ m, k = m + 1 := ⟨k - 1, by omega⟩
    rw [s_end m _ _ _ hl, List.drop_of_length_le (by omega), gon_nil]
  | succ n ih =>
    intro x i k hi hk
    have hi' : i < (L s).length := by omega
    obtain ⟨m, rfl⟩ : ∃ m, k = m + 1 := ⟨k - 1, by omega⟩
    rw [s_step m x s i _ ((i + 1 : Nat) : Int) hs hi' rfl (by omega) (by omega), ih _ (i + 1) m (by omega) (by omega), List.drop_eq_getElem_cons hi', gon_cons]
theorem sum_ok (s : ByteArray) (hs : s.size ≤ 1000000) (k : Nat) (hk : s.size + 20 ≤ k) : crc_Sum32.f k s = some (I (sum (L s))) := by
  have hn := L_len s
  unfold crc_Sum32.f
  rw [if_pos (by omega), ones, show (0 : Int) = ((0 : Nat) : Int) from rfl, sum_go s hs (L s).length _ 0 k (by omega) (by omega), ones, xor32, List.drop_zero]
  rfl
end Go.Proofs.Ythhknlibgfmdkaa.Plain

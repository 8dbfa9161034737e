/- The sum of 16 bits, over plain numbers of 16 bits; the program's and the document's are it. -/
import Derived.Test.YtihbahomnepieaaCrc
import Derived.Test.YtihbahomnepieaaMirror
import Derived.Test.YtihbahomnepieaaPCrcx1
namespace Go.Proofs.Ytihbahomnepieaa.Plain
open Go.RowKit Go.Proofs.YtihbahomnepieaaW.PrintWords Go.Proofs.YtihbahomnepieaaW.PrintLast Go.Proofs.YtihbahomnepieaaW.PrintMore Go.Proofs.Ytihbahomnepieaa.PCrc

def J (a : BitVec 16) : Int := ((a.toNat : Nat) : Int)
theorem J_lt (a : BitVec 16) : 0 ≤ J a ∧ J a ≤ 65535 := by have := a.isLt; unfold J; omega
theorem J_of {x : Int} (h0 : 0 ≤ x) (h1 : x ≤ 65535) : x = J (BitVec.ofNat 16 x.toNat) := by
  unfold J; rw [BitVec.toNat_ofNat]; omega
theorem J_inj {a b : BitVec 16} (h : J a = J b) : a = b := by
  apply BitVec.eq_of_toNat_eq; unfold J at h; omega
theorem ofInt_J (a : BitVec 16) : BitVec.ofInt 16 (J a) = a := by
  unfold J; rw [BitVec.ofInt_natCast]; simp
theorem xor16 (a b : BitVec 16) : Go.bits .xor .u16 (J a) (J b) = J (a ^^^ b) := by
  show IntKind.u16.wrap (((BitVec.ofInt 16 (J a) ^^^ BitVec.ofInt 16 (J b)).toNat : Nat) : Int) = _
  rw [ofInt_J, ofInt_J, wu16]
  have := (a ^^^ b).isLt
  unfold J; omega
theorem and_top (a : BitVec 16) : Go.bits .and .u16 (J a) 32768 = if a.msb then 32768 else 0 := by
  show IntKind.u16.wrap (((BitVec.ofInt 16 (J a) &&& BitVec.ofInt 16 32768).toNat : Nat) : Int) = _
  have e : a.getLsbD 15 = a.msb := by rw [BitVec.msb_eq_getLsbD_last]
  rw [ofInt_J, wu16, show BitVec.ofInt 16 32768 = BitVec.twoPow 16 15 from rfl, BitVec.and_twoPow, e]
  cases a.msb <;> rfl
theorem shl1 (a : BitVec 16) : IntKind.u16.wrap (J a * 2) = J (a <<< 1) := by
  unfold J; rw [BitVec.toNat_shiftLeft, Nat.shiftLeft_eq, wu16]; omega
theorem poly16 : (4129 : Int) = J 0x1021#16 := by decide
theorem ones16 : (65535 : Int) = J 65535#16 := by decide
theorem step16_one (k : Nat) (a : BitVec 16) (i j : Int) (h : i < 8) (h0 : 0 ≤ i) (hj : i + 1 = j) : crc_step16.l0 (k + 1) (J a) i = crc_step16.l0 k (J (F16 a)) j := by
  rw [crc_step16.l0, if_pos h, and_top, shl1, poly16, xor16, w64 (by omega) (by omega), hj]
  unfold F16
  cases a.msb <;> rfl
theorem step16_end (k : Nat) (x : Int) : crc_step16.l0 (k + 1) x 8 = some x := by rw [crc_step16.l0, if_neg (by omega)]
theorem step16_ok (k : Nat) (a : BitVec 16) : crc_step16.f (k + 9) (J a) = some (J (F16s 8 a)) := by
  unfold crc_step16.f
  rw [step16_one _ _ 0 1 (by omega) (by omega) (by omega), step16_one _ _ 1 2 (by omega) (by omega) (by omega), step16_one _ _ 2 3 (by omega) (by omega) (by omega), step16_one _ _ 3 4 (by omega) (by omega) (by omega),
    step16_one _ _ 4 5 (by omega) (by omega) (by omega), step16_one _ _ 5 6 (by omega) (by omega) (by omega), step16_one _ _ 6 7 (by omega) (by omega) (by omega), step16_one _ _ 7 8 (by omega) (by omega) (by omega), step16_end]
  rfl
theorem ref16_one (k : Nat) (a : BitVec 16) (i j : Int) (h : i < 8) (h0 : 0 ≤ i) (hj : i + 1 = j) : apogeeref04_Step16.l0 (k + 1) (J a) i = apogeeref04_Step16.l0 k (J (F16 a)) j := by
  rw [apogeeref04_Step16.l0, if_pos h, shl1, poly16, xor16, w64 (by omega) (by omega), hj]
  have hm : a.msb = decide (32768 ≤ a.toNat) := BitVec.msb_eq_decide a
  unfold F16
  by_cases c : 32768 ≤ a.toNat
  · rw [if_pos (show J a ≥ 32768 by unfold J; omega), if_pos (by rw [hm]; exact decide_eq_true c)]
  · rw [if_neg (show ¬ J a ≥ 32768 by unfold J; omega), if_neg (by rw [hm]; simpa using c)]
theorem ref16_end (k : Nat) (x : Int) : apogeeref04_Step16.l0 (k + 1) x 8 = some x := by rw [apogeeref04_Step16.l0, if_neg (by omega)]
theorem ref16_ok (k : Nat) (a : BitVec 16) : apogeeref04_Step16.f (k + 9) (J a) = some (J (F16s 8 a)) := by
  unfold apogeeref04_Step16.f
  rw [ref16_one _ _ 0 1 (by omega) (by omega) (by omega), ref16_one _ _ 1 2 (by omega) (by omega) (by omega), ref16_one _ _ 2 3 (by omega) (by omega) (by omega), ref16_one _ _ 3 4 (by omega) (by omega) (by omega),
    ref16_one _ _ 4 5 (by omega) (by omega) (by omega), ref16_one _ _ 5 6 (by omega) (by omega) (by omega), ref16_one _ _ 6 7 (by omega) (by omega) (by omega), ref16_one _ _ 7 8 (by omega) (by omega) (by omega), ref16_end]
  rfl
/-- A text's bytes as numbers. -/
def B (s : ByteArray) : List Nat := s.data.toList.map UInt8.toNat
theorem B_len (s : ByteArray) : (B s).length = s.size := by unfold B; rw [List.length_map]; exact data_length s
theorem B_lt (s : ByteArray) : ∀ b ∈ B s, b < 256 := by
  intro b hb
  obtain ⟨c, _, rfl⟩ := List.mem_map.1 hb
  exact c.toNat_lt
theorem bt_B (s : ByteArray) (i : Nat) (h : i < (B s).length) : bt s (i : Int) = ((B s)[i] : Int) := by
  have h' : i < s.size := by rw [← B_len]; exact h
  unfold bt
  rw [dif_pos (by simpa using h')]
  simp [B, ByteArray.getElem_eq_getElem_data]
theorem put16 (c : Nat) (h : c < 256) : (c : Int) * 256 = J ((((BitVec.ofNat 8 c).setWidth 16)) <<< 8) := by
  unfold J
  rw [BitVec.toNat_shiftLeft, Nat.shiftLeft_eq, BitVec.toNat_setWidth, BitVec.toNat_ofNat]
  omega
theorem m_step (k : Nat) (x : BitVec 16) (s : ByteArray) (i : Nat) (i' j : Int) (hs : s.size ≤ 1000000) (hi : i < (B s).length) (hi' : (i : Int) = i') (hj : i' + 1 = j) (hk : 9 ≤ k) :
    crc_More16.l0 (k + 1) (J x) (bytesOf s) i' = crc_More16.l0 k (J (F16s 8 (x ^^^ (((BitVec.ofNat 8 (B s)[i]).setWidth 16) <<< 8)))) (bytesOf s) j := by
  have hl : ((bytesOf s).length : Int) = (s.size : Int) := by rw [bytesOf_length]
  have hn := B_len s
  have hc : (B s)[i] < 256 := B_lt s _ (List.getElem_mem hi)
  have hb : rd (bytesOf s) i' % (65536 : Int) * (256 : Int) % (65536 : Int) = J (((BitVec.ofNat 8 (B s)[i]).setWidth 16) <<< 8) := by
    rw [rd_bytesOf, ← hi', bt_B s i hi, ← put16 _ hc]; omega
  obtain ⟨m, hm⟩ : ∃ m, k = m + 9 := ⟨k - 9, by omega⟩
  have hst := step16_ok m (x ^^^ (((BitVec.ofNat 8 (B s)[i]).setWidth 16) <<< 8))
  rw [← hm] at hst
  rw [crc_More16.l0, hl, if_pos (by omega), if_pos (by omega), hb, xor16, hst, Option.bind_some, w64 (by omega) (by omega), hj]
theorem m_end (k : Nat) (x n : Int) (l : List Int) (h : (l.length : Int) = n) : crc_More16.l0 (k + 1) x l n = some x := by
  rw [crc_More16.l0, if_neg (by omega)]
theorem more_go (s : ByteArray) (hs : s.size ≤ 1000000) : ∀ (n : Nat) (x : BitVec 16) (i k : Nat), i + n = (B s).length → n + 10 ≤ k → crc_More16.l0 k (J x) (bytesOf s) (i : Int) = some (J (gon16 x ((B s).drop i))) := by
  intro n
  induction n with
  | zero =>
    intro x i k hi hk
    have hl : ((bytesOf s).length : Int) = (i : Int) := by rw [bytesOf_length, ← B_len]; omega
    obtain ⟨m, rfl⟩ : ∃ m, k = m + 1 := ⟨k - 1, by omega⟩
    rw [m_end m _ _ _ hl, List.drop_of_length_le (by omega), gon16_nil]
  | succ n ih =>
    intro x i k hi hk
    have hi' : i < (B s).length := by omega
    obtain ⟨m, rfl⟩ : ∃ m, k = m + 1 := ⟨k - 1, by omega⟩
    rw [m_step m x s i _ ((i + 1 : Nat) : Int) hs hi' rfl (by omega) (by omega), ih _ (i + 1) m (by omega) (by omega), List.drop_eq_getElem_cons hi', gon16_cons]
theorem more_ok (x : BitVec 16) (s : ByteArray) (hs : s.size ≤ 1000000) (k : Nat) (hk : s.size + 20 ≤ k) : crc_More16.f k (J x) s = some (J (gon16 x (B s))) := by
  have hn := B_len s
  unfold crc_More16.f
  rw [if_pos (by omega), show (0 : Int) = ((0 : Nat) : Int) from rfl, more_go s hs (B s).length _ 0 k (by omega) (by omega), List.drop_zero]
theorem sum16_ok (s : ByteArray) (hs : s.size ≤ 1000000) (k : Nat) (hk : s.size + 20 ≤ k) : crc_Sum16.f k s = some (J (gon16 65535#16 (B s))) := by
  unfold crc_Sum16.f
  rw [ones16, more_ok _ s hs k hk, Option.bind_some]
theorem rm_step (k : Nat) (x : BitVec 16) (s : ByteArray) (i : Nat) (i' j : Int) (hs : s.size ≤ 1000000) (hi : i < (B s).length) (hi' : (i : Int) = i') (hj : i' + 1 = j) (hk : 9 ≤ k) :
    apogeeref04_More16.l0 (k + 1) (J x) s i' = apogeeref04_More16.l0 k (J (F16s 8 (x ^^^ (((BitVec.ofNat 8 (B s)[i]).setWidth 16) <<< 8)))) s j := by
  have hn := B_len s
  have hc : (B s)[i] < 256 := B_lt s _ (List.getElem_mem hi)
  have hb : IntKind.u16.wrap ((IntKind.u16.wrap (bt s i')) * 256) = J (((BitVec.ofNat 8 (B s)[i]).setWidth 16) <<< 8) := by
    rw [← hi', bt_B s i hi, ← put16 _ hc, wu16, wu16]; omega
  obtain ⟨m, hm⟩ : ∃ m, k = m + 9 := ⟨k - 9, by omega⟩
  have hst := ref16_ok m (x ^^^ (((BitVec.ofNat 8 (B s)[i]).setWidth 16) <<< 8))
  rw [← hm] at hst
  rw [apogeeref04_More16.l0, if_pos (by omega), if_pos (by omega), hb, xor16, hst, Option.bind_some, w64 (by omega) (by omega), hj]
theorem rm_end (k : Nat) (x n : Int) (s : ByteArray) (h : (s.size : Int) = n) : apogeeref04_More16.l0 (k + 1) x s n = some x := by
  rw [apogeeref04_More16.l0, if_neg (by omega)]
theorem rmore_go (s : ByteArray) (hs : s.size ≤ 1000000) : ∀ (n : Nat) (x : BitVec 16) (i k : Nat), i + n = (B s).length → n + 10 ≤ k → apogeeref04_More16.l0 k (J x) s (i : Int) = some (J (gon16 x ((B s).drop i))) := by
  intro n
  induction n with
  | zero =>
    intro x i k hi hk
    have hl : (s.size : Int) = (i : Int) := by rw [← B_len]; omega
    obtain ⟨m, rfl⟩ : ∃ m, k = m + 1 := ⟨k - 1, by omega⟩
    rw [rm_end m _ _ _ hl, List.drop_of_length_le (by omega), gon16_nil]
  | succ n ih =>
    intro x i k hi hk
    have hi' : i < (B s).length := by omega
    obtain ⟨m, rfl⟩ : ∃ m, k = m + 1 := ⟨k - 1, by omega⟩
    rw [rm_step m x s i _ ((i + 1 : Nat) : Int) hs hi' rfl (by omega) (by omega), ih _ (i + 1) m (by omega) (by omega), List.drop_eq_getElem_cons hi', gon16_cons]
theorem rmore_ok (x : BitVec 16) (s : ByteArray) (hs : s.size ≤ 1000000) (k : Nat) (hk : s.size + 20 ≤ k) : apogeeref04_More16.f k (J x) s = some (J (gon16 x (B s))) := by
  have hn := B_len s
  unfold apogeeref04_More16.f
  rw [show (0 : Int) = ((0 : Nat) : Int) from rfl, rmore_go s hs (B s).length _ 0 k (by omega) (by omega), List.drop_zero]
end Go.Proofs.Ytihbahomnepieaa.Plain

/- What is sealed, and what is opened: as the program has it. -/
import Derived.Test.YthhknlibgfmdkaaCrc
import Derived.Test.YthhknlibgfmdkaaPPeerBitsx4
import Derived.Test.YthhknlibgfmdkaaPPeerBitsx3
namespace Go.Proofs.Ythhknlibgfmdkaa.Plain
open Go.RowKit Go.Proofs.YthhknlibgfmdkaaW.PrintWords Go.Proofs.YthhknlibgfmdkaaW.PrintLast Go.Proofs.YthhknlibgfmdkaaW.PrintMore Go.Proofs.Ythhknlibgfmdkaa.PPeerBits

def mk (l : List UInt8) : ByteArray := ⟨l.toArray⟩
theorem L_mk (l : List UInt8) : L (mk l) = l := by simp [L, mk]
theorem mk_L (s : ByteArray) : mk (L s) = s := by obtain ⟨a⟩ := s; simp [L, mk]
theorem mk_size (l : List UInt8) : (mk l).size = l.length := by rw [← L_len, L_mk]
theorem mk_inj {l m : List UInt8} (h : mk l = mk m) : l = m := by rw [← L_mk l, h, L_mk]
theorem toList_mk (l : List UInt8) : (mk l).toList = l := by rw [Lib.toList_data]; exact L_mk l
theorem toList_L (s : ByteArray) : s.toList = L s := Lib.toList_data s
def nb (n : Int) : UInt8 := UInt8.ofNat n.toNat
theorem nums_mk (xs : List Int) : strOfNums xs = mk (xs.map nb) := rfl
theorem cat_mk (l m : List UInt8) : mk l ++ mk m = mk (l ++ m) := by
  rw [← mk_L (mk l ++ mk m)]
  congr 1 <;> simp [L, mk]
theorem cut_mk (l : List UInt8) (a b : Nat) : (mk l).extract a b = mk ((l.drop a).take (b - a)) := by
  rw [← mk_L ((mk l).extract a b)]
  congr 1
  show ((mk l).extract a b).data.toList = _
  rw [Lib.extract_data]
  show ((L (mk l)).drop a).take (b - a) = _
  rw [L_mk]
theorem nb_bt (b : UInt8) : nb ((b.toNat : Nat) : Int) = b := by unfold nb; simp
theorem bt_mk (l : List UInt8) (i : Nat) (h : i < l.length) : bt (mk l) (i : Int) = ((l[i].toNat : Nat) : Int) := by
  have hl : i < (L (mk l)).length := by rw [L_mk]; exact h
  rw [bt_get (mk l) i hl]
  have e : (L (mk l))[i] = l[i] := List.getElem_of_eq (L_mk l) hl
  rw [e]
  have := l[i].toNat_lt
  unfold I; rw [BitVec.toNat_ofNat]; omega
/-- A number's four bytes. -/
def four (c : BitVec 32) : List UInt8 := [nb (I c / 16777216 % 256), nb (I c / 65536 % 256), nb (I c / 256 % 256), nb (I c % 256)]
def sealed (l : List UInt8) : List UInt8 := l ++ four (sum l)
theorem four_len (c : BitVec 32) : (four c).length = 4 := rfl
theorem sealed_len (l : List UInt8) : (sealed l).length = l.length + 4 := by unfold sealed; rw [List.length_append, four_len]
theorem seal_ok (l0 : List Int) (h : l0.length ≤ 1000) (k : Nat) (hk : 1100 ≤ k) : peer_seal.f k l0 = some (mk (sealed (l0.map nb))) := by
  have hs : (strOfNums l0).size = l0.length := by rw [nums_mk, mk_size, List.length_map]
  unfold peer_seal.f
  rw [sum_ok _ (by omega) k (by omega), nums_mk, L_mk]
  simp only [Option.bind_some, peer_put.f]
  rw [if_pos (by simp only [List.length_cons, List.length_nil]; omega), nums_mk, List.map_append]
  rfl
/-- Four bytes' number. -/
def num (l : List UInt8) : Int := ((((l.getD 0 0).toNat : Nat) : Int) * 16777216 + (((l.getD 1 0).toNat : Nat) : Int) * 65536) + (((l.getD 2 0).toNat : Nat) : Int) * 256 + (((l.getD 3 0).toNat : Nat) : Int)
theorem num_lt (l : List UInt8) : 0 ≤ num l ∧ num l ≤ 4294967295 := by
  have h0 := (l.getD 0 0).toNat_lt
  have h1 := (l.getD 1 0).toNat_lt
  have h2 := (l.getD 2 0).toNat_lt
  have h3 := (l.getD 3 0).toNat_lt
  unfold num; omega
theorem or_add (x b : Int) (x0 : 0 ≤ x) (x1 : x < 16777216) (b0 : 0 ≤ b) (b1 : b < 256) : Go.bits .or .u32 (x * 256 % 4294967296) (b % 4294967296) = x * 256 + b := by
  show IntKind.u32.wrap (((BitVec.ofInt 32 (x * 256 % 4294967296) ||| BitVec.ofInt 32 (b % 4294967296)).toNat : Nat) : Int) = _
  have e1 : (x * 256 % 4294967296 : Int) = ((x.toNat * 2 ^ 8 : Nat) : Int) := by omega
  have e2 : (b % 4294967296 : Int) = ((b.toNat : Nat) : Int) := by omega
  rw [e1, e2, BitVec.ofInt_natCast, BitVec.ofInt_natCast, BitVec.toNat_or, BitVec.toNat_ofNat, BitVec.toNat_ofNat, Nat.mod_eq_of_lt (by omega), Nat.mod_eq_of_lt (by omega), wu32,
    ← Nat.shiftLeft_eq, ← Nat.shiftLeft_add_eq_or_of_lt (by omega : b.toNat < 2 ^ 8), Nat.shiftLeft_eq]
  omega
theorem get_one (k : Nat) (x : Int) (l : List Int) (i j n b : Int) (hn : (l.length : Int) = n) (h : i < n) (h0 : 0 ≤ i) (hi : i ≤ 100) (hb : rd l i = b) (x0 : 0 ≤ x) (x1 : x < 16777216) (b0 : 0 ≤ b) (b1 : b < 256) (hj : i + 1 = j) :
    peer_get.l0 (k + 1) x l i = peer_get.l0 k (x * 256 + b) l j := by
  rw [peer_get.l0, hn, if_pos h, if_pos h0, hb, or_add x b x0 x1 b0 b1, w64 (by omega) (by omega), hj]
theorem get_end (k : Nat) (x : Int) (l : List Int) (n : Int) (hn : (l.length : Int) = n) : peer_get.l0 (k + 1) x l n = some x := by
  rw [peer_get.l0, if_neg (by omega)]
theorem get_ok (l : List UInt8) (h : 4 ≤ l.length) (h1 : l.length ≤ 1000) (k : Nat) (hk : 20 ≤ k) : peer_get.f k (mk l) = some (num l) := by
  obtain ⟨m, rfl⟩ : ∃ m, k = m + 1 + 1 + 1 + 1 + 1 := ⟨k - 5, by omega⟩
  match l, h with
  | a :: b :: c :: d :: r, _ =>
    have ha := a.toNat_lt
    have hb := b.toNat_lt
    have hc := c.toNat_lt
    have hd := d.toNat_lt
    have e : bytesOf ((mk (a :: b :: c :: d :: r)).extract 0 4) = [((a.toNat : Nat) : Int), ((b.toNat : Nat) : Int), ((c.toNat : Nat) : Int), ((d.toNat : Nat) : Int)] := by
      rw [cut_mk]; simp [bytesOf, mk]
    unfold peer_get.f
    rw [mk_size, if_pos (by omega), if_pos (by simp only [List.length_cons]; omega), e]
    rw [get_one _ _ _ 0 1 4 ((a.toNat : Nat) : Int) rfl (by omega) (by omega) (by omega) rfl (by omega) (by omega) (by omega) (by omega) (by omega)]
    rw [get_one _ _ _ 1 2 4 ((b.toNat : Nat) : Int) rfl (by omega) (by omega) (by omega) rfl (by omega) (by omega) (by omega) (by omega) (by omega)]
    rw [get_one _ _ _ 2 3 4 ((c.toNat : Nat) : Int) rfl (by omega) (by omega) (by omega) rfl (by omega) (by omega) (by omega) (by omega) (by omega)]
    rw [get_one _ _ _ 3 4 4 ((d.toNat : Nat) : Int) rfl (by omega) (by omega) (by omega) rfl (by omega) (by omega) (by omega) (by omega) (by omega)]
    refine (get_end _ _ _ 4 rfl).trans (congrArg some ?_)
    unfold num
    simp only [List.getD_cons_zero, List.getD_cons_succ]
    omega
theorem num_four (c : BitVec 32) (l : List UInt8) (hl : l.length = 4) : I c = num l ↔ l = four c := by
  have hc := I_lt c
  match l, hl with
  | [p, q, r, s], _ =>
    have hp := p.toNat_lt
    have hq := q.toNat_lt
    have hr := r.toNat_lt
    have hs := s.toNat_lt
    unfold num four
    simp only [List.getD_cons_zero, List.getD_cons_succ]
    have nbv : ∀ (x : Int) (b : UInt8), 0 ≤ x → x < 256 → (b = nb x ↔ ((b.toNat : Nat) : Int) = x) := by
      intro x b h0 h1
      constructor
      · intro e
        rw [e]
        unfold nb
        rw [UInt8.toNat_ofNat']
        omega
      · intro e
        rw [← e, nb_bt]
    generalize I c = v at *
    constructor
    · intro e
      congr 1
      · rw [nbv _ _ (by omega) (by omega)]; omega
      · congr 1
        · rw [nbv _ _ (by omega) (by omega)]; omega
        · congr 1
          · rw [nbv _ _ (by omega) (by omega)]; omega
          · congr 1
            rw [nbv _ _ (by omega) (by omega)]; omega
    · intro e
      injection e with e1 e
      injection e with e2 e
      injection e with e3 e
      injection e with e4 e
      rw [nbv _ _ (by omega) (by omega)] at e1 e2 e3 e4
      omega
/-- What is wrong with what is sealed. -/
def Err (l : List UInt8) (n : Nat) : Int := if l.length < n + 4 then 5 else if l.length > n + 4 then 3 else if l = sealed (l.take n) then 0 else 4
theorem open_ok (l : List UInt8) (_h : l.length ≤ 500) (n : Nat) (n' : Int) (hn : n ≤ 100) (hn' : (n : Int) = n') (k : Nat) (hk : 1100 ≤ k) : peer_open.f k (mk l) n' = some (Err l n) := by
  have en : n'.toNat = n := by omega
  unfold peer_open.f Err
  rw [w64 (x := n' + 4) (by omega) (by omega), mk_size, en]
  by_cases c1 : l.length < n + 4
  · rw [if_pos (by omega), if_pos c1]
  rw [if_neg (by omega), if_neg c1]
  by_cases c2 : l.length > n + 4
  · rw [if_pos (by omega), if_pos c2]
  rw [if_neg (by omega), if_neg c2, if_pos (by omega), if_pos (by omega), cut_mk, cut_mk, List.drop_zero, Nat.sub_zero]
  have hd : ((l.drop n).take (l.length - n)) = l.drop n := List.take_of_length_le (by rw [List.length_drop]; omega)
  rw [hd, sum_ok _ (by rw [mk_size, List.length_take]; omega) k (by rw [mk_size, List.length_take]; omega), L_mk, get_ok _ (by rw [List.length_drop]; omega) (by rw [List.length_drop]; omega) k (by omega)]
  simp only [Option.bind_some]
  have key : I (sum (l.take n)) = num (l.drop n) ↔ l = sealed (l.take n) := by
    rw [num_four _ _ (by rw [List.length_drop]; omega)]
    unfold sealed
    constructor
    · intro e
      rw [← e, List.take_append_drop]
    · intro e
      have e2 : l.take n ++ l.drop n = l.take n ++ four (sum (l.take n)) := by rw [List.take_append_drop]; exact e
      exact List.append_cancel_left e2
  by_cases c3 : l = sealed (l.take n)
  · rw [if_pos (key.2 c3), if_pos c3]
  · rw [if_neg (fun e => c3 (key.1 e)), if_neg c3]
end Go.Proofs.Ythhknlibgfmdkaa.Plain

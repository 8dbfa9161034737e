/- Words and reports, as the program reads them. -/
import Derived.Test.YthhknlibgfmdkaaCmd0
import Derived.Test.YthhknlibgfmdkaaPPeerBitsx5
import Derived.Test.YthhknlibgfmdkaaPPeerBitsx7
namespace Go.Proofs.Ythhknlibgfmdkaa.Plain
open Go.RowKit Go.Proofs.YthhknlibgfmdkaaW.PrintWords Go.Proofs.YthhknlibgfmdkaaW.PrintLast Go.Proofs.YthhknlibgfmdkaaW.PrintMore Go.Proofs.Ythhknlibgfmdkaa.PPeerBits

def within (n most : Int) : Bool := decide (0 ≤ n ∧ n ≤ most)
theorem within_ok (n most : Int) : peer_within.f n most = some (within n most) := by
  unfold peer_within.f within
  by_cases h : n ≥ 0
  · rw [if_pos h]; congr 1; rw [decide_eq_decide]; omega
  · rw [if_neg h]; congr 1; rw [decide_eq_false (by omega)]
def where3 (c p s : Int) : Bool := within c 1000000 && (within p 3 && within s 2)
theorem where_ok (c p s : Int) : peer_where.f c p s = some (where3 c p s) := by
  unfold peer_where.f where3
  simp only [within_ok, Option.bind_some]
  cases within c 1000000 <;> cases within p 3 <;> cases within s 2 <;> rfl
def rightW (c p s w : Int) : Bool := where3 c p s && within w 15
theorem rightW_ok (c p s w : Int) : peer_Word_right.f c p s w = some (rightW c p s w) := by
  unfold peer_Word_right.f rightW
  simp only [within_ok, where_ok, Option.bind_some]
  cases where3 c p s <;> cases within w 15 <;> rfl
def by_ (l : List UInt8) (i : Nat) : Int := (((l.getD i 0).toNat : Nat) : Int)
theorem by_lt (l : List UInt8) (i : Nat) : 0 ≤ by_ l i ∧ by_ l i ≤ 255 := by
  have h2 := (l.getD i 0).toNat_lt
  unfold by_; omega
theorem bt_by (l : List UInt8) (i : Nat) (i' : Int) (hi : (i : Int) = i') (h : i < l.length) : bt (mk l) i' = by_ l i := by
  subst hi
  rw [bt_mk l i h]
  unfold by_
  rw [show l.getD i 0 = l[i] by simp [List.getD, h]]
theorem w64_by (l : List UInt8) (i : Nat) : wrap64 (by_ l i) = by_ l i := by have := by_lt l i; exact w64 (by omega) (by omega)
theorem mod_by (l : List UInt8) (i : Nat) : wrap64 (Int.tmod (by_ l i) 16) = by_ l i % 16 := by
  have := by_lt l i
  rw [Int.tmod_eq_emod_of_nonneg this.1]; exact w64 (by omega) (by omega)
theorem quo_by (l : List UInt8) (i : Nat) : Int.tdiv (by_ l i) 16 % 256 = by_ l i / 16 := by
  have := by_lt l i
  rw [Int.tdiv_eq_ediv_of_nonneg this.1]; omega
theorem w64_num (l : List UInt8) : wrap64 (num l) = num l := by have := num_lt l; exact w64 (by omega) (by omega)
def RW (l : List UInt8) : Int × Int × Int × Int × Int :=
  if Err l 6 = 0 then (if rightW (num l) (by_ l 4 % 16) (by_ l 4 / 16) (by_ l 5) = true then (num l, by_ l 4 % 16, by_ l 4 / 16, by_ l 5, 0) else (0, 0, 0, 0, 3)) else (0, 0, 0, 0, Err l 6)
theorem rw_ok (l : List UInt8) (h : l.length ≤ 500) (k : Nat) (hk : 1200 ≤ k) : peer_ReadWord.f k (mk l) = some (RW l) := by
  unfold peer_ReadWord.f RW
  rw [open_ok l h 6 6 (by omega) rfl k (by omega)]
  simp only [Option.bind_some]
  by_cases c1 : Err l 6 = 0
  · have hl := Err_len c1
    rw [if_pos c1, if_pos c1, get_ok l (by omega) (by omega) k (by omega), mk_size, bt_by l 4 4 rfl (by omega), bt_by l 5 5 rfl (by omega)]
    simp only [Option.bind_some, w64_num, mod_by, quo_by, w64_by]
    rw [if_pos (by omega), if_pos (by omega), rightW_ok, Option.bind_some]
    by_cases c2 : rightW (num l) (by_ l 4 % 16) (by_ l 4 / 16) (by_ l 5) = true
    · rw [if_pos c2, if_pos c2]
    · rw [if_neg c2, if_neg c2]
  · rw [if_neg c1, if_neg c1]
def rightR (c p s v d i a b f : Int) : Bool := (within v 255 && (within d 255 && (within i 255 && within f 255))) && (where3 c p s && (within a 4 && within b 4))
theorem rr_one (k : Nat) (l : List Int) (n i j b c p s v d x a q f : Int) (hn : (l.length : Int) = n) (h0 : 0 ≤ i) (h : i < n) (hi : i ≤ 100) (hb : rd l i = b) (hj : i + 1 = j) :
    peer_Report_right.l0 (k + 1) l n i c p s v d x a q f = if within b 255 = true then peer_Report_right.l0 k l n j c p s v d x a q f else some false := by
  rw [peer_Report_right.l0, if_pos h, if_pos h0, if_pos (by omega), hb, within_ok, w64 (by omega) (by omega), hj]
  rfl
theorem rr_end (k : Nat) (l : List Int) (n c p s v d x a q f : Int) : peer_Report_right.l0 (k + 1) l n n c p s v d x a q f = some (where3 c p s && (within a 4 && within q 4)) := by
  rw [peer_Report_right.l0, if_neg (by omega)]
  simp only [within_ok, where_ok, Option.bind_some]
  cases where3 c p s <;> cases within a 4 <;> cases within q 4 <;> rfl
theorem rightR_ok (k : Nat) (hk : 20 ≤ k) (c p s v d i a b f : Int) : peer_Report_right.f k c p s v d i a b f = some (rightR c p s v d i a b f) := by
  obtain ⟨m, rfl⟩ : ∃ m, k = m + 1 + 1 + 1 + 1 + 1 := ⟨k - 5, by omega⟩
  unfold peer_Report_right.f rightR
  simp only [Option.bind_some]
  rw [show (([v, d, i, f] : List Int).length : Int) = 4 from rfl]
  rw [rr_one _ _ 4 0 1 v _ _ _ _ _ _ _ _ _ rfl (by omega) (by omega) (by omega) rfl (by omega)]
  rw [rr_one _ _ 4 1 2 d _ _ _ _ _ _ _ _ _ rfl (by omega) (by omega) (by omega) rfl (by omega)]
  rw [rr_one _ _ 4 2 3 i _ _ _ _ _ _ _ _ _ rfl (by omega) (by omega) (by omega) rfl (by omega)]
  rw [rr_one _ _ 4 3 4 f _ _ _ _ _ _ _ _ _ rfl (by omega) (by omega) (by omega) rfl (by omega), rr_end]
  cases within v 255 <;> cases within d 255 <;> cases within i 255 <;> cases within f 255 <;> rfl
def RR (l : List UInt8) : Int × Int × Int × Int × Int × Int × Int × Int × Int × Int :=
  if Err l 10 = 0 then (if rightR (num l) (by_ l 4 % 16) (by_ l 4 / 16) (by_ l 5) (by_ l 6) (by_ l 7) (by_ l 8 % 16) (by_ l 8 / 16) (by_ l 9) = true then (num l, by_ l 4 % 16, by_ l 4 / 16, by_ l 5, by_ l 6, by_ l 7, by_ l 8 % 16, by_ l 8 / 16, by_ l 9, 0) else (0, 0, 0, 0, 0, 0, 0, 0, 0, 3)) else (0, 0, 0, 0, 0, 0, 0, 0, 0, Err l 10)
theorem rr_ok (l : List UInt8) (h : l.length ≤ 500) (k : Nat) (hk : 1200 ≤ k) : peer_ReadReport.f k (mk l) = some (RR l) := by
  unfold peer_ReadReport.f RR
  rw [open_ok l h 10 10 (by omega) rfl k (by omega)]
  simp only [Option.bind_some]
  by_cases c1 : Err l 10 = 0
  · have hl := Err_len c1
    rw [if_pos c1, if_pos c1, get_ok l (by omega) (by omega) k (by omega), mk_size, bt_by l 4 4 rfl (by omega), bt_by l 5 5 rfl (by omega), bt_by l 6 6 rfl (by omega), bt_by l 7 7 rfl (by omega), bt_by l 8 8 rfl (by omega), bt_by l 9 9 rfl (by omega)]
    simp only [Option.bind_some, w64_num, mod_by, quo_by, w64_by]
    rw [if_pos (by omega), if_pos (by omega), if_pos (by omega), if_pos (by omega), if_pos (by omega), if_pos (by omega), rightR_ok k (by omega), Option.bind_some]
    by_cases c2 : rightR (num l) (by_ l 4 % 16) (by_ l 4 / 16) (by_ l 5) (by_ l 6) (by_ l 7) (by_ l 8 % 16) (by_ l 8 / 16) (by_ l 9) = true
    · rw [if_pos c2, if_pos c2]
    · rw [if_neg c2, if_neg c2]
  · rw [if_neg c1, if_neg c1]
theorem RW_len {l : List UInt8} (h : (RW l).2.2.2.2 = 0) : l.length = 10 := by
  unfold RW at h
  by_cases c1 : Err l 6 = 0
  · exact (Err_len c1).1
  · rw [if_neg c1] at h; exact absurd h c1
theorem RR_len {l : List UInt8} (h : (RR l).2.2.2.2.2.2.2.2.2 = 0) : l.length = 14 := by
  unfold RR at h
  by_cases c1 : Err l 10 = 0
  · exact (Err_len c1).1
  · rw [if_neg c1] at h; exact absurd h c1
theorem RC_len {l : List UInt8} (h : (RC l).2 = 0) : l.length = 8 := by
  unfold RC at h
  by_cases c1 : Err l 4 = 0
  · exact (Err_len c1).1
  · rw [if_neg c1] at h; exact absurd h c1
theorem Err_short {l : List UInt8} {n : Nat} (h : l.length < n + 4) : Err l n = 5 := by unfold Err; rw [if_pos h]
theorem RW_short {l : List UInt8} (h : l.length < 10) : (RW l).2.2.2.2 = 5 := by
  unfold RW; rw [Err_short (n := 6) (by omega), if_neg (by decide)]
theorem RR_short {l : List UInt8} (h : l.length < 14) : (RR l).2.2.2.2.2.2.2.2.2 = 5 := by
  unfold RR; rw [Err_short (n := 10) (by omega), if_neg (by decide)]
theorem RC_short {l : List UInt8} (h : l.length < 8) : (RC l).2 = 5 := by
  unfold RC; rw [Err_short (n := 4) (by omega), if_neg (by decide)]
end Go.Proofs.Ythhknlibgfmdkaa.Plain

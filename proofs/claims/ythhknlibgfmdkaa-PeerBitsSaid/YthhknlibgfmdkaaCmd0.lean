/- Commands: what is printed and read. -/
import Derived.Test.YthhknlibgfmdkaaSeal
import Derived.Test.YthhknlibgfmdkaaPPeerBitsx8
namespace Go.Proofs.Ythhknlibgfmdkaa.Plain
open Go.RowKit Go.Proofs.YthhknlibgfmdkaaW.PrintWords Go.Proofs.YthhknlibgfmdkaaW.PrintLast Go.Proofs.YthhknlibgfmdkaaW.PrintMore Go.Proofs.Ythhknlibgfmdkaa.PPeerBits

theorem awake_up : ∀ n, LeO (apogeelaw07_awake.f 200) (apogeelaw07_awake.f (200 + n))
  | 0 => LeO.refl _
  | n + 1 => fun r h => apogeelaw07_awake.mono (200 + n) r (awake_up n r h)
theorem awake_200 : apogeelaw07_awake.f 200 = some true := by decide +kernel
theorem awake_ok (k : Nat) (hk : 200 ≤ k) : apogeelaw07_awake.f k = some true := by
  have h := awake_up (k - 200) true awake_200
  rw [show 200 + (k - 200) = k by omega] at h
  exact h
/-- A command's payload. -/
def PB (c : Int) : List Int := [c % 256, Go.bits .xor .u8 (c % 256) 85, Go.bits .xor .u8 (c % 256) 170, Go.bits .xor .u8 (c % 256) 255]
def PC (c : Int) : List UInt8 := if 1 ≤ c ∧ c ≤ 3 then sealed ((PB c).map nb) else []
theorem PC_len (c : Int) : (PC c).length ≤ 8 := by
  unfold PC; split
  · rw [sealed_len]; exact Nat.le_refl _
  · exact Nat.zero_le _
theorem pc_ok (c : Int) {k : Nat} (hk : 1200 ≤ k) : peer_PrintCommand.f k c = some (mk (PC c)) := by
  obtain ⟨m, rfl⟩ : ∃ m, k = m + 1 := ⟨k - 1, by omega⟩
  unfold peer_PrintCommand.f PC
  by_cases c1 : c < 1
  · rw [if_pos c1, if_neg (by omega), peer_PrintCommand.j0, if_pos rfl]; rfl
  rw [if_neg c1, peer_PrintCommand.j0]
  by_cases c2 : c > 3
  · rw [decide_eq_true c2, if_pos rfl, if_neg (by omega)]; rfl
  rw [decide_eq_false c2, if_neg (by decide), if_pos (by omega)]
  have h := seal_ok (PB c) (by show 4 ≤ 1000; omega) m (by omega)
  unfold PB at h
  rw [h]
  rfl
def RC (l : List UInt8) : Int × Int := if Err l 4 = 0 then (if PC ((((l.getD 0 0).toNat : Nat)) : Int) = l then (((((l.getD 0 0).toNat : Nat)) : Int), 0) else (0, 3)) else (0, Err l 4)
theorem Err_len {l : List UInt8} {n : Nat} (h : Err l n = 0) : l.length = n + 4 ∧ l = sealed (l.take n) := by
  unfold Err at h
  by_cases c1 : l.length < n + 4
  · rw [if_pos c1] at h; omega
  rw [if_neg c1] at h
  by_cases c2 : l.length > n + 4
  · rw [if_pos c2] at h; omega
  rw [if_neg c2] at h
  by_cases c3 : l = sealed (l.take n)
  · exact ⟨by omega, c3⟩
  · rw [if_neg c3] at h; omega
theorem bt0 (l : List UInt8) (h : 0 < l.length) : wrap64 (bt (mk l) 0) = (((l.getD 0 0).toNat : Nat) : Int) := by
  have e := bt_mk l 0 h
  have h2 := (l.getD 0 0).toNat_lt
  have e2 : l.getD 0 0 = l[0] := by simp [List.getD, h]
  rw [show (0 : Int) = ((0 : Nat) : Int) from rfl, e, ← e2]
  exact w64 (by omega) (by omega)
theorem rc_ok (l : List UInt8) (h : l.length ≤ 500) (k : Nat) (hk : 1200 ≤ k) : peer_ReadCommand.f k (mk l) = some (RC l) := by
  unfold peer_ReadCommand.f RC
  rw [open_ok l h 4 4 (by omega) rfl k (by omega)]
  simp only [Option.bind_some]
  by_cases c1 : Err l 4 = 0
  · have hl := Err_len c1
    rw [if_pos c1, if_pos c1, mk_size, if_pos (by omega), bt0 l (by omega), pc_ok _ hk]
    simp only [Option.bind_some, toList_mk]
    by_cases c2 : PC ((((l.getD 0 0).toNat : Nat)) : Int) = l
    · rw [if_pos c2, if_pos c2]
    · rw [if_neg c2, if_neg c2]
  · rw [if_neg c1, if_neg c1]
theorem RC_back (l : List UInt8) (h : (RC l).2 = 0) : PC (RC l).1 = l := by
  unfold RC at h ⊢
  by_cases c1 : Err l 4 = 0
  · rw [if_pos c1] at h ⊢
    by_cases c2 : PC ((((l.getD 0 0).toNat : Nat)) : Int) = l
    · rw [if_pos c2]; exact c2
    · rw [if_neg c2] at h; exact absurd h (by decide)
  · rw [if_neg c1] at h; exact absurd h c1
theorem Err_sealed (p : List UInt8) (n : Nat) (hn : p.length = n) : Err (sealed p) n = 0 := by
  unfold Err
  rw [sealed_len, if_neg (by omega), if_neg (by omega), if_pos]
  unfold sealed
  rw [List.take_left' hn]
theorem RC_PC (c : Int) (h : PC c ≠ []) : RC (PC c) = (c, 0) := by
  have hc : 1 ≤ c ∧ c ≤ 3 := by
    by_cases hc : 1 ≤ c ∧ c ≤ 3
    · exact hc
    · exact absurd (by unfold PC; rw [if_neg hc]) h
  have hp : PC c = sealed ((PB c).map nb) := by unfold PC; rw [if_pos hc]
  have h0 : ((((PC c).getD 0 0).toNat : Nat) : Int) = c := by
    rw [hp]
    show (((nb (c % 256)).toNat : Nat) : Int) = c
    unfold nb
    rw [UInt8.toNat_ofNat']
    omega
  unfold RC
  rw [h0, if_pos, if_pos rfl]
  rw [hp]
  exact Err_sealed _ 4 rfl
end Go.Proofs.Ythhknlibgfmdkaa.Plain

/- Words and reports, as the program prints them; what is printed is read as it was, and the other way round. -/
import Derived.Test.YthhknlibgfmdkaaReadBoth
import Derived.Test.YthhknlibgfmdkaaPPeerBitsx3
import Derived.Test.YthhknlibgfmdkaaPPeerBitsx6
namespace Go.Proofs.Ythhknlibgfmdkaa.Plain
open Go.RowKit Go.Proofs.YthhknlibgfmdkaaW.PrintWords Go.Proofs.YthhknlibgfmdkaaW.PrintLast Go.Proofs.YthhknlibgfmdkaaW.PrintMore Go.Proofs.Ythhknlibgfmdkaa.PPeerBits

def cyc (c : Int) : List Int := [c % 4294967296 / 16777216 % 256, c % 4294967296 / 65536 % 256, c % 4294967296 / 256 % 256, c % 4294967296 % 256]
def WB (c p s w : Int) : List Int := cyc c ++ [wrap64 (p + wrap64 (16 * s)) % 256, w % 256]
def PW (c p s w : Int) : List UInt8 := if rightW c p s w = true then sealed ((WB c p s w).map nb) else []
theorem PW_len (c p s w : Int) : (PW c p s w).length ≤ 10 := by
  unfold PW; split
  · rw [sealed_len]; exact Nat.le_refl _
  · exact Nat.zero_le _
theorem pw_ok (c p s w : Int) {k : Nat} (hk : 1200 ≤ k) : peer_PrintWord.f k c p s w = some (mk (PW c p s w)) := by
  unfold peer_PrintWord.f PW peer_put.f
  rw [rightW_ok, Option.bind_some]
  by_cases h : rightW c p s w = true
  · rw [if_pos h, if_pos h]
    simp only [Option.bind_some]
    rw [if_pos (by simp only [List.length_cons, List.length_nil]; omega)]
    have e := seal_ok (WB c p s w) (by show 6 ≤ 1000; omega) k (by omega)
    unfold WB cyc at e ⊢
    rw [e, Option.bind_some]
  · rw [if_neg h, if_neg h]; rfl
def RB (c p s v d i a b f : Int) : List Int := cyc c ++ [wrap64 (p + wrap64 (16 * s)) % 256, v % 256, d % 256, i % 256, wrap64 (a + wrap64 (16 * b)) % 256, f % 256]
def PR (c p s v d i a b f : Int) : List UInt8 := if rightR c p s v d i a b f = true then sealed ((RB c p s v d i a b f).map nb) else []
theorem PR_len (c p s v d i a b f : Int) : (PR c p s v d i a b f).length ≤ 14 := by
  unfold PR; split
  · rw [sealed_len]; exact Nat.le_refl _
  · exact Nat.zero_le _
theorem pr_ok (c p s v d i a b f : Int) {k : Nat} (hk : 1200 ≤ k) : peer_PrintReport.f k c p s v d i a b f = some (mk (PR c p s v d i a b f)) := by
  unfold peer_PrintReport.f PR peer_put.f
  rw [rightR_ok k (by omega), Option.bind_some]
  by_cases h : rightR c p s v d i a b f = true
  · rw [if_pos h, if_pos h]
    simp only [Option.bind_some]
    rw [if_pos (by simp only [List.length_cons, List.length_nil]; omega)]
    have e := seal_ok (RB c p s v d i a b f) (by show 10 ≤ 1000; omega) k (by omega)
    unfold RB cyc at e ⊢
    rw [e, Option.bind_some]
  · rw [if_neg h, if_neg h]; rfl
theorem within_iff (n most : Int) : within n most = true ↔ 0 ≤ n ∧ n ≤ most := by unfold within; exact decide_eq_true_iff
theorem rightW_iff (c p s w : Int) : rightW c p s w = true ↔ (0 ≤ c ∧ c ≤ 1000000) ∧ (0 ≤ p ∧ p ≤ 3) ∧ (0 ≤ s ∧ s ≤ 2) ∧ (0 ≤ w ∧ w ≤ 15) := by
  unfold rightW where3
  simp only [Bool.and_eq_true, within_iff]
  constructor <;> intro h <;> omega
theorem rightR_iff (c p s v d i a b f : Int) : rightR c p s v d i a b f = true ↔ (0 ≤ c ∧ c ≤ 1000000) ∧ (0 ≤ p ∧ p ≤ 3) ∧ (0 ≤ s ∧ s ≤ 2) ∧ (0 ≤ v ∧ v ≤ 255) ∧ (0 ≤ d ∧ d ≤ 255) ∧ (0 ≤ i ∧ i ≤ 255) ∧ (0 ≤ a ∧ a ≤ 4) ∧ (0 ≤ b ∧ b ≤ 4) ∧ (0 ≤ f ∧ f ≤ 255) := by
  unfold rightR where3
  simp only [Bool.and_eq_true, within_iff]
  constructor <;> intro h <;> omega
theorem nb_toNat (x : Int) (h0 : 0 ≤ x) (h1 : x ≤ 255) : (((nb x).toNat : Nat) : Int) = x := by
  unfold nb; rw [UInt8.toNat_ofNat']; omega
theorem nb_by (l : List UInt8) (i : Nat) (h : i < l.length) : nb (by_ l i) = l[i] := by
  unfold by_
  rw [show l.getD i 0 = l[i] by simp [List.getD, h], nb_bt]
theorem num_cyc (c : Int) (h0 : 0 ≤ c) (h1 : c ≤ 1000000) (r : List UInt8) : num ((cyc c).map nb ++ r) = c := by
  have a0 := nb_toNat (c % 4294967296 / 16777216 % 256) (by omega) (by omega)
  have a1 := nb_toNat (c % 4294967296 / 65536 % 256) (by omega) (by omega)
  have a2 := nb_toNat (c % 4294967296 / 256 % 256) (by omega) (by omega)
  have a3 := nb_toNat (c % 4294967296 % 256) (by omega) (by omega)
  unfold num cyc
  simp only [List.map_cons, List.map_nil, List.cons_append, List.nil_append, List.getD_cons_zero, List.getD_cons_succ]
  omega
theorem cyc_num (l : List UInt8) (h : 4 ≤ l.length) : (cyc (num l)).map nb = l.take 4 := by
  match l, h with
  | a :: b :: c :: d :: r, _ =>
    have ha := a.toNat_lt
    have hb := b.toNat_lt
    have hc := c.toNat_lt
    have hd := d.toNat_lt
    have hn : num (a :: b :: c :: d :: r) = (((a.toNat : Nat) : Int) * 16777216 + ((b.toNat : Nat) : Int) * 65536) + ((c.toNat : Nat) : Int) * 256 + ((d.toNat : Nat) : Int) := rfl
    unfold cyc
    rw [hn]
    have e0 : ((((a.toNat : Nat) : Int) * 16777216 + ((b.toNat : Nat) : Int) * 65536) + ((c.toNat : Nat) : Int) * 256 + ((d.toNat : Nat) : Int)) % 4294967296 / 16777216 % 256 = ((a.toNat : Nat) : Int) := by omega
    have e1 : ((((a.toNat : Nat) : Int) * 16777216 + ((b.toNat : Nat) : Int) * 65536) + ((c.toNat : Nat) : Int) * 256 + ((d.toNat : Nat) : Int)) % 4294967296 / 65536 % 256 = ((b.toNat : Nat) : Int) := by omega
    have e2 : ((((a.toNat : Nat) : Int) * 16777216 + ((b.toNat : Nat) : Int) * 65536) + ((c.toNat : Nat) : Int) * 256 + ((d.toNat : Nat) : Int)) % 4294967296 / 256 % 256 = ((c.toNat : Nat) : Int) := by omega
    have e3 : ((((a.toNat : Nat) : Int) * 16777216 + ((b.toNat : Nat) : Int) * 65536) + ((c.toNat : Nat) : Int) * 256 + ((d.toNat : Nat) : Int)) % 4294967296 % 256 = ((d.toNat : Nat) : Int) := by omega
    rw [e0, e1, e2, e3]
    simp only [List.map_cons, List.map_nil, nb_bt, List.take_succ_cons, List.take_zero]
theorem six (l : List UInt8) (h : l.length = 10) : l.take 6 = l.take 4 ++ [nb (by_ l 4), nb (by_ l 5)] := by
  match l, h with
  | [a, b, c, d, e, f, g, h', i, j], _ => simp [nb_bt, by_]
theorem ten (l : List UInt8) (h : l.length = 14) : l.take 10 = l.take 4 ++ [nb (by_ l 4), nb (by_ l 5), nb (by_ l 6), nb (by_ l 7), nb (by_ l 8), nb (by_ l 9)] := by
  match l, h with
  | [a, b, c, d, e, f, g, h', i, j, k, m, n, o], _ => simp [nb_bt, by_]
theorem RW_PW (c p s w : Int) (h : rightW c p s w = true) : RW (PW c p s w) = (c, p, s, w, 0) := by
  have hr := (rightW_iff c p s w).1 h
  have e1 : wrap64 (p + wrap64 (16 * s)) % 256 = p + 16 * s := by
    rw [w64 (x := 16 * s) (by omega) (by omega), w64 (by omega) (by omega)]; omega
  have e2 : w % 256 = w := by omega
  have hp : PW c p s w = (cyc c).map nb ++ (nb (p + 16 * s) :: nb w :: four (sum ((WB c p s w).map nb))) := by
    unfold PW; rw [if_pos h]; unfold sealed WB; rw [e1, e2, List.map_append, List.append_assoc]; rfl
  have hn : num (PW c p s w) = c := by rw [hp]; exact num_cyc c hr.1.1 hr.1.2 _
  have h4 : by_ (PW c p s w) 4 = p + 16 * s := by rw [hp]; exact nb_toNat _ (by omega) (by omega)
  have h5 : by_ (PW c p s w) 5 = w := by rw [hp]; exact nb_toNat _ (by omega) (by omega)
  have he : Err (PW c p s w) 6 = 0 := by unfold PW; rw [if_pos h]; exact Err_sealed _ 6 rfl
  unfold RW
  rw [if_pos he, hn, h4, h5, show (p + 16 * s) % 16 = p by omega, show (p + 16 * s) / 16 = s by omega, if_pos h]
theorem PW_RW (l : List UInt8) (h : (RW l).2.2.2.2 = 0) : PW (RW l).1 (RW l).2.1 (RW l).2.2.1 (RW l).2.2.2.1 = l := by
  have hl := RW_len h
  unfold RW at h ⊢
  by_cases c1 : Err l 6 = 0
  · rw [if_pos c1] at h ⊢
    have hs := (Err_len c1).2
    by_cases c2 : rightW (num l) (by_ l 4 % 16) (by_ l 4 / 16) (by_ l 5) = true
    · rw [if_pos c2]
      have b4 := by_lt l 4
      have b5 := by_lt l 5
      show PW (num l) (by_ l 4 % 16) (by_ l 4 / 16) (by_ l 5) = l
      have e1 : wrap64 (by_ l 4 % 16 + wrap64 (16 * (by_ l 4 / 16))) % 256 = by_ l 4 := by
        rw [w64 (x := 16 * (by_ l 4 / 16)) (by omega) (by omega), w64 (by omega) (by omega)]; omega
      have hw : (WB (num l) (by_ l 4 % 16) (by_ l 4 / 16) (by_ l 5)).map nb = l.take 6 := by
        unfold WB
        rw [e1, show by_ l 5 % 256 = by_ l 5 by omega, List.map_append, cyc_num l (by omega), six l hl]
        rfl
      unfold PW
      rw [if_pos c2, hw]
      exact hs.symm
    · rw [if_neg c2] at h; exact absurd h (show ¬ ((3 : Int) = 0) by decide)
  · rw [if_neg c1] at h; exact absurd h c1
theorem RR_PR (c p s v d i a b f : Int) (h : rightR c p s v d i a b f = true) : RR (PR c p s v d i a b f) = (c, p, s, v, d, i, a, b, f, 0) := by
  have hr := (rightR_iff c p s v d i a b f).1 h
  have e1 : wrap64 (p + wrap64 (16 * s)) % 256 = p + 16 * s := by
    rw [w64 (x := 16 * s) (by omega) (by omega), w64 (by omega) (by omega)]; omega
  have e6 : wrap64 (a + wrap64 (16 * b)) % 256 = a + 16 * b := by
    rw [w64 (x := 16 * b) (by omega) (by omega), w64 (by omega) (by omega)]; omega
  have hp : PR c p s v d i a b f = (cyc c).map nb ++ (nb (p + 16 * s) :: nb v :: nb d :: nb i :: nb (a + 16 * b) :: nb f :: four (sum ((RB c p s v d i a b f).map nb))) := by
    unfold PR; rw [if_pos h]; unfold sealed RB
    rw [e1, e6, show v % 256 = v by omega, show d % 256 = d by omega, show i % 256 = i by omega, show f % 256 = f by omega, List.map_append, List.append_assoc]; rfl
  have hn : num (PR c p s v d i a b f) = c := by rw [hp]; exact num_cyc c hr.1.1 hr.1.2 _
  have h4 : by_ (PR c p s v d i a b f) 4 = p + 16 * s := by rw [hp]; exact nb_toNat _ (by omega) (by omega)
  have h5 : by_ (PR c p s v d i a b f) 5 = v := by rw [hp]; exact nb_toNat _ (by omega) (by omega)
  have h6 : by_ (PR c p s v d i a b f) 6 = d := by rw [hp]; exact nb_toNat _ (by omega) (by omega)
  have h7 : by_ (PR c p s v d i a b f) 7 = i := by rw [hp]; exact nb_toNat _ (by omega) (by omega)
  have h8 : by_ (PR c p s v d i a b f) 8 = a + 16 * b := by rw [hp]; exact nb_toNat _ (by omega) (by omega)
  have h9 : by_ (PR c p s v d i a b f) 9 = f := by rw [hp]; exact nb_toNat _ (by omega) (by omega)
  have he : Err (PR c p s v d i a b f) 10 = 0 := by unfold PR; rw [if_pos h]; exact Err_sealed _ 10 rfl
  unfold RR
  rw [if_pos he, hn, h4, h5, h6, h7, h8, h9, show (p + 16 * s) % 16 = p by omega, show (p + 16 * s) / 16 = s by omega, show (a + 16 * b) % 16 = a by omega, show (a + 16 * b) / 16 = b by omega, if_pos h]
theorem PR_RR (l : List UInt8) (h : (RR l).2.2.2.2.2.2.2.2.2 = 0) : PR (RR l).1 (RR l).2.1 (RR l).2.2.1 (RR l).2.2.2.1 (RR l).2.2.2.2.1 (RR l).2.2.2.2.2.1 (RR l).2.2.2.2.2.2.1 (RR l).2.2.2.2.2.2.2.1 (RR l).2.2.2.2.2.2.2.2.1 = l := by
  have hl := RR_len h
  unfold RR at h ⊢
  by_cases c1 : Err l 10 = 0
  · rw [if_pos c1] at h ⊢
    have hs := (Err_len c1).2
    by_cases c2 : rightR (num l) (by_ l 4 % 16) (by_ l 4 / 16) (by_ l 5) (by_ l 6) (by_ l 7) (by_ l 8 % 16) (by_ l 8 / 16) (by_ l 9) = true
    · rw [if_pos c2]
      have b4 := by_lt l 4
      have b5 := by_lt l 5
      have b6 := by_lt l 6
      have b7 := by_lt l 7
      have b8 := by_lt l 8
      have b9 := by_lt l 9
      show PR (num l) (by_ l 4 % 16) (by_ l 4 / 16) (by_ l 5) (by_ l 6) (by_ l 7) (by_ l 8 % 16) (by_ l 8 / 16) (by_ l 9) = l
      have e1 : wrap64 (by_ l 4 % 16 + wrap64 (16 * (by_ l 4 / 16))) % 256 = by_ l 4 := by
        rw [w64 (x := 16 * (by_ l 4 / 16)) (by omega) (by omega), w64 (by omega) (by omega)]; omega
      have e6 : wrap64 (by_ l 8 % 16 + wrap64 (16 * (by_ l 8 / 16))) % 256 = by_ l 8 := by
        rw [w64 (x := 16 * (by_ l 8 / 16)) (by omega) (by omega), w64 (by omega) (by omega)]; omega
      have hw : (RB (num l) (by_ l 4 % 16) (by_ l 4 / 16) (by_ l 5) (by_ l 6) (by_ l 7) (by_ l 8 % 16) (by_ l 8 / 16) (by_ l 9)).map nb = l.take 10 := by
        unfold RB
        rw [e1, e6, show by_ l 5 % 256 = by_ l 5 by omega, show by_ l 6 % 256 = by_ l 6 by omega, show by_ l 7 % 256 = by_ l 7 by omega, show by_ l 9 % 256 = by_ l 9 by omega, List.map_append, cyc_num l (by omega), ten l hl]
        rfl
      unfold PR
      rw [if_pos c2, hw]
      exact hs.symm
    · rw [if_neg c2] at h; exact absurd h (show ¬ ((3 : Int) = 0) by decide)
  · rw [if_neg c1] at h; exact absurd h c1
end Go.Proofs.Ythhknlibgfmdkaa.Plain

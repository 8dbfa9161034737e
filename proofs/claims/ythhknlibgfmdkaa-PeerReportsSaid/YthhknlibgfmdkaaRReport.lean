/- Reports: the document's are printed and read alike. -/
import Derived.Test.YthhknlibgfmdkaaPrintBoth
import Derived.Test.YthhknlibgfmdkaaRSeal
import Derived.Test.YthhknlibgfmdkaaPPeerReportsx11
import Derived.Test.YthhknlibgfmdkaaPPeerReportsx12
namespace Go.Proofs.Ythhknlibgfmdkaa.Plain
open Go.RowKit Go.Proofs.YthhknlibgfmdkaaW.PrintWords Go.Proofs.YthhknlibgfmdkaaW.PrintLast Go.Proofs.YthhknlibgfmdkaaW.PrintMore Go.Proofs.Ythhknlibgfmdkaa.PPeerReports

theorem rwithin_ok (n most : Int) : apogeeref07_within.f n most = some (within n most) := by
  unfold apogeeref07_within.f within
  by_cases h : n ≥ 0
  · rw [if_pos h]; congr 1; rw [decide_eq_decide]; omega
  · rw [if_neg h]; congr 1; rw [decide_eq_false (by omega)]
theorem rmod_by (l : List UInt8) (i : Nat) : Int.tmod (wrap64 (by_ l i)) 16 = by_ l i % 16 := by
  have := by_lt l i
  rw [w64_by, Int.tmod_eq_emod_of_nonneg this.1]
theorem rquo_by (l : List UInt8) (i : Nat) : wrap64 (Int.tdiv (wrap64 (by_ l i)) 16) = by_ l i / 16 := by
  have := by_lt l i
  rw [w64_by, Int.tdiv_eq_ediv_of_nonneg this.1]; exact w64 (by omega) (by omega)
theorem number_ok (l : List UInt8) (h : 4 ≤ l.length) : apogeeref07_number.f (mk l) = some (num l) := by
  have b0 := by_lt l 0
  have b1 := by_lt l 1
  have b2 := by_lt l 2
  have b3 := by_lt l 3
  unfold apogeeref07_number.f
  rw [mk_size, if_pos (by omega), if_pos (by omega), if_pos (by omega), if_pos (by omega), bt_by l 0 0 rfl (by omega), bt_by l 1 1 rfl (by omega), bt_by l 2 2 rfl (by omega), bt_by l 3 3 rfl (by omega)]
  rw [w64_by, w64_by, w64_by, w64_by, w64 (x := by_ l 0 * 16777216) (by omega) (by omega), w64 (x := by_ l 1 * 65536) (by omega) (by omega), w64 (x := by_ l 2 * 256) (by omega) (by omega),
    w64 (x := by_ l 0 * 16777216 + by_ l 1 * 65536) (by omega) (by omega), w64 (x := by_ l 0 * 16777216 + by_ l 1 * 65536 + by_ l 2 * 256) (by omega) (by omega), w64 (x := by_ l 0 * 16777216 + by_ l 1 * 65536 + by_ l 2 * 256 + by_ l 3) (by omega) (by omega)]
  rfl
theorem rrightR_ok (c p s v d i a b f : Int) : apogeeref07_RightReport.f c p s v d i a b f = some (rightR c p s v d i a b f) := by
  unfold apogeeref07_RightReport.f rightR where3
  simp only [rwithin_ok, Option.bind_some]
  cases within c 1000000 <;> cases within p 3 <;> cases within s 2 <;> cases within v 255 <;> cases within d 255 <;> cases within i 255 <;> cases within a 4 <;> cases within b 4 <;> cases within f 255 <;> rfl
theorem rrr_ok (l : List UInt8) (h : l.length ≤ 500) (k : Nat) (hk : 1200 ≤ k) : apogeeref07_ReadReport.f k (mk l) = some (RR l) := by
  unfold apogeeref07_ReadReport.f RR
  rw [ropen_ok l h 10 10 (by omega) rfl k (by omega)]
  simp only [Option.bind_some]
  by_cases c1 : Err l 10 = 0
  · have hl := Err_len c1
    rw [if_pos c1, if_pos c1, number_ok l (by omega), mk_size, bt_by l 4 4 rfl (by omega), bt_by l 5 5 rfl (by omega), bt_by l 6 6 rfl (by omega), bt_by l 7 7 rfl (by omega), bt_by l 8 8 rfl (by omega), bt_by l 9 9 rfl (by omega)]
    simp only [Option.bind_some, rmod_by, rquo_by]
    rw [w64_by, w64_by, w64_by, w64_by, if_pos (by omega), if_pos (by omega), if_pos (by omega), if_pos (by omega), if_pos (by omega), if_pos (by omega), rrightR_ok, Option.bind_some]
    by_cases c2 : rightR (num l) (by_ l 4 % 16) (by_ l 4 / 16) (by_ l 5) (by_ l 6) (by_ l 7) (by_ l 8 % 16) (by_ l 8 / 16) (by_ l 9) = true
    · rw [if_pos c2, if_pos c2]
    · rw [if_neg c2, if_neg c2]
  · rw [if_neg c1, if_neg c1]
theorem rpr_ok (c p s v d i a b f : Int) {k : Nat} (hk : 1200 ≤ k) : apogeeref07_PrintReport.f k c p s v d i a b f = some (mk (PR c p s v d i a b f)) := by
  unfold apogeeref07_PrintReport.f PR apogeeref07_four.f
  rw [rrightR_ok, Option.bind_some]
  by_cases h : rightR c p s v d i a b f = true
  · rw [if_pos h, if_pos h]
    simp only [Option.bind_some]
    rw [nums_mk, nums_mk, cat_mk, if_pos (by rw [mk_size, mk_size]; simp only [List.length_map, List.length_cons, List.length_nil]; omega)]
    have e := rsealed_ok (mk ((RB c p s v d i a b f).map nb)) (by rw [mk_size, List.length_map]; show 10 ≤ 1000; omega) k (by omega)
    rw [L_mk] at e
    unfold RB cyc at e ⊢
    rw [List.map_append] at e ⊢
    rw [e, Option.bind_some]
  · rw [if_neg h, if_neg h]; rfl
end Go.Proofs.Ythhknlibgfmdkaa.Plain

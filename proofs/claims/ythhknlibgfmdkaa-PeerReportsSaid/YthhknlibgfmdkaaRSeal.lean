/- What is sealed, and what is opened, by the document: alike. -/
import Derived.Test.YthhknlibgfmdkaaSeal
import Derived.Test.YthhknlibgfmdkaaRCrc
import Derived.Test.YthhknlibgfmdkaaPPeerReportsx10
namespace Go.Proofs.Ythhknlibgfmdkaa.Plain
open Go.RowKit Go.Proofs.YthhknlibgfmdkaaW.PrintWords Go.Proofs.YthhknlibgfmdkaaW.PrintLast Go.Proofs.YthhknlibgfmdkaaW.PrintMore Go.Proofs.Ythhknlibgfmdkaa.PPeerReports

theorem rsealed_ok (s : ByteArray) (h : s.size ≤ 1000) (k : Nat) (hk : 1100 ≤ k) : apogeeref07_sealed.f k s = some (mk (sealed (L s))) := by
  have e : (strOfNums [I (sum (L s)) / 16777216 % 256, I (sum (L s)) / 65536 % 256, I (sum (L s)) / 256 % 256, I (sum (L s)) % 256]) = mk (four (sum (L s))) := nums_mk _
  unfold apogeeref07_sealed.f
  rw [rsum_ok _ (by omega) k (by omega)]
  simp only [Option.bind_some, apogeeref07_four.f]
  rw [e, if_pos (by rw [mk_size, four_len]; omega)]
  have : s ++ mk (four (sum (L s))) = mk (sealed (L s)) := by
    rw [← mk_L s, cat_mk, L_mk]; rfl
  rw [this]
theorem ropen_ok (l : List UInt8) (_h : l.length ≤ 500) (n : Nat) (n' : Int) (hn : n ≤ 100) (hn' : (n : Int) = n') (k : Nat) (hk : 1100 ≤ k) : apogeeref07_open.f k (mk l) n' = some (Err l n) := by
  have en : n'.toNat = n := by omega
  unfold apogeeref07_open.f Err
  rw [w64 (x := n' + 4) (by omega) (by omega), mk_size, en]
  by_cases c1 : l.length < n + 4
  · rw [if_pos (by omega), if_pos c1]
  rw [if_neg (by omega), if_neg c1]
  by_cases c2 : l.length > n + 4
  · rw [if_pos (by omega), if_pos c2]
  rw [if_neg (by omega), if_neg c2, if_pos (by omega), if_pos (by omega), cut_mk, List.drop_zero, Nat.sub_zero]
  rw [rsealed_ok _ (by rw [mk_size, List.length_take]; omega) k hk, L_mk]
  simp only [Option.bind_some]
  rw [toList_mk, toList_mk]
  by_cases c3 : l = sealed (l.take n)
  · rw [if_pos c3.symm, if_pos c3]
  · rw [if_neg (fun e => c3 e.symm), if_neg c3]
end Go.Proofs.Ythhknlibgfmdkaa.Plain

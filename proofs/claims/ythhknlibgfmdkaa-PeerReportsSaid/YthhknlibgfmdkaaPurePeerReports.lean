/- PeerReports: any report has the payload that the document says, or none, and is read as it was; any bytes are read as it says. -/
import Derived.Test.YthhknlibgfmdkaaStmPeerReports
import Derived.Test.YthhknlibgfmdkaaRReport
namespace Go.Proofs.Ythhknlibgfmdkaa.Pure
open Go.RowKit Go.Proofs.YthhknlibgfmdkaaW.PrintWords Go.Proofs.YthhknlibgfmdkaaW.PrintLast Go.Proofs.YthhknlibgfmdkaaW.PrintMore Go.Proofs.Ythhknlibgfmdkaa.PPeerReports Go.Proofs.Ythhknlibgfmdkaa.Plain

theorem PeerReports : apogeelaw07_PeerReports.Pure := by
  intro c p q v d i a b f s _ _ _ _ _ _ _ _ _ hs
  refine ⟨2001, ?_⟩
  unfold apogeelaw07_PeerReports.f
  rw [awake_ok 2001 (by omega)]
  simp only [Option.bind_some, if_true]
  rw [apogeelaw07_PeerReports.j0]
  by_cases h : (s.size : Int) > 100
  · rw [decide_eq_true h, if_pos rfl, awake_ok 2000 (by omega)]
    rfl
  rw [decide_eq_false h, if_neg (by decide)]
  obtain ⟨l, rfl⟩ : ∃ l, s = mk l := ⟨L s, (mk_L s).symm⟩
  rw [mk_size] at h
  unfold apogeelaw07_likeReport.f
  rw [pr_ok c p q v d i a b f (by omega), Option.bind_some, rr_ok _ (by have := PR_len c p q v d i a b f; omega) 2000 (by omega), rr_ok l (by omega) 2000 (by omega), rrr_ok l (by omega) 2000 (by omega)]
  simp only [Option.bind_some]
  rw [rpr_ok c p q v d i a b f (by omega)]
  simp only [Option.bind_some, if_true, toList_mk, beq_self_eq_true, Bool.and_self]
  have fin : (if (RR l).2.2.2.2.2.2.2.2.2 = 0 then ((peer_PrintReport.f 2000 (RR l).1 (RR l).2.1 (RR l).2.2.1 (RR l).2.2.2.1 (RR l).2.2.2.2.1 (RR l).2.2.2.2.2.1 (RR l).2.2.2.2.2.2.1 (RR l).2.2.2.2.2.2.2.1 (RR l).2.2.2.2.2.2.2.2.1).bind fun t => some (t.toList == l)) else some true) = some true := by
    by_cases c2 : (RR l).2.2.2.2.2.2.2.2.2 = 0
    · rw [if_pos c2, pr_ok _ _ _ _ _ _ _ _ _ (by omega), Option.bind_some, toList_mk, PR_RR l c2]
      simp
    · rw [if_neg c2]
  rw [fin]
  by_cases c1 : PR c p q v d i a b f = []
  · rw [if_pos c1]
  · rw [if_neg c1]
    have hr : rightR c p q v d i a b f = true := by
      by_cases hr : rightR c p q v d i a b f = true
      · exact hr
      · exact absurd (by unfold PR; rw [if_neg hr]) c1
    rw [RR_PR c p q v d i a b f hr]
    simp
end Go.Proofs.Ythhknlibgfmdkaa.Pure

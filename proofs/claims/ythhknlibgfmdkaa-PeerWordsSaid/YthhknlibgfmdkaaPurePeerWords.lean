/- PeerWords: any word has the payload that the document says, or none, and is read as it was; any bytes are read as it says. -/
import Derived.Test.YthhknlibgfmdkaaStmPeerWords
import Derived.Test.YthhknlibgfmdkaaRWord
namespace Go.Proofs.Ythhknlibgfmdkaa.Pure
open Go.RowKit Go.Proofs.YthhknlibgfmdkaaW.PrintWords Go.Proofs.YthhknlibgfmdkaaW.PrintLast Go.Proofs.YthhknlibgfmdkaaW.PrintMore Go.Proofs.Ythhknlibgfmdkaa.PPeerWords Go.Proofs.Ythhknlibgfmdkaa.Plain

theorem PeerWords : apogeelaw07_PeerWords.Pure := by
  intro c p q w s _ _ _ _ hs
  refine ⟨2001, ?_⟩
  unfold apogeelaw07_PeerWords.f
  rw [awake_ok 2001 (by omega)]
  simp only [Option.bind_some, if_true]
  rw [apogeelaw07_PeerWords.j0]
  by_cases h : (s.size : Int) > 100
  · rw [decide_eq_true h, if_pos rfl, awake_ok 2000 (by omega)]
    rfl
  rw [decide_eq_false h, if_neg (by decide)]
  obtain ⟨l, rfl⟩ : ∃ l, s = mk l := ⟨L s, (mk_L s).symm⟩
  rw [mk_size] at h
  unfold apogeelaw07_likeWord.f
  rw [pw_ok c p q w (by omega), Option.bind_some, rw_ok _ (by have := PW_len c p q w; omega) 2000 (by omega), rw_ok l (by omega) 2000 (by omega), rrw_ok l (by omega) 2000 (by omega)]
  simp only [Option.bind_some]
  rw [rpw_ok c p q w (by omega)]
  simp only [Option.bind_some, if_true, toList_mk, beq_self_eq_true, Bool.and_self]
  have fin : (if (RW l).2.2.2.2 = 0 then ((peer_PrintWord.f 2000 (RW l).1 (RW l).2.1 (RW l).2.2.1 (RW l).2.2.2.1).bind fun t => some (t.toList == l)) else some true) = some true := by
    by_cases c2 : (RW l).2.2.2.2 = 0
    · rw [if_pos c2, pw_ok _ _ _ _ (by omega), Option.bind_some, toList_mk, PW_RW l c2]
      simp
    · rw [if_neg c2]
  rw [fin]
  by_cases c1 : PW c p q w = []
  · rw [if_pos c1]
  · rw [if_neg c1]
    have hr : rightW c p q w = true := by
      by_cases hr : rightW c p q w = true
      · exact hr
      · exact absurd (by unfold PW; rw [if_neg hr]) c1
    rw [RW_PW c p q w hr]
    simp
end Go.Proofs.Ythhknlibgfmdkaa.Pure

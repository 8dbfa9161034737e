/- PeerCommands: any command has the payload that the document says and is read as it was; any bytes are read as it says. -/
import Derived.Test.YthhknlibgfmdkaaStmPeerCommands
import Derived.Test.YthhknlibgfmdkaaCmd
namespace Go.Proofs.Ythhknlibgfmdkaa.Pure
open Go.RowKit Go.Proofs.YthhknlibgfmdkaaW.PrintWords Go.Proofs.YthhknlibgfmdkaaW.PrintLast Go.Proofs.YthhknlibgfmdkaaW.PrintMore Go.Proofs.Ythhknlibgfmdkaa.PPeerCommands Go.Proofs.Ythhknlibgfmdkaa.Plain

theorem PeerCommands : apogeelaw07_PeerCommands.Pure := by
  intro c s hc hs
  refine ⟨2001, ?_⟩
  unfold apogeelaw07_PeerCommands.f
  rw [awake_ok 2001 (by omega)]
  simp only [Option.bind_some, if_true]
  rw [apogeelaw07_PeerCommands.j0]
  by_cases h : (s.size : Int) > 100
  · rw [decide_eq_true h, if_pos rfl, awake_ok 2000 (by omega)]
    rfl
  rw [decide_eq_false h, if_neg (by decide)]
  obtain ⟨l, rfl⟩ : ∃ l, s = mk l := ⟨L s, (mk_L s).symm⟩
  rw [mk_size] at h
  rw [pc_ok c (by omega), rpc_ok c (by omega)]
  simp only [Option.bind_some]
  rw [rc_ok _ (by have := PC_len c; omega) 2000 (by omega), rc_ok l (by omega) 2000 (by omega), rrc_ok l (by omega) 2000 (by omega)]
  simp only [Option.bind_some, if_true, toList_mk]
  by_cases c1 : PC c = []
  · rw [if_pos c1]
    by_cases c2 : (RC l).2 = 0
    · rw [if_pos c2, pc_ok _ (by omega)]
      simp only [Option.bind_some, toList_mk]
      rw [RC_back l c2]
      simp
    · rw [if_neg c2]
  · rw [if_neg c1, RC_PC c c1]
    simp only [if_true]
    by_cases c2 : (RC l).2 = 0
    · rw [if_pos c2, pc_ok _ (by omega)]
      simp only [Option.bind_some, toList_mk]
      rw [RC_back l c2]
      simp
    · rw [if_neg c2]
end Go.Proofs.Ythhknlibgfmdkaa.Pure

-- written by handprint.py, a program of this session's, over the seat Ythhknlibgfmdkaa
import Derived.Test.YthhknlibgfmdkaaPPeerWordsx12
namespace Go.Proofs.Ythhknlibgfmdkaa.PPeerWords
open Go.RowKit Go.Proofs.YthhknlibgfmdkaaW.PrintWords Go.Proofs.YthhknlibgfmdkaaW.PrintLast
/-- What is to be proved of numbers and lists alone, for PeerWords. -/
def apogeelaw07_PeerWords.Pure : Prop := ∀ (a0_0 : Int) (a0_1 : Int) (a0_2 : Int) (a0_3 : Int) (a1 : ByteArray), (Lit.int .i64 a0_0).wf = true → (Lit.int .i64 a0_1).wf = true → (Lit.int .i64 a0_2).wf = true → (Lit.int .i64 a0_3).wf = true → a1.size ≤ 140737488351232 → ∃ k, apogeelaw07_PeerWords.f k a0_0 a0_1 a0_2 a0_3 a1 = some true
end Go.Proofs.Ythhknlibgfmdkaa.PPeerWords

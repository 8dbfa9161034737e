-- written by handprint.py, a program of this session's, over the seat Ythhknlibgfmdkaa
import Derived.Test.YthhknlibgfmdkaaPPeerCommandsx9
namespace Go.Proofs.Ythhknlibgfmdkaa.PPeerCommands
open Go.RowKit Go.Proofs.YthhknlibgfmdkaaW.PrintWords Go.Proofs.YthhknlibgfmdkaaW.PrintLast
/-- What is to be proved of numbers and lists alone, for PeerCommands. -/
def apogeelaw07_PeerCommands.Pure : Prop := ∀ (a0 : Int) (a1 : ByteArray), (Lit.int .i64 a0).wf = true → a1.size ≤ 140737488351232 → ∃ k, apogeelaw07_PeerCommands.f k a0 a1 = some true
end Go.Proofs.Ythhknlibgfmdkaa.PPeerCommands

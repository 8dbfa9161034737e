-- written by handprint.py, a program of this session's, over the seat Ythhknlibgfmdkaa
import Derived.Test.YthhknlibgfmdkaaPPeerApartx9
namespace Go.Proofs.Ythhknlibgfmdkaa.PPeerApart
open Go.RowKit Go.Proofs.YthhknlibgfmdkaaW.PrintWords Go.Proofs.YthhknlibgfmdkaaW.PrintLast
/-- What is to be proved of numbers and lists alone, for PeerApart. -/
def apogeelaw07_PeerApart.Pure : Prop := ∀ (a0 : ByteArray) (a1 : Int), a0.size ≤ 140737488351232 → (Lit.int .i64 a1).wf = true → ∃ k, apogeelaw07_PeerApart.f k a0 a1 = some true
end Go.Proofs.Ythhknlibgfmdkaa.PPeerApart

-- written by handprint.py, a program of this session's, over the seat Ythhknlibgfmdkaa
import Derived.Test.YthhknlibgfmdkaaPPeerReportsx13
namespace Go.Proofs.Ythhknlibgfmdkaa.PPeerReports
open Go.RowKit Go.Proofs.YthhknlibgfmdkaaW.PrintWords Go.Proofs.YthhknlibgfmdkaaW.PrintLast
/-- What is to be proved of numbers and lists alone, for PeerReports. -/
def apogeelaw07_PeerReports.Pure : Prop := ∀ (a0_0 : Int) (a0_1 : Int) (a0_2 : Int) (a0_3 : Int) (a0_4 : Int) (a0_5 : Int) (a0_6 : Int) (a0_7 : Int) (a0_8 : Int) (a1 : ByteArray), (Lit.int .i64 a0_0).wf = true → (Lit.int .i64 a0_1).wf = true → (Lit.int .i64 a0_2).wf = true → (Lit.int .i64 a0_3).wf = true → (Lit.int .i64 a0_4).wf = true → (Lit.int .i64 a0_5).wf = true → (Lit.int .i64 a0_6).wf = true → (Lit.int .i64 a0_7).wf = true → (Lit.int .i64 a0_8).wf = true → a1.size ≤ 140737488351232 → ∃ k, apogeelaw07_PeerReports.f k a0_0 a0_1 a0_2 a0_3 a0_4 a0_5 a0_6 a0_7 a0_8 a1 = some true
end Go.Proofs.Ythhknlibgfmdkaa.PPeerReports

-- written by handprint.py, a program of this session's, over the seat Ytamlcbmkdfikeaa
import Derived.Test.YtamlcbmkdfikeaaPVerdictx17
namespace Go.Proofs.Ytamlcbmkdfikeaa.PVerdict
open Go.RowKit Go.Proofs.YtamlcbmkdfikeaaW.PrintWords Go.Proofs.YtamlcbmkdfikeaaW.PrintLast
/-- What is to be proved of numbers and lists alone, for VerdictJoin. -/
def apogeelaw19_VerdictJoin.Pure : Prop := ∀ (a0 : Int) (a1 : Int) (a2 : Int), (Lit.int .i64 a0).wf = true → (Lit.int .i64 a1).wf = true → (Lit.int .i64 a2).wf = true → ∃ k, apogeelaw19_VerdictJoin.f k a0 a1 a2 = some true
end Go.Proofs.Ytamlcbmkdfikeaa.PVerdict

-- written by handprint.py, a program of this session's, over the seat Ytljceichlkafaaa
import Derived.Test.YtljceichlkafaaaPImpactx8
namespace Go.Proofs.Ytljceichlkafaaa.PImpact
open Go.RowKit Go.Proofs.YtljceichlkafaaaW.PrintWords Go.Proofs.YtljceichlkafaaaW.PrintLast
/-- What is to be proved of numbers and lists alone, for ImpactShift. -/
def apogeelaw18_ImpactShift.Pure : Prop := ∀ (a0_0 : Int) (a0_1 : Int) (a0_2 : Int) (a0_3 : Int) (a0_4 : Int) (a0_5 : Int) (a0_6 : Int) (a0_7 : Int) (a1 : Int) (a2 : Int) (a3 : Int) (a4 : Int), (Lit.int .i64 a0_0).wf = true → (Lit.int .i64 a0_1).wf = true → (Lit.int .i64 a0_2).wf = true → (Lit.int .i64 a0_3).wf = true → (Lit.int .i64 a0_4).wf = true → (Lit.int .i64 a0_5).wf = true → (Lit.int .i64 a0_6).wf = true → (Lit.int .i64 a0_7).wf = true → (Lit.int .i64 a1).wf = true → (Lit.int .i64 a2).wf = true → (Lit.int .i64 a3).wf = true → (Lit.int .i64 a4).wf = true → ∃ k, apogeelaw18_ImpactShift.f k a0_0 a0_1 a0_2 a0_3 a0_4 a0_5 a0_6 a0_7 a1 a2 a3 a4 = some true
end Go.Proofs.Ytljceichlkafaaa.PImpact

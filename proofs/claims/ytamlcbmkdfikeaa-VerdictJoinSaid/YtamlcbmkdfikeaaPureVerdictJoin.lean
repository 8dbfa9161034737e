import Derived.Test.YtamlcbmkdfikeaaStmVerdictJoin
namespace Go.Proofs.Ytamlcbmkdfikeaa.Pure
open Go.RowKit Go.Proofs.YtamlcbmkdfikeaaW.PrintWords Go.Proofs.YtamlcbmkdfikeaaW.PrintLast Go.Proofs.Ytamlcbmkdfikeaa.PVerdict
set_option maxRecDepth 100000

theorem wake : apogeelaw19_awake.f 100 = some true := by decide +kernel

theorem four (a : Int) : wrap64 (1 + wrap64 (Int.tmod (IntKind.u64.wrap a) 4)) = 1 ∨ wrap64 (1 + wrap64 (Int.tmod (IntKind.u64.wrap a) 4)) = 2
    ∨ wrap64 (1 + wrap64 (Int.tmod (IntKind.u64.wrap a) 4)) = 3 ∨ wrap64 (1 + wrap64 (Int.tmod (IntKind.u64.wrap a) 4)) = 4 := by
  have wu : IntKind.u64.wrap a = a % 18446744073709551616 := by simp [IntKind.wrap, IntKind.bits, IntKind.signed]
  have h0 : 0 ≤ IntKind.u64.wrap a := by rw [wu]; omega
  rw [Int.tmod_eq_emod_of_nonneg h0]
  generalize IntKind.u64.wrap a = b at *
  have e1 : wrap64 (b % 4) = b % 4 := by unfold wrap64; omega
  have e2 : wrap64 (1 + b % 4) = 1 + b % 4 := by unfold wrap64; omega
  rw [e1, e2]; omega

theorem VerdictJoin : apogeelaw19_VerdictJoin.Pure := by
  intro a0 a1 a2 _ _ _
  refine ⟨100, ?_⟩
  unfold apogeelaw19_VerdictJoin.f
  have hx := four a0
  have hy := four a1
  have hz := four a2
  generalize wrap64 (1 + wrap64 (Int.tmod (IntKind.u64.wrap a0) 4)) = x at *
  generalize wrap64 (1 + wrap64 (Int.tmod (IntKind.u64.wrap a1) 4)) = y at *
  generalize wrap64 (1 + wrap64 (Int.tmod (IntKind.u64.wrap a2) 4)) = z at *
  simp only [wake]
  rcases hx with rfl | rfl | rfl | rfl <;> rcases hy with rfl | rfl | rfl | rfl <;> rcases hz with rfl | rfl | rfl | rfl <;> decide +kernel

end Go.Proofs.Ytamlcbmkdfikeaa.Pure

-- written by handprint.py, a program of this session's, over the seat Ythhknlibgfmdkaa
import Derived.Test.YthhknlibgfmdkaaProg
import Derived.Below
import Derived.Deep.Draws
import Derived.Deep.AppendLies
import Derived.Maps.AppendAt
import Derived.OwnWalk
import Derived.Laws.BytesArg
import Derived.Laws.MakeOwn
import Derived.Laws.OwnMore
import Derived.Deep.OwnRows
import Derived.Tactics
import Derived.Lib.ConvBytes
import Derived.Laws.Slices
import Derived.WalkKit
import Derived.KernelRfl
import Derived.RowKit3
import Derived.Deep.LoopGhost
import Derived.Deep.QuietTactic
import Derived.BigQuiet
import Derived.WideLaws
import Derived.Deep.DeepCutAuto
import Derived.Deep.CutBlock
import Derived.Deep.RegionHeld3
import Derived.Laws.Rows
import Derived.Lib.AppendStr
import Derived.ArgAppend
import Derived.Laws.IdiomCopy
import Derived.OrdersHeld
import Derived.Laws.BitsLemmas
import Derived.RowKit
import Derived.Laws.Externs
import Derived.Lib.SliceRun
import Derived.Lib.ConvBytes
import Derived.ChangeKeysEq
import Derived.Test.YthhknlibgfmdkaaWWords
import Derived.Test.YthhknlibgfmdkaaWLast
import Derived.Test.YthhknlibgfmdkaaWTab
import Derived.Test.YthhknlibgfmdkaaWFour
import Derived.Test.YthhknlibgfmdkaaWQPut
import Derived.Test.YthhknlibgfmdkaaWApart
import Derived.Test.YthhknlibgfmdkaaWArr
import Derived.Test.YthhknlibgfmdkaaWZeros
import Derived.Test.YthhknlibgfmdkaaWFoot
import Derived.Test.YthhknlibgfmdkaaWKept
import Derived.Test.YthhknlibgfmdkaaWShare
import Derived.Test.YthhknlibgfmdkaaWN
import Derived.Test.YthhknlibgfmdkaaWFootNe
import Derived.Test.YthhknlibgfmdkaaWAt
import Derived.Test.YthhknlibgfmdkaaWEqStruct
import Derived.Test.YthhknlibgfmdkaaWRepsOne
import Derived.Test.YthhknlibgfmdkaaWInv
import Derived.Test.YthhknlibgfmdkaaWInvWords
import Derived.Test.YthhknlibgfmdkaaWGuard
import Derived.Test.YthhknlibgfmdkaaWNEv
import Derived.Test.YthhknlibgfmdkaaWMore
namespace Go.Proofs.Ythhknlibgfmdkaa.PPeerApart
open Go.RowKit Go.Proofs.YthhknlibgfmdkaaW.PrintWords Go.Proofs.YthhknlibgfmdkaaW.PrintLast Go.Proofs.YthhknlibgfmdkaaW.PrintMore
attribute [local go_sem] max2_int min2_int max_two min_two max_three min_three max_four min_four   -- for this text's walks alone
set_option linter.unusedVariables false
set_option linter.unusedSimpArgs false



def errW : Option Int → Value
  | none => .nilIface
  | some c => .iface 0 (.int .i64 c)
theorem errW_none : errW none = .nilIface := rfl
theorem errW_some (c : Int) : errW (some c) = .iface 0 (.int .i64 c) := rfl

theorem info3 : (Try.prog.info? 3).map (fun i => (i.zero, i.size, i.bytes)) = some (some (.int .i64 0), 1, 8) := by kernel_rfl
theorem info5 : (Try.prog.info? 5).map (fun i => (i.zero, i.size, i.bytes)) = some (some (.int .u8 0), 1, 1) := by kernel_rfl
theorem info26 : (Try.prog.info? 26).map (fun i => (i.zero, i.size, i.bytes)) = some (some (.int .i64 0), 1, 8) := by kernel_rfl
-- the values' own types

theorem u8w_ (x : Int) : IntKind.u8.wrap x = x % 256 := by simp [IntKind.wrap, IntKind.signed, IntKind.bits]
theorem w64u8_ (x : Int) : wrap64 (x % 256) = x % 256 := by unfold wrap64; omega
theorem eqi_last {P : Program} {d e c i : Nat} {xs ys : Array Value} {a b : Value} {w : World} {r : Bool} (ha : (part e xs (i * c)).run P w = .ok a w) (hb : (part e ys (i * c)).run P w = .ok b w) (he : (Op.equalIn d e a b).run P w = .ok r w) :
    (Op.eqItems d e c xs ys [i]).run P w = .ok r w := by
  simp only [Op.eqItems, Sem.run_bind, ha, hb, he, Result.andThen_ok]
  cases r <;> simp
theorem eqi_cons {P : Program} {d e c i : Nat} {is : List Nat} {xs ys : Array Value} {a b : Value} {w : World} {r s : Bool} (ha : (part e xs (i * c)).run P w = .ok a w) (hb : (part e ys (i * c)).run P w = .ok b w) (he : (Op.equalIn d e a b).run P w = .ok r w)
    (hs : (Op.eqItems d e c xs ys is).run P w = .ok s w) : (Op.eqItems d e c xs ys (i :: is)).run P w = .ok (r && s) w := by
  rw [Op.eqItems]
  simp only [Sem.run_bind, ha, hb, he, Result.andThen_ok]
  cases r
  · simp
  · simpa using hs

end Go.Proofs.Ythhknlibgfmdkaa.PPeerApart

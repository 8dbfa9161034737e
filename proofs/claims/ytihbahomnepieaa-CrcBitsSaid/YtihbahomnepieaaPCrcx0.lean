-- written by handprint.py, a program of this session's, over the seat Ytihbahomnepieaa
import Derived.Test.YtihbahomnepieaaProg
import Derived.Below
import Derived.Deep.Draws
import Derived.Deep.AppendLies
import Derived.Maps.AppendAt
import Derived.OwnWalk
import Derived.Laws.BytesArg
import Derived.Laws.MakeOwn
import Derived.Laws.OwnMore
import Derived.Deep.OwnRows
import Derived.Tactics
import Derived.Lib.ConvBytes
import Derived.Laws.Slices
import Derived.WalkKit
import Derived.KernelRfl
import Derived.RowKit3
import Derived.Deep.LoopGhost
import Derived.Deep.QuietTactic
import Derived.BigQuiet
import Derived.WideLaws
import Derived.Deep.DeepCutAuto
import Derived.Deep.CutBlock
import Derived.Deep.RegionHeld3
import Derived.Laws.Rows
import Derived.Lib.AppendStr
import Derived.ArgAppend
import Derived.Laws.IdiomCopy
import Derived.OrdersHeld
import Derived.Laws.BitsLemmas
import Derived.RowKit
import Derived.Laws.Externs
import Derived.Lib.SliceRun
import Derived.Lib.ConvBytes
import Derived.ChangeKeysEq
import Derived.Test.YtihbahomnepieaaWWords
import Derived.Test.YtihbahomnepieaaWLast
import Derived.Test.YtihbahomnepieaaWTab
import Derived.Test.YtihbahomnepieaaWFour
import Derived.Test.YtihbahomnepieaaWQPut
import Derived.Test.YtihbahomnepieaaWApart
import Derived.Test.YtihbahomnepieaaWArr
import Derived.Test.YtihbahomnepieaaWZeros
import Derived.Test.YtihbahomnepieaaWFoot
import Derived.Test.YtihbahomnepieaaWKept
import Derived.Test.YtihbahomnepieaaWShare
import Derived.Test.YtihbahomnepieaaWN
import Derived.Test.YtihbahomnepieaaWFootNe
import Derived.Test.YtihbahomnepieaaWAt
import Derived.Test.YtihbahomnepieaaWEqStruct
import Derived.Test.YtihbahomnepieaaWRepsOne
import Derived.Test.YtihbahomnepieaaWInv
import Derived.Test.YtihbahomnepieaaWInvWords
import Derived.Test.YtihbahomnepieaaWGuard
import Derived.Test.YtihbahomnepieaaWNEv
import Derived.Test.YtihbahomnepieaaWMore
namespace Go.Proofs.Ytihbahomnepieaa.PCrc
open Go.RowKit Go.Proofs.YtihbahomnepieaaW.PrintWords Go.Proofs.YtihbahomnepieaaW.PrintLast Go.Proofs.YtihbahomnepieaaW.PrintMore
attribute [local go_sem] max2_int min2_int max_two min_two max_three min_three max_four min_four   -- for this text's walks alone
set_option linter.unusedVariables false
set_option linter.unusedSimpArgs false



def errW : Option Int → Value
  | none => .nilIface
  | some c => .iface 0 (.int .i64 c)
theorem errW_none : errW none = .nilIface := rfl
theorem errW_some (c : Int) : errW (some c) = .iface 0 (.int .i64 c) := rfl

-- the values' own types
def rd_L1 (xs : List (List ByteArray)) (i : Int) : (List ByteArray) := xs.getD i.toNat ([] : List ByteArray)
theorem at_L1 {w : World} {A : Option Addr} {n : Nat} {xs : List (List ByteArray)} (h : Kd.C (Kd.slice 9 Kd.string) w A n xs) (i : Int) (h0 : 0 ≤ i) (h1 : i < n) : ∃ ad A0 c0, A = some ad ∧ w.cell? (ad.add i.toNat) = some (.slice A0 (rd_L1 xs i).length c0) ∧ (rd_L1 xs i).length ≤ c0 ∧ Kd.string.C w A0 (rd_L1 xs i).length (rd_L1 xs i) := by
  obtain ⟨ad, c, e, _, hK, hc0⟩ := Kd.C_get h ([] : List ByteArray) i h0 h1
  have hc : ∀ j u, c[j]? = some u → w.cell? (ad.add (i.toNat * 1 + j)) = some u := hc0
  obtain ⟨A0, c0, rfl, l0, g0⟩ := hK
  exact ⟨ad, A0, c0, e, by have hq := hc 0 _ rfl; rwa [Nat.mul_one, Nat.add_zero] at hq, l0, g0⟩

theorem u8w_ (x : Int) : IntKind.u8.wrap x = x % 256 := by simp [IntKind.wrap, IntKind.signed, IntKind.bits]
theorem w64u8_ (x : Int) : wrap64 (x % 256) = x % 256 := by unfold wrap64; omega
theorem eqi_last {P : Program} {d e c i : Nat} {xs ys : Array Value} {a b : Value} {w : World} {r : Bool} (ha : (part e xs (i * c)).run P w = .ok a w) (hb : (part e ys (i * c)).run P w = .ok b w) (he : (Op.equalIn d e a b).run P w = .ok r w) :
    (Op.eqItems d e c xs ys [i]).run P w = .ok r w := by
  simp only [Op.eqItems, Sem.run_bind, ha, hb, he, Result.andThen_ok]
  cases r <;> simp
theorem eqi_cons {P : Program} {d e c i : Nat} {is : List Nat} {xs ys : Array Value} {a b : Value} {w : World} {r s : Bool} (ha : (part e xs (i * c)).run P w = .ok a w) (hb : (part e ys (i * c)).run P w = .ok b w) (he : (Op.equalIn d e a b).run P w = .ok r w)
    (hs : (Op.eqItems d e c xs ys is).run P w = .ok s w) : (Op.eqItems d e c xs ys (i :: is)).run P w = .ok (r && s) w := by
  rw [Op.eqItems]
  simp only [Sem.run_bind, ha, hb, he, Result.andThen_ok]
  cases r
  · simp
  · simpa using hs

end Go.Proofs.Ytihbahomnepieaa.PCrc

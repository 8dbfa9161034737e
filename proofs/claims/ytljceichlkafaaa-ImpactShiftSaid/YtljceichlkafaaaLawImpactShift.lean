-- written by handprint.py, a program of this session's, over the seat Ytljceichlkafaaa
import Derived.Test.YtljceichlkafaaaRows
import Derived.Test.YtljceichlkafaaaPImpactx8
import Derived.Test.YtljceichlkafaaaPureImpactShift
import Derived.Test.YtljceichlkafaaaOpen
import Derived.WalkKit
import Derived.ProofKit
import Derived.OpenShut
import Derived.ShutString
import Derived.ChangeOld
import Derived.Below
import Derived.SizedLaws
namespace Go.Proofs.Ytljceichlkafaaa.impactShift
open Go.ChangeShapes Go.WideShapes Go.ChangeAt Go.RowKit Go.Proofs.YtljceichlkafaaaW.PrintWords Go.Proofs.YtljceichlkafaaaW.Opens Go.Proofs.Ytljceichlkafaaa.PImpact
open Go.ChangeMaps (open_string shut_string)
set_option linter.unusedVariables false
theorem own : ownKnob Try.prog.godebug = none := by kernel_rfl
theorem laidOut : laidOutB Try.prog = true := by kernel_rfl
theorem opens_23 : Opens Try.prog 23 k23 (fun x_ => ((Lit.int .i64 x_.f0).wf = true ∧ (Lit.int .i64 x_.f1).wf = true ∧ (Lit.int .i64 x_.f2).wf = true ∧ (Lit.int .i64 x_.f3).wf = true ∧ (Lit.int .i64 x_.f4).wf = true ∧ (Lit.int .i64 x_.f5).wf = true ∧ (Lit.int .i64 x_.f6).wf = true ∧ (Lit.int .i64 x_.f7).wf = true)) := by
  intro H enc w base spare held fuel cs x h
  obtain ⟨xs, n, _, rfl, hl, hlen, hf⟩ := DataW.trod_struct Try.underlying23 h
  have hl2 : cs.length = 8 := hl.trans (by kernel_rfl)
  obtain ⟨c0, c1, c2, c3, c4, c5, c6, c7, rfl⟩ : ∃ c0 c1 c2 c3 c4 c5 c6 c7, cs = [c0, c1, c2, c3, c4, c5, c6, c7] := by
    match cs, hl2 with | [c0, c1, c2, c3, c4, c5, c6, c7], _ => exact ⟨c0, c1, c2, c3, c4, c5, c6, c7, rfl⟩
  have hlen2 : xs.length = 8 := hlen
  have z0 : DataW.trod enc Try.prog w base spare held n 3 ((([c0, c1, c2, c3, c4, c5, c6, c7] : List Value).drop 0).take (Try.prog.cellsOf 3)) = xs[0]? := hf 0 _ rfl
  rw [show Try.prog.cellsOf 3 = 1 from by kernel_rfl] at z0
  obtain ⟨v0, k0, w0⟩ := (opens_int Try.underlying3) enc w base spare held n _ _ (z0.trans (List.getElem?_eq_getElem (by rw [hlen2]; decide)))
  have z1 : DataW.trod enc Try.prog w base spare held n 3 ((([c0, c1, c2, c3, c4, c5, c6, c7] : List Value).drop 1).take (Try.prog.cellsOf 3)) = xs[1]? := hf 1 _ rfl
  rw [show Try.prog.cellsOf 3 = 1 from by kernel_rfl] at z1
  obtain ⟨v1, k1, w1⟩ := (opens_int Try.underlying3) enc w base spare held n _ _ (z1.trans (List.getElem?_eq_getElem (by rw [hlen2]; decide)))
  have z2 : DataW.trod enc Try.prog w base spare held n 2 ((([c0, c1, c2, c3, c4, c5, c6, c7] : List Value).drop 2).take (Try.prog.cellsOf 2)) = xs[2]? := hf 2 _ rfl
  rw [show Try.prog.cellsOf 2 = 1 from by kernel_rfl] at z2
  obtain ⟨v2, k2, w2⟩ := (opens_int Try.underlying2) enc w base spare held n _ _ (z2.trans (List.getElem?_eq_getElem (by rw [hlen2]; decide)))
  have z3 : DataW.trod enc Try.prog w base spare held n 2 ((([c0, c1, c2, c3, c4, c5, c6, c7] : List Value).drop 3).take (Try.prog.cellsOf 2)) = xs[3]? := hf 3 _ rfl
  rw [show Try.prog.cellsOf 2 = 1 from by kernel_rfl] at z3
  obtain ⟨v3, k3, w3⟩ := (opens_int Try.underlying2) enc w base spare held n _ _ (z3.trans (List.getElem?_eq_getElem (by rw [hlen2]; decide)))
  have z4 : DataW.trod enc Try.prog w base spare held n 2 ((([c0, c1, c2, c3, c4, c5, c6, c7] : List Value).drop 4).take (Try.prog.cellsOf 2)) = xs[4]? := hf 4 _ rfl
  rw [show Try.prog.cellsOf 2 = 1 from by kernel_rfl] at z4
  obtain ⟨v4, k4, w4⟩ := (opens_int Try.underlying2) enc w base spare held n _ _ (z4.trans (List.getElem?_eq_getElem (by rw [hlen2]; decide)))
  have z5 : DataW.trod enc Try.prog w base spare held n 2 ((([c0, c1, c2, c3, c4, c5, c6, c7] : List Value).drop 5).take (Try.prog.cellsOf 2)) = xs[5]? := hf 5 _ rfl
  rw [show Try.prog.cellsOf 2 = 1 from by kernel_rfl] at z5
  obtain ⟨v5, k5, w5⟩ := (opens_int Try.underlying2) enc w base spare held n _ _ (z5.trans (List.getElem?_eq_getElem (by rw [hlen2]; decide)))
  have z6 : DataW.trod enc Try.prog w base spare held n 2 ((([c0, c1, c2, c3, c4, c5, c6, c7] : List Value).drop 6).take (Try.prog.cellsOf 2)) = xs[6]? := hf 6 _ rfl
  rw [show Try.prog.cellsOf 2 = 1 from by kernel_rfl] at z6
  obtain ⟨v6, k6, w6⟩ := (opens_int Try.underlying2) enc w base spare held n _ _ (z6.trans (List.getElem?_eq_getElem (by rw [hlen2]; decide)))
  have z7 : DataW.trod enc Try.prog w base spare held n 2 ((([c0, c1, c2, c3, c4, c5, c6, c7] : List Value).drop 7).take (Try.prog.cellsOf 2)) = xs[7]? := hf 7 _ rfl
  rw [show Try.prog.cellsOf 2 = 1 from by kernel_rfl] at z7
  obtain ⟨v7, k7, w7⟩ := (opens_int Try.underlying2) enc w base spare held n _ _ (z7.trans (List.getElem?_eq_getElem (by rw [hlen2]; decide)))
  exact ⟨⟨v0, v1, v2, v3, v4, v5, v6, v7⟩, ⟨[c0], [c1, c2, c3, c4, c5, c6, c7], rfl, k0, ⟨[c1], [c2, c3, c4, c5, c6, c7], rfl, k1, ⟨[c2], [c3, c4, c5, c6, c7], rfl, k2, ⟨[c3], [c4, c5, c6, c7], rfl, k3, ⟨[c4], [c5, c6, c7], rfl, k4, ⟨[c5], [c6, c7], rfl, k5, ⟨[c6], [c7], rfl, k6, k7⟩⟩⟩⟩⟩⟩⟩, w0, w1, w2, w3, w4, w5, w6, w7⟩
theorem walk (a0_0 : Int) (a0_1 : Int) (a0_2 : Int) (a0_3 : Int) (a0_4 : Int) (a0_5 : Int) (a0_6 : Int) (a0_7 : Int) (a1 : Int) (a2 : Int) (a3 : Int) (a4 : Int) (w : World) (w0_0 : (Lit.int .i64 a0_0).wf = true) (w0_1 : (Lit.int .i64 a0_1).wf = true) (w0_2 : (Lit.int .i64 a0_2).wf = true) (w0_3 : (Lit.int .i64 a0_3).wf = true) (w0_4 : (Lit.int .i64 a0_4).wf = true) (w0_5 : (Lit.int .i64 a0_5).wf = true) (w0_6 : (Lit.int .i64 a0_6).wf = true) (w0_7 : (Lit.int .i64 a0_7).wf = true) (w1 : (Lit.int .i64 a1).wf = true) (w2 : (Lit.int .i64 a2).wf = true) (w3 : (Lit.int .i64 a3).wf = true) (w4 : (Lit.int .i64 a4).wf = true) :
    Calls Try.prog 4 #[.agg #[.int .i64 a0_0, .int .i64 a0_1, .int .i64 a0_2, .int .i64 a0_3, .int .i64 a0_4, .int .i64 a0_5, .int .i64 a0_6, .int .i64 a0_7], .int .i64 a1, .int .i64 a2, .int .i64 a3, .int .i64 a4] w fun e w' => e = .returned (.bool true) ∧ Below w.heap.size w w' := by
  obtain ⟨k, h⟩ := Pure.ImpactShift a0_0 a0_1 a0_2 a0_3 a0_4 a0_5 a0_6 a0_7 a1 a2 a3 a4 w0_0 w0_1 w0_2 w0_3 w0_4 w0_5 w0_6 w0_7 w1 w2 w3 w4
  refine (apogeelaw18_ImpactShift.calls k a0_0 a0_1 a0_2 a0_3 a0_4 a0_5 a0_6 a0_7 a1 a2 a3 a4 true w h).mono ?_
  rintro e w' ⟨rfl, hd⟩
  exact ⟨rfl, hd⟩
set_option maxRecDepth 100000 in
theorem lifted (os : Os) (started : os.Started) (H : Type) (enc : TypeId × Value → H) :
    ReturnsInHanded {} Try.checked os 4 .any (Rows.impactShiftSpec.pre6 enc Try.prog Try.f4 Rows.impactShiftRow.domain false) (Rows.impactShiftSpec.post enc Try.prog Try.f4 false true false false) := by
  refine returnsInHanded_of_change_sized (C := Try.checked) own started (by kernel_rfl) Try.func4
    (ChangeSpec.witness6 (enc := enc) (C := Try.checked) false ⟨#[], #[.agg #[.int .i64 0, .int .i64 0, .int .i64 0, .int .i64 0, .int .i64 0, .int .i64 0, .int .i64 0, .int .i64 0], .int .i64 0, .int .i64 0, .int .i64 0, .int .i64 0], []⟩ 8 (by kernel_rfl) (by kernel_rfl) (by kernel_rfl) (by kernel_rfl)) ?_
  intro W base args ds gs before hval0 hW hcnd hsz0 _
  have hsz : (DataW.weightsEach Try.prog (Try.f4.params.toList ++ Rows.impactShiftSpec.plain.varTypes Try.prog) (ds ++ gs)).all (· ≤ reachBytes) = true := hsz0
  have hval : ∀ (j : Nat) t v, Try.f4.params[j]? = some t → args[j]? = some v → Value.okWide Try.prog W .any base t v := hval0
  have hW' := hW
  obtain ⟨p, q, hA0, hV, rfl, hfz, hnd⟩ := hW
  have hA : DataW.TrodAll enc Try.prog W 0 (fun _ => true) true Try.f4.params.toList args.toList ds p := hA0
  rw [Try.params4] at hA hval hsz
  obtain ⟨v0, vs0, d0, ds0, p0, q0, hargs, rfl, rfl, h0, r0⟩ := trodAll_cons hA
  obtain ⟨v1, vs1, d1, ds1, p1, q1, rfl, rfl, rfl, h1, r1⟩ := trodAll_cons r0
  obtain ⟨v2, vs2, d2, ds2, p2, q2, rfl, rfl, rfl, h2, r2⟩ := trodAll_cons r1
  obtain ⟨v3, vs3, d3, ds3, p3, q3, rfl, rfl, rfl, h3, r3⟩ := trodAll_cons r2
  obtain ⟨v4, vs4, d4, ds4, p4, q4, rfl, rfl, rfl, h4, r4⟩ := trodAll_cons r3
  obtain ⟨rfl, rfl, rfl⟩ := trodAll_nil r4
  obtain rfl : args = #[v0, v1, v2, v3, v4] := by cases args; simp_all
  obtain ⟨rfl, rfl⟩ := trodVars_none hV
  have k0 := h0
  have lt0 : ∀ x ∈ p0, x.block < W.heap.size := by obtain ⟨m, hm⟩ := k0; exact DataW.trod_lt m _ _ _ hm
  obtain ⟨fuel0, hf0⟩ := h0
  obtain ⟨x0, hk0, gd0⟩ := opens_23 enc _ _ _ _ _ _ _ hf0
  clear hf0
  obtain ⟨cs0, rfl, _⟩ := okWide_struct Try.underlying23 (hval 0 23 v0 rfl rfl)
  have e0 := k23_open hk0
  obtain rfl : cs0 = #[.int .i64 x0.f0, .int .i64 x0.f1, .int .i64 x0.f2, .int .i64 x0.f3, .int .i64 x0.f4, .int .i64 x0.f5, .int .i64 x0.f6, .int .i64 x0.f7] := by
    apply Array.toList_inj.1
    exact e0
  obtain ⟨a1, rfl, rfl, rfl, w1⟩ := open_int Try.underlying2 (hval 1 2 v1 rfl rfl) h1
  obtain ⟨a2, rfl, rfl, rfl, w2⟩ := open_int Try.underlying2 (hval 2 2 v2 rfl rfl) h2
  obtain ⟨a3, rfl, rfl, rfl, w3⟩ := open_int Try.underlying2 (hval 3 2 v3 rfl rfl) h3
  obtain ⟨a4, rfl, rfl, rfl, w4⟩ := open_int Try.underlying2 (hval 4 2 v4 rfl rfl) h4
  refine (walk (x0.f0) (x0.f1) (x0.f2) (x0.f3) (x0.f4) (x0.f5) (x0.f6) (x0.f7) a1 a2 a3 a4 W gd0.1 gd0.2.1 gd0.2.2.1 gd0.2.2.2.1 gd0.2.2.2.2.1 gd0.2.2.2.2.2.1 gd0.2.2.2.2.2.2.1 gd0.2.2.2.2.2.2.2 w1 w2 w3 w4).mono fun e W' ⟨he, bel⟩ => ?_
  subst he
  exact ⟨_, rfl, _, _, _, [], _, [], hW', trodAll_mk1 (shut_bool Try.underlying4 _), (trodAll_cons_mk (Below.trod laidOut (by kernel_rfl) (of_decide_eq_true (by kernel_rfl)) k0 bel lt0) (trodAll_cons_mk (shut_int Try.underlying2 w1) (trodAll_cons_mk (shut_int Try.underlying2 w2) (trodAll_cons_mk (shut_int Try.underlying2 w3) (trodAll_cons_mk (shut_int Try.underlying2 w4) trodAll_mk0))))), rfl, bel.frame _, fun h => by cases h⟩
theorem over : Rows.impactShiftRow.holds Try.pinned (OpenSpec.ofChange Rows.impactShiftSpec) :=
  OpenClaim.holds_of_wide 4 Try.f4 rfl rfl rfl rfl rfl rfl rfl ⟨rfl, rfl, rfl, rfl, rfl⟩ rfl rfl rfl rfl rfl (by kernel_rfl) Try.func4 (by kernel_rfl)
    (of_decide_eq_true (by kernel_rfl)) (by unfold Func.isWrapper; first | (rw [if_pos (by decide +kernel)]; kernel_rfl) | (rw [if_neg (by decide +kernel)]; exact ⟨rfl, rfl⟩))
    (fun os started H enc _ => lifted os started H enc)
theorem proved : Rows.ImpactShiftSaid := over
#print axioms proved
end Go.Proofs.Ytljceichlkafaaa.impactShift
namespace Go.Proofs.Ytljceichlkafaaa
/-- The row, under a short name, for the claim. -/
theorem impactShift_holds : Rows.ImpactShiftSaid := impactShift.proved
end Go.Proofs.Ytljceichlkafaaa

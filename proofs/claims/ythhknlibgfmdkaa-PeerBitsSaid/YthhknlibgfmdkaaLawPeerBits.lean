-- written by handprint.py, a program of this session's, over the seat Ythhknlibgfmdkaa
import Derived.Test.YthhknlibgfmdkaaRows
import Derived.Test.YthhknlibgfmdkaaPPeerBitsx8
import Derived.Test.YthhknlibgfmdkaaBitsWalk
import Derived.Test.YthhknlibgfmdkaaOpen
import Derived.WalkKit
import Derived.ProofKit
import Derived.OpenShut
import Derived.ShutString
import Derived.ChangeOld
import Derived.Below
import Derived.SizedLaws
namespace Go.Proofs.Ythhknlibgfmdkaa.peerBits
open Go.ChangeShapes Go.WideShapes Go.ChangeAt Go.RowKit Go.Proofs.YthhknlibgfmdkaaW.PrintWords Go.Proofs.YthhknlibgfmdkaaW.Opens Go.Proofs.Ythhknlibgfmdkaa.PPeerBits
open Go.ChangeMaps (open_string shut_string)
set_option linter.unusedVariables false
theorem own : ownKnob Try.prog.godebug = none := by kernel_rfl
theorem laidOut : laidOutB Try.prog = true := by kernel_rfl
theorem opens_23 : Opens Try.prog 23 k23 (fun x_ => ((Lit.int .i64 x_.f0).wf = true ∧ (Lit.int .i64 x_.f1).wf = true ∧ (Lit.int .i64 x_.f2).wf = true ∧ (Lit.int .i64 x_.f3).wf = true)) := by
  intro H enc w base spare held fuel cs x h
  obtain ⟨xs, n, _, rfl, hl, hlen, hf⟩ := DataW.trod_struct Try.underlying23 h
  have hl2 : cs.length = 4 := hl.trans (by kernel_rfl)
  obtain ⟨c0, c1, c2, c3, rfl⟩ : ∃ c0 c1 c2 c3, cs = [c0, c1, c2, c3] := by
    match cs, hl2 with | [c0, c1, c2, c3], _ => exact ⟨c0, c1, c2, c3, rfl⟩
  have hlen2 : xs.length = 4 := hlen
  have z0 : DataW.trod enc Try.prog w base spare held n 3 ((([c0, c1, c2, c3] : List Value).drop 0).take (Try.prog.cellsOf 3)) = xs[0]? := hf 0 _ rfl
  rw [show Try.prog.cellsOf 3 = 1 from by kernel_rfl] at z0
  obtain ⟨v0, k0, w0⟩ := (opens_int Try.underlying3) enc w base spare held n _ _ (z0.trans (List.getElem?_eq_getElem (by rw [hlen2]; decide)))
  have z1 : DataW.trod enc Try.prog w base spare held n 3 ((([c0, c1, c2, c3] : List Value).drop 1).take (Try.prog.cellsOf 3)) = xs[1]? := hf 1 _ rfl
  rw [show Try.prog.cellsOf 3 = 1 from by kernel_rfl] at z1
  obtain ⟨v1, k1, w1⟩ := (opens_int Try.underlying3) enc w base spare held n _ _ (z1.trans (List.getElem?_eq_getElem (by rw [hlen2]; decide)))
  have z2 : DataW.trod enc Try.prog w base spare held n 3 ((([c0, c1, c2, c3] : List Value).drop 2).take (Try.prog.cellsOf 3)) = xs[2]? := hf 2 _ rfl
  rw [show Try.prog.cellsOf 3 = 1 from by kernel_rfl] at z2
  obtain ⟨v2, k2, w2⟩ := (opens_int Try.underlying3) enc w base spare held n _ _ (z2.trans (List.getElem?_eq_getElem (by rw [hlen2]; decide)))
  have z3 : DataW.trod enc Try.prog w base spare held n 3 ((([c0, c1, c2, c3] : List Value).drop 3).take (Try.prog.cellsOf 3)) = xs[3]? := hf 3 _ rfl
  rw [show Try.prog.cellsOf 3 = 1 from by kernel_rfl] at z3
  obtain ⟨v3, k3, w3⟩ := (opens_int Try.underlying3) enc w base spare held n _ _ (z3.trans (List.getElem?_eq_getElem (by rw [hlen2]; decide)))
  exact ⟨⟨v0, v1, v2, v3⟩, ⟨[c0], [c1, c2, c3], rfl, k0, ⟨[c1], [c2, c3], rfl, k1, ⟨[c2], [c3], rfl, k2, k3⟩⟩⟩, w0, w1, w2, w3⟩
theorem opens_35 : Opens Try.prog 35 k35 (fun x_ => ((Lit.int .i64 x_.f0).wf = true ∧ (Lit.int .i64 x_.f1).wf = true)) := by
  intro H enc w base spare held fuel cs x h
  obtain ⟨xs, n, _, rfl, hl, hlen, hf⟩ := DataW.trod_array Try.underlying35 h
  have hl2 : cs.length = 2 := hl.trans (by kernel_rfl)
  obtain ⟨c0, c1, rfl⟩ : ∃ c0 c1, cs = [c0, c1] := by
    match cs, hl2 with | [c0, c1], _ => exact ⟨c0, c1, rfl⟩
  have hlen2 : xs.length = 2 := hlen
  have z0 : DataW.trod enc Try.prog w base spare held n 3 ((([c0, c1] : List Value).drop (0 * Try.prog.cellsOf 3)).take (Try.prog.cellsOf 3)) = xs[0]? := hf 0 (by decide)
  rw [show Try.prog.cellsOf 3 = 1 from by kernel_rfl] at z0
  obtain ⟨v0, k0, w0⟩ := (opens_int Try.underlying3) enc w base spare held n _ _ (z0.trans (List.getElem?_eq_getElem (by rw [hlen2]; decide)))
  have z1 : DataW.trod enc Try.prog w base spare held n 3 ((([c0, c1] : List Value).drop (1 * Try.prog.cellsOf 3)).take (Try.prog.cellsOf 3)) = xs[1]? := hf 1 (by decide)
  rw [show Try.prog.cellsOf 3 = 1 from by kernel_rfl] at z1
  obtain ⟨v1, k1, w1⟩ := (opens_int Try.underlying3) enc w base spare held n _ _ (z1.trans (List.getElem?_eq_getElem (by rw [hlen2]; decide)))
  exact ⟨⟨v0, v1⟩, ⟨[c0], [c1], rfl, k0, k1⟩, w0, w1⟩
theorem opens_37 : Opens Try.prog 37 k37 (fun x_ => ((Lit.int .i64 x_.f0).wf = true ∧ (Lit.int .i64 x_.f1).wf = true ∧ (Lit.int .i64 x_.f2).wf = true ∧ (Lit.int .i64 x_.f3).wf = true ∧ (Lit.int .i64 x_.f4).wf = true ∧ (Lit.int .i64 x_.f5).wf = true ∧ ((Lit.int .i64 x_.f6.f0).wf = true ∧ (Lit.int .i64 x_.f6.f1).wf = true) ∧ (Lit.int .i64 x_.f7).wf = true)) := by
  intro H enc w base spare held fuel cs x h
  obtain ⟨xs, n, _, rfl, hl, hlen, hf⟩ := DataW.trod_struct Try.underlying37 h
  have hl2 : cs.length = 9 := hl.trans (by kernel_rfl)
  obtain ⟨c0, c1, c2, c3, c4, c5, c6, c7, c8, rfl⟩ : ∃ c0 c1 c2 c3 c4 c5 c6 c7 c8, cs = [c0, c1, c2, c3, c4, c5, c6, c7, c8] := by
    match cs, hl2 with | [c0, c1, c2, c3, c4, c5, c6, c7, c8], _ => exact ⟨c0, c1, c2, c3, c4, c5, c6, c7, c8, rfl⟩
  have hlen2 : xs.length = 8 := hlen
  have z0 : DataW.trod enc Try.prog w base spare held n 3 ((([c0, c1, c2, c3, c4, c5, c6, c7, c8] : List Value).drop 0).take (Try.prog.cellsOf 3)) = xs[0]? := hf 0 _ rfl
  rw [show Try.prog.cellsOf 3 = 1 from by kernel_rfl] at z0
  obtain ⟨v0, k0, w0⟩ := (opens_int Try.underlying3) enc w base spare held n _ _ (z0.trans (List.getElem?_eq_getElem (by rw [hlen2]; decide)))
  have z1 : DataW.trod enc Try.prog w base spare held n 3 ((([c0, c1, c2, c3, c4, c5, c6, c7, c8] : List Value).drop 1).take (Try.prog.cellsOf 3)) = xs[1]? := hf 1 _ rfl
  rw [show Try.prog.cellsOf 3 = 1 from by kernel_rfl] at z1
  obtain ⟨v1, k1, w1⟩ := (opens_int Try.underlying3) enc w base spare held n _ _ (z1.trans (List.getElem?_eq_getElem (by rw [hlen2]; decide)))
  have z2 : DataW.trod enc Try.prog w base spare held n 3 ((([c0, c1, c2, c3, c4, c5, c6, c7, c8] : List Value).drop 2).take (Try.prog.cellsOf 3)) = xs[2]? := hf 2 _ rfl
  rw [show Try.prog.cellsOf 3 = 1 from by kernel_rfl] at z2
  obtain ⟨v2, k2, w2⟩ := (opens_int Try.underlying3) enc w base spare held n _ _ (z2.trans (List.getElem?_eq_getElem (by rw [hlen2]; decide)))
  have z3 : DataW.trod enc Try.prog w base spare held n 3 ((([c0, c1, c2, c3, c4, c5, c6, c7, c8] : List Value).drop 3).take (Try.prog.cellsOf 3)) = xs[3]? := hf 3 _ rfl
  rw [show Try.prog.cellsOf 3 = 1 from by kernel_rfl] at z3
  obtain ⟨v3, k3, w3⟩ := (opens_int Try.underlying3) enc w base spare held n _ _ (z3.trans (List.getElem?_eq_getElem (by rw [hlen2]; decide)))
  have z4 : DataW.trod enc Try.prog w base spare held n 3 ((([c0, c1, c2, c3, c4, c5, c6, c7, c8] : List Value).drop 4).take (Try.prog.cellsOf 3)) = xs[4]? := hf 4 _ rfl
  rw [show Try.prog.cellsOf 3 = 1 from by kernel_rfl] at z4
  obtain ⟨v4, k4, w4⟩ := (opens_int Try.underlying3) enc w base spare held n _ _ (z4.trans (List.getElem?_eq_getElem (by rw [hlen2]; decide)))
  have z5 : DataW.trod enc Try.prog w base spare held n 3 ((([c0, c1, c2, c3, c4, c5, c6, c7, c8] : List Value).drop 5).take (Try.prog.cellsOf 3)) = xs[5]? := hf 5 _ rfl
  rw [show Try.prog.cellsOf 3 = 1 from by kernel_rfl] at z5
  obtain ⟨v5, k5, w5⟩ := (opens_int Try.underlying3) enc w base spare held n _ _ (z5.trans (List.getElem?_eq_getElem (by rw [hlen2]; decide)))
  have z6 : DataW.trod enc Try.prog w base spare held n 35 ((([c0, c1, c2, c3, c4, c5, c6, c7, c8] : List Value).drop 6).take (Try.prog.cellsOf 35)) = xs[6]? := hf 6 _ rfl
  rw [show Try.prog.cellsOf 35 = 2 from by kernel_rfl] at z6
  obtain ⟨v6, k6, w6⟩ := opens_35 enc w base spare held n _ _ (z6.trans (List.getElem?_eq_getElem (by rw [hlen2]; decide)))
  have z7 : DataW.trod enc Try.prog w base spare held n 3 ((([c0, c1, c2, c3, c4, c5, c6, c7, c8] : List Value).drop 8).take (Try.prog.cellsOf 3)) = xs[7]? := hf 7 _ rfl
  rw [show Try.prog.cellsOf 3 = 1 from by kernel_rfl] at z7
  obtain ⟨v7, k7, w7⟩ := (opens_int Try.underlying3) enc w base spare held n _ _ (z7.trans (List.getElem?_eq_getElem (by rw [hlen2]; decide)))
  exact ⟨⟨v0, v1, v2, v3, v4, v5, v6, v7⟩, ⟨[c0], [c1, c2, c3, c4, c5, c6, c7, c8], rfl, k0, ⟨[c1], [c2, c3, c4, c5, c6, c7, c8], rfl, k1, ⟨[c2], [c3, c4, c5, c6, c7, c8], rfl, k2, ⟨[c3], [c4, c5, c6, c7, c8], rfl, k3, ⟨[c4], [c5, c6, c7, c8], rfl, k4, ⟨[c5], [c6, c7, c8], rfl, k5, ⟨[c6, c7], [c8], rfl, k6, k7⟩⟩⟩⟩⟩⟩⟩, w0, w1, w2, w3, w4, w5, w6, w7⟩
theorem walk (a0_0 : Int) (a0_1 : Int) (a0_2 : Int) (a0_3 : Int) (a1_0 : Int) (a1_1 : Int) (a1_2 : Int) (a1_3 : Int) (a1_4 : Int) (a1_5 : Int) (a1_6 : Int) (a1_7 : Int) (a1_8 : Int) (a2 : Int) (a3 : Int) (a4 : Int) (w : World) (w0_0 : (Lit.int .i64 a0_0).wf = true) (w0_1 : (Lit.int .i64 a0_1).wf = true) (w0_2 : (Lit.int .i64 a0_2).wf = true) (w0_3 : (Lit.int .i64 a0_3).wf = true) (w1_0 : (Lit.int .i64 a1_0).wf = true) (w1_1 : (Lit.int .i64 a1_1).wf = true) (w1_2 : (Lit.int .i64 a1_2).wf = true) (w1_3 : (Lit.int .i64 a1_3).wf = true) (w1_4 : (Lit.int .i64 a1_4).wf = true) (w1_5 : (Lit.int .i64 a1_5).wf = true) (w1_6 : (Lit.int .i64 a1_6).wf = true) (w1_7 : (Lit.int .i64 a1_7).wf = true) (w1_8 : (Lit.int .i64 a1_8).wf = true) (w2 : (Lit.int .i64 a2).wf = true) (w3 : (Lit.int .i64 a3).wf = true) (w4 : (Lit.int .u32 a4).wf = true) :
    Calls Try.prog 6 #[.agg #[.int .i64 a0_0, .int .i64 a0_1, .int .i64 a0_2, .int .i64 a0_3], .agg #[.int .i64 a1_0, .int .i64 a1_1, .int .i64 a1_2, .int .i64 a1_3, .int .i64 a1_4, .int .i64 a1_5, .int .i64 a1_6, .int .i64 a1_7, .int .i64 a1_8], .int .i64 a2, .int .i64 a3, .int .u32 a4] w fun e w' => e = .returned (.bool true) ∧ Below w.heap.size w w' :=
  Go.Proofs.Ythhknlibgfmdkaa.Hand.PeerBits_walk a0_0 a0_1 a0_2 a0_3 a1_0 a1_1 a1_2 a1_3 a1_4 a1_5 a1_6 a1_7 a1_8 a2 a3 a4 w w0_0 w0_1 w0_2 w0_3 w1_0 w1_1 w1_2 w1_3 w1_4 w1_5 w1_6 w1_7 w1_8 w2 w3 w4
set_option maxRecDepth 100000 in
theorem lifted (os : Os) (started : os.Started) (H : Type) (enc : TypeId × Value → H) :
    ReturnsInHanded {} Try.checked os 6 .any (Rows.peerBitsSpec.pre6 enc Try.prog Try.f6 Rows.peerBitsRow.domain false) (Rows.peerBitsSpec.post enc Try.prog Try.f6 false true false false) := by
  refine returnsInHanded_of_change_sized (C := Try.checked) own started (by kernel_rfl) Try.func6
    (ChangeSpec.witness6 (enc := enc) (C := Try.checked) false ⟨#[], #[.agg #[.int .i64 0, .int .i64 0, .int .i64 0, .int .i64 0], .agg #[.int .i64 0, .int .i64 0, .int .i64 0, .int .i64 0, .int .i64 0, .int .i64 0, .int .i64 0, .int .i64 0, .int .i64 0], .int .i64 0, .int .i64 0, .int .u32 0], []⟩ 8 (by kernel_rfl) (by kernel_rfl) (by kernel_rfl) (by kernel_rfl)) ?_
  intro W base args ds gs before hval0 hW hcnd hsz0 _
  have hsz : (DataW.weightsEach Try.prog (Try.f6.params.toList ++ Rows.peerBitsSpec.plain.varTypes Try.prog) (ds ++ gs)).all (· ≤ reachBytes) = true := hsz0
  have hval : ∀ (j : Nat) t v, Try.f6.params[j]? = some t → args[j]? = some v → Value.okWide Try.prog W .any base t v := hval0
  have hW' := hW
  obtain ⟨p, q, hA0, hV, rfl, hfz, hnd⟩ := hW
  have hA : DataW.TrodAll enc Try.prog W 0 (fun _ => true) true Try.f6.params.toList args.toList ds p := hA0
  rw [Try.params6] at hA hval hsz
  obtain ⟨v0, vs0, d0, ds0, p0, q0, hargs, rfl, rfl, h0, r0⟩ := trodAll_cons hA
  obtain ⟨v1, vs1, d1, ds1, p1, q1, rfl, rfl, rfl, h1, r1⟩ := trodAll_cons r0
  obtain ⟨v2, vs2, d2, ds2, p2, q2, rfl, rfl, rfl, h2, r2⟩ := trodAll_cons r1
  obtain ⟨v3, vs3, d3, ds3, p3, q3, rfl, rfl, rfl, h3, r3⟩ := trodAll_cons r2
  obtain ⟨v4, vs4, d4, ds4, p4, q4, rfl, rfl, rfl, h4, r4⟩ := trodAll_cons r3
  obtain ⟨rfl, rfl, rfl⟩ := trodAll_nil r4
  obtain rfl : args = #[v0, v1, v2, v3, v4] := by cases args; simp_all
  obtain ⟨rfl, rfl⟩ := trodVars_none hV
  have k0 := h0
  have lt0 : ∀ x ∈ p0, x.block < W.heap.size := by obtain ⟨m, hm⟩ := k0; exact DataW.trod_lt m _ _ _ hm
  obtain ⟨fuel0, hf0⟩ := h0
  obtain ⟨x0, hk0, gd0⟩ := opens_23 enc _ _ _ _ _ _ _ hf0
  clear hf0
  obtain ⟨cs0, rfl, _⟩ := okWide_struct Try.underlying23 (hval 0 23 v0 rfl rfl)
  have e0 := k23_open hk0
  obtain rfl : cs0 = #[.int .i64 x0.f0, .int .i64 x0.f1, .int .i64 x0.f2, .int .i64 x0.f3] := by
    apply Array.toList_inj.1
    exact e0
  have k1 := h1
  have lt1 : ∀ x ∈ p1, x.block < W.heap.size := by obtain ⟨m, hm⟩ := k1; exact DataW.trod_lt m _ _ _ hm
  obtain ⟨fuel1, hf1⟩ := h1
  obtain ⟨x1, hk1, gd1⟩ := opens_37 enc _ _ _ _ _ _ _ hf1
  clear hf1
  obtain ⟨cs1, rfl, _⟩ := okWide_struct Try.underlying37 (hval 1 37 v1 rfl rfl)
  have e1 := k37_open hk1
  obtain rfl : cs1 = #[.int .i64 x1.f0, .int .i64 x1.f1, .int .i64 x1.f2, .int .i64 x1.f3, .int .i64 x1.f4, .int .i64 x1.f5, .int .i64 x1.f6.f0, .int .i64 x1.f6.f1, .int .i64 x1.f7] := by
    apply Array.toList_inj.1
    exact e1
  obtain ⟨a2, rfl, rfl, rfl, w2⟩ := open_int Try.underlying3 (hval 2 3 v2 rfl rfl) h2
  obtain ⟨a3, rfl, rfl, rfl, w3⟩ := open_int Try.underlying3 (hval 3 3 v3 rfl rfl) h3
  obtain ⟨a4, rfl, rfl, rfl, w4⟩ := open_int Try.underlying53 (hval 4 53 v4 rfl rfl) h4
  refine (walk (x0.f0) (x0.f1) (x0.f2) (x0.f3) (x1.f0) (x1.f1) (x1.f2) (x1.f3) (x1.f4) (x1.f5) (x1.f6.f0) (x1.f6.f1) (x1.f7) a2 a3 a4 W gd0.1 gd0.2.1 gd0.2.2.1 gd0.2.2.2 gd1.1 gd1.2.1 gd1.2.2.1 gd1.2.2.2.1 gd1.2.2.2.2.1 gd1.2.2.2.2.2.1 gd1.2.2.2.2.2.2.1.1 gd1.2.2.2.2.2.2.1.2 gd1.2.2.2.2.2.2.2 w2 w3 w4).mono fun e W' ⟨he, bel⟩ => ?_
  subst he
  exact ⟨_, rfl, _, _, _, [], _, [], hW', trodAll_mk1 (shut_bool Try.underlying4 _), (trodAll_cons_mk (Below.trod laidOut (by kernel_rfl) (of_decide_eq_true (by kernel_rfl)) k0 bel lt0) (trodAll_cons_mk (Below.trod laidOut (by kernel_rfl) (of_decide_eq_true (by kernel_rfl)) k1 bel lt1) (trodAll_cons_mk (shut_int Try.underlying3 w2) (trodAll_cons_mk (shut_int Try.underlying3 w3) (trodAll_cons_mk (shut_int Try.underlying53 w4) trodAll_mk0))))), rfl, bel.frame _, fun h => by cases h⟩
theorem over : Rows.peerBitsRow.holds Try.pinned (OpenSpec.ofChange Rows.peerBitsSpec) :=
  OpenClaim.holds_of_wide 6 Try.f6 rfl rfl rfl rfl rfl rfl rfl ⟨rfl, rfl, rfl, rfl, rfl⟩ rfl rfl rfl rfl rfl (by kernel_rfl) Try.func6 (by kernel_rfl)
    (of_decide_eq_true (by kernel_rfl)) (by unfold Func.isWrapper; first | (rw [if_pos (by decide +kernel)]; kernel_rfl) | (rw [if_neg (by decide +kernel)]; exact ⟨rfl, rfl⟩))
    (fun os started H enc _ => lifted os started H enc)
theorem proved : Rows.PeerBitsSaid := over
#print axioms proved
end Go.Proofs.Ythhknlibgfmdkaa.peerBits
namespace Go.Proofs.Ythhknlibgfmdkaa
/-- The row, under a short name, for the claim. -/
theorem peerBits_holds : Rows.PeerBitsSaid := peerBits.proved
end Go.Proofs.Ythhknlibgfmdkaa

-- written by handprint.py, a program of this session's, over the seat Ythhknlibgfmdkaa
import Derived.Test.YthhknlibgfmdkaaRows
import Derived.Test.YthhknlibgfmdkaaPPeerReportsx13
import Derived.Test.YthhknlibgfmdkaaPurePeerReports
import Derived.Test.YthhknlibgfmdkaaOpen
import Derived.WalkKit
import Derived.ProofKit
import Derived.OpenShut
import Derived.ShutString
import Derived.ChangeOld
import Derived.Below
import Derived.SizedLaws
namespace Go.Proofs.Ythhknlibgfmdkaa.peerReports
open Go.ChangeShapes Go.WideShapes Go.ChangeAt Go.RowKit Go.Proofs.YthhknlibgfmdkaaW.PrintWords Go.Proofs.YthhknlibgfmdkaaW.Opens Go.Proofs.Ythhknlibgfmdkaa.PPeerReports
open Go.ChangeMaps (open_string shut_string)
set_option linter.unusedVariables false
theorem own : ownKnob Try.prog.godebug = none := by kernel_rfl
theorem laidOut : laidOutB Try.prog = true := by kernel_rfl
theorem opens_35 : Opens Try.prog 35 k35 (fun x_ => ((Lit.int .i64 x_.f0).wf = true ∧ (Lit.int .i64 x_.f1).wf = true)) := by
  intro H enc w base spare held fuel cs x h
  obtain ⟨xs, n, _, rfl, hl, hlen, hf⟩ := DataW.trod_array Try.underlying35 h
  have hl2 : cs.length = 2 := hl.trans (by kernel_rfl)
  obtain ⟨c0, c1, rfl⟩ : ∃ c0 c1, cs = [c0, c1] := by
    match cs, hl2 with | [c0, c1], _ => exact ⟨c0, c1, rfl⟩
  have hlen2 : xs.length = 2 := hlen
  have z0 : DataW.trod enc Try.prog w base spare held n 3 ((([c0, c1] : List Value).drop (0 * Try.prog.cellsOf 3)).take (Try.prog.cellsOf 3)) = xs[0]? := hf 0 (by decide)
  rw [show Try.prog.cellsOf 3 = 1 from by kernel_rfl] at z0
  obtain ⟨v0, k0, w0⟩ := (opens_int Try.underlying3) enc w base spare held n _ _ (z0.trans (List.getElem?_eq_getElem (by rw [hlen2]; decide)))
  have z1 : DataW.trod enc Try.prog w base spare held n 3 ((([c0, c1] : List Value).drop (1 * Try.prog.cellsOf 3)).take (Try.prog.cellsOf 3)) = xs[1]? := hf 1 (by decide)
  rw [show Try.prog.cellsOf 3 = 1 from by kernel_rfl] at z1
  obtain ⟨v1, k1, w1⟩ := (opens_int Try.underlying3) enc w base spare held n _ _ (z1.trans (List.getElem?_eq_getElem (by rw [hlen2]; decide)))
  exact ⟨⟨v0, v1⟩, ⟨[c0], [c1], rfl, k0, k1⟩, w0, w1⟩
theorem opens_37 : Opens Try.prog 37 k37 (fun x_ => ((Lit.int .i64 x_.f0).wf = true ∧ (Lit.int .i64 x_.f1).wf = true ∧ (Lit.int .i64 x_.f2).wf = true ∧ (Lit.int .i64 x_.f3).wf = true ∧ (Lit.int .i64 x_.f4).wf = true ∧ (Lit.int .i64 x_.f5).wf = true ∧ ((Lit.int .i64 x_.f6.f0).wf = true ∧ (Lit.int .i64 x_.f6.f1).wf = true) ∧ (Lit.int .i64 x_.f7).wf = true)) := by
  intro H enc w base spare held fuel cs x h
  obtain ⟨xs, n, _, rfl, hl, hlen, hf⟩ := DataW.trod_struct Try.underlying37 h
  have hl2 : cs.length = 9 := hl.trans (by kernel_rfl)
  obtain ⟨c0, c1, c2, c3, c4, c5, c6, c7, c8, rfl⟩ : ∃ c0 c1 c2 c3 c4 c5 c6 c7 c8, cs = [c0, c1, c2, c3, c4, c5, c6, c7, c8] := by
    match cs, hl2 with | [c0, c1, c2, c3, c4, c5, c6, c7, c8], _ => exact ⟨c0, c1, c2, c3, c4, c5, c6, c7, c8, rfl⟩
  have hlen2 : xs.length = 8 := hlen
  have z0 : DataW.trod enc Try.prog w base spare held n 3 ((([c0, c1, c2, c3, c4, c5, c6, c7, c8] : List Value).drop 0).take (Try.prog.cellsOf 3)) = xs[0]? := hf 0 _ rfl
  rw [show Try.prog.cellsOf 3 = 1 from by kernel_rfl] at z0
  obtain ⟨v0, k0, w0⟩ := (opens_int Try.underlying3) enc w base spare held n _ _ (z0.trans (List.getElem?_eq_getElem (by rw [hlen2]; decide)))
  have z1 : DataW.trod enc Try.prog w base spare held n 3 ((([c0, c1, c2, c3, c4, c5, c6, c7, c8] : List Value).drop 1).take (Try.prog.cellsOf 3)) = xs[1]? := hf 1 _ rfl
  rw [show Try.prog.cellsOf 3 = 1 from by kernel_rfl] at z1
  obtain ⟨v1, k1, w1⟩ := (opens_int Try.underlying3) enc w base spare held n _ _ (z1.trans (List.getElem?_eq_getElem (by rw [hlen2]; decide)))
  have z2 : DataW.trod enc Try.prog w base spare held n 3 ((([c0, c1, c2, c3, c4, c5, c6, c7, c8] : List Value).drop 2).take (Try.prog.cellsOf 3)) = xs[2]? := hf 2 _ rfl
  rw [show Try.prog.cellsOf 3 = 1 from by kernel_rfl] at z2
  obtain ⟨v2, k2, w2⟩ := (opens_int Try.underlying3) enc w base spare held n _ _ (z2.trans (List.getElem?_eq_getElem (by rw [hlen2]; decide)))
  have z3 : DataW.trod enc Try.prog w base spare held n 3 ((([c0, c1, c2, c3, c4, c5, c6, c7, c8] : List Value).drop 3).take (Try.prog.cellsOf 3)) = xs[3]? := hf 3 _ rfl
  rw [show Try.prog.cellsOf 3 = 1 from by kernel_rfl] at z3
  obtain ⟨v3, k3, w3⟩ := (opens_int Try.underlying3) enc w base spare held n _ _ (z3.trans (List.getElem?_eq_getElem (by rw [hlen2]; decide)))
  have z4 : DataW.trod enc Try.prog w base spare held n 3 ((([c0, c1, c2, c3, c4, c5, c6, c7, c8] : List Value).drop 4).take (Try.prog.cellsOf 3)) = xs[4]? := hf 4 _ rfl
  rw [show Try.prog.cellsOf 3 = 1 from by kernel_rfl] at z4
  obtain ⟨v4, k4, w4⟩ := (opens_int Try.underlying3) enc w base spare held n _ _ (z4.trans (List.getElem?_eq_getElem (by rw [hlen2]; decide)))
  have z5 : DataW.trod enc Try.prog w base spare held n 3 ((([c0, c1, c2, c3, c4, c5, c6, c7, c8] : List Value).drop 5).take (Try.prog.cellsOf 3)) = xs[5]? := hf 5 _ rfl
  rw [show Try.prog.cellsOf 3 = 1 from by kernel_rfl] at z5
  obtain ⟨v5, k5, w5⟩ := (opens_int Try.underlying3) enc w base spare held n _ _ (z5.trans (List.getElem?_eq_getElem (by rw [hlen2]; decide)))
  have z6 : DataW.trod enc Try.prog w base spare held n 35 ((([c0, c1, c2, c3, c4, c5, c6, c7, c8] : List Value).drop 6).take (Try.prog.cellsOf 35)) = xs[6]? := hf 6 _ rfl
  rw [show Try.prog.cellsOf 35 = 2 from by kernel_rfl] at z6
  obtain ⟨v6, k6, w6⟩ := opens_35 enc w base spare held n _ _ (z6.trans (List.getElem?_eq_getElem (by rw [hlen2]; decide)))
  have z7 : DataW.trod enc Try.prog w base spare held n 3 ((([c0, c1, c2, c3, c4, c5, c6, c7, c8] : List Value).drop 8).take (Try.prog.cellsOf 3)) = xs[7]? := hf 7 _ rfl
  rw [show Try.prog.cellsOf 3 = 1 from by kernel_rfl] at z7
  obtain ⟨v7, k7, w7⟩ := (opens_int Try.underlying3) enc w base spare held n _ _ (z7.trans (List.getElem?_eq_getElem (by rw [hlen2]; decide)))
  exact ⟨⟨v0, v1, v2, v3, v4, v5, v6, v7⟩, ⟨[c0], [c1, c2, c3, c4, c5, c6, c7, c8], rfl, k0, ⟨[c1], [c2, c3, c4, c5, c6, c7, c8], rfl, k1, ⟨[c2], [c3, c4, c5, c6, c7, c8], rfl, k2, ⟨[c3], [c4, c5, c6, c7, c8], rfl, k3, ⟨[c4], [c5, c6, c7, c8], rfl, k4, ⟨[c5], [c6, c7, c8], rfl, k5, ⟨[c6, c7], [c8], rfl, k6, k7⟩⟩⟩⟩⟩⟩⟩, w0, w1, w2, w3, w4, w5, w6, w7⟩
theorem walk (a0_0 : Int) (a0_1 : Int) (a0_2 : Int) (a0_3 : Int) (a0_4 : Int) (a0_5 : Int) (a0_6 : Int) (a0_7 : Int) (a0_8 : Int) (a1 : ByteArray) (w : World) (w0_0 : (Lit.int .i64 a0_0).wf = true) (w0_1 : (Lit.int .i64 a0_1).wf = true) (w0_2 : (Lit.int .i64 a0_2).wf = true) (w0_3 : (Lit.int .i64 a0_3).wf = true) (w0_4 : (Lit.int .i64 a0_4).wf = true) (w0_5 : (Lit.int .i64 a0_5).wf = true) (w0_6 : (Lit.int .i64 a0_6).wf = true) (w0_7 : (Lit.int .i64 a0_7).wf = true) (w0_8 : (Lit.int .i64 a0_8).wf = true) (w1 : a1.size ≤ 140737488351232) :
    Calls Try.prog 4 #[.agg #[.int .i64 a0_0, .int .i64 a0_1, .int .i64 a0_2, .int .i64 a0_3, .int .i64 a0_4, .int .i64 a0_5, .int .i64 a0_6, .int .i64 a0_7, .int .i64 a0_8], .string a1] w fun e w' => e = .returned (.bool true) ∧ Below w.heap.size w w' := by
  obtain ⟨k, h⟩ := Pure.PeerReports a0_0 a0_1 a0_2 a0_3 a0_4 a0_5 a0_6 a0_7 a0_8 a1 w0_0 w0_1 w0_2 w0_3 w0_4 w0_5 w0_6 w0_7 w0_8 w1
  refine (apogeelaw07_PeerReports.calls k a0_0 a0_1 a0_2 a0_3 a0_4 a0_5 a0_6 a0_7 a0_8 a1 true w h).mono ?_
  rintro e w' ⟨rfl, hd⟩
  exact ⟨rfl, hd⟩
set_option maxRecDepth 100000 in
theorem lifted (os : Os) (started : os.Started) (H : Type) (enc : TypeId × Value → H) :
    ReturnsInHanded {} Try.checked os 4 .any (Rows.peerReportsSpec.pre6 enc Try.prog Try.f4 Rows.peerReportsRow.domain false) (Rows.peerReportsSpec.post enc Try.prog Try.f4 false true false false) := by
  refine returnsInHanded_of_change_sized (C := Try.checked) own started (by kernel_rfl) Try.func4
    (ChangeSpec.witness6 (enc := enc) (C := Try.checked) false ⟨#[], #[.agg #[.int .i64 0, .int .i64 0, .int .i64 0, .int .i64 0, .int .i64 0, .int .i64 0, .int .i64 0, .int .i64 0, .int .i64 0], .string ByteArray.empty], []⟩ 8 (by kernel_rfl) (by kernel_rfl) (by kernel_rfl) (by kernel_rfl)) ?_
  intro W base args ds gs before hval0 hW hcnd hsz0 _
  have hsz : (DataW.weightsEach Try.prog (Try.f4.params.toList ++ Rows.peerReportsSpec.plain.varTypes Try.prog) (ds ++ gs)).all (· ≤ reachBytes) = true := hsz0
  have hval : ∀ (j : Nat) t v, Try.f4.params[j]? = some t → args[j]? = some v → Value.okWide Try.prog W .any base t v := hval0
  have hW' := hW
  obtain ⟨p, q, hA0, hV, rfl, hfz, hnd⟩ := hW
  have hA : DataW.TrodAll enc Try.prog W 0 (fun _ => true) true Try.f4.params.toList args.toList ds p := hA0
  rw [Try.params4] at hA hval hsz
  obtain ⟨v0, vs0, d0, ds0, p0, q0, hargs, rfl, rfl, h0, r0⟩ := trodAll_cons hA
  obtain ⟨v1, vs1, d1, ds1, p1, q1, rfl, rfl, rfl, h1, r1⟩ := trodAll_cons r0
  obtain ⟨rfl, rfl, rfl⟩ := trodAll_nil r1
  obtain rfl : args = #[v0, v1] := by cases args; simp_all
  obtain ⟨rfl, rfl⟩ := trodVars_none hV
  have k0 := h0
  have lt0 : ∀ x ∈ p0, x.block < W.heap.size := by obtain ⟨m, hm⟩ := k0; exact DataW.trod_lt m _ _ _ hm
  obtain ⟨fuel0, hf0⟩ := h0
  obtain ⟨x0, hk0, gd0⟩ := opens_37 enc _ _ _ _ _ _ _ hf0
  clear hf0
  obtain ⟨cs0, rfl, _⟩ := okWide_struct Try.underlying37 (hval 0 37 v0 rfl rfl)
  have e0 := k37_open hk0
  obtain rfl : cs0 = #[.int .i64 x0.f0, .int .i64 x0.f1, .int .i64 x0.f2, .int .i64 x0.f3, .int .i64 x0.f4, .int .i64 x0.f5, .int .i64 x0.f6.f0, .int .i64 x0.f6.f1, .int .i64 x0.f7] := by
    apply Array.toList_inj.1
    exact e0
  obtain ⟨a1, rfl, rfl, rfl, y1⟩ := open_string Try.underlying9 (hval 1 9 v1 rfl rfl) h1
  have w1 : a1.size ≤ 140737488351232 := by
    have z := sized_string hsz (j := 1) (t := 9) rfl rfl
    rw [Array.length_toList] at z
    exact z
  refine (walk (x0.f0) (x0.f1) (x0.f2) (x0.f3) (x0.f4) (x0.f5) (x0.f6.f0) (x0.f6.f1) (x0.f7) a1 W gd0.1 gd0.2.1 gd0.2.2.1 gd0.2.2.2.1 gd0.2.2.2.2.1 gd0.2.2.2.2.2.1 gd0.2.2.2.2.2.2.1.1 gd0.2.2.2.2.2.2.1.2 gd0.2.2.2.2.2.2.2 w1).mono fun e W' ⟨he, bel⟩ => ?_
  subst he
  exact ⟨_, rfl, _, _, _, [], _, [], hW', trodAll_mk1 (shut_bool Try.underlying4 _), (trodAll_cons_mk (Below.trod laidOut (by kernel_rfl) (of_decide_eq_true (by kernel_rfl)) k0 bel lt0) (trodAll_cons_mk (shut_string Try.underlying9 y1) trodAll_mk0)), rfl, bel.frame _, fun h => by cases h⟩
theorem over : Rows.peerReportsRow.holds Try.pinned (OpenSpec.ofChange Rows.peerReportsSpec) :=
  OpenClaim.holds_of_wide 4 Try.f4 rfl rfl rfl rfl rfl rfl rfl ⟨rfl, rfl, rfl, rfl, rfl⟩ rfl rfl rfl rfl rfl (by kernel_rfl) Try.func4 (by kernel_rfl)
    (of_decide_eq_true (by kernel_rfl)) (by unfold Func.isWrapper; first | (rw [if_pos (by decide +kernel)]; kernel_rfl) | (rw [if_neg (by decide +kernel)]; exact ⟨rfl, rfl⟩))
    (fun os started H enc _ => lifted os started H enc)
theorem proved : Rows.PeerReportsSaid := over
#print axioms proved
end Go.Proofs.Ythhknlibgfmdkaa.peerReports
namespace Go.Proofs.Ythhknlibgfmdkaa
/-- The row, under a short name, for the claim. -/
theorem peerReports_holds : Rows.PeerReportsSaid := peerReports.proved
end Go.Proofs.Ythhknlibgfmdkaa

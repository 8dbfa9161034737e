-- written by handprint.py, a program of this session's, over the seat Ythhknlibgfmdkaa
import Derived.Test.YthhknlibgfmdkaaPPeerReportsx0
import Derived.Test.YthhknlibgfmdkaaPPeerReportsx2
import Derived.Test.YthhknlibgfmdkaaPPeerReportsx3
import Derived.Test.YthhknlibgfmdkaaPPeerReportsx7
import Derived.Test.YthhknlibgfmdkaaPPeerReportsx8
import Derived.Test.YthhknlibgfmdkaaPPeerReportsx9
import Derived.Test.YthhknlibgfmdkaaPPeerReportsx11
import Derived.Test.YthhknlibgfmdkaaPPeerReportsx12
namespace Go.Proofs.Ythhknlibgfmdkaa.PPeerReports
open Go.RowKit Go.Proofs.YthhknlibgfmdkaaW.PrintWords Go.Proofs.YthhknlibgfmdkaaW.PrintLast Go.Proofs.YthhknlibgfmdkaaW.PrintMore
attribute [local go_sem] max2_int min2_int max_two min_two max_three min_three max_four min_four   -- for this text's walks alone
set_option linter.unusedVariables false
set_option linter.unusedSimpArgs false

attribute [local go_sem high] eqA37 eqA41
theorem sA {α : Type} (l : List α) (i : Nat) (a : α) : l.toArray.setIfInBounds i a = (l.set i a).toArray := List.setIfInBounds_toArray l i a
theorem sB {α : Type} (x y : α) (l : List α) : (x :: l).set 0 y = y :: l := List.set_cons_zero
theorem sC {α : Type} (x y : α) (l : List α) (n : Nat) : (x :: l).set (n + 1) y = x :: l.set n y := List.set_cons_succ
theorem sD {α β : Type} (f : α → β) (l : List α) : l.toArray.map f = (l.map f).toArray := List.map_toArray
/-! ### apogeelaw07_PeerReports: function 4 -/
def apogeelaw07_PeerReports.j0 : Nat → ByteArray → Bool → Int → Int → Int → Int → Int → Int → Int → Int → Int → Option (Bool)
 | 0, _, _, _, _, _, _, _, _, _, _, _ => none
 | k + 1, x1, x18, x230000, x230001, x230002, x230003, x230004, x230005, x230006, x230007, x230008 => if x18 = true then ((apogeelaw07_awake.f k).bind fun t231 => (some t231)) else ((peer_PrintReport.f k x230000 x230001 x230002 x230003 x230004 x230005 x230006 x230007 x230008).bind fun t232 => ((peer_ReadReport.f k t232).bind fun bt233 => ((peer_ReadReport.f k x1).bind fun bt244 => ((apogeeref07_ReadReport.f k x1).bind fun bt255 => ((apogeelaw07_likeReport.f x230000 x230001 x230002 x230003 x230004 x230005 x230006 x230007 x230008).bind fun bt266 => ((apogeeref07_PrintReport.f k bt266.1 bt266.2.1 bt266.2.2.1 bt266.2.2.2.1 bt266.2.2.2.2.1 bt266.2.2.2.2.2.1 bt266.2.2.2.2.2.2.1 bt266.2.2.2.2.2.2.2.1 bt266.2.2.2.2.2.2.2.2).bind fun t275 => (if t232.toList = t275.toList then (if t232.toList = ([] : List UInt8) then ((apogeelaw07_likeReport.f bt244.1 bt244.2.1 bt244.2.2.1 bt244.2.2.2.1 bt244.2.2.2.2.1 bt244.2.2.2.2.2.1 bt244.2.2.2.2.2.2.1 bt244.2.2.2.2.2.2.2.1 bt244.2.2.2.2.2.2.2.2.1).bind fun bt276 => (if (bt276.1 == bt255.1 && (bt276.2.1 == bt255.2.1 && (bt276.2.2.1 == bt255.2.2.1 && (bt276.2.2.2.1 == bt255.2.2.2.1 && (bt276.2.2.2.2.1 == bt255.2.2.2.2.1 && (bt276.2.2.2.2.2.1 == bt255.2.2.2.2.2.1 && ((bt276.2.2.2.2.2.2.1 == bt255.2.2.2.2.2.2.1 && (bt276.2.2.2.2.2.2.2.1 == bt255.2.2.2.2.2.2.2.1)) && (bt276.2.2.2.2.2.2.2.2 == bt255.2.2.2.2.2.2.2.2.1)))))))) = true then (if bt244.2.2.2.2.2.2.2.2.2 = bt255.2.2.2.2.2.2.2.2.2 then (if bt255.2.2.2.2.2.2.2.2.2 = 0 then ((peer_PrintReport.f k bt244.1 bt244.2.1 bt244.2.2.1 bt244.2.2.2.1 bt244.2.2.2.2.1 bt244.2.2.2.2.2.1 bt244.2.2.2.2.2.2.1 bt244.2.2.2.2.2.2.2.1 bt244.2.2.2.2.2.2.2.2.1).bind fun t285 => (some (t285.toList == x1.toList))) else (some true)) else (none)) else (none))) else (if (bt233.1 == x230000 && (bt233.2.1 == x230001 && (bt233.2.2.1 == x230002 && (bt233.2.2.2.1 == x230003 && (bt233.2.2.2.2.1 == x230004 && (bt233.2.2.2.2.2.1 == x230005 && ((bt233.2.2.2.2.2.2.1 == x230006 && (bt233.2.2.2.2.2.2.2.1 == x230007)) && (bt233.2.2.2.2.2.2.2.2.1 == x230008)))))))) = true then (if bt233.2.2.2.2.2.2.2.2.2 = 0 then ((apogeelaw07_likeReport.f bt244.1 bt244.2.1 bt244.2.2.1 bt244.2.2.2.1 bt244.2.2.2.2.1 bt244.2.2.2.2.2.1 bt244.2.2.2.2.2.2.1 bt244.2.2.2.2.2.2.2.1 bt244.2.2.2.2.2.2.2.2.1).bind fun bt286 => (if (bt286.1 == bt255.1 && (bt286.2.1 == bt255.2.1 && (bt286.2.2.1 == bt255.2.2.1 && (bt286.2.2.2.1 == bt255.2.2.2.1 && (bt286.2.2.2.2.1 == bt255.2.2.2.2.1 && (bt286.2.2.2.2.2.1 == bt255.2.2.2.2.2.1 && ((bt286.2.2.2.2.2.2.1 == bt255.2.2.2.2.2.2.1 && (bt286.2.2.2.2.2.2.2.1 == bt255.2.2.2.2.2.2.2.1)) && (bt286.2.2.2.2.2.2.2.2 == bt255.2.2.2.2.2.2.2.2.1)))))))) = true then (if bt244.2.2.2.2.2.2.2.2.2 = bt255.2.2.2.2.2.2.2.2.2 then (if bt255.2.2.2.2.2.2.2.2.2 = 0 then ((peer_PrintReport.f k bt244.1 bt244.2.1 bt244.2.2.1 bt244.2.2.2.1 bt244.2.2.2.2.1 bt244.2.2.2.2.2.1 bt244.2.2.2.2.2.2.1 bt244.2.2.2.2.2.2.2.1 bt244.2.2.2.2.2.2.2.2.1).bind fun t295 => (some (t295.toList == x1.toList))) else (some true)) else (none)) else (none))) else (none)) else (none))) else (none))))))))
def apogeelaw07_PeerReports.f (k : Nat) (a0_0 : Int) (a0_1 : Int) (a0_2 : Int) (a0_3 : Int) (a0_4 : Int) (a0_5 : Int) (a0_6 : Int) (a0_7 : Int) (a0_8 : Int) (a1 : ByteArray) : Option (Bool) := (apogeelaw07_awake.f k).bind fun t230 => (if t230 = true then (apogeelaw07_PeerReports.j0 k a1 (decide ((a1.size : Int) > 100)) a0_0 a0_1 a0_2 a0_3 a0_4 a0_5 a0_6 a0_7 a0_8) else (apogeelaw07_PeerReports.j0 k a1 true a0_0 a0_1 a0_2 a0_3 a0_4 a0_5 a0_6 a0_7 a0_8))
theorem apogeelaw07_PeerReports.mono_l : ∀ k, (∀ y0 y1 y2 y3 y4 y5 y6 y7 y8 y9 y10, LeO (apogeelaw07_PeerReports.j0 k y0 y1 y2 y3 y4 y5 y6 y7 y8 y9 y10) (apogeelaw07_PeerReports.j0 (k + 1) y0 y1 y2 y3 y4 y5 y6 y7 y8 y9 y10))
 | 0 => fun _ _ _ _ _ _ _ _ _ _ _ r h => by simp [apogeelaw07_PeerReports.j0] at h
 | k + 1 => by
  have ih0 := apogeelaw07_PeerReports.mono_l k
  ·intro y0 y1 y2 y3 y4 y5 y6 y7 y8 y9 y10
   unfold apogeelaw07_PeerReports.j0
   repeat' first
   | (with_reducible exact ih0 _ _ _ _ _ _ _ _ _ _ _)
   | (with_reducible exact apogeelaw07_awake.mono _)
   | (with_reducible exact apogeeref07_PrintReport.mono _ _ _ _ _ _ _ _ _ _)
   | (with_reducible exact apogeeref07_ReadReport.mono _ _)
   | (with_reducible exact peer_PrintReport.mono _ _ _ _ _ _ _ _ _ _)
   | (with_reducible exact peer_ReadReport.mono _ _)
   | (with_reducible exact LeO.refl _)
   | (with_reducible exact LeO.none _)
   | (with_reducible refine LeO.ite ?_ ?_)
   | (with_reducible refine LeO.bind ?_ (fun _ => ?_))
   | exact ih0 _ _ _ _ _ _ _ _ _ _ _
   | exact apogeelaw07_awake.mono _
   | exact apogeeref07_PrintReport.mono _ _ _ _ _ _ _ _ _ _
   | exact apogeeref07_ReadReport.mono _ _
   | exact peer_PrintReport.mono _ _ _ _ _ _ _ _ _ _
   | exact peer_ReadReport.mono _ _
   | exact LeO.none _
   | refine LeO.ite ?_ ?_
   | refine LeO.bind ?_ (fun _ => ?_)
theorem apogeelaw07_PeerReports.mono : ∀ a0 a1 a2 a3 a4 a5 a6 a7 a8 a9 k, LeO (apogeelaw07_PeerReports.f k a0 a1 a2 a3 a4 a5 a6 a7 a8 a9) (apogeelaw07_PeerReports.f (k + 1) a0 a1 a2 a3 a4 a5 a6 a7 a8 a9) := by
 intro a0 a1 a2 a3 a4 a5 a6 a7 a8 a9 k
 have ih0 := apogeelaw07_PeerReports.mono_l k
 unfold apogeelaw07_PeerReports.f
 repeat' first
   | (with_reducible exact ih0 _ _ _ _ _ _ _ _ _ _ _)
   | (with_reducible exact apogeelaw07_awake.mono _)
   | (with_reducible exact apogeeref07_PrintReport.mono _ _ _ _ _ _ _ _ _ _)
   | (with_reducible exact apogeeref07_ReadReport.mono _ _)
   | (with_reducible exact peer_PrintReport.mono _ _ _ _ _ _ _ _ _ _)
   | (with_reducible exact peer_ReadReport.mono _ _)
   | (with_reducible exact LeO.refl _)
   | (with_reducible exact LeO.none _)
   | (with_reducible refine LeO.ite ?_ ?_)
   | (with_reducible refine LeO.bind ?_ (fun _ => ?_))
   | exact ih0 _ _ _ _ _ _ _ _ _ _ _
   | exact apogeelaw07_awake.mono _
   | exact apogeeref07_PrintReport.mono _ _ _ _ _ _ _ _ _ _
   | exact apogeeref07_ReadReport.mono _ _
   | exact peer_PrintReport.mono _ _ _ _ _ _ _ _ _ _
   | exact peer_ReadReport.mono _ _
   | exact LeO.none _
   | refine LeO.ite ?_ ?_
   | refine LeO.bind ?_ (fun _ => ?_)
def apogeelaw07_PeerReports.T7 : Bool × List (List Nat × List Nat) := (true, [([], []), ([], []), ([1], [1]), ([2, 2], [2]), ([0, 3], [0, 3]), ([4, 3], [4]), ([5], [5]), ([6, 5], [5, 6]), ([7, 5, 5], [5, 7]), ([8], [8]), ([8], [8]), ([9, 10, 8], [8, 9, 10]), ([11, 8, 8], [8, 11]), ([12], [12]), ([13, 12], [12, 13]), ([12, 14, 8], [8, 12, 14]), ([8, 15, 5], [5, 8, 15]), ([5, 16], [5, 16]), ([17, 12], [17]), ([18], [18]), ([19, 18, 18], [18, 19]), ([18], [18]), ([20, 21, 18], [18, 20, 21]), ([18, 22], [18, 22]), ([23, 20], [23]), ([24], [24]), ([24], [24]), ([25, 26, 24], [24, 25, 26]), ([24, 27], [24, 27]), ([28, 24], [28]), ([29], [29]), ([30, 29], [29, 30]), ([31, 29, 29], [29, 31]), ([32], [32]), ([33, 32, 32], [32, 33]), ([32], [32]), ([34, 35, 32], [32, 34, 35]), ([32, 36, 29], [29, 32, 36]), ([29, 37], [29, 37]), ([38, 34, 0, 1, 2, 3, 4, 5, 6, 7, 8, 9, 10, 11, 12, 13, 14, 15, 16, 17, 18, 19, 20, 21, 22, 23, 24, 25, 26, 27, 28, 29, 30, 31, 32, 33, 34, 35, 36, 37, 38], [38])])
def apogeelaw07_PeerReports.B7 : List Nat := [0, 0, 2, 6, 15, 31, 63, 127, 255, 511, 511, 2047, 4095, 8191, 16383, 32767, 65535, 131071, 262143, 524287, 1048575, 524287, 4194303, 8388607, 16777215, 33554431, 33554431, 134217727, 268435455, 536870911, 1073741823, 2147483647, 4294967295, 8589934591, 17179869183, 8589934591, 68719476735, 137438953471, 274877906943, 549755813887]
theorem apogeelaw07_PeerReports.tab7 : rtab .any (opsOf Try.f4 7) = apogeelaw07_PeerReports.T7 := by kernel_rfl
theorem apogeelaw07_PeerReports.bits7 : waitsOk apogeelaw07_PeerReports.T7.2 apogeelaw07_PeerReports.B7 = true := by kernel_rfl
set_option maxHeartbeats 8000000 in
set_option maxRecDepth 100000 in
theorem apogeelaw07_PeerReports.calls (k : Nat) (a0_0 : Int) (a0_1 : Int) (a0_2 : Int) (a0_3 : Int) (a0_4 : Int) (a0_5 : Int) (a0_6 : Int) (a0_7 : Int) (a0_8 : Int) (a1 : ByteArray) (r : Bool) (w : World) (h : apogeelaw07_PeerReports.f k a0_0 a0_1 a0_2 a0_3 a0_4 a0_5 a0_6 a0_7 a0_8 a1 = some r) :
  Calls Try.prog 4 #[.agg #[.int .i64 a0_0, .int .i64 a0_1, .int .i64 a0_2, .int .i64 a0_3, .int .i64 a0_4, .int .i64 a0_5, .int .i64 a0_6, .int .i64 a0_7, .int .i64 a0_8], .string a1] w fun e w' => e = .returned (.bool r) ∧ Below w.heap.size w w' := by
 have hu37 := Try.underlying37
 have hu41 := Try.underlying41
 have HB := Aside0.mk (Below.refl w.heap.size w)
 have H : ((apogeelaw07_awake.f k).bind fun t230 => (if t230 = true then (apogeelaw07_PeerReports.j0 k a1 (decide ((a1.size : Int) > 100)) a0_0 a0_1 a0_2 a0_3 a0_4 a0_5 a0_6 a0_7 a0_8) else (apogeelaw07_PeerReports.j0 k a1 true a0_0 a0_1 a0_2 a0_3 a0_4 a0_5 a0_6 a0_7 a0_8))) = some r := h
 clear h
 have HC3 := Aside0.mk H
 clear H
 go_enter Try.func4, Try.ntmps4
 go_upto_region 1 with (first | ((with_reducible refine gate_dst (N := 2) rfl ?_); (try (refine gate_guard (by rfl) ?_; dsimp only)); refine box_event ?hg (N := 2) ?hd (cs := #[.int .i64 a0_0, .int .i64 a0_1, .int .i64 a0_2, .int .i64 a0_3, .int .i64 a0_4, .int .i64 a0_5, .int .i64 a0_6, .int .i64 a0_7, .int .i64 a0_8]) (t := 37) ?hr ?_; (case hd => rfl); (case hg => rfl); (case hr => first | (go_simp; done) | (go_simp; rfl)); intro gb229 hg w4 hbox hb; have n0_ := Aside0.mk (below_step (by repeat (first | (with_reducible first | exact HB.out | apply below_alloc | apply pw_below_drewN | apply below_drew1) | exact HB.out)) hb); have n1_ := Aside0.mk (hbox); have n2_ := Aside0.mk ((by rw [hg]; exact (below_size (by repeat (first | (with_reducible first | exact HB.out | apply below_alloc | apply pw_below_drewN | apply below_drew1) | exact HB.out))) : w.heap.size ≤ gb229)); have n3_ := n2_; clear HB; have HB := n0_; have BK229 := n1_; have GW229 := n2_; have GE229 := n3_; clear n0_ n1_ n2_ n3_; clear hb hbox hg))
 (try simp only [Act.put, sA, sB, sC])
 go_cut [18] (fun v18 wc => ∃ (kq : Nat) (x18_2 : Bool), v18 = .bool x18_2 ∧ Aside0 (apogeelaw07_PeerReports.j0 kq a1 x18_2 a0_0 a0_1 a0_2 a0_3 a0_4 a0_5 a0_6 a0_7 a0_8 = some r) ∧ Aside0 (kq ≤ k) ∧ Aside0 (wc.heap[gb229]? = some (.cells #[.int .i64 a0_0, .int .i64 a0_1, .int .i64 a0_2, .int .i64 a0_3, .int .i64 a0_4, .int .i64 a0_5, .int .i64 a0_6, .int .i64 a0_7, .int .i64 a0_8] 37 (0, 0))) ∧ Aside0 (Below w.heap.size w wc))
 case first =>
  have H := HC3.out
  clear HC3
  replace H := Option.bind_eq_some_iff.mp H
  obtain ⟨t230, A50, H⟩ := H
  replace H : (if t230 = true then (apogeelaw07_PeerReports.j0 k a1 (decide ((a1.size : Int) > 100)) a0_0 a0_1 a0_2 a0_3 a0_4 a0_5 a0_6 a0_7 a0_8) else (apogeelaw07_PeerReports.j0 k a1 true a0_0 a0_1 a0_2 a0_3 a0_4 a0_5 a0_6 a0_7 a0_8)) = some r := H
  have A5 := Aside0.mk A50
  clear A50
  by_cases c6 : t230 = true
  ·subst c6
   have H1 : (apogeelaw07_PeerReports.j0 k a1 (decide ((a1.size : Int) > 100)) a0_0 a0_1 a0_2 a0_3 a0_4 a0_5 a0_6 a0_7 a0_8) = some r := by rw [if_pos rfl] at H; exact H
   clear H
   have H := H1
   clear H1
   have H' := Aside0.mk H
   clear H
   go_wp2_with (first | ((with_reducible refine gate_callee (f := 8) rfl ?_); refine goesL_ (some 12) rfl rfl Try.func8 (by kernel_rfl) rfl #[] rfl (by (try simp only [sD, List.map_cons, List.map_nil]); first | done | rfl) ?_; (with_reducible refine (apogeelaw07_awake.calls k  true _ A5.out).mono ?_); rintro e w7 ⟨rfl, hb⟩; refine ⟨_, rfl, ?_⟩; have n0_ := Aside0.mk (blk_below (g := gb229) BK229.out hb); have n1_ := Aside0.mk (below_step (by repeat (first | (with_reducible first | exact HB.out | apply below_alloc | apply pw_below_drewN | apply below_drew1 | refine below_set ?_ GE229.out) | exact HB.out)) hb); clear BK229; clear HB; have BK229 := n0_; have HB := n1_; clear n0_ n1_; (try clear hb)))
   go_meet
   case rel => exact ⟨_, (decide ((a1.size : Int) > 100)), (by first | rfl | (simp; done) | (simp [*]; done)), H', ⟨by first | omega | exact Nat.le_refl _⟩, ⟨by (with_reducible repeat (first | refine blk_drewN ?_ _ | refine blk_drew ?_ | refine blk_alloc ?_ _)); exact BK229.out⟩, ⟨by repeat (first | (with_reducible first | exact HB.out | apply below_alloc | apply pw_below_drewN | apply below_drew1 | refine below_set ?_ GE229.out) | exact HB.out)⟩⟩
  ·replace c6 := Bool.eq_false_iff.mpr c6
   subst c6
   have H1 : (apogeelaw07_PeerReports.j0 k a1 true a0_0 a0_1 a0_2 a0_3 a0_4 a0_5 a0_6 a0_7 a0_8) = some r := by rw [if_neg (show ¬ (false = true) by decide)] at H; exact H
   clear H
   have H := H1
   clear H1
   have H' := Aside0.mk H
   clear H
   go_wp2_with (first | ((with_reducible refine gate_callee (f := 8) rfl ?_); refine goesL_ (some 12) rfl rfl Try.func8 (by kernel_rfl) rfl #[] rfl (by (try simp only [sD, List.map_cons, List.map_nil]); first | done | rfl) ?_; (with_reducible refine (apogeelaw07_awake.calls k  false _ A5.out).mono ?_); rintro e w8 ⟨rfl, hb⟩; refine ⟨_, rfl, ?_⟩; have n0_ := Aside0.mk (blk_below (g := gb229) BK229.out hb); have n1_ := Aside0.mk (below_step (by repeat (first | (with_reducible first | exact HB.out | apply below_alloc | apply pw_below_drewN | apply below_drew1 | refine below_set ?_ GE229.out) | exact HB.out)) hb); clear BK229; clear HB; have BK229 := n0_; have HB := n1_; clear n0_ n1_; (try clear hb)))
   go_meet
   case rel => exact ⟨_, (true), (by first | rfl | (simp; done) | (simp [*]; done)), H', ⟨by first | omega | exact Nat.le_refl _⟩, ⟨by (with_reducible repeat (first | refine blk_drewN ?_ _ | refine blk_drew ?_ | refine blk_alloc ?_ _)); exact BK229.out⟩, ⟨by repeat (first | (with_reducible first | exact HB.out | apply below_alloc | apply pw_below_drewN | apply below_drew1 | refine below_set ?_ GE229.out) | exact HB.out)⟩⟩
 case rest =>
  clear HC3
  try clear p2
  try clear c4
  try clear c6
  try clear c8
  obtain ⟨kq, x18_2, rfl, HA, HJ2, BK229, HB⟩ := hcut
  cases kq with
  | zero => exact absurd HA.out (by simp [apogeelaw07_PeerReports.j0])
  | succ kj2 =>
   have H := HA.out
   clear HA
   simp only [apogeelaw07_PeerReports.j0] at H
   by_cases c9 : x18_2 = true
   ·subst c9
    have H1 : ((apogeelaw07_awake.f kj2).bind fun t231 => (some t231)) = some r := by rw [if_pos rfl] at H; exact H
    clear H
    have H := H1
    clear H1
    replace H := Option.bind_eq_some_iff.mp H
    obtain ⟨t231, A100, H⟩ := H
    replace H : (some t231) = some r := H
    have A10 := Aside0.mk A100
    clear A100
    obtain rfl := Option.some.inj H
    go_wp2_with (first | ((with_reducible refine gate_callee (f := 8) rfl ?_); refine goesL_ (some 19) rfl rfl Try.func8 (by kernel_rfl) rfl #[] rfl (by (try simp only [sD, List.map_cons, List.map_nil]); first | done | rfl) ?_; (with_reducible refine (apogeelaw07_awake.calls kj2  t231 _ A10.out).mono ?_); rintro e w11 ⟨rfl, hb⟩; refine ⟨_, rfl, ?_⟩; have n0_ := Aside0.mk (blk_below (g := gb229) BK229.out hb); have n1_ := Aside0.mk (below_step (by repeat (first | (with_reducible first | exact HB.out | apply below_alloc | apply pw_below_drewN | apply below_drew1 | refine below_set ?_ GE229.out) | exact HB.out)) hb); clear BK229; clear HB; have BK229 := n0_; have HB := n1_; clear n0_ n1_; (try clear hb)))
    go_ret
    exact ⟨by first | rfl | (simp [errW_none, errW_some] <;> rfl) | (simp [*, errW_none, errW_some] <;> rfl), by repeat (first | (with_reducible first | exact HB.out | apply below_alloc | apply pw_below_drewN | apply below_drew1 | refine below_set ?_ GE229.out) | exact HB.out)⟩
   ·replace c9 := Bool.eq_false_iff.mpr c9
    subst c9
    have H1 : ((peer_PrintReport.f kj2 a0_0 a0_1 a0_2 a0_3 a0_4 a0_5 a0_6 a0_7 a0_8).bind fun t232 => ((peer_ReadReport.f kj2 t232).bind fun bt233 => ((peer_ReadReport.f kj2 a1).bind fun bt244 => ((apogeeref07_ReadReport.f kj2 a1).bind fun bt255 => ((apogeelaw07_likeReport.f a0_0 a0_1 a0_2 a0_3 a0_4 a0_5 a0_6 a0_7 a0_8).bind fun bt266 => ((apogeeref07_PrintReport.f kj2 bt266.1 bt266.2.1 bt266.2.2.1 bt266.2.2.2.1 bt266.2.2.2.2.1 bt266.2.2.2.2.2.1 bt266.2.2.2.2.2.2.1 bt266.2.2.2.2.2.2.2.1 bt266.2.2.2.2.2.2.2.2).bind fun t275 => (if t232.toList = t275.toList then (if t232.toList = ([] : List UInt8) then ((apogeelaw07_likeReport.f bt244.1 bt244.2.1 bt244.2.2.1 bt244.2.2.2.1 bt244.2.2.2.2.1 bt244.2.2.2.2.2.1 bt244.2.2.2.2.2.2.1 bt244.2.2.2.2.2.2.2.1 bt244.2.2.2.2.2.2.2.2.1).bind fun bt276 => (if (bt276.1 == bt255.1 && (bt276.2.1 == bt255.2.1 && (bt276.2.2.1 == bt255.2.2.1 && (bt276.2.2.2.1 == bt255.2.2.2.1 && (bt276.2.2.2.2.1 == bt255.2.2.2.2.1 && (bt276.2.2.2.2.2.1 == bt255.2.2.2.2.2.1 && ((bt276.2.2.2.2.2.2.1 == bt255.2.2.2.2.2.2.1 && (bt276.2.2.2.2.2.2.2.1 == bt255.2.2.2.2.2.2.2.1)) && (bt276.2.2.2.2.2.2.2.2 == bt255.2.2.2.2.2.2.2.2.1)))))))) = true then (if bt244.2.2.2.2.2.2.2.2.2 = bt255.2.2.2.2.2.2.2.2.2 then (if bt255.2.2.2.2.2.2.2.2.2 = 0 then ((peer_PrintReport.f kj2 bt244.1 bt244.2.1 bt244.2.2.1 bt244.2.2.2.1 bt244.2.2.2.2.1 bt244.2.2.2.2.2.1 bt244.2.2.2.2.2.2.1 bt244.2.2.2.2.2.2.2.1 bt244.2.2.2.2.2.2.2.2.1).bind fun t285 => (some (t285.toList == a1.toList))) else (some true)) else (none)) else (none))) else (if (bt233.1 == a0_0 && (bt233.2.1 == a0_1 && (bt233.2.2.1 == a0_2 && (bt233.2.2.2.1 == a0_3 && (bt233.2.2.2.2.1 == a0_4 && (bt233.2.2.2.2.2.1 == a0_5 && ((bt233.2.2.2.2.2.2.1 == a0_6 && (bt233.2.2.2.2.2.2.2.1 == a0_7)) && (bt233.2.2.2.2.2.2.2.2.1 == a0_8)))))))) = true then (if bt233.2.2.2.2.2.2.2.2.2 = 0 then ((apogeelaw07_likeReport.f bt244.1 bt244.2.1 bt244.2.2.1 bt244.2.2.2.1 bt244.2.2.2.2.1 bt244.2.2.2.2.2.1 bt244.2.2.2.2.2.2.1 bt244.2.2.2.2.2.2.2.1 bt244.2.2.2.2.2.2.2.2.1).bind fun bt286 => (if (bt286.1 == bt255.1 && (bt286.2.1 == bt255.2.1 && (bt286.2.2.1 == bt255.2.2.1 && (bt286.2.2.2.1 == bt255.2.2.2.1 && (bt286.2.2.2.2.1 == bt255.2.2.2.2.1 && (bt286.2.2.2.2.2.1 == bt255.2.2.2.2.2.1 && ((bt286.2.2.2.2.2.2.1 == bt255.2.2.2.2.2.2.1 && (bt286.2.2.2.2.2.2.2.1 == bt255.2.2.2.2.2.2.2.1)) && (bt286.2.2.2.2.2.2.2.2 == bt255.2.2.2.2.2.2.2.2.1)))))))) = true then (if bt244.2.2.2.2.2.2.2.2.2 = bt255.2.2.2.2.2.2.2.2.2 then (if bt255.2.2.2.2.2.2.2.2.2 = 0 then ((peer_PrintReport.f kj2 bt244.1 bt244.2.1 bt244.2.2.1 bt244.2.2.2.1 bt244.2.2.2.2.1 bt244.2.2.2.2.2.1 bt244.2.2.2.2.2.2.1 bt244.2.2.2.2.2.2.2.1 bt244.2.2.2.2.2.2.2.2.1).bind fun t295 => (some (t295.toList == a1.toList))) else (some true)) else (none)) else (none))) else (none)) else (none))) else (none)))))))) = some r := by rw [if_neg (show ¬ (false = true) by decide)] at H; exact H
    clear H
    have H := H1
    clear H1
    replace H := Option.bind_eq_some_iff.mp H
    obtain ⟨t232, A120, H⟩ := H
    replace H : ((peer_ReadReport.f kj2 t232).bind fun bt233 => ((peer_ReadReport.f kj2 a1).bind fun bt244 => ((apogeeref07_ReadReport.f kj2 a1).bind fun bt255 => ((apogeelaw07_likeReport.f a0_0 a0_1 a0_2 a0_3 a0_4 a0_5 a0_6 a0_7 a0_8).bind fun bt266 => ((apogeeref07_PrintReport.f kj2 bt266.1 bt266.2.1 bt266.2.2.1 bt266.2.2.2.1 bt266.2.2.2.2.1 bt266.2.2.2.2.2.1 bt266.2.2.2.2.2.2.1 bt266.2.2.2.2.2.2.2.1 bt266.2.2.2.2.2.2.2.2).bind fun t275 => (if t232.toList = t275.toList then (if t232.toList = ([] : List UInt8) then ((apogeelaw07_likeReport.f bt244.1 bt244.2.1 bt244.2.2.1 bt244.2.2.2.1 bt244.2.2.2.2.1 bt244.2.2.2.2.2.1 bt244.2.2.2.2.2.2.1 bt244.2.2.2.2.2.2.2.1 bt244.2.2.2.2.2.2.2.2.1).bind fun bt276 => (if (bt276.1 == bt255.1 && (bt276.2.1 == bt255.2.1 && (bt276.2.2.1 == bt255.2.2.1 && (bt276.2.2.2.1 == bt255.2.2.2.1 && (bt276.2.2.2.2.1 == bt255.2.2.2.2.1 && (bt276.2.2.2.2.2.1 == bt255.2.2.2.2.2.1 && ((bt276.2.2.2.2.2.2.1 == bt255.2.2.2.2.2.2.1 && (bt276.2.2.2.2.2.2.2.1 == bt255.2.2.2.2.2.2.2.1)) && (bt276.2.2.2.2.2.2.2.2 == bt255.2.2.2.2.2.2.2.2.1)))))))) = true then (if bt244.2.2.2.2.2.2.2.2.2 = bt255.2.2.2.2.2.2.2.2.2 then (if bt255.2.2.2.2.2.2.2.2.2 = 0 then ((peer_PrintReport.f kj2 bt244.1 bt244.2.1 bt244.2.2.1 bt244.2.2.2.1 bt244.2.2.2.2.1 bt244.2.2.2.2.2.1 bt244.2.2.2.2.2.2.1 bt244.2.2.2.2.2.2.2.1 bt244.2.2.2.2.2.2.2.2.1).bind fun t285 => (some (t285.toList == a1.toList))) else (some true)) else (none)) else (none))) else (if (bt233.1 == a0_0 && (bt233.2.1 == a0_1 && (bt233.2.2.1 == a0_2 && (bt233.2.2.2.1 == a0_3 && (bt233.2.2.2.2.1 == a0_4 && (bt233.2.2.2.2.2.1 == a0_5 && ((bt233.2.2.2.2.2.2.1 == a0_6 && (bt233.2.2.2.2.2.2.2.1 == a0_7)) && (bt233.2.2.2.2.2.2.2.2.1 == a0_8)))))))) = true then (if bt233.2.2.2.2.2.2.2.2.2 = 0 then ((apogeelaw07_likeReport.f bt244.1 bt244.2.1 bt244.2.2.1 bt244.2.2.2.1 bt244.2.2.2.2.1 bt244.2.2.2.2.2.1 bt244.2.2.2.2.2.2.1 bt244.2.2.2.2.2.2.2.1 bt244.2.2.2.2.2.2.2.2.1).bind fun bt286 => (if (bt286.1 == bt255.1 && (bt286.2.1 == bt255.2.1 && (bt286.2.2.1 == bt255.2.2.1 && (bt286.2.2.2.1 == bt255.2.2.2.1 && (bt286.2.2.2.2.1 == bt255.2.2.2.2.1 && (bt286.2.2.2.2.2.1 == bt255.2.2.2.2.2.1 && ((bt286.2.2.2.2.2.2.1 == bt255.2.2.2.2.2.2.1 && (bt286.2.2.2.2.2.2.2.1 == bt255.2.2.2.2.2.2.2.1)) && (bt286.2.2.2.2.2.2.2.2 == bt255.2.2.2.2.2.2.2.2.1)))))))) = true then (if bt244.2.2.2.2.2.2.2.2.2 = bt255.2.2.2.2.2.2.2.2.2 then (if bt255.2.2.2.2.2.2.2.2.2 = 0 then ((peer_PrintReport.f kj2 bt244.1 bt244.2.1 bt244.2.2.1 bt244.2.2.2.1 bt244.2.2.2.2.1 bt244.2.2.2.2.2.1 bt244.2.2.2.2.2.2.1 bt244.2.2.2.2.2.2.2.1 bt244.2.2.2.2.2.2.2.2.1).bind fun t295 => (some (t295.toList == a1.toList))) else (some true)) else (none)) else (none))) else (none)) else (none))) else (none))))))) = some r := H
    have A12 := Aside0.mk A120
    clear A120
    replace H := Option.bind_eq_some_iff.mp H
    obtain ⟨⟨t233, t234, t235, t236, t237, t238, t239, t240, t241, t242⟩, A130, H⟩ := H
    replace H : ((peer_ReadReport.f kj2 a1).bind fun bt244 => ((apogeeref07_ReadReport.f kj2 a1).bind fun bt255 => ((apogeelaw07_likeReport.f a0_0 a0_1 a0_2 a0_3 a0_4 a0_5 a0_6 a0_7 a0_8).bind fun bt266 => ((apogeeref07_PrintReport.f kj2 bt266.1 bt266.2.1 bt266.2.2.1 bt266.2.2.2.1 bt266.2.2.2.2.1 bt266.2.2.2.2.2.1 bt266.2.2.2.2.2.2.1 bt266.2.2.2.2.2.2.2.1 bt266.2.2.2.2.2.2.2.2).bind fun t275 => (if t232.toList = t275.toList then (if t232.toList = ([] : List UInt8) then ((apogeelaw07_likeReport.f bt244.1 bt244.2.1 bt244.2.2.1 bt244.2.2.2.1 bt244.2.2.2.2.1 bt244.2.2.2.2.2.1 bt244.2.2.2.2.2.2.1 bt244.2.2.2.2.2.2.2.1 bt244.2.2.2.2.2.2.2.2.1).bind fun bt276 => (if (bt276.1 == bt255.1 && (bt276.2.1 == bt255.2.1 && (bt276.2.2.1 == bt255.2.2.1 && (bt276.2.2.2.1 == bt255.2.2.2.1 && (bt276.2.2.2.2.1 == bt255.2.2.2.2.1 && (bt276.2.2.2.2.2.1 == bt255.2.2.2.2.2.1 && ((bt276.2.2.2.2.2.2.1 == bt255.2.2.2.2.2.2.1 && (bt276.2.2.2.2.2.2.2.1 == bt255.2.2.2.2.2.2.2.1)) && (bt276.2.2.2.2.2.2.2.2 == bt255.2.2.2.2.2.2.2.2.1)))))))) = true then (if bt244.2.2.2.2.2.2.2.2.2 = bt255.2.2.2.2.2.2.2.2.2 then (if bt255.2.2.2.2.2.2.2.2.2 = 0 then ((peer_PrintReport.f kj2 bt244.1 bt244.2.1 bt244.2.2.1 bt244.2.2.2.1 bt244.2.2.2.2.1 bt244.2.2.2.2.2.1 bt244.2.2.2.2.2.2.1 bt244.2.2.2.2.2.2.2.1 bt244.2.2.2.2.2.2.2.2.1).bind fun t285 => (some (t285.toList == a1.toList))) else (some true)) else (none)) else (none))) else (if (t233 == a0_0 && (t234 == a0_1 && (t235 == a0_2 && (t236 == a0_3 && (t237 == a0_4 && (t238 == a0_5 && ((t239 == a0_6 && (t240 == a0_7)) && (t241 == a0_8)))))))) = true then (if t242 = 0 then ((apogeelaw07_likeReport.f bt244.1 bt244.2.1 bt244.2.2.1 bt244.2.2.2.1 bt244.2.2.2.2.1 bt244.2.2.2.2.2.1 bt244.2.2.2.2.2.2.1 bt244.2.2.2.2.2.2.2.1 bt244.2.2.2.2.2.2.2.2.1).bind fun bt286 => (if (bt286.1 == bt255.1 && (bt286.2.1 == bt255.2.1 && (bt286.2.2.1 == bt255.2.2.1 && (bt286.2.2.2.1 == bt255.2.2.2.1 && (bt286.2.2.2.2.1 == bt255.2.2.2.2.1 && (bt286.2.2.2.2.2.1 == bt255.2.2.2.2.2.1 && ((bt286.2.2.2.2.2.2.1 == bt255.2.2.2.2.2.2.1 && (bt286.2.2.2.2.2.2.2.1 == bt255.2.2.2.2.2.2.2.1)) && (bt286.2.2.2.2.2.2.2.2 == bt255.2.2.2.2.2.2.2.2.1)))))))) = true then (if bt244.2.2.2.2.2.2.2.2.2 = bt255.2.2.2.2.2.2.2.2.2 then (if bt255.2.2.2.2.2.2.2.2.2 = 0 then ((peer_PrintReport.f kj2 bt244.1 bt244.2.1 bt244.2.2.1 bt244.2.2.2.1 bt244.2.2.2.2.1 bt244.2.2.2.2.2.1 bt244.2.2.2.2.2.2.1 bt244.2.2.2.2.2.2.2.1 bt244.2.2.2.2.2.2.2.2.1).bind fun t295 => (some (t295.toList == a1.toList))) else (some true)) else (none)) else (none))) else (none)) else (none))) else (none)))))) = some r := H
    have A13 := Aside0.mk A130
    clear A130
    replace H := Option.bind_eq_some_iff.mp H
    obtain ⟨⟨t244, t245, t246, t247, t248, t249, t250, t251, t252, t253⟩, A140, H⟩ := H
    replace H : ((apogeeref07_ReadReport.f kj2 a1).bind fun bt255 => ((apogeelaw07_likeReport.f a0_0 a0_1 a0_2 a0_3 a0_4 a0_5 a0_6 a0_7 a0_8).bind fun bt266 => ((apogeeref07_PrintReport.f kj2 bt266.1 bt266.2.1 bt266.2.2.1 bt266.2.2.2.1 bt266.2.2.2.2.1 bt266.2.2.2.2.2.1 bt266.2.2.2.2.2.2.1 bt266.2.2.2.2.2.2.2.1 bt266.2.2.2.2.2.2.2.2).bind fun t275 => (if t232.toList = t275.toList then (if t232.toList = ([] : List UInt8) then ((apogeelaw07_likeReport.f t244 t245 t246 t247 t248 t249 t250 t251 t252).bind fun bt276 => (if (bt276.1 == bt255.1 && (bt276.2.1 == bt255.2.1 && (bt276.2.2.1 == bt255.2.2.1 && (bt276.2.2.2.1 == bt255.2.2.2.1 && (bt276.2.2.2.2.1 == bt255.2.2.2.2.1 && (bt276.2.2.2.2.2.1 == bt255.2.2.2.2.2.1 && ((bt276.2.2.2.2.2.2.1 == bt255.2.2.2.2.2.2.1 && (bt276.2.2.2.2.2.2.2.1 == bt255.2.2.2.2.2.2.2.1)) && (bt276.2.2.2.2.2.2.2.2 == bt255.2.2.2.2.2.2.2.2.1)))))))) = true then (if t253 = bt255.2.2.2.2.2.2.2.2.2 then (if bt255.2.2.2.2.2.2.2.2.2 = 0 then ((peer_PrintReport.f kj2 t244 t245 t246 t247 t248 t249 t250 t251 t252).bind fun t285 => (some (t285.toList == a1.toList))) else (some true)) else (none)) else (none))) else (if (t233 == a0_0 && (t234 == a0_1 && (t235 == a0_2 && (t236 == a0_3 && (t237 == a0_4 && (t238 == a0_5 && ((t239 == a0_6 && (t240 == a0_7)) && (t241 == a0_8)))))))) = true then (if t242 = 0 then ((apogeelaw07_likeReport.f t244 t245 t246 t247 t248 t249 t250 t251 t252).bind fun bt286 => (if (bt286.1 == bt255.1 && (bt286.2.1 == bt255.2.1 && (bt286.2.2.1 == bt255.2.2.1 && (bt286.2.2.2.1 == bt255.2.2.2.1 && (bt286.2.2.2.2.1 == bt255.2.2.2.2.1 && (bt286.2.2.2.2.2.1 == bt255.2.2.2.2.2.1 && ((bt286.2.2.2.2.2.2.1 == bt255.2.2.2.2.2.2.1 && (bt286.2.2.2.2.2.2.2.1 == bt255.2.2.2.2.2.2.2.1)) && (bt286.2.2.2.2.2.2.2.2 == bt255.2.2.2.2.2.2.2.2.1)))))))) = true then (if t253 = bt255.2.2.2.2.2.2.2.2.2 then (if bt255.2.2.2.2.2.2.2.2.2 = 0 then ((peer_PrintReport.f kj2 t244 t245 t246 t247 t248 t249 t250 t251 t252).bind fun t295 => (some (t295.toList == a1.toList))) else (some true)) else (none)) else (none))) else (none)) else (none))) else (none))))) = some r := H
    have A14 := Aside0.mk A140
    clear A140
    replace H := Option.bind_eq_some_iff.mp H
    obtain ⟨⟨t255, t256, t257, t258, t259, t260, t261, t262, t263, t264⟩, A150, H⟩ := H
    replace H : ((apogeelaw07_likeReport.f a0_0 a0_1 a0_2 a0_3 a0_4 a0_5 a0_6 a0_7 a0_8).bind fun bt266 => ((apogeeref07_PrintReport.f kj2 bt266.1 bt266.2.1 bt266.2.2.1 bt266.2.2.2.1 bt266.2.2.2.2.1 bt266.2.2.2.2.2.1 bt266.2.2.2.2.2.2.1 bt266.2.2.2.2.2.2.2.1 bt266.2.2.2.2.2.2.2.2).bind fun t275 => (if t232.toList = t275.toList then (if t232.toList = ([] : List UInt8) then ((apogeelaw07_likeReport.f t244 t245 t246 t247 t248 t249 t250 t251 t252).bind fun bt276 => (if (bt276.1 == t255 && (bt276.2.1 == t256 && (bt276.2.2.1 == t257 && (bt276.2.2.2.1 == t258 && (bt276.2.2.2.2.1 == t259 && (bt276.2.2.2.2.2.1 == t260 && ((bt276.2.2.2.2.2.2.1 == t261 && (bt276.2.2.2.2.2.2.2.1 == t262)) && (bt276.2.2.2.2.2.2.2.2 == t263)))))))) = true then (if t253 = t264 then (if t264 = 0 then ((peer_PrintReport.f kj2 t244 t245 t246 t247 t248 t249 t250 t251 t252).bind fun t285 => (some (t285.toList == a1.toList))) else (some true)) else (none)) else (none))) else (if (t233 == a0_0 && (t234 == a0_1 && (t235 == a0_2 && (t236 == a0_3 && (t237 == a0_4 && (t238 == a0_5 && ((t239 == a0_6 && (t240 == a0_7)) && (t241 == a0_8)))))))) = true then (if t242 = 0 then ((apogeelaw07_likeReport.f t244 t245 t246 t247 t248 t249 t250 t251 t252).bind fun bt286 => (if (bt286.1 == t255 && (bt286.2.1 == t256 && (bt286.2.2.1 == t257 && (bt286.2.2.2.1 == t258 && (bt286.2.2.2.2.1 == t259 && (bt286.2.2.2.2.2.1 == t260 && ((bt286.2.2.2.2.2.2.1 == t261 && (bt286.2.2.2.2.2.2.2.1 == t262)) && (bt286.2.2.2.2.2.2.2.2 == t263)))))))) = true then (if t253 = t264 then (if t264 = 0 then ((peer_PrintReport.f kj2 t244 t245 t246 t247 t248 t249 t250 t251 t252).bind fun t295 => (some (t295.toList == a1.toList))) else (some true)) else (none)) else (none))) else (none)) else (none))) else (none)))) = some r := H
    have A15 := Aside0.mk A150
    clear A150
    replace H := Option.bind_eq_some_iff.mp H
    obtain ⟨⟨t266, t267, t268, t269, t270, t271, t272, t273, t274⟩, A160, H⟩ := H
    replace H : ((apogeeref07_PrintReport.f kj2 t266 t267 t268 t269 t270 t271 t272 t273 t274).bind fun t275 => (if t232.toList = t275.toList then (if t232.toList = ([] : List UInt8) then ((apogeelaw07_likeReport.f t244 t245 t246 t247 t248 t249 t250 t251 t252).bind fun bt276 => (if (bt276.1 == t255 && (bt276.2.1 == t256 && (bt276.2.2.1 == t257 && (bt276.2.2.2.1 == t258 && (bt276.2.2.2.2.1 == t259 && (bt276.2.2.2.2.2.1 == t260 && ((bt276.2.2.2.2.2.2.1 == t261 && (bt276.2.2.2.2.2.2.2.1 == t262)) && (bt276.2.2.2.2.2.2.2.2 == t263)))))))) = true then (if t253 = t264 then (if t264 = 0 then ((peer_PrintReport.f kj2 t244 t245 t246 t247 t248 t249 t250 t251 t252).bind fun t285 => (some (t285.toList == a1.toList))) else (some true)) else (none)) else (none))) else (if (t233 == a0_0 && (t234 == a0_1 && (t235 == a0_2 && (t236 == a0_3 && (t237 == a0_4 && (t238 == a0_5 && ((t239 == a0_6 && (t240 == a0_7)) && (t241 == a0_8)))))))) = true then (if t242 = 0 then ((apogeelaw07_likeReport.f t244 t245 t246 t247 t248 t249 t250 t251 t252).bind fun bt286 => (if (bt286.1 == t255 && (bt286.2.1 == t256 && (bt286.2.2.1 == t257 && (bt286.2.2.2.1 == t258 && (bt286.2.2.2.2.1 == t259 && (bt286.2.2.2.2.2.1 == t260 && ((bt286.2.2.2.2.2.2.1 == t261 && (bt286.2.2.2.2.2.2.2.1 == t262)) && (bt286.2.2.2.2.2.2.2.2 == t263)))))))) = true then (if t253 = t264 then (if t264 = 0 then ((peer_PrintReport.f kj2 t244 t245 t246 t247 t248 t249 t250 t251 t252).bind fun t295 => (some (t295.toList == a1.toList))) else (some true)) else (none)) else (none))) else (none)) else (none))) else (none))) = some r := H
    have A16 := Aside0.mk A160
    clear A160
    replace H := Option.bind_eq_some_iff.mp H
    obtain ⟨t275, A170, H⟩ := H
    replace H : (if t232.toList = t275.toList then (if t232.toList = ([] : List UInt8) then ((apogeelaw07_likeReport.f t244 t245 t246 t247 t248 t249 t250 t251 t252).bind fun bt276 => (if (bt276.1 == t255 && (bt276.2.1 == t256 && (bt276.2.2.1 == t257 && (bt276.2.2.2.1 == t258 && (bt276.2.2.2.2.1 == t259 && (bt276.2.2.2.2.2.1 == t260 && ((bt276.2.2.2.2.2.2.1 == t261 && (bt276.2.2.2.2.2.2.2.1 == t262)) && (bt276.2.2.2.2.2.2.2.2 == t263)))))))) = true then (if t253 = t264 then (if t264 = 0 then ((peer_PrintReport.f kj2 t244 t245 t246 t247 t248 t249 t250 t251 t252).bind fun t285 => (some (t285.toList == a1.toList))) else (some true)) else (none)) else (none))) else (if (t233 == a0_0 && (t234 == a0_1 && (t235 == a0_2 && (t236 == a0_3 && (t237 == a0_4 && (t238 == a0_5 && ((t239 == a0_6 && (t240 == a0_7)) && (t241 == a0_8)))))))) = true then (if t242 = 0 then ((apogeelaw07_likeReport.f t244 t245 t246 t247 t248 t249 t250 t251 t252).bind fun bt286 => (if (bt286.1 == t255 && (bt286.2.1 == t256 && (bt286.2.2.1 == t257 && (bt286.2.2.2.1 == t258 && (bt286.2.2.2.2.1 == t259 && (bt286.2.2.2.2.2.1 == t260 && ((bt286.2.2.2.2.2.2.1 == t261 && (bt286.2.2.2.2.2.2.2.1 == t262)) && (bt286.2.2.2.2.2.2.2.2 == t263)))))))) = true then (if t253 = t264 then (if t264 = 0 then ((peer_PrintReport.f kj2 t244 t245 t246 t247 t248 t249 t250 t251 t252).bind fun t295 => (some (t295.toList == a1.toList))) else (some true)) else (none)) else (none))) else (none)) else (none))) else (none)) = some r := H
    have A17 := Aside0.mk A170
    clear A170
    by_cases c18 : t232.toList = t275.toList
    ·rw [if_pos c18] at H
     have c18b0 : (t232.toList == t275.toList) = true := beq_iff_eq.mpr c18
     have c18b1 : (t232.toList != t275.toList) = false := bne_eq_false_iff_eq.mpr c18
     clear c18
     by_cases c19 : t232.toList = ([] : List UInt8)
     ·rw [if_pos c19] at H
      have c19b0 : (t232.toList == ([] : List UInt8)) = true := beq_iff_eq.mpr c19
      have c19b1 : (t232.toList != ([] : List UInt8)) = false := bne_eq_false_iff_eq.mpr c19
      clear c19
      replace H := Option.bind_eq_some_iff.mp H
      obtain ⟨⟨t276, t277, t278, t279, t280, t281, t282, t283, t284⟩, A200, H⟩ := H
      replace H : (if (t276 == t255 && (t277 == t256 && (t278 == t257 && (t279 == t258 && (t280 == t259 && (t281 == t260 && ((t282 == t261 && (t283 == t262)) && (t284 == t263)))))))) = true then (if t253 = t264 then (if t264 = 0 then ((peer_PrintReport.f kj2 t244 t245 t246 t247 t248 t249 t250 t251 t252).bind fun t285 => (some (t285.toList == a1.toList))) else (some true)) else (none)) else (none)) = some r := H
      have A20 := Aside0.mk A200
      clear A200
      by_cases c21 : (t276 == t255 && (t277 == t256 && (t278 == t257 && (t279 == t258 && (t280 == t259 && (t281 == t260 && ((t282 == t261 && (t283 == t262)) && (t284 == t263)))))))) = true
      ·rw [if_pos c21] at H
       have c21b0 : (t276 == t255 && (t277 == t256 && (t278 == t257 && (t279 == t258 && (t280 == t259 && (t281 == t260 && ((t282 == t261 && (t283 == t262)) && (t284 == t263)))))))) = true := c21
       (try (have c21b1 : decide (t276 = t255 && (t277 == t256 && (t278 == t257 && (t279 == t258 && (t280 == t259 && (t281 == t260 && ((t282 == t261 && (t283 == t262)) && (t284 == t263)))))))) = true := by simpa using c21))
       (try (have c21b2 : (t276 == t255 && (t277 == t256 && (t278 == t257 && (t279 == t258 && (t280 == t259 && (t281 == t260 && ((t282 == t261 && (t283 == t262)) && (t284 == t263)))))))) = true := by simpa using c21))
       clear c21
       by_cases c22 : t253 = t264
       ·rw [if_pos c22] at H
        have c22b0 : (t253 == t264) = true := beq_iff_eq.mpr c22
        have c22b1 : (t253 != t264) = false := bne_eq_false_iff_eq.mpr c22
        clear c22
        by_cases c23 : t264 = 0
        ·rw [if_pos c23] at H
         have c23b0 : (t264 == 0) = true := beq_iff_eq.mpr c23
         have c23b1 : (t264 != 0) = false := bne_eq_false_iff_eq.mpr c23
         clear c23
         replace H := Option.bind_eq_some_iff.mp H
         obtain ⟨t285, A240, H⟩ := H
         replace H : (some (t285.toList == a1.toList)) = some r := H
         have A24 := Aside0.mk A240
         clear A240
         obtain rfl := Option.some.inj H
         have hcz25_0 : wc.cell? ⟨gb229, 0, none⟩ = some (.int .i64 a0_0) := (blk_cell BK229.out 0).trans rfl
         have hcz25_1 : wc.cell? ⟨gb229, 1, none⟩ = some (.int .i64 a0_1) := (blk_cell BK229.out 1).trans rfl
         have hcz25_2 : wc.cell? ⟨gb229, 2, none⟩ = some (.int .i64 a0_2) := (blk_cell BK229.out 2).trans rfl
         have hcz25_3 : wc.cell? ⟨gb229, 3, none⟩ = some (.int .i64 a0_3) := (blk_cell BK229.out 3).trans rfl
         have hcz25_4 : wc.cell? ⟨gb229, 4, none⟩ = some (.int .i64 a0_4) := (blk_cell BK229.out 4).trans rfl
         have hcz25_5 : wc.cell? ⟨gb229, 5, none⟩ = some (.int .i64 a0_5) := (blk_cell BK229.out 5).trans rfl
         have hcz25_6 : wc.cell? ⟨gb229, 6, none⟩ = some (.int .i64 a0_6) := (blk_cell BK229.out 6).trans rfl
         have hcz25_7 : wc.cell? ⟨gb229, 7, none⟩ = some (.int .i64 a0_7) := (blk_cell BK229.out 7).trans rfl
         have hcz25_8 : wc.cell? ⟨gb229, 8, none⟩ = some (.int .i64 a0_8) := (blk_cell BK229.out 8).trans rfl
         have hfz25_0 := blk_frozen BK229.out 0
         have hfz25_1 := blk_frozen BK229.out 1
         have hfz25_2 := blk_frozen BK229.out 2
         have hfz25_3 := blk_frozen BK229.out 3
         have hfz25_4 := blk_frozen BK229.out 4
         have hfz25_5 := blk_frozen BK229.out 5
         have hfz25_6 := blk_frozen BK229.out 6
         have hfz25_7 := blk_frozen BK229.out 7
         have hfz25_8 := blk_frozen BK229.out 8
         have tk1_1_ : True := trivial
         have tk1_3_ : True := trivial
         try go_wp2_with (first | ((with_reducible refine gate_callee (f := 14) rfl ?_); refine goesL_ (some 21) rfl rfl Try.func14 (by kernel_rfl) rfl #[.agg #[.int .i64 a0_0, .int .i64 a0_1, .int .i64 a0_2, .int .i64 a0_3, .int .i64 a0_4, .int .i64 a0_5, .int .i64 a0_6, .int .i64 a0_7, .int .i64 a0_8]] rfl (by (try simp only [sD, List.map_cons, List.map_nil]); first | done | rfl) ?_; (with_reducible refine (peer_PrintReport.calls kj2 a0_0 a0_1 a0_2 a0_3 a0_4 a0_5 a0_6 a0_7 a0_8 t232 _ A12.out).mono ?_); rintro e w26 ⟨rfl, hb⟩; refine ⟨_, rfl, ?_⟩; have n0_ := Aside0.mk (blk_below (g := gb229) BK229.out hb); have n1_ := Aside0.mk (below_step (by repeat (first | (with_reducible first | exact HB.out | apply below_alloc | apply pw_below_drewN | apply below_drew1 | refine below_set ?_ GE229.out) | exact HB.out)) hb); clear BK229; clear HB; have BK229 := n0_; have HB := n1_; clear n0_ n1_; (try clear hb)) | ((with_reducible refine gate_callee (f := 15) rfl ?_); have q_ := tk1_1_; clear q_ tk1_1_; refine goesL_ (some 24) rfl rfl Try.func15 (by kernel_rfl) rfl #[.string t232] rfl (by (try simp only [sD, List.map_cons, List.map_nil]); first | done | rfl) ?_; (with_reducible refine (peer_ReadReport.calls kj2 t232 t233 t234 t235 t236 t237 t238 t239 t240 t241 t242 _ A13.out).mono ?_); rintro e w27 ⟨rfl, hb⟩; refine ⟨_, rfl, ?_⟩; have n0_ := Aside0.mk (blk_below (g := gb229) BK229.out hb); have n1_ := Aside0.mk (below_step (by repeat (first | (with_reducible first | exact HB.out | apply below_alloc | apply pw_below_drewN | apply below_drew1 | refine below_set ?_ GE229.out) | exact HB.out)) hb); clear BK229; clear HB; have BK229 := n0_; have HB := n1_; clear n0_ n1_; (try clear hb)) | ((with_reducible refine gate_dst (N := 6) rfl ?_); (try (refine gate_guard (by rfl) ?_; dsimp only)); refine box_event ?hg (N := 6) ?hd (cs := #[.int .i64 0, .int .i64 0, .int .i64 0, .int .i64 0, .int .i64 0, .int .i64 0, .int .i64 0, .int .i64 0, .int .i64 0]) (t := 37) ?hr ?_; (case hd => rfl); (case hg => rfl); (case hr => first | (go_simp; done) | (go_simp; rfl)); intro gb243 hg w28 hbox hb; have n0_ := Aside0.mk (blk_below (g := gb229) BK229.out hb); have n1_ := Aside0.mk (below_step (by repeat (first | (with_reducible first | exact HB.out | apply below_alloc | apply pw_below_drewN | apply below_drew1 | refine below_set ?_ GE229.out) | exact HB.out)) hb); have n2_ := Aside0.mk (hbox); have n3_ := Aside0.mk ((by rw [hg]; exact (below_size (by repeat (first | (with_reducible first | exact HB.out | apply below_alloc | apply pw_below_drewN | apply below_drew1 | refine below_set ?_ GE229.out) | exact HB.out))) : w.heap.size ≤ gb243)); have n4_ := n3_; have n5_ := Aside0.mk ((by rw [hg]; exact Nat.ne_of_lt (blk_lt (g := gb229) BK229.out) : gb229 ≠ gb243)); have n6_ := Aside0.mk ((by rw [hg]; exact Nat.ne_of_gt (blk_lt (g := gb229) BK229.out) : gb243 ≠ gb229)); clear BK229; clear HB; have BK229 := n0_; have HB := n1_; have BK243 := n2_; have GW243 := n3_; have GE243 := n4_; have NB229_243 := n5_; have NB243_229 := n6_; clear n0_ n1_ n2_ n3_ n4_ n5_ n6_; clear hb hbox hg; have hnb29 := NB243_229.out; have hnc29 := NB229_243.out; have hcz30_0 : w28.cell? ⟨gb243, 0, none⟩ = some (.int .i64 0) := (blk_cell BK243.out 0).trans rfl; have hcz30_1 : w28.cell? ⟨gb243, 1, none⟩ = some (.int .i64 0) := (blk_cell BK243.out 1).trans rfl; have hcz30_2 : w28.cell? ⟨gb243, 2, none⟩ = some (.int .i64 0) := (blk_cell BK243.out 2).trans rfl; have hcz30_3 : w28.cell? ⟨gb243, 3, none⟩ = some (.int .i64 0) := (blk_cell BK243.out 3).trans rfl; have hcz30_4 : w28.cell? ⟨gb243, 4, none⟩ = some (.int .i64 0) := (blk_cell BK243.out 4).trans rfl; have hcz30_5 : w28.cell? ⟨gb243, 5, none⟩ = some (.int .i64 0) := (blk_cell BK243.out 5).trans rfl; have hcz30_6 : w28.cell? ⟨gb243, 6, none⟩ = some (.int .i64 0) := (blk_cell BK243.out 6).trans rfl; have hcz30_7 : w28.cell? ⟨gb243, 7, none⟩ = some (.int .i64 0) := (blk_cell BK243.out 7).trans rfl; have hcz30_8 : w28.cell? ⟨gb243, 8, none⟩ = some (.int .i64 0) := (blk_cell BK243.out 8).trans rfl; have hfz30_0 := blk_frozen BK243.out 0; have hfz30_1 := blk_frozen BK243.out 1; have hfz30_2 := blk_frozen BK243.out 2; have hfz30_3 := blk_frozen BK243.out 3; have hfz30_4 := blk_frozen BK243.out 4; have hfz30_5 := blk_frozen BK243.out 5; have hfz30_6 := blk_frozen BK243.out 6; have hfz30_7 := blk_frozen BK243.out 7; have hfz30_8 := blk_frozen BK243.out 8) | ((with_reducible refine gate_callee (f := 15) rfl ?_); have q_ := tk1_3_; clear q_ tk1_3_; refine goesL_ (some 29) rfl rfl Try.func15 (by kernel_rfl) rfl #[.string a1] rfl (by (try simp only [sD, List.map_cons, List.map_nil]); first | done | rfl) ?_; (with_reducible refine (peer_ReadReport.calls kj2 a1 t244 t245 t246 t247 t248 t249 t250 t251 t252 t253 _ A14.out).mono ?_); rintro e w31 ⟨rfl, hb⟩; refine ⟨_, rfl, ?_⟩; have n0_ := Aside0.mk (blk_below (g := gb229) (o := .cells #[.int .i64 a0_0, .int .i64 a0_1, .int .i64 a0_2, .int .i64 a0_3, .int .i64 a0_4, .int .i64 a0_5, .int .i64 a0_6, .int .i64 a0_7, .int .i64 a0_8] 37 (0, 0)) (by refine blk_far ?_ NB229_243.out _; refine blk_far ?_ NB229_243.out _; refine blk_far ?_ NB229_243.out _; refine blk_far ?_ NB229_243.out _; refine blk_far ?_ NB229_243.out _; refine blk_far ?_ NB229_243.out _; refine blk_far ?_ NB229_243.out _; refine blk_far ?_ NB229_243.out _; refine blk_far ?_ NB229_243.out _; exact BK229.out) hb); have n1_ := Aside0.mk (blk_below (g := gb243) (o := .cells #[.int .i64 t233, .int .i64 t234, .int .i64 t235, .int .i64 t236, .int .i64 t237, .int .i64 t238, .int .i64 t239, .int .i64 t240, .int .i64 t241] 37 (0, 0)) (by refine blk_put (cs := #[.int .i64 t233, .int .i64 t234, .int .i64 t235, .int .i64 t236, .int .i64 t237, .int .i64 t238, .int .i64 t239, .int .i64 t240, .int .i64 0]) ?_ 8 _ rfl; refine blk_put (cs := #[.int .i64 t233, .int .i64 t234, .int .i64 t235, .int .i64 t236, .int .i64 t237, .int .i64 t238, .int .i64 t239, .int .i64 0, .int .i64 0]) ?_ 7 _ rfl; refine blk_put (cs := #[.int .i64 t233, .int .i64 t234, .int .i64 t235, .int .i64 t236, .int .i64 t237, .int .i64 t238, .int .i64 0, .int .i64 0, .int .i64 0]) ?_ 6 _ rfl; refine blk_put (cs := #[.int .i64 t233, .int .i64 t234, .int .i64 t235, .int .i64 t236, .int .i64 t237, .int .i64 0, .int .i64 0, .int .i64 0, .int .i64 0]) ?_ 5 _ rfl; refine blk_put (cs := #[.int .i64 t233, .int .i64 t234, .int .i64 t235, .int .i64 t236, .int .i64 0, .int .i64 0, .int .i64 0, .int .i64 0, .int .i64 0]) ?_ 4 _ rfl; refine blk_put (cs := #[.int .i64 t233, .int .i64 t234, .int .i64 t235, .int .i64 0, .int .i64 0, .int .i64 0, .int .i64 0, .int .i64 0, .int .i64 0]) ?_ 3 _ rfl; refine blk_put (cs := #[.int .i64 t233, .int .i64 t234, .int .i64 0, .int .i64 0, .int .i64 0, .int .i64 0, .int .i64 0, .int .i64 0, .int .i64 0]) ?_ 2 _ rfl; refine blk_put (cs := #[.int .i64 t233, .int .i64 0, .int .i64 0, .int .i64 0, .int .i64 0, .int .i64 0, .int .i64 0, .int .i64 0, .int .i64 0]) ?_ 1 _ rfl; refine blk_put (cs := #[.int .i64 0, .int .i64 0, .int .i64 0, .int .i64 0, .int .i64 0, .int .i64 0, .int .i64 0, .int .i64 0, .int .i64 0]) ?_ 0 _ rfl; exact BK243.out) hb); have n2_ := Aside0.mk (below_step (by repeat (first | (with_reducible first | exact HB.out | apply below_alloc | apply pw_below_drewN | apply below_drew1 | refine below_set ?_ GE229.out | refine below_set ?_ GE243.out) | exact HB.out)) hb); clear BK229; clear BK243; clear HB; have BK229 := n0_; have BK243 := n1_; have HB := n2_; clear n0_ n1_ n2_; (try clear hb)) | ((with_reducible refine gate_dst (N := 8) rfl ?_); (try (refine gate_guard (by rfl) ?_; dsimp only)); refine box_event ?hg (N := 8) ?hd (cs := #[.int .i64 0, .int .i64 0, .int .i64 0, .int .i64 0, .int .i64 0, .int .i64 0, .int .i64 0, .int .i64 0, .int .i64 0]) (t := 37) ?hr ?_; (case hd => rfl); (case hg => rfl); (case hr => first | (go_simp; done) | (go_simp; rfl)); intro gb254 hg w32 hbox hb; have n0_ := Aside0.mk (blk_below (g := gb229) BK229.out hb); have n1_ := Aside0.mk (blk_below (g := gb243) BK243.out hb); have n2_ := Aside0.mk (below_step (by repeat (first | (with_reducible first | exact HB.out | apply below_alloc | apply pw_below_drewN | apply below_drew1 | refine below_set ?_ GE229.out | refine below_set ?_ GE243.out) | exact HB.out)) hb); have n3_ := Aside0.mk (hbox); have n4_ := Aside0.mk ((by rw [hg]; exact (below_size (by repeat (first | (with_reducible first | exact HB.out | apply below_alloc | apply pw_below_drewN | apply below_drew1 | refine below_set ?_ GE229.out | refine below_set ?_ GE243.out) | exact HB.out))) : w.heap.size ≤ gb254)); have n5_ := n4_; have n6_ := Aside0.mk ((by rw [hg]; exact Nat.ne_of_lt (blk_lt (g := gb229) BK229.out) : gb229 ≠ gb254)); have n7_ := Aside0.mk ((by rw [hg]; exact Nat.ne_of_gt (blk_lt (g := gb229) BK229.out) : gb254 ≠ gb229)); have n8_ := Aside0.mk ((by rw [hg]; exact Nat.ne_of_lt (blk_lt (g := gb243) BK243.out) : gb243 ≠ gb254)); have n9_ := Aside0.mk ((by rw [hg]; exact Nat.ne_of_gt (blk_lt (g := gb243) BK243.out) : gb254 ≠ gb243)); clear BK229; clear BK243; clear HB; have BK229 := n0_; have BK243 := n1_; have HB := n2_; have BK254 := n3_; have GW254 := n4_; have GE254 := n5_; have NB229_254 := n6_; have NB254_229 := n7_; have NB243_254 := n8_; have NB254_243 := n9_; clear n0_ n1_ n2_ n3_ n4_ n5_ n6_ n7_ n8_ n9_; clear hb hbox hg; have hnb33 := NB254_229.out; have hnc33 := NB229_254.out; have hnb34 := NB254_243.out; have hnc34 := NB243_254.out; have hcz35_0 : w32.cell? ⟨gb254, 0, none⟩ = some (.int .i64 0) := (blk_cell BK254.out 0).trans rfl; have hcz35_1 : w32.cell? ⟨gb254, 1, none⟩ = some (.int .i64 0) := (blk_cell BK254.out 1).trans rfl; have hcz35_2 : w32.cell? ⟨gb254, 2, none⟩ = some (.int .i64 0) := (blk_cell BK254.out 2).trans rfl; have hcz35_3 : w32.cell? ⟨gb254, 3, none⟩ = some (.int .i64 0) := (blk_cell BK254.out 3).trans rfl; have hcz35_4 : w32.cell? ⟨gb254, 4, none⟩ = some (.int .i64 0) := (blk_cell BK254.out 4).trans rfl; have hcz35_5 : w32.cell? ⟨gb254, 5, none⟩ = some (.int .i64 0) := (blk_cell BK254.out 5).trans rfl; have hcz35_6 : w32.cell? ⟨gb254, 6, none⟩ = some (.int .i64 0) := (blk_cell BK254.out 6).trans rfl; have hcz35_7 : w32.cell? ⟨gb254, 7, none⟩ = some (.int .i64 0) := (blk_cell BK254.out 7).trans rfl; have hcz35_8 : w32.cell? ⟨gb254, 8, none⟩ = some (.int .i64 0) := (blk_cell BK254.out 8).trans rfl; have hfz35_0 := blk_frozen BK254.out 0; have hfz35_1 := blk_frozen BK254.out 1; have hfz35_2 := blk_frozen BK254.out 2; have hfz35_3 := blk_frozen BK254.out 3; have hfz35_4 := blk_frozen BK254.out 4; have hfz35_5 := blk_frozen BK254.out 5; have hfz35_6 := blk_frozen BK254.out 6; have hfz35_7 := blk_frozen BK254.out 7; have hfz35_8 := blk_frozen BK254.out 8) | ((with_reducible refine gate_callee (f := 16) rfl ?_); refine goesL_ (some 34) rfl rfl Try.func16 (by kernel_rfl) rfl #[.string a1] rfl (by (try simp only [sD, List.map_cons, List.map_nil]); first | done | rfl) ?_; (with_reducible refine (apogeeref07_ReadReport.calls kj2 a1 t255 t256 t257 t258 t259 t260 t261 t262 t263 t264 _ A15.out).mono ?_); rintro e w36 ⟨rfl, hb⟩; refine ⟨_, rfl, ?_⟩; have n0_ := Aside0.mk (blk_below (g := gb229) (o := .cells #[.int .i64 a0_0, .int .i64 a0_1, .int .i64 a0_2, .int .i64 a0_3, .int .i64 a0_4, .int .i64 a0_5, .int .i64 a0_6, .int .i64 a0_7, .int .i64 a0_8] 37 (0, 0)) (by refine blk_far ?_ NB229_254.out _; refine blk_far ?_ NB229_254.out _; refine blk_far ?_ NB229_254.out _; refine blk_far ?_ NB229_254.out _; refine blk_far ?_ NB229_254.out _; refine blk_far ?_ NB229_254.out _; refine blk_far ?_ NB229_254.out _; refine blk_far ?_ NB229_254.out _; refine blk_far ?_ NB229_254.out _; exact BK229.out) hb); have n1_ := Aside0.mk (blk_below (g := gb243) (o := .cells #[.int .i64 t233, .int .i64 t234, .int .i64 t235, .int .i64 t236, .int .i64 t237, .int .i64 t238, .int .i64 t239, .int .i64 t240, .int .i64 t241] 37 (0, 0)) (by refine blk_far ?_ NB243_254.out _; refine blk_far ?_ NB243_254.out _; refine blk_far ?_ NB243_254.out _; refine blk_far ?_ NB243_254.out _; refine blk_far ?_ NB243_254.out _; refine blk_far ?_ NB243_254.out _; refine blk_far ?_ NB243_254.out _; refine blk_far ?_ NB243_254.out _; refine blk_far ?_ NB243_254.out _; exact BK243.out) hb); have n2_ := Aside0.mk (blk_below (g := gb254) (o := .cells #[.int .i64 t244, .int .i64 t245, .int .i64 t246, .int .i64 t247, .int .i64 t248, .int .i64 t249, .int .i64 t250, .int .i64 t251, .int .i64 t252] 37 (0, 0)) (by refine blk_put (cs := #[.int .i64 t244, .int .i64 t245, .int .i64 t246, .int .i64 t247, .int .i64 t248, .int .i64 t249, .int .i64 t250, .int .i64 t251, .int .i64 0]) ?_ 8 _ rfl; refine blk_put (cs := #[.int .i64 t244, .int .i64 t245, .int .i64 t246, .int .i64 t247, .int .i64 t248, .int .i64 t249, .int .i64 t250, .int .i64 0, .int .i64 0]) ?_ 7 _ rfl; refine blk_put (cs := #[.int .i64 t244, .int .i64 t245, .int .i64 t246, .int .i64 t247, .int .i64 t248, .int .i64 t249, .int .i64 0, .int .i64 0, .int .i64 0]) ?_ 6 _ rfl; refine blk_put (cs := #[.int .i64 t244, .int .i64 t245, .int .i64 t246, .int .i64 t247, .int .i64 t248, .int .i64 0, .int .i64 0, .int .i64 0, .int .i64 0]) ?_ 5 _ rfl; refine blk_put (cs := #[.int .i64 t244, .int .i64 t245, .int .i64 t246, .int .i64 t247, .int .i64 0, .int .i64 0, .int .i64 0, .int .i64 0, .int .i64 0]) ?_ 4 _ rfl; refine blk_put (cs := #[.int .i64 t244, .int .i64 t245, .int .i64 t246, .int .i64 0, .int .i64 0, .int .i64 0, .int .i64 0, .int .i64 0, .int .i64 0]) ?_ 3 _ rfl; refine blk_put (cs := #[.int .i64 t244, .int .i64 t245, .int .i64 0, .int .i64 0, .int .i64 0, .int .i64 0, .int .i64 0, .int .i64 0, .int .i64 0]) ?_ 2 _ rfl; refine blk_put (cs := #[.int .i64 t244, .int .i64 0, .int .i64 0, .int .i64 0, .int .i64 0, .int .i64 0, .int .i64 0, .int .i64 0, .int .i64 0]) ?_ 1 _ rfl; refine blk_put (cs := #[.int .i64 0, .int .i64 0, .int .i64 0, .int .i64 0, .int .i64 0, .int .i64 0, .int .i64 0, .int .i64 0, .int .i64 0]) ?_ 0 _ rfl; exact BK254.out) hb); have n3_ := Aside0.mk (below_step (by repeat (first | (with_reducible first | exact HB.out | apply below_alloc | apply pw_below_drewN | apply below_drew1 | refine below_set ?_ GE229.out | refine below_set ?_ GE243.out | refine below_set ?_ GE254.out) | exact HB.out)) hb); clear BK229; clear BK243; clear BK254; clear HB; have BK229 := n0_; have BK243 := n1_; have BK254 := n2_; have HB := n3_; clear n0_ n1_ n2_ n3_; (try clear hb)) | ((with_reducible refine gate_dst (N := 10) rfl ?_); (try (refine gate_guard (by rfl) ?_; dsimp only)); refine box_event ?hg (N := 10) ?hd (cs := #[.int .i64 0, .int .i64 0, .int .i64 0, .int .i64 0, .int .i64 0, .int .i64 0, .int .i64 0, .int .i64 0, .int .i64 0]) (t := 41) ?hr ?_; (case hd => rfl); (case hg => rfl); (case hr => first | (go_simp; done) | (go_simp; rfl)); intro gb265 hg w37 hbox hb; have n0_ := Aside0.mk (blk_below (g := gb229) BK229.out hb); have n1_ := Aside0.mk (blk_below (g := gb243) BK243.out hb); have n2_ := Aside0.mk (blk_below (g := gb254) BK254.out hb); have n3_ := Aside0.mk (below_step (by repeat (first | (with_reducible first | exact HB.out | apply below_alloc | apply pw_below_drewN | apply below_drew1 | refine below_set ?_ GE229.out | refine below_set ?_ GE243.out | refine below_set ?_ GE254.out) | exact HB.out)) hb); have n4_ := Aside0.mk (hbox); have n5_ := Aside0.mk ((by rw [hg]; exact (below_size (by repeat (first | (with_reducible first | exact HB.out | apply below_alloc | apply pw_below_drewN | apply below_drew1 | refine below_set ?_ GE229.out | refine below_set ?_ GE243.out | refine below_set ?_ GE254.out) | exact HB.out))) : w.heap.size ≤ gb265)); have n6_ := n5_; have n7_ := Aside0.mk ((by rw [hg]; exact Nat.ne_of_lt (blk_lt (g := gb229) BK229.out) : gb229 ≠ gb265)); have n8_ := Aside0.mk ((by rw [hg]; exact Nat.ne_of_gt (blk_lt (g := gb229) BK229.out) : gb265 ≠ gb229)); have n9_ := Aside0.mk ((by rw [hg]; exact Nat.ne_of_lt (blk_lt (g := gb243) BK243.out) : gb243 ≠ gb265)); have n10_ := Aside0.mk ((by rw [hg]; exact Nat.ne_of_gt (blk_lt (g := gb243) BK243.out) : gb265 ≠ gb243)); have n11_ := Aside0.mk ((by rw [hg]; exact Nat.ne_of_lt (blk_lt (g := gb254) BK254.out) : gb254 ≠ gb265)); have n12_ := Aside0.mk ((by rw [hg]; exact Nat.ne_of_gt (blk_lt (g := gb254) BK254.out) : gb265 ≠ gb254)); clear BK229; clear BK243; clear BK254; clear HB; have BK229 := n0_; have BK243 := n1_; have BK254 := n2_; have HB := n3_; have BK265 := n4_; have GW265 := n5_; have GE265 := n6_; have NB229_265 := n7_; have NB265_229 := n8_; have NB243_265 := n9_; have NB265_243 := n10_; have NB254_265 := n11_; have NB265_254 := n12_; clear n0_ n1_ n2_ n3_ n4_ n5_ n6_ n7_ n8_ n9_ n10_ n11_ n12_; clear hb hbox hg; have hnb38 := NB265_229.out; have hnc38 := NB229_265.out; have hnb39 := NB265_243.out; have hnc39 := NB243_265.out; have hnb40 := NB265_254.out; have hnc40 := NB254_265.out; have hcz41_0 : w37.cell? ⟨gb265, 0, none⟩ = some (.int .i64 0) := (blk_cell BK265.out 0).trans rfl; have hcz41_1 : w37.cell? ⟨gb265, 1, none⟩ = some (.int .i64 0) := (blk_cell BK265.out 1).trans rfl; have hcz41_2 : w37.cell? ⟨gb265, 2, none⟩ = some (.int .i64 0) := (blk_cell BK265.out 2).trans rfl; have hcz41_3 : w37.cell? ⟨gb265, 3, none⟩ = some (.int .i64 0) := (blk_cell BK265.out 3).trans rfl; have hcz41_4 : w37.cell? ⟨gb265, 4, none⟩ = some (.int .i64 0) := (blk_cell BK265.out 4).trans rfl; have hcz41_5 : w37.cell? ⟨gb265, 5, none⟩ = some (.int .i64 0) := (blk_cell BK265.out 5).trans rfl; have hcz41_6 : w37.cell? ⟨gb265, 6, none⟩ = some (.int .i64 0) := (blk_cell BK265.out 6).trans rfl; have hcz41_7 : w37.cell? ⟨gb265, 7, none⟩ = some (.int .i64 0) := (blk_cell BK265.out 7).trans rfl; have hcz41_8 : w37.cell? ⟨gb265, 8, none⟩ = some (.int .i64 0) := (blk_cell BK265.out 8).trans rfl; have hfz41_0 := blk_frozen BK265.out 0; have hfz41_1 := blk_frozen BK265.out 1; have hfz41_2 := blk_frozen BK265.out 2; have hfz41_3 := blk_frozen BK265.out 3; have hfz41_4 := blk_frozen BK265.out 4; have hfz41_5 := blk_frozen BK265.out 5; have hfz41_6 := blk_frozen BK265.out 6; have hfz41_7 := blk_frozen BK265.out 7; have hfz41_8 := blk_frozen BK265.out 8))
         have n0_ : Aside0 ((((((((((w37.setCell ⟨gb265, 0, none⟩ (.int .i64 t255)).setCell ⟨gb265, 1, none⟩ (.int .i64 t256)).setCell ⟨gb265, 2, none⟩ (.int .i64 t257)).setCell ⟨gb265, 3, none⟩ (.int .i64 t258)).setCell ⟨gb265, 4, none⟩ (.int .i64 t259)).setCell ⟨gb265, 5, none⟩ (.int .i64 t260)).setCell ⟨gb265, 6, none⟩ (.int .i64 t261)).setCell ⟨gb265, 7, none⟩ (.int .i64 t262)).setCell ⟨gb265, 8, none⟩ (.int .i64 t263)).heap[gb229]? = some (.cells #[.int .i64 a0_0, .int .i64 a0_1, .int .i64 a0_2, .int .i64 a0_3, .int .i64 a0_4, .int .i64 a0_5, .int .i64 a0_6, .int .i64 a0_7, .int .i64 a0_8] 37 (0, 0))) := ⟨by refine blk_far ?_ NB229_265.out _; refine blk_far ?_ NB229_265.out _; refine blk_far ?_ NB229_265.out _; refine blk_far ?_ NB229_265.out _; refine blk_far ?_ NB229_265.out _; refine blk_far ?_ NB229_265.out _; refine blk_far ?_ NB229_265.out _; refine blk_far ?_ NB229_265.out _; refine blk_far ?_ NB229_265.out _; exact BK229.out⟩
         have n1_ : Aside0 ((((((((((w37.setCell ⟨gb265, 0, none⟩ (.int .i64 t255)).setCell ⟨gb265, 1, none⟩ (.int .i64 t256)).setCell ⟨gb265, 2, none⟩ (.int .i64 t257)).setCell ⟨gb265, 3, none⟩ (.int .i64 t258)).setCell ⟨gb265, 4, none⟩ (.int .i64 t259)).setCell ⟨gb265, 5, none⟩ (.int .i64 t260)).setCell ⟨gb265, 6, none⟩ (.int .i64 t261)).setCell ⟨gb265, 7, none⟩ (.int .i64 t262)).setCell ⟨gb265, 8, none⟩ (.int .i64 t263)).heap[gb243]? = some (.cells #[.int .i64 t233, .int .i64 t234, .int .i64 t235, .int .i64 t236, .int .i64 t237, .int .i64 t238, .int .i64 t239, .int .i64 t240, .int .i64 t241] 37 (0, 0))) := ⟨by refine blk_far ?_ NB243_265.out _; refine blk_far ?_ NB243_265.out _; refine blk_far ?_ NB243_265.out _; refine blk_far ?_ NB243_265.out _; refine blk_far ?_ NB243_265.out _; refine blk_far ?_ NB243_265.out _; refine blk_far ?_ NB243_265.out _; refine blk_far ?_ NB243_265.out _; refine blk_far ?_ NB243_265.out _; exact BK243.out⟩
         have n2_ : Aside0 ((((((((((w37.setCell ⟨gb265, 0, none⟩ (.int .i64 t255)).setCell ⟨gb265, 1, none⟩ (.int .i64 t256)).setCell ⟨gb265, 2, none⟩ (.int .i64 t257)).setCell ⟨gb265, 3, none⟩ (.int .i64 t258)).setCell ⟨gb265, 4, none⟩ (.int .i64 t259)).setCell ⟨gb265, 5, none⟩ (.int .i64 t260)).setCell ⟨gb265, 6, none⟩ (.int .i64 t261)).setCell ⟨gb265, 7, none⟩ (.int .i64 t262)).setCell ⟨gb265, 8, none⟩ (.int .i64 t263)).heap[gb254]? = some (.cells #[.int .i64 t244, .int .i64 t245, .int .i64 t246, .int .i64 t247, .int .i64 t248, .int .i64 t249, .int .i64 t250, .int .i64 t251, .int .i64 t252] 37 (0, 0))) := ⟨by refine blk_far ?_ NB254_265.out _; refine blk_far ?_ NB254_265.out _; refine blk_far ?_ NB254_265.out _; refine blk_far ?_ NB254_265.out _; refine blk_far ?_ NB254_265.out _; refine blk_far ?_ NB254_265.out _; refine blk_far ?_ NB254_265.out _; refine blk_far ?_ NB254_265.out _; refine blk_far ?_ NB254_265.out _; exact BK254.out⟩
         have n3_ : Aside0 ((((((((((w37.setCell ⟨gb265, 0, none⟩ (.int .i64 t255)).setCell ⟨gb265, 1, none⟩ (.int .i64 t256)).setCell ⟨gb265, 2, none⟩ (.int .i64 t257)).setCell ⟨gb265, 3, none⟩ (.int .i64 t258)).setCell ⟨gb265, 4, none⟩ (.int .i64 t259)).setCell ⟨gb265, 5, none⟩ (.int .i64 t260)).setCell ⟨gb265, 6, none⟩ (.int .i64 t261)).setCell ⟨gb265, 7, none⟩ (.int .i64 t262)).setCell ⟨gb265, 8, none⟩ (.int .i64 t263)).heap[gb265]? = some (.cells #[.int .i64 t255, .int .i64 t256, .int .i64 t257, .int .i64 t258, .int .i64 t259, .int .i64 t260, .int .i64 t261, .int .i64 t262, .int .i64 t263] 41 (0, 0))) := ⟨by refine blk_put (cs := #[.int .i64 t255, .int .i64 t256, .int .i64 t257, .int .i64 t258, .int .i64 t259, .int .i64 t260, .int .i64 t261, .int .i64 t262, .int .i64 0]) ?_ 8 _ rfl; refine blk_put (cs := #[.int .i64 t255, .int .i64 t256, .int .i64 t257, .int .i64 t258, .int .i64 t259, .int .i64 t260, .int .i64 t261, .int .i64 0, .int .i64 0]) ?_ 7 _ rfl; refine blk_put (cs := #[.int .i64 t255, .int .i64 t256, .int .i64 t257, .int .i64 t258, .int .i64 t259, .int .i64 t260, .int .i64 0, .int .i64 0, .int .i64 0]) ?_ 6 _ rfl; refine blk_put (cs := #[.int .i64 t255, .int .i64 t256, .int .i64 t257, .int .i64 t258, .int .i64 t259, .int .i64 0, .int .i64 0, .int .i64 0, .int .i64 0]) ?_ 5 _ rfl; refine blk_put (cs := #[.int .i64 t255, .int .i64 t256, .int .i64 t257, .int .i64 t258, .int .i64 0, .int .i64 0, .int .i64 0, .int .i64 0, .int .i64 0]) ?_ 4 _ rfl; refine blk_put (cs := #[.int .i64 t255, .int .i64 t256, .int .i64 t257, .int .i64 0, .int .i64 0, .int .i64 0, .int .i64 0, .int .i64 0, .int .i64 0]) ?_ 3 _ rfl; refine blk_put (cs := #[.int .i64 t255, .int .i64 t256, .int .i64 0, .int .i64 0, .int .i64 0, .int .i64 0, .int .i64 0, .int .i64 0, .int .i64 0]) ?_ 2 _ rfl; refine blk_put (cs := #[.int .i64 t255, .int .i64 0, .int .i64 0, .int .i64 0, .int .i64 0, .int .i64 0, .int .i64 0, .int .i64 0, .int .i64 0]) ?_ 1 _ rfl; refine blk_put (cs := #[.int .i64 0, .int .i64 0, .int .i64 0, .int .i64 0, .int .i64 0, .int .i64 0, .int .i64 0, .int .i64 0, .int .i64 0]) ?_ 0 _ rfl; exact BK265.out⟩
         have n4_ : Aside0 (Below w.heap.size w (((((((((w37.setCell ⟨gb265, 0, none⟩ (.int .i64 t255)).setCell ⟨gb265, 1, none⟩ (.int .i64 t256)).setCell ⟨gb265, 2, none⟩ (.int .i64 t257)).setCell ⟨gb265, 3, none⟩ (.int .i64 t258)).setCell ⟨gb265, 4, none⟩ (.int .i64 t259)).setCell ⟨gb265, 5, none⟩ (.int .i64 t260)).setCell ⟨gb265, 6, none⟩ (.int .i64 t261)).setCell ⟨gb265, 7, none⟩ (.int .i64 t262)).setCell ⟨gb265, 8, none⟩ (.int .i64 t263))) := ⟨by repeat (first | (with_reducible first | exact HB.out | apply below_alloc | apply pw_below_drewN | apply below_drew1 | refine below_set ?_ GE229.out | refine below_set ?_ GE243.out | refine below_set ?_ GE254.out | refine below_set ?_ GE265.out) | exact HB.out)⟩
         (try clear BK229)
         (try clear BK243)
         (try clear BK254)
         (try clear BK265)
         (try clear HB)
         generalize (((((((((w37.setCell ⟨gb265, 0, none⟩ (.int .i64 t255)).setCell ⟨gb265, 1, none⟩ (.int .i64 t256)).setCell ⟨gb265, 2, none⟩ (.int .i64 t257)).setCell ⟨gb265, 3, none⟩ (.int .i64 t258)).setCell ⟨gb265, 4, none⟩ (.int .i64 t259)).setCell ⟨gb265, 5, none⟩ (.int .i64 t260)).setCell ⟨gb265, 6, none⟩ (.int .i64 t261)).setCell ⟨gb265, 7, none⟩ (.int .i64 t262)).setCell ⟨gb265, 8, none⟩ (.int .i64 t263)) = w42 at n0_ n1_ n2_ n3_ n4_ ⊢
         have BK229 := n0_
         have BK243 := n1_
         have BK254 := n2_
         have BK265 := n3_
         have HB := n4_
         clear n0_ n1_ n2_ n3_ n4_
         have n0_ := Aside0.mk (blk_drew BK229.out)
         have n1_ := Aside0.mk (blk_drew BK243.out)
         have n2_ := Aside0.mk (blk_drew BK254.out)
         have n3_ := Aside0.mk (blk_drew BK265.out)
         have n4_ := Aside0.mk (below_drew1 HB.out)
         clear BK229
         clear BK243
         clear BK254
         clear BK265
         clear HB
         have BK229 := n0_
         have BK243 := n1_
         have BK254 := n2_
         have BK265 := n3_
         have HB := n4_
         clear n0_ n1_ n2_ n3_ n4_
         refine start_ (n := 40) (S := fun w' => w'.cell? ⟨gb229, 0, none⟩ = some (.int .i64 a0_0) ∧ w'.cell? ⟨gb229, 1, none⟩ = some (.int .i64 a0_1) ∧ w'.cell? ⟨gb229, 2, none⟩ = some (.int .i64 a0_2) ∧ w'.cell? ⟨gb229, 3, none⟩ = some (.int .i64 a0_3) ∧ w'.cell? ⟨gb229, 4, none⟩ = some (.int .i64 a0_4) ∧ w'.cell? ⟨gb229, 5, none⟩ = some (.int .i64 a0_5) ∧ w'.cell? ⟨gb229, 6, none⟩ = some (.int .i64 a0_6) ∧ w'.cell? ⟨gb229, 7, none⟩ = some (.int .i64 a0_7) ∧ w'.cell? ⟨gb229, 8, none⟩ = some (.int .i64 a0_8) ∧ w'.cell? ⟨gb254, 0, none⟩ = some (.int .i64 t244) ∧ w'.cell? ⟨gb254, 1, none⟩ = some (.int .i64 t245) ∧ w'.cell? ⟨gb254, 2, none⟩ = some (.int .i64 t246) ∧ w'.cell? ⟨gb254, 3, none⟩ = some (.int .i64 t247) ∧ w'.cell? ⟨gb254, 4, none⟩ = some (.int .i64 t248) ∧ w'.cell? ⟨gb254, 5, none⟩ = some (.int .i64 t249) ∧ w'.cell? ⟨gb254, 6, none⟩ = some (.int .i64 t250) ∧ w'.cell? ⟨gb254, 7, none⟩ = some (.int .i64 t251) ∧ w'.cell? ⟨gb254, 8, none⟩ = some (.int .i64 t252) ∧ w'.cell? ⟨gb265, 0, none⟩ = some (.int .i64 t255) ∧ w'.cell? ⟨gb265, 1, none⟩ = some (.int .i64 t256) ∧ w'.cell? ⟨gb265, 2, none⟩ = some (.int .i64 t257) ∧ w'.cell? ⟨gb265, 3, none⟩ = some (.int .i64 t258) ∧ w'.cell? ⟨gb265, 4, none⟩ = some (.int .i64 t259) ∧ w'.cell? ⟨gb265, 5, none⟩ = some (.int .i64 t260) ∧ w'.cell? ⟨gb265, 6, none⟩ = some (.int .i64 t261) ∧ w'.cell? ⟨gb265, 7, none⟩ = some (.int .i64 t262) ∧ w'.cell? ⟨gb265, 8, none⟩ = some (.int .i64 t263)) (ds := []) #[false, false, false, false, false, false, false, false, false, false, false, false, false, false, false, false, false, false, false, false, false, false, false, false, false, false, false, false, false, false, false, false, false, false, false, false, false, false, false, false] (by kernel_rfl) rfl rfl ⟨(blk_cell BK229.out 0).trans rfl, (blk_cell BK229.out 1).trans rfl, (blk_cell BK229.out 2).trans rfl, (blk_cell BK229.out 3).trans rfl, (blk_cell BK229.out 4).trans rfl, (blk_cell BK229.out 5).trans rfl, (blk_cell BK229.out 6).trans rfl, (blk_cell BK229.out 7).trans rfl, (blk_cell BK229.out 8).trans rfl, (blk_cell BK254.out 0).trans rfl, (blk_cell BK254.out 1).trans rfl, (blk_cell BK254.out 2).trans rfl, (blk_cell BK254.out 3).trans rfl, (blk_cell BK254.out 4).trans rfl, (blk_cell BK254.out 5).trans rfl, (blk_cell BK254.out 6).trans rfl, (blk_cell BK254.out 7).trans rfl, (blk_cell BK254.out 8).trans rfl, (blk_cell BK265.out 0).trans rfl, (blk_cell BK265.out 1).trans rfl, (blk_cell BK265.out 2).trans rfl, (blk_cell BK265.out 3).trans rfl, (blk_cell BK265.out 4).trans rfl, (blk_cell BK265.out 5).trans rfl, (blk_cell BK265.out 6).trans rfl, (blk_cell BK265.out 7).trans rfl, (blk_cell BK265.out 8).trans rfl⟩ (fun hHeld => ?_); refine with_tabW apogeelaw07_PeerReports.tab7 apogeelaw07_PeerReports.bits7 (fun HT_ HW_ => ?_)
         generalize w42.drew = w43 at BK229 BK243 BK254 BK265 HB hHeld ⊢
         refine pure_ (i := 0) (N := some 37) (v := ?_) (a' := ?_) #[true, false, false, false, false, false, false, false, false, false, false, false, false, false, false, false, false, false, false, false, false, false, false, false, false, false, false, false, false, false, false, false, false, false, false, false, false, false, false, false] rfl rfl (any_of HT_.out (by kernel_rfl)) (fun _ _ _ h => h) (Or.inl ⟨by rfl, ?_⟩) ?_ ?_
         rotate_left
         ·intro w'
          go_simp
          with_reducible rfl
         rotate_left
         ·simp only [Act.put, sA, sB, sC, i64_w, i32_w]
          rfl
         refine take_ (i := 1) (N := some 38) (v := ?_) (a' := ?_) #[true, true, false, false, false, false, false, false, false, false, false, false, false, false, false, false, false, false, false, false, false, false, false, false, false, false, false, false, false, false, false, false, false, false, false, false, false, false, false, false] rfl rfl (take_ofW HT_.out HW_.out (by kernel_rfl)) (fun _ _ _ h => h) (Or.inl ⟨by rfl, ?_⟩) hHeld ?_ ?_
         rotate_left
         ·rintro w' ⟨s0, s1, s2, s3, s4, s5, s6, s7, s8, s9, s10, s11, s12, s13, s14, s15, s16, s17, s18, s19, s20, s21, s22, s23, s24, s25, s26⟩
          go_simp
          with_reducible rfl
         rotate_left
         ·simp only [Act.put, sA, sB, sC, i64_w, i32_w]
          rfl
         refine one_ (i := 2) (N := some 39) #[true, true, true, false, false, false, false, false, false, false, false, false, false, false, false, false, false, false, false, false, false, false, false, false, false, false, false, false, false, false, false, false, false, false, false, false, false, false, false, false] rfl rfl (one_of HT_.out (by kernel_rfl)) (by decide) (fun K hK => ?_)
         refine goes_ Try.func18 (by kernel_rfl) rfl #[.agg #[.int .i64 a0_0, .int .i64 a0_1, .int .i64 a0_2, .int .i64 a0_3, .int .i64 a0_4, .int .i64 a0_5, .int .i64 a0_6, .int .i64 a0_7, .int .i64 a0_8]] (by rfl) rfl rfl (by (try simp only [sD, List.map_cons, List.map_nil]); first | done | rfl) ?_
         with_reducible refine (apogeelaw07_likeReport.calls a0_0 a0_1 a0_2 a0_3 a0_4 a0_5 a0_6 a0_7 a0_8 t266 t267 t268 t269 t270 t271 t272 t273 t274 _ A16.out).mono ?_
         rintro e w44 ⟨rfl, hb⟩
         refine ⟨_, rfl, ?_⟩
         have n0_ := Aside0.mk (blk_below (g := gb229) BK229.out hb)
         have n1_ := Aside0.mk (blk_below (g := gb243) BK243.out hb)
         have n2_ := Aside0.mk (blk_below (g := gb254) BK254.out hb)
         have n3_ := Aside0.mk (blk_below (g := gb265) BK265.out hb)
         have n4_ := Aside0.mk (below_step (by repeat (first | (with_reducible first | exact HB.out | apply below_alloc | apply pw_below_drewN | apply below_drew1 | refine below_set ?_ GE229.out | refine below_set ?_ GE243.out | refine below_set ?_ GE254.out | refine below_set ?_ GE265.out) | exact HB.out)) hb)
         clear BK229
         clear BK243
         clear BK254
         clear BK265
         clear HB
         have BK229 := n0_
         have BK243 := n1_
         have BK254 := n2_
         have BK265 := n3_
         have HB := n4_
         clear n0_ n1_ n2_ n3_ n4_
         (try clear hb)
         (try clear hb2)
         (try clear hk)
         (try clear hi)
         refine hK.out _ _ ⟨(blk_cell BK229.out 0).trans rfl, (blk_cell BK229.out 1).trans rfl, (blk_cell BK229.out 2).trans rfl, (blk_cell BK229.out 3).trans rfl, (blk_cell BK229.out 4).trans rfl, (blk_cell BK229.out 5).trans rfl, (blk_cell BK229.out 6).trans rfl, (blk_cell BK229.out 7).trans rfl, (blk_cell BK229.out 8).trans rfl, (blk_cell BK254.out 0).trans rfl, (blk_cell BK254.out 1).trans rfl, (blk_cell BK254.out 2).trans rfl, (blk_cell BK254.out 3).trans rfl, (blk_cell BK254.out 4).trans rfl, (blk_cell BK254.out 5).trans rfl, (blk_cell BK254.out 6).trans rfl, (blk_cell BK254.out 7).trans rfl, (blk_cell BK254.out 8).trans rfl, (blk_cell BK265.out 0).trans rfl, (blk_cell BK265.out 1).trans rfl, (blk_cell BK265.out 2).trans rfl, (blk_cell BK265.out 3).trans rfl, (blk_cell BK265.out 4).trans rfl, (blk_cell BK265.out 5).trans rfl, (blk_cell BK265.out 6).trans rfl, (blk_cell BK265.out 7).trans rfl, (blk_cell BK265.out 8).trans rfl⟩ (fun hHeld => ?_)
         clear hK K
         refine norm_ (a' := ?_) ?_ ?_
         rotate_left
         ·show Act.put _ (some 39) _ = _
          simp only [Act.put, sA, sB, sC, i64_w, i32_w]
          rfl
         refine one_ (i := 3) (N := some 40) #[true, true, true, true, false, false, false, false, false, false, false, false, false, false, false, false, false, false, false, false, false, false, false, false, false, false, false, false, false, false, false, false, false, false, false, false, false, false, false, false] rfl rfl (one_of HT_.out (by kernel_rfl)) (by decide) (fun K hK => ?_)
         refine goes_ Try.func17 (by kernel_rfl) rfl #[.agg #[.int .i64 t266, .int .i64 t267, .int .i64 t268, .int .i64 t269, .int .i64 t270, .int .i64 t271, .int .i64 t272, .int .i64 t273, .int .i64 t274]] (by rfl) rfl rfl (by (try simp only [sD, List.map_cons, List.map_nil]); first | done | rfl) ?_
         with_reducible refine (apogeeref07_PrintReport.calls kj2 t266 t267 t268 t269 t270 t271 t272 t273 t274 t275 _ A17.out).mono ?_
         rintro e w45 ⟨rfl, hb⟩
         refine ⟨_, rfl, ?_⟩
         have n0_ := Aside0.mk (blk_below (g := gb229) BK229.out hb)
         have n1_ := Aside0.mk (blk_below (g := gb243) BK243.out hb)
         have n2_ := Aside0.mk (blk_below (g := gb254) BK254.out hb)
         have n3_ := Aside0.mk (blk_below (g := gb265) BK265.out hb)
         have n4_ := Aside0.mk (below_step (by repeat (first | (with_reducible first | exact HB.out | apply below_alloc | apply pw_below_drewN | apply below_drew1 | refine below_set ?_ GE229.out | refine below_set ?_ GE243.out | refine below_set ?_ GE254.out | refine below_set ?_ GE265.out) | exact HB.out)) hb)
         clear BK229
         clear BK243
         clear BK254
         clear BK265
         clear HB
         have BK229 := n0_
         have BK243 := n1_
         have BK254 := n2_
         have BK265 := n3_
         have HB := n4_
         clear n0_ n1_ n2_ n3_ n4_
         (try clear hb)
         (try clear hb2)
         (try clear hk)
         (try clear hi)
         refine hK.out _ _ ⟨(blk_cell BK229.out 0).trans rfl, (blk_cell BK229.out 1).trans rfl, (blk_cell BK229.out 2).trans rfl, (blk_cell BK229.out 3).trans rfl, (blk_cell BK229.out 4).trans rfl, (blk_cell BK229.out 5).trans rfl, (blk_cell BK229.out 6).trans rfl, (blk_cell BK229.out 7).trans rfl, (blk_cell BK229.out 8).trans rfl, (blk_cell BK254.out 0).trans rfl, (blk_cell BK254.out 1).trans rfl, (blk_cell BK254.out 2).trans rfl, (blk_cell BK254.out 3).trans rfl, (blk_cell BK254.out 4).trans rfl, (blk_cell BK254.out 5).trans rfl, (blk_cell BK254.out 6).trans rfl, (blk_cell BK254.out 7).trans rfl, (blk_cell BK254.out 8).trans rfl, (blk_cell BK265.out 0).trans rfl, (blk_cell BK265.out 1).trans rfl, (blk_cell BK265.out 2).trans rfl, (blk_cell BK265.out 3).trans rfl, (blk_cell BK265.out 4).trans rfl, (blk_cell BK265.out 5).trans rfl, (blk_cell BK265.out 6).trans rfl, (blk_cell BK265.out 7).trans rfl, (blk_cell BK265.out 8).trans rfl⟩ (fun hHeld => ?_)
         clear hK K
         refine norm_ (a' := ?_) ?_ ?_
         rotate_left
         ·show Act.put _ (some 40) _ = _
          simp only [Act.put, sA, sB, sC, i64_w, i32_w]
          rfl
         refine pure_ (i := 4) (N := some 41) (v := ?_) (a' := ?_) #[true, true, true, true, true, false, false, false, false, false, false, false, false, false, false, false, false, false, false, false, false, false, false, false, false, false, false, false, false, false, false, false, false, false, false, false, false, false, false, false] rfl rfl (any_of HT_.out (by kernel_rfl)) (fun _ _ _ h => h) (Or.inl ⟨by rfl, ?_⟩) ?_ ?_
         rotate_left
         ·intro w'
          go_simp
          with_reducible rfl
         rotate_left
         ·simp only [Act.put, sA, sB, sC, i64_w, i32_w]
          rfl
         refine pure_ (i := 5) (N := some 42) (v := ?_) (a' := ?_) #[true, true, true, true, true, true, false, false, false, false, false, false, false, false, false, false, false, false, false, false, false, false, false, false, false, false, false, false, false, false, false, false, false, false, false, false, false, false, false, false] rfl rfl (any_of HT_.out (by kernel_rfl)) (fun _ _ _ h => h) (Or.inl ⟨by rfl, ?_⟩) ?_ ?_
         rotate_left
         ·intro w'
          go_simp
          with_reducible rfl
         rotate_left
         ·simp only [Act.put, sA, sB, sC, i64_w, i32_w]
          rfl
         refine pure_ (i := 6) (N := some 43) (v := ?_) (a' := ?_) #[true, true, true, true, true, true, true, false, false, false, false, false, false, false, false, false, false, false, false, false, false, false, false, false, false, false, false, false, false, false, false, false, false, false, false, false, false, false, false, false] rfl rfl (any_of HT_.out (by kernel_rfl)) (fun _ _ _ h => h) (Or.inl ⟨by rfl, ?_⟩) ?_ ?_
         rotate_left
         ·intro w'
          go_simp
          with_reducible rfl
         rotate_left
         ·simp only [Act.put, sA, sB, sC, i64_w, i32_w]
          rfl
         refine pure_ (i := 7) (N := some 44) (v := ?_) (a' := ?_) #[true, true, true, true, true, true, true, true, false, false, false, false, false, false, false, false, false, false, false, false, false, false, false, false, false, false, false, false, false, false, false, false, false, false, false, false, false, false, false, false] rfl rfl (any_of HT_.out (by kernel_rfl)) (fun _ _ _ h => h) (Or.inl ⟨by rfl, ?_⟩) ?_ ?_
         rotate_left
         ·intro w'
          go_simp
          with_reducible rfl
         rotate_left
         ·simp only [Act.put, sA, sB, sC, i64_w, i32_w]
          rfl
         refine pure_ (i := 8) (N := some 45) (v := ?_) (a' := ?_) #[true, true, true, true, true, true, true, true, true, false, false, false, false, false, false, false, false, false, false, false, false, false, false, false, false, false, false, false, false, false, false, false, false, false, false, false, false, false, false, false] rfl rfl (any_of HT_.out (by kernel_rfl)) (fun _ _ _ h => h) (Or.inl ⟨by rfl, ?_⟩) ?_ ?_
         rotate_left
         ·intro w'
          go_simp
          with_reducible rfl
         rotate_left
         ·simp only [Act.put, sA, sB, sC, i64_w, i32_w]
          rfl
         refine pure_ (i := 9) (N := some 46) (v := undef) (a' := ?_) #[true, true, true, true, true, true, true, true, true, true, false, false, false, false, false, false, false, false, false, false, false, false, false, false, false, false, false, false, false, false, false, false, false, false, false, false, false, false, false, false] rfl rfl (any_of HT_.out (by kernel_rfl)) (fun _ _ _ h => h) (Or.inr ⟨by rfl, rfl⟩) ?_ ?_
         rotate_left
         ·simp only [Act.put, sA, sB, sC, i64_w, i32_w]
          rfl
         refine pure_ (i := 10) (N := some 47) (v := undef) (a' := ?_) #[true, true, true, true, true, true, true, true, true, true, true, false, false, false, false, false, false, false, false, false, false, false, false, false, false, false, false, false, false, false, false, false, false, false, false, false, false, false, false, false] rfl rfl (any_of HT_.out (by kernel_rfl)) (fun _ _ _ h => h) (Or.inr ⟨by rfl, rfl⟩) ?_ ?_
         rotate_left
         ·simp only [Act.put, sA, sB, sC, i64_w, i32_w]
          rfl
         refine pure_ (i := 11) (N := some 48) (v := undef) (a' := ?_) #[true, true, true, true, true, true, true, true, true, true, true, true, false, false, false, false, false, false, false, false, false, false, false, false, false, false, false, false, false, false, false, false, false, false, false, false, false, false, false, false] rfl rfl (any_of HT_.out (by kernel_rfl)) (fun _ _ _ h => h) (Or.inr ⟨by rfl, rfl⟩) ?_ ?_
         rotate_left
         ·simp only [Act.put, sA, sB, sC, i64_w, i32_w]
          rfl
         refine pure_ (i := 12) (N := some 49) (v := undef) (a' := ?_) #[true, true, true, true, true, true, true, true, true, true, true, true, true, false, false, false, false, false, false, false, false, false, false, false, false, false, false, false, false, false, false, false, false, false, false, false, false, false, false, false] rfl rfl (any_of HT_.out (by kernel_rfl)) (fun _ _ _ h => h) (Or.inr ⟨by rfl, rfl⟩) ?_ ?_
         rotate_left
         ·simp only [Act.put, sA, sB, sC, i64_w, i32_w]
          rfl
         refine pure_ (i := 13) (N := some 50) (v := undef) (a' := ?_) #[true, true, true, true, true, true, true, true, true, true, true, true, true, true, false, false, false, false, false, false, false, false, false, false, false, false, false, false, false, false, false, false, false, false, false, false, false, false, false, false] rfl rfl (any_of HT_.out (by kernel_rfl)) (fun _ _ _ h => h) (Or.inr ⟨by rfl, rfl⟩) ?_ ?_
         rotate_left
         ·simp only [Act.put, sA, sB, sC, i64_w, i32_w]
          rfl
         refine pure_ (i := 14) (N := some 51) (v := undef) (a' := ?_) #[true, true, true, true, true, true, true, true, true, true, true, true, true, true, true, false, false, false, false, false, false, false, false, false, false, false, false, false, false, false, false, false, false, false, false, false, false, false, false, false] rfl rfl (any_of HT_.out (by kernel_rfl)) (fun _ _ _ h => h) (Or.inr ⟨by rfl, rfl⟩) ?_ ?_
         rotate_left
         ·simp only [Act.put, sA, sB, sC, i64_w, i32_w]
          rfl
         refine pure_ (i := 15) (N := some 52) (v := undef) (a' := ?_) #[true, true, true, true, true, true, true, true, true, true, true, true, true, true, true, true, false, false, false, false, false, false, false, false, false, false, false, false, false, false, false, false, false, false, false, false, false, false, false, false] rfl rfl (any_of HT_.out (by kernel_rfl)) (fun _ _ _ h => h) (Or.inr ⟨by rfl, rfl⟩) ?_ ?_
         rotate_left
         ·simp only [Act.put, sA, sB, sC, i64_w, i32_w]
          rfl
         refine pure_ (i := 16) (N := some 53) (v := ?_) (a' := ?_) #[true, true, true, true, true, true, true, true, true, true, true, true, true, true, true, true, true, false, false, false, false, false, false, false, false, false, false, false, false, false, false, false, false, false, false, false, false, false, false, false] rfl rfl (any_of HT_.out (by kernel_rfl)) (fun _ _ _ h => h) (Or.inl ⟨by rfl, ?_⟩) ?_ ?_
         rotate_left
         ·intro w'
          go_simp
          with_reducible rfl
         rotate_left
         ·simp only [Act.put, sA, sB, sC, i64_w, i32_w]
          rfl
         refine pure_ (i := 17) (N := some 54) (v := ?_) (a' := ?_) #[true, true, true, true, true, true, true, true, true, true, true, true, true, true, true, true, true, true, false, false, false, false, false, false, false, false, false, false, false, false, false, false, false, false, false, false, false, false, false, false] rfl rfl (any_of HT_.out (by kernel_rfl)) (fun _ _ _ h => h) (Or.inl ⟨by rfl, ?_⟩) ?_ ?_
         rotate_left
         ·intro w'
          go_simp
          with_reducible rfl
         rotate_left
         ·simp only [Act.put, sA, sB, sC, i64_w, i32_w]
          rfl
         refine pure_ (i := 18) (N := some 55) (v := ?_) (a' := ?_) #[true, true, true, true, true, true, true, true, true, true, true, true, true, true, true, true, true, true, true, false, false, false, false, false, false, false, false, false, false, false, false, false, false, false, false, false, false, false, false, false] rfl rfl (any_of HT_.out (by kernel_rfl)) (fun _ _ _ h => h) (Or.inl ⟨by rfl, ?_⟩) ?_ ?_
         rotate_left
         ·intro w'
          go_simp
          with_reducible rfl
         rotate_left
         ·simp only [Act.put, sA, sB, sC, i64_w, i32_w]
          rfl
         refine take_ (i := 19) (N := some 56) (v := ?_) (a' := ?_) #[true, true, true, true, true, true, true, true, true, true, true, true, true, true, true, true, true, true, true, true, false, false, false, false, false, false, false, false, false, false, false, false, false, false, false, false, false, false, false, false] rfl rfl (take_ofW HT_.out HW_.out (by kernel_rfl)) (fun _ _ _ h => h) (Or.inl ⟨by rfl, ?_⟩) hHeld ?_ ?_
         rotate_left
         ·rintro w' ⟨s0, s1, s2, s3, s4, s5, s6, s7, s8, s9, s10, s11, s12, s13, s14, s15, s16, s17, s18, s19, s20, s21, s22, s23, s24, s25, s26⟩
          go_simp
          with_reducible rfl
         rotate_left
         ·simp only [Act.put, sA, sB, sC, i64_w, i32_w]
          rfl
         refine take_ (i := 21) (N := some 58) (v := ?_) (a' := ?_) #[true, true, true, true, true, true, true, true, true, true, true, true, true, true, true, true, true, true, true, true, false, true, false, false, false, false, false, false, false, false, false, false, false, false, false, false, false, false, false, false] rfl rfl (take_ofW HT_.out HW_.out (by kernel_rfl)) (fun _ _ _ h => h) (Or.inl ⟨by rfl, ?_⟩) hHeld ?_ ?_
         rotate_left
         ·rintro w' ⟨s0, s1, s2, s3, s4, s5, s6, s7, s8, s9, s10, s11, s12, s13, s14, s15, s16, s17, s18, s19, s20, s21, s22, s23, s24, s25, s26⟩
          go_simp
          with_reducible rfl
         rotate_left
         ·simp only [Act.put, sA, sB, sC, i64_w, i32_w]
          rfl
         refine one_ (i := 20) (N := some 57) #[true, true, true, true, true, true, true, true, true, true, true, true, true, true, true, true, true, true, true, true, true, true, false, false, false, false, false, false, false, false, false, false, false, false, false, false, false, false, false, false] rfl rfl (one_of HT_.out (by kernel_rfl)) (by decide) (fun K hK => ?_)
         refine goes_ Try.func18 (by kernel_rfl) rfl #[.agg #[.int .i64 t244, .int .i64 t245, .int .i64 t246, .int .i64 t247, .int .i64 t248, .int .i64 t249, .int .i64 t250, .int .i64 t251, .int .i64 t252]] (by rfl) rfl rfl (by (try simp only [sD, List.map_cons, List.map_nil]); first | done | rfl) ?_
         with_reducible refine (apogeelaw07_likeReport.calls t244 t245 t246 t247 t248 t249 t250 t251 t252 t276 t277 t278 t279 t280 t281 t282 t283 t284 _ A20.out).mono ?_
         rintro e w46 ⟨rfl, hb⟩
         refine ⟨_, rfl, ?_⟩
         have n0_ := Aside0.mk (blk_below (g := gb229) BK229.out hb)
         have n1_ := Aside0.mk (blk_below (g := gb243) BK243.out hb)
         have n2_ := Aside0.mk (blk_below (g := gb254) BK254.out hb)
         have n3_ := Aside0.mk (blk_below (g := gb265) BK265.out hb)
         have n4_ := Aside0.mk (below_step (by repeat (first | (with_reducible first | exact HB.out | apply below_alloc | apply pw_below_drewN | apply below_drew1 | refine below_set ?_ GE229.out | refine below_set ?_ GE243.out | refine below_set ?_ GE254.out | refine below_set ?_ GE265.out) | exact HB.out)) hb)
         clear BK229
         clear BK243
         clear BK254
         clear BK265
         clear HB
         have BK229 := n0_
         have BK243 := n1_
         have BK254 := n2_
         have BK265 := n3_
         have HB := n4_
         clear n0_ n1_ n2_ n3_ n4_
         (try clear hb)
         (try clear hb2)
         (try clear hk)
         (try clear hi)
         refine hK.out _ _ ⟨(blk_cell BK229.out 0).trans rfl, (blk_cell BK229.out 1).trans rfl, (blk_cell BK229.out 2).trans rfl, (blk_cell BK229.out 3).trans rfl, (blk_cell BK229.out 4).trans rfl, (blk_cell BK229.out 5).trans rfl, (blk_cell BK229.out 6).trans rfl, (blk_cell BK229.out 7).trans rfl, (blk_cell BK229.out 8).trans rfl, (blk_cell BK254.out 0).trans rfl, (blk_cell BK254.out 1).trans rfl, (blk_cell BK254.out 2).trans rfl, (blk_cell BK254.out 3).trans rfl, (blk_cell BK254.out 4).trans rfl, (blk_cell BK254.out 5).trans rfl, (blk_cell BK254.out 6).trans rfl, (blk_cell BK254.out 7).trans rfl, (blk_cell BK254.out 8).trans rfl, (blk_cell BK265.out 0).trans rfl, (blk_cell BK265.out 1).trans rfl, (blk_cell BK265.out 2).trans rfl, (blk_cell BK265.out 3).trans rfl, (blk_cell BK265.out 4).trans rfl, (blk_cell BK265.out 5).trans rfl, (blk_cell BK265.out 6).trans rfl, (blk_cell BK265.out 7).trans rfl, (blk_cell BK265.out 8).trans rfl⟩ (fun hHeld => ?_)
         clear hK K
         refine norm_ (a' := ?_) ?_ ?_
         rotate_left
         ·show Act.put _ (some 57) _ = _
          simp only [Act.put, sA, sB, sC, i64_w, i32_w]
          rfl
         refine pure_ (i := 22) (N := some 59) (v := ?_) (a' := ?_) #[true, true, true, true, true, true, true, true, true, true, true, true, true, true, true, true, true, true, true, true, true, true, true, false, false, false, false, false, false, false, false, false, false, false, false, false, false, false, false, false] rfl rfl (any_of HT_.out (by kernel_rfl)) (fun _ _ _ h => h) (Or.inl ⟨by rfl, ?_⟩) ?_ ?_
         rotate_left
         ·intro w'
          go_simp
          with_reducible rfl
         rotate_left
         ·simp only [Act.put, sA, sB, sC, i64_w, i32_w]
          rfl
         refine pure_ (i := 23) (N := some 60) (v := ?_) (a' := ?_) #[true, true, true, true, true, true, true, true, true, true, true, true, true, true, true, true, true, true, true, true, true, true, true, true, false, false, false, false, false, false, false, false, false, false, false, false, false, false, false, false] rfl rfl (any_of HT_.out (by kernel_rfl)) (fun _ _ _ h => h) (Or.inl ⟨by rfl, ?_⟩) ?_ ?_
         rotate_left
         ·intro w'
          go_simp
          with_reducible rfl
         rotate_left
         ·simp only [Act.put, sA, sB, sC, i64_w, i32_w]
          rfl
         refine pure_ (i := 24) (N := some 61) (v := ?_) (a' := ?_) #[true, true, true, true, true, true, true, true, true, true, true, true, true, true, true, true, true, true, true, true, true, true, true, true, true, false, false, false, false, false, false, false, false, false, false, false, false, false, false, false] rfl rfl (any_of HT_.out (by kernel_rfl)) (fun _ _ _ h => h) (Or.inl ⟨by rfl, ?_⟩) ?_ ?_
         rotate_left
         ·intro w'
          go_simp
          with_reducible rfl
         rotate_left
         ·simp only [Act.put, sA, sB, sC, i64_w, i32_w]
          rfl
         refine pure_ (i := 25) (N := some 62) (v := ?_) (a' := ?_) #[true, true, true, true, true, true, true, true, true, true, true, true, true, true, true, true, true, true, true, true, true, true, true, true, true, true, false, false, false, false, false, false, false, false, false, false, false, false, false, false] rfl rfl (any_of HT_.out (by kernel_rfl)) (fun _ _ _ h => h) (Or.inl ⟨by rfl, ?_⟩) ?_ ?_
         rotate_left
         ·intro w'
          go_simp
          with_reducible rfl
         rotate_left
         ·simp only [Act.put, sA, sB, sC, i64_w, i32_w]
          rfl
         refine pure_ (i := 26) (N := some 63) (v := ?_) (a' := ?_) #[true, true, true, true, true, true, true, true, true, true, true, true, true, true, true, true, true, true, true, true, true, true, true, true, true, true, true, false, false, false, false, false, false, false, false, false, false, false, false, false] rfl rfl (any_of HT_.out (by kernel_rfl)) (fun _ _ _ h => h) (Or.inl ⟨by rfl, ?_⟩) ?_ ?_
         rotate_left
         ·intro w'
          go_simp
          with_reducible rfl
         rotate_left
         ·simp only [Act.put, sA, sB, sC, i64_w, i32_w]
          rfl
         refine pure_ (i := 27) (N := some 64) (v := ?_) (a' := ?_) #[true, true, true, true, true, true, true, true, true, true, true, true, true, true, true, true, true, true, true, true, true, true, true, true, true, true, true, true, false, false, false, false, false, false, false, false, false, false, false, false] rfl rfl (any_of HT_.out (by kernel_rfl)) (fun _ _ _ h => h) (Or.inl ⟨by rfl, ?_⟩) ?_ ?_
         rotate_left
         ·intro w'
          go_simp
          with_reducible rfl
         rotate_left
         ·simp only [Act.put, sA, sB, sC, i64_w, i32_w]
          rfl
         refine pure_ (i := 28) (N := some 65) (v := ?_) (a' := ?_) #[true, true, true, true, true, true, true, true, true, true, true, true, true, true, true, true, true, true, true, true, true, true, true, true, true, true, true, true, true, false, false, false, false, false, false, false, false, false, false, false] rfl rfl (any_of HT_.out (by kernel_rfl)) (fun _ _ _ h => h) (Or.inl ⟨by rfl, ?_⟩) ?_ ?_
         rotate_left
         ·intro w'
          go_simp
          with_reducible rfl
         rotate_left
         ·simp only [Act.put, sA, sB, sC, i64_w, i32_w]
          rfl
         refine pure_ (i := 29) (N := some 66) (v := ?_) (a' := ?_) #[true, true, true, true, true, true, true, true, true, true, true, true, true, true, true, true, true, true, true, true, true, true, true, true, true, true, true, true, true, true, false, false, false, false, false, false, false, false, false, false] rfl rfl (any_of HT_.out (by kernel_rfl)) (fun _ _ _ h => h) (Or.inl ⟨by rfl, ?_⟩) ?_ ?_
         rotate_left
         ·intro w'
          go_simp
          with_reducible rfl
         rotate_left
         ·simp only [Act.put, sA, sB, sC, i64_w, i32_w]
          rfl
         refine pure_ (i := 30) (N := some 67) (v := ?_) (a' := ?_) #[true, true, true, true, true, true, true, true, true, true, true, true, true, true, true, true, true, true, true, true, true, true, true, true, true, true, true, true, true, true, true, false, false, false, false, false, false, false, false, false] rfl rfl (any_of HT_.out (by kernel_rfl)) (fun _ _ _ h => h) (Or.inl ⟨by rfl, ?_⟩) ?_ ?_
         rotate_left
         ·intro w'
          go_simp
          with_reducible rfl
         rotate_left
         ·simp only [Act.put, sA, sB, sC, i64_w, i32_w]
          rfl
         refine pure_ (i := 31) (N := some 68) (v := ?_) (a' := ?_) #[true, true, true, true, true, true, true, true, true, true, true, true, true, true, true, true, true, true, true, true, true, true, true, true, true, true, true, true, true, true, true, true, false, false, false, false, false, false, false, false] rfl rfl (any_of HT_.out (by kernel_rfl)) (fun _ _ _ h => h) (Or.inl ⟨by rfl, ?_⟩) ?_ ?_
         rotate_left
         ·intro w'
          go_simp
          with_reducible rfl
         rotate_left
         ·simp only [Act.put, sA, sB, sC, i64_w, i32_w]
          rfl
         refine pure_ (i := 32) (N := some 69) (v := ?_) (a' := ?_) #[true, true, true, true, true, true, true, true, true, true, true, true, true, true, true, true, true, true, true, true, true, true, true, true, true, true, true, true, true, true, true, true, true, false, false, false, false, false, false, false] rfl rfl (any_of HT_.out (by kernel_rfl)) (fun _ _ _ h => h) (Or.inl ⟨by rfl, ?_⟩) ?_ ?_
         rotate_left
         ·intro w'
          go_simp
          with_reducible rfl
         rotate_left
         ·simp only [Act.put, sA, sB, sC, i64_w, i32_w]
          rfl
         refine pure_ (i := 35) (N := some 72) (v := ?_) (a' := ?_) #[true, true, true, true, true, true, true, true, true, true, true, true, true, true, true, true, true, true, true, true, true, true, true, true, true, true, true, true, true, true, true, true, true, false, false, true, false, false, false, false] rfl rfl (any_of HT_.out (by kernel_rfl)) (fun _ _ _ h => h) (Or.inl ⟨by rfl, ?_⟩) ?_ ?_
         rotate_left
         ·intro w'
          go_simp
          with_reducible rfl
         rotate_left
         ·simp only [Act.put, sA, sB, sC, i64_w, i32_w]
          rfl
         refine take_ (i := 33) (N := some 70) (v := ?_) (a' := ?_) #[true, true, true, true, true, true, true, true, true, true, true, true, true, true, true, true, true, true, true, true, true, true, true, true, true, true, true, true, true, true, true, true, true, true, false, true, false, false, false, false] rfl rfl (take_ofW HT_.out HW_.out (by kernel_rfl)) (fun _ _ _ h => h) (Or.inl ⟨by rfl, ?_⟩) hHeld ?_ ?_
         rotate_left
         ·rintro w' ⟨s0, s1, s2, s3, s4, s5, s6, s7, s8, s9, s10, s11, s12, s13, s14, s15, s16, s17, s18, s19, s20, s21, s22, s23, s24, s25, s26⟩
          go_simp
          with_reducible rfl
         rotate_left
         ·simp only [Act.put, sA, sB, sC, i64_w, i32_w]
          rfl
         refine one_ (i := 34) (N := some 71) #[true, true, true, true, true, true, true, true, true, true, true, true, true, true, true, true, true, true, true, true, true, true, true, true, true, true, true, true, true, true, true, true, true, true, true, true, false, false, false, false] rfl rfl (one_of HT_.out (by kernel_rfl)) (by decide) (fun K hK => ?_)
         refine goes_ Try.func14 (by kernel_rfl) rfl #[.agg #[.int .i64 t244, .int .i64 t245, .int .i64 t246, .int .i64 t247, .int .i64 t248, .int .i64 t249, .int .i64 t250, .int .i64 t251, .int .i64 t252]] (by rfl) rfl rfl (by (try simp only [sD, List.map_cons, List.map_nil]); first | done | rfl) ?_
         with_reducible refine (peer_PrintReport.calls kj2 t244 t245 t246 t247 t248 t249 t250 t251 t252 t285 _ A24.out).mono ?_
         rintro e w47 ⟨rfl, hb⟩
         refine ⟨_, rfl, ?_⟩
         have n0_ := Aside0.mk (blk_below (g := gb229) BK229.out hb)
         have n1_ := Aside0.mk (blk_below (g := gb243) BK243.out hb)
         have n2_ := Aside0.mk (blk_below (g := gb254) BK254.out hb)
         have n3_ := Aside0.mk (blk_below (g := gb265) BK265.out hb)
         have n4_ := Aside0.mk (below_step (by repeat (first | (with_reducible first | exact HB.out | apply below_alloc | apply pw_below_drewN | apply below_drew1 | refine below_set ?_ GE229.out | refine below_set ?_ GE243.out | refine below_set ?_ GE254.out | refine below_set ?_ GE265.out) | exact HB.out)) hb)
         clear BK229
         clear BK243
         clear BK254
         clear BK265
         clear HB
         have BK229 := n0_
         have BK243 := n1_
         have BK254 := n2_
         have BK265 := n3_
         have HB := n4_
         clear n0_ n1_ n2_ n3_ n4_
         (try clear hb)
         (try clear hb2)
         (try clear hk)
         (try clear hi)
         refine hK.out _ _ ⟨(blk_cell BK229.out 0).trans rfl, (blk_cell BK229.out 1).trans rfl, (blk_cell BK229.out 2).trans rfl, (blk_cell BK229.out 3).trans rfl, (blk_cell BK229.out 4).trans rfl, (blk_cell BK229.out 5).trans rfl, (blk_cell BK229.out 6).trans rfl, (blk_cell BK229.out 7).trans rfl, (blk_cell BK229.out 8).trans rfl, (blk_cell BK254.out 0).trans rfl, (blk_cell BK254.out 1).trans rfl, (blk_cell BK254.out 2).trans rfl, (blk_cell BK254.out 3).trans rfl, (blk_cell BK254.out 4).trans rfl, (blk_cell BK254.out 5).trans rfl, (blk_cell BK254.out 6).trans rfl, (blk_cell BK254.out 7).trans rfl, (blk_cell BK254.out 8).trans rfl, (blk_cell BK265.out 0).trans rfl, (blk_cell BK265.out 1).trans rfl, (blk_cell BK265.out 2).trans rfl, (blk_cell BK265.out 3).trans rfl, (blk_cell BK265.out 4).trans rfl, (blk_cell BK265.out 5).trans rfl, (blk_cell BK265.out 6).trans rfl, (blk_cell BK265.out 7).trans rfl, (blk_cell BK265.out 8).trans rfl⟩ (fun hHeld => ?_)
         clear hK K
         refine norm_ (a' := ?_) ?_ ?_
         rotate_left
         ·show Act.put _ (some 71) _ = _
          simp only [Act.put, sA, sB, sC, i64_w, i32_w]
          rfl
         refine pure_ (i := 36) (N := some 73) (v := ?_) (a' := ?_) #[true, true, true, true, true, true, true, true, true, true, true, true, true, true, true, true, true, true, true, true, true, true, true, true, true, true, true, true, true, true, true, true, true, true, true, true, true, false, false, false] rfl rfl (any_of HT_.out (by kernel_rfl)) (fun _ _ _ h => h) (Or.inl ⟨by rfl, ?_⟩) ?_ ?_
         rotate_left
         ·intro w'
          go_simp
          with_reducible rfl
         rotate_left
         ·simp only [Act.put, sA, sB, sC, i64_w, i32_w]
          rfl
         refine pure_ (i := 37) (N := some 74) (v := ?_) (a' := ?_) #[true, true, true, true, true, true, true, true, true, true, true, true, true, true, true, true, true, true, true, true, true, true, true, true, true, true, true, true, true, true, true, true, true, true, true, true, true, true, false, false] rfl rfl (any_of HT_.out (by kernel_rfl)) (fun _ _ _ h => h) (Or.inl ⟨by rfl, ?_⟩) ?_ ?_
         rotate_left
         ·intro w'
          go_simp
          with_reducible rfl
         rotate_left
         ·simp only [Act.put, sA, sB, sC, i64_w, i32_w]
          rfl
         refine pure_ (i := 38) (N := some 75) (v := ?_) (a' := ?_) #[true, true, true, true, true, true, true, true, true, true, true, true, true, true, true, true, true, true, true, true, true, true, true, true, true, true, true, true, true, true, true, true, true, true, true, true, true, true, true, false] rfl rfl (any_of HT_.out (by kernel_rfl)) (fun _ _ _ h => h) (Or.inl ⟨by rfl, ?_⟩) ?_ ?_
         rotate_left
         ·intro w'
          go_simp
          with_reducible rfl
         rotate_left
         ·simp only [Act.put, sA, sB, sC, i64_w, i32_w]
          rfl
         refine pure_ (i := 39) (N := some 4) (v := ?_) (a' := ?_) #[true, true, true, true, true, true, true, true, true, true, true, true, true, true, true, true, true, true, true, true, true, true, true, true, true, true, true, true, true, true, true, true, true, true, true, true, true, true, true, true] rfl rfl (any_of HT_.out (by kernel_rfl)) (fun _ _ _ h => h) (Or.inl ⟨by rfl, ?_⟩) ?_ ?_
         rotate_left
         ·intro w'
          go_simp
          with_reducible rfl
         rotate_left
         ·simp only [Act.put, sA, sB, sC, i64_w, i32_w]
          rfl
         refine done_ (done_of HT_.out (by kernel_rfl)) ?_
         try go_wp2
         go_ret
         exact ⟨by first | rfl | (simp [errW_none, errW_some] <;> rfl) | (simp [*, errW_none, errW_some] <;> rfl), by repeat (first | (with_reducible first | exact HB.out | apply below_alloc | apply pw_below_drewN | apply below_drew1 | refine below_set ?_ GE229.out | refine below_set ?_ GE243.out | refine below_set ?_ GE254.out | refine below_set ?_ GE265.out) | exact HB.out)⟩
        ·rw [if_neg c23] at H
         have c23b0 : (t264 == 0) = false := beq_eq_false_iff_ne.mpr c23
         have c23b1 : (t264 != 0) = true := bne_iff_ne.mpr c23
         obtain rfl := Option.some.inj H
         have hcz48_0 : wc.cell? ⟨gb229, 0, none⟩ = some (.int .i64 a0_0) := (blk_cell BK229.out 0).trans rfl
         have hcz48_1 : wc.cell? ⟨gb229, 1, none⟩ = some (.int .i64 a0_1) := (blk_cell BK229.out 1).trans rfl
         have hcz48_2 : wc.cell? ⟨gb229, 2, none⟩ = some (.int .i64 a0_2) := (blk_cell BK229.out 2).trans rfl
         have hcz48_3 : wc.cell? ⟨gb229, 3, none⟩ = some (.int .i64 a0_3) := (blk_cell BK229.out 3).trans rfl
         have hcz48_4 : wc.cell? ⟨gb229, 4, none⟩ = some (.int .i64 a0_4) := (blk_cell BK229.out 4).trans rfl
         have hcz48_5 : wc.cell? ⟨gb229, 5, none⟩ = some (.int .i64 a0_5) := (blk_cell BK229.out 5).trans rfl
         have hcz48_6 : wc.cell? ⟨gb229, 6, none⟩ = some (.int .i64 a0_6) := (blk_cell BK229.out 6).trans rfl
         have hcz48_7 : wc.cell? ⟨gb229, 7, none⟩ = some (.int .i64 a0_7) := (blk_cell BK229.out 7).trans rfl
         have hcz48_8 : wc.cell? ⟨gb229, 8, none⟩ = some (.int .i64 a0_8) := (blk_cell BK229.out 8).trans rfl
         have hfz48_0 := blk_frozen BK229.out 0
         have hfz48_1 := blk_frozen BK229.out 1
         have hfz48_2 := blk_frozen BK229.out 2
         have hfz48_3 := blk_frozen BK229.out 3
         have hfz48_4 := blk_frozen BK229.out 4
         have hfz48_5 := blk_frozen BK229.out 5
         have hfz48_6 := blk_frozen BK229.out 6
         have hfz48_7 := blk_frozen BK229.out 7
         have hfz48_8 := blk_frozen BK229.out 8
         have tk2_1_ : True := trivial
         have tk2_3_ : True := trivial
         try go_wp2_with (first | ((with_reducible refine gate_callee (f := 14) rfl ?_); refine goesL_ (some 21) rfl rfl Try.func14 (by kernel_rfl) rfl #[.agg #[.int .i64 a0_0, .int .i64 a0_1, .int .i64 a0_2, .int .i64 a0_3, .int .i64 a0_4, .int .i64 a0_5, .int .i64 a0_6, .int .i64 a0_7, .int .i64 a0_8]] rfl (by (try simp only [sD, List.map_cons, List.map_nil]); first | done | rfl) ?_; (with_reducible refine (peer_PrintReport.calls kj2 a0_0 a0_1 a0_2 a0_3 a0_4 a0_5 a0_6 a0_7 a0_8 t232 _ A12.out).mono ?_); rintro e w49 ⟨rfl, hb⟩; refine ⟨_, rfl, ?_⟩; have n0_ := Aside0.mk (blk_below (g := gb229) BK229.out hb); have n1_ := Aside0.mk (below_step (by repeat (first | (with_reducible first | exact HB.out | apply below_alloc | apply pw_below_drewN | apply below_drew1 | refine below_set ?_ GE229.out) | exact HB.out)) hb); clear BK229; clear HB; have BK229 := n0_; have HB := n1_; clear n0_ n1_; (try clear hb)) | ((with_reducible refine gate_callee (f := 15) rfl ?_); have q_ := tk2_1_; clear q_ tk2_1_; refine goesL_ (some 24) rfl rfl Try.func15 (by kernel_rfl) rfl #[.string t232] rfl (by (try simp only [sD, List.map_cons, List.map_nil]); first | done | rfl) ?_; (with_reducible refine (peer_ReadReport.calls kj2 t232 t233 t234 t235 t236 t237 t238 t239 t240 t241 t242 _ A13.out).mono ?_); rintro e w50 ⟨rfl, hb⟩; refine ⟨_, rfl, ?_⟩; have n0_ := Aside0.mk (blk_below (g := gb229) BK229.out hb); have n1_ := Aside0.mk (below_step (by repeat (first | (with_reducible first | exact HB.out | apply below_alloc | apply pw_below_drewN | apply below_drew1 | refine below_set ?_ GE229.out) | exact HB.out)) hb); clear BK229; clear HB; have BK229 := n0_; have HB := n1_; clear n0_ n1_; (try clear hb)) | ((with_reducible refine gate_dst (N := 6) rfl ?_); (try (refine gate_guard (by rfl) ?_; dsimp only)); refine box_event ?hg (N := 6) ?hd (cs := #[.int .i64 0, .int .i64 0, .int .i64 0, .int .i64 0, .int .i64 0, .int .i64 0, .int .i64 0, .int .i64 0, .int .i64 0]) (t := 37) ?hr ?_; (case hd => rfl); (case hg => rfl); (case hr => first | (go_simp; done) | (go_simp; rfl)); intro gb243 hg w51 hbox hb; have n0_ := Aside0.mk (blk_below (g := gb229) BK229.out hb); have n1_ := Aside0.mk (below_step (by repeat (first | (with_reducible first | exact HB.out | apply below_alloc | apply pw_below_drewN | apply below_drew1 | refine below_set ?_ GE229.out) | exact HB.out)) hb); have n2_ := Aside0.mk (hbox); have n3_ := Aside0.mk ((by rw [hg]; exact (below_size (by repeat (first | (with_reducible first | exact HB.out | apply below_alloc | apply pw_below_drewN | apply below_drew1 | refine below_set ?_ GE229.out) | exact HB.out))) : w.heap.size ≤ gb243)); have n4_ := n3_; have n5_ := Aside0.mk ((by rw [hg]; exact Nat.ne_of_lt (blk_lt (g := gb229) BK229.out) : gb229 ≠ gb243)); have n6_ := Aside0.mk ((by rw [hg]; exact Nat.ne_of_gt (blk_lt (g := gb229) BK229.out) : gb243 ≠ gb229)); clear BK229; clear HB; have BK229 := n0_; have HB := n1_; have BK243 := n2_; have GW243 := n3_; have GE243 := n4_; have NB229_243 := n5_; have NB243_229 := n6_; clear n0_ n1_ n2_ n3_ n4_ n5_ n6_; clear hb hbox hg; have hnb52 := NB243_229.out; have hnc52 := NB229_243.out; have hcz53_0 : w51.cell? ⟨gb243, 0, none⟩ = some (.int .i64 0) := (blk_cell BK243.out 0).trans rfl; have hcz53_1 : w51.cell? ⟨gb243, 1, none⟩ = some (.int .i64 0) := (blk_cell BK243.out 1).trans rfl; have hcz53_2 : w51.cell? ⟨gb243, 2, none⟩ = some (.int .i64 0) := (blk_cell BK243.out 2).trans rfl; have hcz53_3 : w51.cell? ⟨gb243, 3, none⟩ = some (.int .i64 0) := (blk_cell BK243.out 3).trans rfl; have hcz53_4 : w51.cell? ⟨gb243, 4, none⟩ = some (.int .i64 0) := (blk_cell BK243.out 4).trans rfl; have hcz53_5 : w51.cell? ⟨gb243, 5, none⟩ = some (.int .i64 0) := (blk_cell BK243.out 5).trans rfl; have hcz53_6 : w51.cell? ⟨gb243, 6, none⟩ = some (.int .i64 0) := (blk_cell BK243.out 6).trans rfl; have hcz53_7 : w51.cell? ⟨gb243, 7, none⟩ = some (.int .i64 0) := (blk_cell BK243.out 7).trans rfl; have hcz53_8 : w51.cell? ⟨gb243, 8, none⟩ = some (.int .i64 0) := (blk_cell BK243.out 8).trans rfl; have hfz53_0 := blk_frozen BK243.out 0; have hfz53_1 := blk_frozen BK243.out 1; have hfz53_2 := blk_frozen BK243.out 2; have hfz53_3 := blk_frozen BK243.out 3; have hfz53_4 := blk_frozen BK243.out 4; have hfz53_5 := blk_frozen BK243.out 5; have hfz53_6 := blk_frozen BK243.out 6; have hfz53_7 := blk_frozen BK243.out 7; have hfz53_8 := blk_frozen BK243.out 8) | ((with_reducible refine gate_callee (f := 15) rfl ?_); have q_ := tk2_3_; clear q_ tk2_3_; refine goesL_ (some 29) rfl rfl Try.func15 (by kernel_rfl) rfl #[.string a1] rfl (by (try simp only [sD, List.map_cons, List.map_nil]); first | done | rfl) ?_; (with_reducible refine (peer_ReadReport.calls kj2 a1 t244 t245 t246 t247 t248 t249 t250 t251 t252 t253 _ A14.out).mono ?_); rintro e w54 ⟨rfl, hb⟩; refine ⟨_, rfl, ?_⟩; have n0_ := Aside0.mk (blk_below (g := gb229) (o := .cells #[.int .i64 a0_0, .int .i64 a0_1, .int .i64 a0_2, .int .i64 a0_3, .int .i64 a0_4, .int .i64 a0_5, .int .i64 a0_6, .int .i64 a0_7, .int .i64 a0_8] 37 (0, 0)) (by refine blk_far ?_ NB229_243.out _; refine blk_far ?_ NB229_243.out _; refine blk_far ?_ NB229_243.out _; refine blk_far ?_ NB229_243.out _; refine blk_far ?_ NB229_243.out _; refine blk_far ?_ NB229_243.out _; refine blk_far ?_ NB229_243.out _; refine blk_far ?_ NB229_243.out _; refine blk_far ?_ NB229_243.out _; exact BK229.out) hb); have n1_ := Aside0.mk (blk_below (g := gb243) (o := .cells #[.int .i64 t233, .int .i64 t234, .int .i64 t235, .int .i64 t236, .int .i64 t237, .int .i64 t238, .int .i64 t239, .int .i64 t240, .int .i64 t241] 37 (0, 0)) (by refine blk_put (cs := #[.int .i64 t233, .int .i64 t234, .int .i64 t235, .int .i64 t236, .int .i64 t237, .int .i64 t238, .int .i64 t239, .int .i64 t240, .int .i64 0]) ?_ 8 _ rfl; refine blk_put (cs := #[.int .i64 t233, .int .i64 t234, .int .i64 t235, .int .i64 t236, .int .i64 t237, .int .i64 t238, .int .i64 t239, .int .i64 0, .int .i64 0]) ?_ 7 _ rfl; refine blk_put (cs := #[.int .i64 t233, .int .i64 t234, .int .i64 t235, .int .i64 t236, .int .i64 t237, .int .i64 t238, .int .i64 0, .int .i64 0, .int .i64 0]) ?_ 6 _ rfl; refine blk_put (cs := #[.int .i64 t233, .int .i64 t234, .int .i64 t235, .int .i64 t236, .int .i64 t237, .int .i64 0, .int .i64 0, .int .i64 0, .int .i64 0]) ?_ 5 _ rfl; refine blk_put (cs := #[.int .i64 t233, .int .i64 t234, .int .i64 t235, .int .i64 t236, .int .i64 0, .int .i64 0, .int .i64 0, .int .i64 0, .int .i64 0]) ?_ 4 _ rfl; refine blk_put (cs := #[.int .i64 t233, .int .i64 t234, .int .i64 t235, .int .i64 0, .int .i64 0, .int .i64 0, .int .i64 0, .int .i64 0, .int .i64 0]) ?_ 3 _ rfl; refine blk_put (cs := #[.int .i64 t233, .int .i64 t234, .int .i64 0, .int .i64 0, .int .i64 0, .int .i64 0, .int .i64 0, .int .i64 0, .int .i64 0]) ?_ 2 _ rfl; refine blk_put (cs := #[.int .i64 t233, .int .i64 0, .int .i64 0, .int .i64 0, .int .i64 0, .int .i64 0, .int .i64 0, .int .i64 0, .int .i64 0]) ?_ 1 _ rfl; refine blk_put (cs := #[.int .i64 0, .int .i64 0, .int .i64 0, .int .i64 0, .int .i64 0, .int .i64 0, .int .i64 0, .int .i64 0, .int .i64 0]) ?_ 0 _ rfl; exact BK243.out) hb); have n2_ := Aside0.mk (below_step (by repeat (first | (with_reducible first | exact HB.out | apply below_alloc | apply pw_below_drewN | apply below_drew1 | refine below_set ?_ GE229.out | refine below_set ?_ GE243.out) | exact HB.out)) hb); clear BK229; clear BK243; clear HB; have BK229 := n0_; have BK243 := n1_; have HB := n2_; clear n0_ n1_ n2_; (try clear hb)) | ((with_reducible refine gate_dst (N := 8) rfl ?_); (try (refine gate_guard (by rfl) ?_; dsimp only)); refine box_event ?hg (N := 8) ?hd (cs := #[.int .i64 0, .int .i64 0, .int .i64 0, .int .i64 0, .int .i64 0, .int .i64 0, .int .i64 0, .int .i64 0, .int .i64 0]) (t := 37) ?hr ?_; (case hd => rfl); (case hg => rfl); (case hr => first | (go_simp; done) | (go_simp; rfl)); intro gb254 hg w55 hbox hb; have n0_ := Aside0.mk (blk_below (g := gb229) BK229.out hb); have n1_ := Aside0.mk (blk_below (g := gb243) BK243.out hb); have n2_ := Aside0.mk (below_step (by repeat (first | (with_reducible first | exact HB.out | apply below_alloc | apply pw_below_drewN | apply below_drew1 | refine below_set ?_ GE229.out | refine below_set ?_ GE243.out) | exact HB.out)) hb); have n3_ := Aside0.mk (hbox); have n4_ := Aside0.mk ((by rw [hg]; exact (below_size (by repeat (first | (with_reducible first | exact HB.out | apply below_alloc | apply pw_below_drewN | apply below_drew1 | refine below_set ?_ GE229.out | refine below_set ?_ GE243.out) | exact HB.out))) : w.heap.size ≤ gb254)); have n5_ := n4_; have n6_ := Aside0.mk ((by rw [hg]; exact Nat.ne_of_lt (blk_lt (g := gb229) BK229.out) : gb229 ≠ gb254)); have n7_ := Aside0.mk ((by rw [hg]; exact Nat.ne_of_gt (blk_lt (g := gb229) BK229.out) : gb254 ≠ gb229)); have n8_ := Aside0.mk ((by rw [hg]; exact Nat.ne_of_lt (blk_lt (g := gb243) BK243.out) : gb243 ≠ gb254)); have n9_ := Aside0.mk ((by rw [hg]; exact Nat.ne_of_gt (blk_lt (g := gb243) BK243.out) : gb254 ≠ gb243)); clear BK229; clear BK243; clear HB; have BK229 := n0_; have BK243 := n1_; have HB := n2_; have BK254 := n3_; have GW254 := n4_; have GE254 := n5_; have NB229_254 := n6_; have NB254_229 := n7_; have NB243_254 := n8_; have NB254_243 := n9_; clear n0_ n1_ n2_ n3_ n4_ n5_ n6_ n7_ n8_ n9_; clear hb hbox hg; have hnb56 := NB254_229.out; have hnc56 := NB229_254.out; have hnb57 := NB254_243.out; have hnc57 := NB243_254.out; have hcz58_0 : w55.cell? ⟨gb254, 0, none⟩ = some (.int .i64 0) := (blk_cell BK254.out 0).trans rfl; have hcz58_1 : w55.cell? ⟨gb254, 1, none⟩ = some (.int .i64 0) := (blk_cell BK254.out 1).trans rfl; have hcz58_2 : w55.cell? ⟨gb254, 2, none⟩ = some (.int .i64 0) := (blk_cell BK254.out 2).trans rfl; have hcz58_3 : w55.cell? ⟨gb254, 3, none⟩ = some (.int .i64 0) := (blk_cell BK254.out 3).trans rfl; have hcz58_4 : w55.cell? ⟨gb254, 4, none⟩ = some (.int .i64 0) := (blk_cell BK254.out 4).trans rfl; have hcz58_5 : w55.cell? ⟨gb254, 5, none⟩ = some (.int .i64 0) := (blk_cell BK254.out 5).trans rfl; have hcz58_6 : w55.cell? ⟨gb254, 6, none⟩ = some (.int .i64 0) := (blk_cell BK254.out 6).trans rfl; have hcz58_7 : w55.cell? ⟨gb254, 7, none⟩ = some (.int .i64 0) := (blk_cell BK254.out 7).trans rfl; have hcz58_8 : w55.cell? ⟨gb254, 8, none⟩ = some (.int .i64 0) := (blk_cell BK254.out 8).trans rfl; have hfz58_0 := blk_frozen BK254.out 0; have hfz58_1 := blk_frozen BK254.out 1; have hfz58_2 := blk_frozen BK254.out 2; have hfz58_3 := blk_frozen BK254.out 3; have hfz58_4 := blk_frozen BK254.out 4; have hfz58_5 := blk_frozen BK254.out 5; have hfz58_6 := blk_frozen BK254.out 6; have hfz58_7 := blk_frozen BK254.out 7; have hfz58_8 := blk_frozen BK254.out 8) | ((with_reducible refine gate_callee (f := 16) rfl ?_); refine goesL_ (some 34) rfl rfl Try.func16 (by kernel_rfl) rfl #[.string a1] rfl (by (try simp only [sD, List.map_cons, List.map_nil]); first | done | rfl) ?_; (with_reducible refine (apogeeref07_ReadReport.calls kj2 a1 t255 t256 t257 t258 t259 t260 t261 t262 t263 t264 _ A15.out).mono ?_); rintro e w59 ⟨rfl, hb⟩; refine ⟨_, rfl, ?_⟩; have n0_ := Aside0.mk (blk_below (g := gb229) (o := .cells #[.int .i64 a0_0, .int .i64 a0_1, .int .i64 a0_2, .int .i64 a0_3, .int .i64 a0_4, .int .i64 a0_5, .int .i64 a0_6, .int .i64 a0_7, .int .i64 a0_8] 37 (0, 0)) (by refine blk_far ?_ NB229_254.out _; refine blk_far ?_ NB229_254.out _; refine blk_far ?_ NB229_254.out _; refine blk_far ?_ NB229_254.out _; refine blk_far ?_ NB229_254.out _; refine blk_far ?_ NB229_254.out _; refine blk_far ?_ NB229_254.out _; refine blk_far ?_ NB229_254.out _; refine blk_far ?_ NB229_254.out _; exact BK229.out) hb); have n1_ := Aside0.mk (blk_below (g := gb243) (o := .cells #[.int .i64 t233, .int .i64 t234, .int .i64 t235, .int .i64 t236, .int .i64 t237, .int .i64 t238, .int .i64 t239, .int .i64 t240, .int .i64 t241] 37 (0, 0)) (by refine blk_far ?_ NB243_254.out _; refine blk_far ?_ NB243_254.out _; refine blk_far ?_ NB243_254.out _; refine blk_far ?_ NB243_254.out _; refine blk_far ?_ NB243_254.out _; refine blk_far ?_ NB243_254.out _; refine blk_far ?_ NB243_254.out _; refine blk_far ?_ NB243_254.out _; refine blk_far ?_ NB243_254.out _; exact BK243.out) hb); have n2_ := Aside0.mk (blk_below (g := gb254) (o := .cells #[.int .i64 t244, .int .i64 t245, .int .i64 t246, .int .i64 t247, .int .i64 t248, .int .i64 t249, .int .i64 t250, .int .i64 t251, .int .i64 t252] 37 (0, 0)) (by refine blk_put (cs := #[.int .i64 t244, .int .i64 t245, .int .i64 t246, .int .i64 t247, .int .i64 t248, .int .i64 t249, .int .i64 t250, .int .i64 t251, .int .i64 0]) ?_ 8 _ rfl; refine blk_put (cs := #[.int .i64 t244, .int .i64 t245, .int .i64 t246, .int .i64 t247, .int .i64 t248, .int .i64 t249, .int .i64 t250, .int .i64 0, .int .i64 0]) ?_ 7 _ rfl; refine blk_put (cs := #[.int .i64 t244, .int .i64 t245, .int .i64 t246, .int .i64 t247, .int .i64 t248, .int .i64 t249, .int .i64 0, .int .i64 0, .int .i64 0]) ?_ 6 _ rfl; refine blk_put (cs := #[.int .i64 t244, .int .i64 t245, .int .i64 t246, .int .i64 t247, .int .i64 t248, .int .i64 0, .int .i64 0, .int .i64 0, .int .i64 0]) ?_ 5 _ rfl; refine blk_put (cs := #[.int .i64 t244, .int .i64 t245, .int .i64 t246, .int .i64 t247, .int .i64 0, .int .i64 0, .int .i64 0, .int .i64 0, .int .i64 0]) ?_ 4 _ rfl; refine blk_put (cs := #[.int .i64 t244, .int .i64 t245, .int .i64 t246, .int .i64 0, .int .i64 0, .int .i64 0, .int .i64 0, .int .i64 0, .int .i64 0]) ?_ 3 _ rfl; refine blk_put (cs := #[.int .i64 t244, .int .i64 t245, .int .i64 0, .int .i64 0, .int .i64 0, .int .i64 0, .int .i64 0, .int .i64 0, .int .i64 0]) ?_ 2 _ rfl; refine blk_put (cs := #[.int .i64 t244, .int .i64 0, .int .i64 0, .int .i64 0, .int .i64 0, .int .i64 0, .int .i64 0, .int .i64 0, .int .i64 0]) ?_ 1 _ rfl; refine blk_put (cs := #[.int .i64 0, .int .i64 0, .int .i64 0, .int .i64 0, .int .i64 0, .int .i64 0, .int .i64 0, .int .i64 0, .int .i64 0]) ?_ 0 _ rfl; exact BK254.out) hb); have n3_ := Aside0.mk (below_step (by repeat (first | (with_reducible first | exact HB.out | apply below_alloc | apply pw_below_drewN | apply below_drew1 | refine below_set ?_ GE229.out | refine below_set ?_ GE243.out | refine below_set ?_ GE254.out) | exact HB.out)) hb); clear BK229; clear BK243; clear BK254; clear HB; have BK229 := n0_; have BK243 := n1_; have BK254 := n2_; have HB := n3_; clear n0_ n1_ n2_ n3_; (try clear hb)) | ((with_reducible refine gate_dst (N := 10) rfl ?_); (try (refine gate_guard (by rfl) ?_; dsimp only)); refine box_event ?hg (N := 10) ?hd (cs := #[.int .i64 0, .int .i64 0, .int .i64 0, .int .i64 0, .int .i64 0, .int .i64 0, .int .i64 0, .int .i64 0, .int .i64 0]) (t := 41) ?hr ?_; (case hd => rfl); (case hg => rfl); (case hr => first | (go_simp; done) | (go_simp; rfl)); intro gb265 hg w60 hbox hb; have n0_ := Aside0.mk (blk_below (g := gb229) BK229.out hb); have n1_ := Aside0.mk (blk_below (g := gb243) BK243.out hb); have n2_ := Aside0.mk (blk_below (g := gb254) BK254.out hb); have n3_ := Aside0.mk (below_step (by repeat (first | (with_reducible first | exact HB.out | apply below_alloc | apply pw_below_drewN | apply below_drew1 | refine below_set ?_ GE229.out | refine below_set ?_ GE243.out | refine below_set ?_ GE254.out) | exact HB.out)) hb); have n4_ := Aside0.mk (hbox); have n5_ := Aside0.mk ((by rw [hg]; exact (below_size (by repeat (first | (with_reducible first | exact HB.out | apply below_alloc | apply pw_below_drewN | apply below_drew1 | refine below_set ?_ GE229.out | refine below_set ?_ GE243.out | refine below_set ?_ GE254.out) | exact HB.out))) : w.heap.size ≤ gb265)); have n6_ := n5_; have n7_ := Aside0.mk ((by rw [hg]; exact Nat.ne_of_lt (blk_lt (g := gb229) BK229.out) : gb229 ≠ gb265)); have n8_ := Aside0.mk ((by rw [hg]; exact Nat.ne_of_gt (blk_lt (g := gb229) BK229.out) : gb265 ≠ gb229)); have n9_ := Aside0.mk ((by rw [hg]; exact Nat.ne_of_lt (blk_lt (g := gb243) BK243.out) : gb243 ≠ gb265)); have n10_ := Aside0.mk ((by rw [hg]; exact Nat.ne_of_gt (blk_lt (g := gb243) BK243.out) : gb265 ≠ gb243)); have n11_ := Aside0.mk ((by rw [hg]; exact Nat.ne_of_lt (blk_lt (g := gb254) BK254.out) : gb254 ≠ gb265)); have n12_ := Aside0.mk ((by rw [hg]; exact Nat.ne_of_gt (blk_lt (g := gb254) BK254.out) : gb265 ≠ gb254)); clear BK229; clear BK243; clear BK254; clear HB; have BK229 := n0_; have BK243 := n1_; have BK254 := n2_; have HB := n3_; have BK265 := n4_; have GW265 := n5_; have GE265 := n6_; have NB229_265 := n7_; have NB265_229 := n8_; have NB243_265 := n9_; have NB265_243 := n10_; have NB254_265 := n11_; have NB265_254 := n12_; clear n0_ n1_ n2_ n3_ n4_ n5_ n6_ n7_ n8_ n9_ n10_ n11_ n12_; clear hb hbox hg; have hnb61 := NB265_229.out; have hnc61 := NB229_265.out; have hnb62 := NB265_243.out; have hnc62 := NB243_265.out; have hnb63 := NB265_254.out; have hnc63 := NB254_265.out; have hcz64_0 : w60.cell? ⟨gb265, 0, none⟩ = some (.int .i64 0) := (blk_cell BK265.out 0).trans rfl; have hcz64_1 : w60.cell? ⟨gb265, 1, none⟩ = some (.int .i64 0) := (blk_cell BK265.out 1).trans rfl; have hcz64_2 : w60.cell? ⟨gb265, 2, none⟩ = some (.int .i64 0) := (blk_cell BK265.out 2).trans rfl; have hcz64_3 : w60.cell? ⟨gb265, 3, none⟩ = some (.int .i64 0) := (blk_cell BK265.out 3).trans rfl; have hcz64_4 : w60.cell? ⟨gb265, 4, none⟩ = some (.int .i64 0) := (blk_cell BK265.out 4).trans rfl; have hcz64_5 : w60.cell? ⟨gb265, 5, none⟩ = some (.int .i64 0) := (blk_cell BK265.out 5).trans rfl; have hcz64_6 : w60.cell? ⟨gb265, 6, none⟩ = some (.int .i64 0) := (blk_cell BK265.out 6).trans rfl; have hcz64_7 : w60.cell? ⟨gb265, 7, none⟩ = some (.int .i64 0) := (blk_cell BK265.out 7).trans rfl; have hcz64_8 : w60.cell? ⟨gb265, 8, none⟩ = some (.int .i64 0) := (blk_cell BK265.out 8).trans rfl; have hfz64_0 := blk_frozen BK265.out 0; have hfz64_1 := blk_frozen BK265.out 1; have hfz64_2 := blk_frozen BK265.out 2; have hfz64_3 := blk_frozen BK265.out 3; have hfz64_4 := blk_frozen BK265.out 4; have hfz64_5 := blk_frozen BK265.out 5; have hfz64_6 := blk_frozen BK265.out 6; have hfz64_7 := blk_frozen BK265.out 7; have hfz64_8 := blk_frozen BK265.out 8))
         have n0_ : Aside0 ((((((((((w60.setCell ⟨gb265, 0, none⟩ (.int .i64 t255)).setCell ⟨gb265, 1, none⟩ (.int .i64 t256)).setCell ⟨gb265, 2, none⟩ (.int .i64 t257)).setCell ⟨gb265, 3, none⟩ (.int .i64 t258)).setCell ⟨gb265, 4, none⟩ (.int .i64 t259)).setCell ⟨gb265, 5, none⟩ (.int .i64 t260)).setCell ⟨gb265, 6, none⟩ (.int .i64 t261)).setCell ⟨gb265, 7, none⟩ (.int .i64 t262)).setCell ⟨gb265, 8, none⟩ (.int .i64 t263)).heap[gb229]? = some (.cells #[.int .i64 a0_0, .int .i64 a0_1, .int .i64 a0_2, .int .i64 a0_3, .int .i64 a0_4, .int .i64 a0_5, .int .i64 a0_6, .int .i64 a0_7, .int .i64 a0_8] 37 (0, 0))) := ⟨by refine blk_far ?_ NB229_265.out _; refine blk_far ?_ NB229_265.out _; refine blk_far ?_ NB229_265.out _; refine blk_far ?_ NB229_265.out _; refine blk_far ?_ NB229_265.out _; refine blk_far ?_ NB229_265.out _; refine blk_far ?_ NB229_265.out _; refine blk_far ?_ NB229_265.out _; refine blk_far ?_ NB229_265.out _; exact BK229.out⟩
         have n1_ : Aside0 ((((((((((w60.setCell ⟨gb265, 0, none⟩ (.int .i64 t255)).setCell ⟨gb265, 1, none⟩ (.int .i64 t256)).setCell ⟨gb265, 2, none⟩ (.int .i64 t257)).setCell ⟨gb265, 3, none⟩ (.int .i64 t258)).setCell ⟨gb265, 4, none⟩ (.int .i64 t259)).setCell ⟨gb265, 5, none⟩ (.int .i64 t260)).setCell ⟨gb265, 6, none⟩ (.int .i64 t261)).setCell ⟨gb265, 7, none⟩ (.int .i64 t262)).setCell ⟨gb265, 8, none⟩ (.int .i64 t263)).heap[gb243]? = some (.cells #[.int .i64 t233, .int .i64 t234, .int .i64 t235, .int .i64 t236, .int .i64 t237, .int .i64 t238, .int .i64 t239, .int .i64 t240, .int .i64 t241] 37 (0, 0))) := ⟨by refine blk_far ?_ NB243_265.out _; refine blk_far ?_ NB243_265.out _; refine blk_far ?_ NB243_265.out _; refine blk_far ?_ NB243_265.out _; refine blk_far ?_ NB243_265.out _; refine blk_far ?_ NB243_265.out _; refine blk_far ?_ NB243_265.out _; refine blk_far ?_ NB243_265.out _; refine blk_far ?_ NB243_265.out _; exact BK243.out⟩
         have n2_ : Aside0 ((((((((((w60.setCell ⟨gb265, 0, none⟩ (.int .i64 t255)).setCell ⟨gb265, 1, none⟩ (.int .i64 t256)).setCell ⟨gb265, 2, none⟩ (.int .i64 t257)).setCell ⟨gb265, 3, none⟩ (.int .i64 t258)).setCell ⟨gb265, 4, none⟩ (.int .i64 t259)).setCell ⟨gb265, 5, none⟩ (.int .i64 t260)).setCell ⟨gb265, 6, none⟩ (.int .i64 t261)).setCell ⟨gb265, 7, none⟩ (.int .i64 t262)).setCell ⟨gb265, 8, none⟩ (.int .i64 t263)).heap[gb254]? = some (.cells #[.int .i64 t244, .int .i64 t245, .int .i64 t246, .int .i64 t247, .int .i64 t248, .int .i64 t249, .int .i64 t250, .int .i64 t251, .int .i64 t252] 37 (0, 0))) := ⟨by refine blk_far ?_ NB254_265.out _; refine blk_far ?_ NB254_265.out _; refine blk_far ?_ NB254_265.out _; refine blk_far ?_ NB254_265.out _; refine blk_far ?_ NB254_265.out _; refine blk_far ?_ NB254_265.out _; refine blk_far ?_ NB254_265.out _; refine blk_far ?_ NB254_265.out _; refine blk_far ?_ NB254_265.out _; exact BK254.out⟩
         have n3_ : Aside0 ((((((((((w60.setCell ⟨gb265, 0, none⟩ (.int .i64 t255)).setCell ⟨gb265, 1, none⟩ (.int .i64 t256)).setCell ⟨gb265, 2, none⟩ (.int .i64 t257)).setCell ⟨gb265, 3, none⟩ (.int .i64 t258)).setCell ⟨gb265, 4, none⟩ (.int .i64 t259)).setCell ⟨gb265, 5, none⟩ (.int .i64 t260)).setCell ⟨gb265, 6, none⟩ (.int .i64 t261)).setCell ⟨gb265, 7, none⟩ (.int .i64 t262)).setCell ⟨gb265, 8, none⟩ (.int .i64 t263)).heap[gb265]? = some (.cells #[.int .i64 t255, .int .i64 t256, .int .i64 t257, .int .i64 t258, .int .i64 t259, .int .i64 t260, .int .i64 t261, .int .i64 t262, .int .i64 t263] 41 (0, 0))) := ⟨by refine blk_put (cs := #[.int .i64 t255, .int .i64 t256, .int .i64 t257, .int .i64 t258, .int .i64 t259, .int .i64 t260, .int .i64 t261, .int .i64 t262, .int .i64 0]) ?_ 8 _ rfl; refine blk_put (cs := #[.int .i64 t255, .int .i64 t256, .int .i64 t257, .int .i64 t258, .int .i64 t259, .int .i64 t260, .int .i64 t261, .int .i64 0, .int .i64 0]) ?_ 7 _ rfl; refine blk_put (cs := #[.int .i64 t255, .int .i64 t256, .int .i64 t257, .int .i64 t258, .int .i64 t259, .int .i64 t260, .int .i64 0, .int .i64 0, .int .i64 0]) ?_ 6 _ rfl; refine blk_put (cs := #[.int .i64 t255, .int .i64 t256, .int .i64 t257, .int .i64 t258, .int .i64 t259, .int .i64 0, .int .i64 0, .int .i64 0, .int .i64 0]) ?_ 5 _ rfl; refine blk_put (cs := #[.int .i64 t255, .int .i64 t256, .int .i64 t257, .int .i64 t258, .int .i64 0, .int .i64 0, .int .i64 0, .int .i64 0, .int .i64 0]) ?_ 4 _ rfl; refine blk_put (cs := #[.int .i64 t255, .int .i64 t256, .int .i64 t257, .int .i64 0, .int .i64 0, .int .i64 0, .int .i64 0, .int .i64 0, .int .i64 0]) ?_ 3 _ rfl; refine blk_put (cs := #[.int .i64 t255, .int .i64 t256, .int .i64 0, .int .i64 0, .int .i64 0, .int .i64 0, .int .i64 0, .int .i64 0, .int .i64 0]) ?_ 2 _ rfl; refine blk_put (cs := #[.int .i64 t255, .int .i64 0, .int .i64 0, .int .i64 0, .int .i64 0, .int .i64 0, .int .i64 0, .int .i64 0, .int .i64 0]) ?_ 1 _ rfl; refine blk_put (cs := #[.int .i64 0, .int .i64 0, .int .i64 0, .int .i64 0, .int .i64 0, .int .i64 0, .int .i64 0, .int .i64 0, .int .i64 0]) ?_ 0 _ rfl; exact BK265.out⟩
         have n4_ : Aside0 (Below w.heap.size w (((((((((w60.setCell ⟨gb265, 0, none⟩ (.int .i64 t255)).setCell ⟨gb265, 1, none⟩ (.int .i64 t256)).setCell ⟨gb265, 2, none⟩ (.int .i64 t257)).setCell ⟨gb265, 3, none⟩ (.int .i64 t258)).setCell ⟨gb265, 4, none⟩ (.int .i64 t259)).setCell ⟨gb265, 5, none⟩ (.int .i64 t260)).setCell ⟨gb265, 6, none⟩ (.int .i64 t261)).setCell ⟨gb265, 7, none⟩ (.int .i64 t262)).setCell ⟨gb265, 8, none⟩ (.int .i64 t263))) := ⟨by repeat (first | (with_reducible first | exact HB.out | apply below_alloc | apply pw_below_drewN | apply below_drew1 | refine below_set ?_ GE229.out | refine below_set ?_ GE243.out | refine below_set ?_ GE254.out | refine below_set ?_ GE265.out) | exact HB.out)⟩
         (try clear BK229)
         (try clear BK243)
         (try clear BK254)
         (try clear BK265)
         (try clear HB)
         generalize (((((((((w60.setCell ⟨gb265, 0, none⟩ (.int .i64 t255)).setCell ⟨gb265, 1, none⟩ (.int .i64 t256)).setCell ⟨gb265, 2, none⟩ (.int .i64 t257)).setCell ⟨gb265, 3, none⟩ (.int .i64 t258)).setCell ⟨gb265, 4, none⟩ (.int .i64 t259)).setCell ⟨gb265, 5, none⟩ (.int .i64 t260)).setCell ⟨gb265, 6, none⟩ (.int .i64 t261)).setCell ⟨gb265, 7, none⟩ (.int .i64 t262)).setCell ⟨gb265, 8, none⟩ (.int .i64 t263)) = w65 at n0_ n1_ n2_ n3_ n4_ ⊢
         have BK229 := n0_
         have BK243 := n1_
         have BK254 := n2_
         have BK265 := n3_
         have HB := n4_
         clear n0_ n1_ n2_ n3_ n4_
         have n0_ := Aside0.mk (blk_drew BK229.out)
         have n1_ := Aside0.mk (blk_drew BK243.out)
         have n2_ := Aside0.mk (blk_drew BK254.out)
         have n3_ := Aside0.mk (blk_drew BK265.out)
         have n4_ := Aside0.mk (below_drew1 HB.out)
         clear BK229
         clear BK243
         clear BK254
         clear BK265
         clear HB
         have BK229 := n0_
         have BK243 := n1_
         have BK254 := n2_
         have BK265 := n3_
         have HB := n4_
         clear n0_ n1_ n2_ n3_ n4_
         refine start_ (n := 40) (S := fun w' => w'.cell? ⟨gb229, 0, none⟩ = some (.int .i64 a0_0) ∧ w'.cell? ⟨gb229, 1, none⟩ = some (.int .i64 a0_1) ∧ w'.cell? ⟨gb229, 2, none⟩ = some (.int .i64 a0_2) ∧ w'.cell? ⟨gb229, 3, none⟩ = some (.int .i64 a0_3) ∧ w'.cell? ⟨gb229, 4, none⟩ = some (.int .i64 a0_4) ∧ w'.cell? ⟨gb229, 5, none⟩ = some (.int .i64 a0_5) ∧ w'.cell? ⟨gb229, 6, none⟩ = some (.int .i64 a0_6) ∧ w'.cell? ⟨gb229, 7, none⟩ = some (.int .i64 a0_7) ∧ w'.cell? ⟨gb229, 8, none⟩ = some (.int .i64 a0_8) ∧ w'.cell? ⟨gb254, 0, none⟩ = some (.int .i64 t244) ∧ w'.cell? ⟨gb254, 1, none⟩ = some (.int .i64 t245) ∧ w'.cell? ⟨gb254, 2, none⟩ = some (.int .i64 t246) ∧ w'.cell? ⟨gb254, 3, none⟩ = some (.int .i64 t247) ∧ w'.cell? ⟨gb254, 4, none⟩ = some (.int .i64 t248) ∧ w'.cell? ⟨gb254, 5, none⟩ = some (.int .i64 t249) ∧ w'.cell? ⟨gb254, 6, none⟩ = some (.int .i64 t250) ∧ w'.cell? ⟨gb254, 7, none⟩ = some (.int .i64 t251) ∧ w'.cell? ⟨gb254, 8, none⟩ = some (.int .i64 t252) ∧ w'.cell? ⟨gb265, 0, none⟩ = some (.int .i64 t255) ∧ w'.cell? ⟨gb265, 1, none⟩ = some (.int .i64 t256) ∧ w'.cell? ⟨gb265, 2, none⟩ = some (.int .i64 t257) ∧ w'.cell? ⟨gb265, 3, none⟩ = some (.int .i64 t258) ∧ w'.cell? ⟨gb265, 4, none⟩ = some (.int .i64 t259) ∧ w'.cell? ⟨gb265, 5, none⟩ = some (.int .i64 t260) ∧ w'.cell? ⟨gb265, 6, none⟩ = some (.int .i64 t261) ∧ w'.cell? ⟨gb265, 7, none⟩ = some (.int .i64 t262) ∧ w'.cell? ⟨gb265, 8, none⟩ = some (.int .i64 t263)) (ds := []) #[false, false, false, false, false, false, false, false, false, false, false, false, false, false, false, false, false, false, false, false, false, false, false, false, false, false, false, false, false, false, false, false, false, false, false, false, false, false, false, false] (by kernel_rfl) rfl rfl ⟨(blk_cell BK229.out 0).trans rfl, (blk_cell BK229.out 1).trans rfl, (blk_cell BK229.out 2).trans rfl, (blk_cell BK229.out 3).trans rfl, (blk_cell BK229.out 4).trans rfl, (blk_cell BK229.out 5).trans rfl, (blk_cell BK229.out 6).trans rfl, (blk_cell BK229.out 7).trans rfl, (blk_cell BK229.out 8).trans rfl, (blk_cell BK254.out 0).trans rfl, (blk_cell BK254.out 1).trans rfl, (blk_cell BK254.out 2).trans rfl, (blk_cell BK254.out 3).trans rfl, (blk_cell BK254.out 4).trans rfl, (blk_cell BK254.out 5).trans rfl, (blk_cell BK254.out 6).trans rfl, (blk_cell BK254.out 7).trans rfl, (blk_cell BK254.out 8).trans rfl, (blk_cell BK265.out 0).trans rfl, (blk_cell BK265.out 1).trans rfl, (blk_cell BK265.out 2).trans rfl, (blk_cell BK265.out 3).trans rfl, (blk_cell BK265.out 4).trans rfl, (blk_cell BK265.out 5).trans rfl, (blk_cell BK265.out 6).trans rfl, (blk_cell BK265.out 7).trans rfl, (blk_cell BK265.out 8).trans rfl⟩ (fun hHeld => ?_); refine with_tabW apogeelaw07_PeerReports.tab7 apogeelaw07_PeerReports.bits7 (fun HT_ HW_ => ?_)
         generalize w65.drew = w66 at BK229 BK243 BK254 BK265 HB hHeld ⊢
         refine pure_ (i := 0) (N := some 37) (v := ?_) (a' := ?_) #[true, false, false, false, false, false, false, false, false, false, false, false, false, false, false, false, false, false, false, false, false, false, false, false, false, false, false, false, false, false, false, false, false, false, false, false, false, false, false, false] rfl rfl (any_of HT_.out (by kernel_rfl)) (fun _ _ _ h => h) (Or.inl ⟨by rfl, ?_⟩) ?_ ?_
         rotate_left
         ·intro w'
          go_simp
          with_reducible rfl
         rotate_left
         ·simp only [Act.put, sA, sB, sC, i64_w, i32_w]
          rfl
         refine take_ (i := 1) (N := some 38) (v := ?_) (a' := ?_) #[true, true, false, false, false, false, false, false, false, false, false, false, false, false, false, false, false, false, false, false, false, false, false, false, false, false, false, false, false, false, false, false, false, false, false, false, false, false, false, false] rfl rfl (take_ofW HT_.out HW_.out (by kernel_rfl)) (fun _ _ _ h => h) (Or.inl ⟨by rfl, ?_⟩) hHeld ?_ ?_
         rotate_left
         ·rintro w' ⟨s0, s1, s2, s3, s4, s5, s6, s7, s8, s9, s10, s11, s12, s13, s14, s15, s16, s17, s18, s19, s20, s21, s22, s23, s24, s25, s26⟩
          go_simp
          with_reducible rfl
         rotate_left
         ·simp only [Act.put, sA, sB, sC, i64_w, i32_w]
          rfl
         refine one_ (i := 2) (N := some 39) #[true, true, true, false, false, false, false, false, false, false, false, false, false, false, false, false, false, false, false, false, false, false, false, false, false, false, false, false, false, false, false, false, false, false, false, false, false, false, false, false] rfl rfl (one_of HT_.out (by kernel_rfl)) (by decide) (fun K hK => ?_)
         refine goes_ Try.func18 (by kernel_rfl) rfl #[.agg #[.int .i64 a0_0, .int .i64 a0_1, .int .i64 a0_2, .int .i64 a0_3, .int .i64 a0_4, .int .i64 a0_5, .int .i64 a0_6, .int .i64 a0_7, .int .i64 a0_8]] (by rfl) rfl rfl (by (try simp only [sD, List.map_cons, List.map_nil]); first | done | rfl) ?_
         with_reducible refine (apogeelaw07_likeReport.calls a0_0 a0_1 a0_2 a0_3 a0_4 a0_5 a0_6 a0_7 a0_8 t266 t267 t268 t269 t270 t271 t272 t273 t274 _ A16.out).mono ?_
         rintro e w67 ⟨rfl, hb⟩
         refine ⟨_, rfl, ?_⟩
         have n0_ := Aside0.mk (blk_below (g := gb229) BK229.out hb)
         have n1_ := Aside0.mk (blk_below (g := gb243) BK243.out hb)
         have n2_ := Aside0.mk (blk_below (g := gb254) BK254.out hb)
         have n3_ := Aside0.mk (blk_below (g := gb265) BK265.out hb)
         have n4_ := Aside0.mk (below_step (by repeat (first | (with_reducible first | exact HB.out | apply below_alloc | apply pw_below_drewN | apply below_drew1 | refine below_set ?_ GE229.out | refine below_set ?_ GE243.out | refine below_set ?_ GE254.out | refine below_set ?_ GE265.out) | exact HB.out)) hb)
         clear BK229
         clear BK243
         clear BK254
         clear BK265
         clear HB
         have BK229 := n0_
         have BK243 := n1_
         have BK254 := n2_
         have BK265 := n3_
         have HB := n4_
         clear n0_ n1_ n2_ n3_ n4_
         (try clear hb)
         (try clear hb2)
         (try clear hk)
         (try clear hi)
         refine hK.out _ _ ⟨(blk_cell BK229.out 0).trans rfl, (blk_cell BK229.out 1).trans rfl, (blk_cell BK229.out 2).trans rfl, (blk_cell BK229.out 3).trans rfl, (blk_cell BK229.out 4).trans rfl, (blk_cell BK229.out 5).trans rfl, (blk_cell BK229.out 6).trans rfl, (blk_cell BK229.out 7).trans rfl, (blk_cell BK229.out 8).trans rfl, (blk_cell BK254.out 0).trans rfl, (blk_cell BK254.out 1).trans rfl, (blk_cell BK254.out 2).trans rfl, (blk_cell BK254.out 3).trans rfl, (blk_cell BK254.out 4).trans rfl, (blk_cell BK254.out 5).trans rfl, (blk_cell BK254.out 6).trans rfl, (blk_cell BK254.out 7).trans rfl, (blk_cell BK254.out 8).trans rfl, (blk_cell BK265.out 0).trans rfl, (blk_cell BK265.out 1).trans rfl, (blk_cell BK265.out 2).trans rfl, (blk_cell BK265.out 3).trans rfl, (blk_cell BK265.out 4).trans rfl, (blk_cell BK265.out 5).trans rfl, (blk_cell BK265.out 6).trans rfl, (blk_cell BK265.out 7).trans rfl, (blk_cell BK265.out 8).trans rfl⟩ (fun hHeld => ?_)
         clear hK K
         refine norm_ (a' := ?_) ?_ ?_
         rotate_left
         ·show Act.put _ (some 39) _ = _
          simp only [Act.put, sA, sB, sC, i64_w, i32_w]
          rfl
         refine one_ (i := 3) (N := some 40) #[true, true, true, true, false, false, false, false, false, false, false, false, false, false, false, false, false, false, false, false, false, false, false, false, false, false, false, false, false, false, false, false, false, false, false, false, false, false, false, false] rfl rfl (one_of HT_.out (by kernel_rfl)) (by decide) (fun K hK => ?_)
         refine goes_ Try.func17 (by kernel_rfl) rfl #[.agg #[.int .i64 t266, .int .i64 t267, .int .i64 t268, .int .i64 t269, .int .i64 t270, .int .i64 t271, .int .i64 t272, .int .i64 t273, .int .i64 t274]] (by rfl) rfl rfl (by (try simp only [sD, List.map_cons, List.map_nil]); first | done | rfl) ?_
         with_reducible refine (apogeeref07_PrintReport.calls kj2 t266 t267 t268 t269 t270 t271 t272 t273 t274 t275 _ A17.out).mono ?_
         rintro e w68 ⟨rfl, hb⟩
         refine ⟨_, rfl, ?_⟩
         have n0_ := Aside0.mk (blk_below (g := gb229) BK229.out hb)
         have n1_ := Aside0.mk (blk_below (g := gb243) BK243.out hb)
         have n2_ := Aside0.mk (blk_below (g := gb254) BK254.out hb)
         have n3_ := Aside0.mk (blk_below (g := gb265) BK265.out hb)
         have n4_ := Aside0.mk (below_step (by repeat (first | (with_reducible first | exact HB.out | apply below_alloc | apply pw_below_drewN | apply below_drew1 | refine below_set ?_ GE229.out | refine below_set ?_ GE243.out | refine below_set ?_ GE254.out | refine below_set ?_ GE265.out) | exact HB.out)) hb)
         clear BK229
         clear BK243
         clear BK254
         clear BK265
         clear HB
         have BK229 := n0_
         have BK243 := n1_
         have BK254 := n2_
         have BK265 := n3_
         have HB := n4_
         clear n0_ n1_ n2_ n3_ n4_
         (try clear hb)
         (try clear hb2)
         (try clear hk)
         (try clear hi)
         refine hK.out _ _ ⟨(blk_cell BK229.out 0).trans rfl, (blk_cell BK229.out 1).trans rfl, (blk_cell BK229.out 2).trans rfl, (blk_cell BK229.out 3).trans rfl, (blk_cell BK229.out 4).trans rfl, (blk_cell BK229.out 5).trans rfl, (blk_cell BK229.out 6).trans rfl, (blk_cell BK229.out 7).trans rfl, (blk_cell BK229.out 8).trans rfl, (blk_cell BK254.out 0).trans rfl, (blk_cell BK254.out 1).trans rfl, (blk_cell BK254.out 2).trans rfl, (blk_cell BK254.out 3).trans rfl, (blk_cell BK254.out 4).trans rfl, (blk_cell BK254.out 5).trans rfl, (blk_cell BK254.out 6).trans rfl, (blk_cell BK254.out 7).trans rfl, (blk_cell BK254.out 8).trans rfl, (blk_cell BK265.out 0).trans rfl, (blk_cell BK265.out 1).trans rfl, (blk_cell BK265.out 2).trans rfl, (blk_cell BK265.out 3).trans rfl, (blk_cell BK265.out 4).trans rfl, (blk_cell BK265.out 5).trans rfl, (blk_cell BK265.out 6).trans rfl, (blk_cell BK265.out 7).trans rfl, (blk_cell BK265.out 8).trans rfl⟩ (fun hHeld => ?_)
         clear hK K
         refine norm_ (a' := ?_) ?_ ?_
         rotate_left
         ·show Act.put _ (some 40) _ = _
          simp only [Act.put, sA, sB, sC, i64_w, i32_w]
          rfl
         refine pure_ (i := 4) (N := some 41) (v := ?_) (a' := ?_) #[true, true, true, true, true, false, false, false, false, false, false, false, false, false, false, false, false, false, false, false, false, false, false, false, false, false, false, false, false, false, false, false, false, false, false, false, false, false, false, false] rfl rfl (any_of HT_.out (by kernel_rfl)) (fun _ _ _ h => h) (Or.inl ⟨by rfl, ?_⟩) ?_ ?_
         rotate_left
         ·intro w'
          go_simp
          with_reducible rfl
         rotate_left
         ·simp only [Act.put, sA, sB, sC, i64_w, i32_w]
          rfl
         refine pure_ (i := 5) (N := some 42) (v := ?_) (a' := ?_) #[true, true, true, true, true, true, false, false, false, false, false, false, false, false, false, false, false, false, false, false, false, false, false, false, false, false, false, false, false, false, false, false, false, false, false, false, false, false, false, false] rfl rfl (any_of HT_.out (by kernel_rfl)) (fun _ _ _ h => h) (Or.inl ⟨by rfl, ?_⟩) ?_ ?_
         rotate_left
         ·intro w'
          go_simp
          with_reducible rfl
         rotate_left
         ·simp only [Act.put, sA, sB, sC, i64_w, i32_w]
          rfl
         refine pure_ (i := 6) (N := some 43) (v := ?_) (a' := ?_) #[true, true, true, true, true, true, true, false, false, false, false, false, false, false, false, false, false, false, false, false, false, false, false, false, false, false, false, false, false, false, false, false, false, false, false, false, false, false, false, false] rfl rfl (any_of HT_.out (by kernel_rfl)) (fun _ _ _ h => h) (Or.inl ⟨by rfl, ?_⟩) ?_ ?_
         rotate_left
         ·intro w'
          go_simp
          with_reducible rfl
         rotate_left
         ·simp only [Act.put, sA, sB, sC, i64_w, i32_w]
          rfl
         refine pure_ (i := 7) (N := some 44) (v := ?_) (a' := ?_) #[true, true, true, true, true, true, true, true, false, false, false, false, false, false, false, false, false, false, false, false, false, false, false, false, false, false, false, false, false, false, false, false, false, false, false, false, false, false, false, false] rfl rfl (any_of HT_.out (by kernel_rfl)) (fun _ _ _ h => h) (Or.inl ⟨by rfl, ?_⟩) ?_ ?_
         rotate_left
         ·intro w'
          go_simp
          with_reducible rfl
         rotate_left
         ·simp only [Act.put, sA, sB, sC, i64_w, i32_w]
          rfl
         refine pure_ (i := 8) (N := some 45) (v := ?_) (a' := ?_) #[true, true, true, true, true, true, true, true, true, false, false, false, false, false, false, false, false, false, false, false, false, false, false, false, false, false, false, false, false, false, false, false, false, false, false, false, false, false, false, false] rfl rfl (any_of HT_.out (by kernel_rfl)) (fun _ _ _ h => h) (Or.inl ⟨by rfl, ?_⟩) ?_ ?_
         rotate_left
         ·intro w'
          go_simp
          with_reducible rfl
         rotate_left
         ·simp only [Act.put, sA, sB, sC, i64_w, i32_w]
          rfl
         refine pure_ (i := 9) (N := some 46) (v := undef) (a' := ?_) #[true, true, true, true, true, true, true, true, true, true, false, false, false, false, false, false, false, false, false, false, false, false, false, false, false, false, false, false, false, false, false, false, false, false, false, false, false, false, false, false] rfl rfl (any_of HT_.out (by kernel_rfl)) (fun _ _ _ h => h) (Or.inr ⟨by rfl, rfl⟩) ?_ ?_
         rotate_left
         ·simp only [Act.put, sA, sB, sC, i64_w, i32_w]
          rfl
         refine pure_ (i := 10) (N := some 47) (v := undef) (a' := ?_) #[true, true, true, true, true, true, true, true, true, true, true, false, false, false, false, false, false, false, false, false, false, false, false, false, false, false, false, false, false, false, false, false, false, false, false, false, false, false, false, false] rfl rfl (any_of HT_.out (by kernel_rfl)) (fun _ _ _ h => h) (Or.inr ⟨by rfl, rfl⟩) ?_ ?_
         rotate_left
         ·simp only [Act.put, sA, sB, sC, i64_w, i32_w]
          rfl
         refine pure_ (i := 11) (N := some 48) (v := undef) (a' := ?_) #[true, true, true, true, true, true, true, true, true, true, true, true, false, false, false, false, false, false, false, false, false, false, false, false, false, false, false, false, false, false, false, false, false, false, false, false, false, false, false, false] rfl rfl (any_of HT_.out (by kernel_rfl)) (fun _ _ _ h => h) (Or.inr ⟨by rfl, rfl⟩) ?_ ?_
         rotate_left
         ·simp only [Act.put, sA, sB, sC, i64_w, i32_w]
          rfl
         refine pure_ (i := 12) (N := some 49) (v := undef) (a' := ?_) #[true, true, true, true, true, true, true, true, true, true, true, true, true, false, false, false, false, false, false, false, false, false, false, false, false, false, false, false, false, false, false, false, false, false, false, false, false, false, false, false] rfl rfl (any_of HT_.out (by kernel_rfl)) (fun _ _ _ h => h) (Or.inr ⟨by rfl, rfl⟩) ?_ ?_
         rotate_left
         ·simp only [Act.put, sA, sB, sC, i64_w, i32_w]
          rfl
         refine pure_ (i := 13) (N := some 50) (v := undef) (a' := ?_) #[true, true, true, true, true, true, true, true, true, true, true, true, true, true, false, false, false, false, false, false, false, false, false, false, false, false, false, false, false, false, false, false, false, false, false, false, false, false, false, false] rfl rfl (any_of HT_.out (by kernel_rfl)) (fun _ _ _ h => h) (Or.inr ⟨by rfl, rfl⟩) ?_ ?_
         rotate_left
         ·simp only [Act.put, sA, sB, sC, i64_w, i32_w]
          rfl
         refine pure_ (i := 14) (N := some 51) (v := undef) (a' := ?_) #[true, true, true, true, true, true, true, true, true, true, true, true, true, true, true, false, false, false, false, false, false, false, false, false, false, false, false, false, false, false, false, false, false, false, false, false, false, false, false, false] rfl rfl (any_of HT_.out (by kernel_rfl)) (fun _ _ _ h => h) (Or.inr ⟨by rfl, rfl⟩) ?_ ?_
         rotate_left
         ·simp only [Act.put, sA, sB, sC, i64_w, i32_w]
          rfl
         refine pure_ (i := 15) (N := some 52) (v := undef) (a' := ?_) #[true, true, true, true, true, true, true, true, true, true, true, true, true, true, true, true, false, false, false, false, false, false, false, false, false, false, false, false, false, false, false, false, false, false, false, false, false, false, false, false] rfl rfl (any_of HT_.out (by kernel_rfl)) (fun _ _ _ h => h) (Or.inr ⟨by rfl, rfl⟩) ?_ ?_
         rotate_left
         ·simp only [Act.put, sA, sB, sC, i64_w, i32_w]
          rfl
         refine pure_ (i := 16) (N := some 53) (v := ?_) (a' := ?_) #[true, true, true, true, true, true, true, true, true, true, true, true, true, true, true, true, true, false, false, false, false, false, false, false, false, false, false, false, false, false, false, false, false, false, false, false, false, false, false, false] rfl rfl (any_of HT_.out (by kernel_rfl)) (fun _ _ _ h => h) (Or.inl ⟨by rfl, ?_⟩) ?_ ?_
         rotate_left
         ·intro w'
          go_simp
          with_reducible rfl
         rotate_left
         ·simp only [Act.put, sA, sB, sC, i64_w, i32_w]
          rfl
         refine pure_ (i := 17) (N := some 54) (v := ?_) (a' := ?_) #[true, true, true, true, true, true, true, true, true, true, true, true, true, true, true, true, true, true, false, false, false, false, false, false, false, false, false, false, false, false, false, false, false, false, false, false, false, false, false, false] rfl rfl (any_of HT_.out (by kernel_rfl)) (fun _ _ _ h => h) (Or.inl ⟨by rfl, ?_⟩) ?_ ?_
         rotate_left
         ·intro w'
          go_simp
          with_reducible rfl
         rotate_left
         ·simp only [Act.put, sA, sB, sC, i64_w, i32_w]
          rfl
         refine pure_ (i := 18) (N := some 55) (v := ?_) (a' := ?_) #[true, true, true, true, true, true, true, true, true, true, true, true, true, true, true, true, true, true, true, false, false, false, false, false, false, false, false, false, false, false, false, false, false, false, false, false, false, false, false, false] rfl rfl (any_of HT_.out (by kernel_rfl)) (fun _ _ _ h => h) (Or.inl ⟨by rfl, ?_⟩) ?_ ?_
         rotate_left
         ·intro w'
          go_simp
          with_reducible rfl
         rotate_left
         ·simp only [Act.put, sA, sB, sC, i64_w, i32_w]
          rfl
         refine take_ (i := 19) (N := some 56) (v := ?_) (a' := ?_) #[true, true, true, true, true, true, true, true, true, true, true, true, true, true, true, true, true, true, true, true, false, false, false, false, false, false, false, false, false, false, false, false, false, false, false, false, false, false, false, false] rfl rfl (take_ofW HT_.out HW_.out (by kernel_rfl)) (fun _ _ _ h => h) (Or.inl ⟨by rfl, ?_⟩) hHeld ?_ ?_
         rotate_left
         ·rintro w' ⟨s0, s1, s2, s3, s4, s5, s6, s7, s8, s9, s10, s11, s12, s13, s14, s15, s16, s17, s18, s19, s20, s21, s22, s23, s24, s25, s26⟩
          go_simp
          with_reducible rfl
         rotate_left
         ·simp only [Act.put, sA, sB, sC, i64_w, i32_w]
          rfl
         refine take_ (i := 21) (N := some 58) (v := ?_) (a' := ?_) #[true, true, true, true, true, true, true, true, true, true, true, true, true, true, true, true, true, true, true, true, false, true, false, false, false, false, false, false, false, false, false, false, false, false, false, false, false, false, false, false] rfl rfl (take_ofW HT_.out HW_.out (by kernel_rfl)) (fun _ _ _ h => h) (Or.inl ⟨by rfl, ?_⟩) hHeld ?_ ?_
         rotate_left
         ·rintro w' ⟨s0, s1, s2, s3, s4, s5, s6, s7, s8, s9, s10, s11, s12, s13, s14, s15, s16, s17, s18, s19, s20, s21, s22, s23, s24, s25, s26⟩
          go_simp
          with_reducible rfl
         rotate_left
         ·simp only [Act.put, sA, sB, sC, i64_w, i32_w]
          rfl
         refine one_ (i := 20) (N := some 57) #[true, true, true, true, true, true, true, true, true, true, true, true, true, true, true, true, true, true, true, true, true, true, false, false, false, false, false, false, false, false, false, false, false, false, false, false, false, false, false, false] rfl rfl (one_of HT_.out (by kernel_rfl)) (by decide) (fun K hK => ?_)
         refine goes_ Try.func18 (by kernel_rfl) rfl #[.agg #[.int .i64 t244, .int .i64 t245, .int .i64 t246, .int .i64 t247, .int .i64 t248, .int .i64 t249, .int .i64 t250, .int .i64 t251, .int .i64 t252]] (by rfl) rfl rfl (by (try simp only [sD, List.map_cons, List.map_nil]); first | done | rfl) ?_
         with_reducible refine (apogeelaw07_likeReport.calls t244 t245 t246 t247 t248 t249 t250 t251 t252 t276 t277 t278 t279 t280 t281 t282 t283 t284 _ A20.out).mono ?_
         rintro e w69 ⟨rfl, hb⟩
         refine ⟨_, rfl, ?_⟩
         have n0_ := Aside0.mk (blk_below (g := gb229) BK229.out hb)
         have n1_ := Aside0.mk (blk_below (g := gb243) BK243.out hb)
         have n2_ := Aside0.mk (blk_below (g := gb254) BK254.out hb)
         have n3_ := Aside0.mk (blk_below (g := gb265) BK265.out hb)
         have n4_ := Aside0.mk (below_step (by repeat (first | (with_reducible first | exact HB.out | apply below_alloc | apply pw_below_drewN | apply below_drew1 | refine below_set ?_ GE229.out | refine below_set ?_ GE243.out | refine below_set ?_ GE254.out | refine below_set ?_ GE265.out) | exact HB.out)) hb)
         clear BK229
         clear BK243
         clear BK254
         clear BK265
         clear HB
         have BK229 := n0_
         have BK243 := n1_
         have BK254 := n2_
         have BK265 := n3_
         have HB := n4_
         clear n0_ n1_ n2_ n3_ n4_
         (try clear hb)
         (try clear hb2)
         (try clear hk)
         (try clear hi)
         refine hK.out _ _ ⟨(blk_cell BK229.out 0).trans rfl, (blk_cell BK229.out 1).trans rfl, (blk_cell BK229.out 2).trans rfl, (blk_cell BK229.out 3).trans rfl, (blk_cell BK229.out 4).trans rfl, (blk_cell BK229.out 5).trans rfl, (blk_cell BK229.out 6).trans rfl, (blk_cell BK229.out 7).trans rfl, (blk_cell BK229.out 8).trans rfl, (blk_cell BK254.out 0).trans rfl, (blk_cell BK254.out 1).trans rfl, (blk_cell BK254.out 2).trans rfl, (blk_cell BK254.out 3).trans rfl, (blk_cell BK254.out 4).trans rfl, (blk_cell BK254.out 5).trans rfl, (blk_cell BK254.out 6).trans rfl, (blk_cell BK254.out 7).trans rfl, (blk_cell BK254.out 8).trans rfl, (blk_cell BK265.out 0).trans rfl, (blk_cell BK265.out 1).trans rfl, (blk_cell BK265.out 2).trans rfl, (blk_cell BK265.out 3).trans rfl, (blk_cell BK265.out 4).trans rfl, (blk_cell BK265.out 5).trans rfl, (blk_cell BK265.out 6).trans rfl, (blk_cell BK265.out 7).trans rfl, (blk_cell BK265.out 8).trans rfl⟩ (fun hHeld => ?_)
         clear hK K
         refine norm_ (a' := ?_) ?_ ?_
         rotate_left
         ·show Act.put _ (some 57) _ = _
          simp only [Act.put, sA, sB, sC, i64_w, i32_w]
          rfl
         refine pure_ (i := 22) (N := some 59) (v := ?_) (a' := ?_) #[true, true, true, true, true, true, true, true, true, true, true, true, true, true, true, true, true, true, true, true, true, true, true, false, false, false, false, false, false, false, false, false, false, false, false, false, false, false, false, false] rfl rfl (any_of HT_.out (by kernel_rfl)) (fun _ _ _ h => h) (Or.inl ⟨by rfl, ?_⟩) ?_ ?_
         rotate_left
         ·intro w'
          go_simp
          with_reducible rfl
         rotate_left
         ·simp only [Act.put, sA, sB, sC, i64_w, i32_w]
          rfl
         refine pure_ (i := 23) (N := some 60) (v := ?_) (a' := ?_) #[true, true, true, true, true, true, true, true, true, true, true, true, true, true, true, true, true, true, true, true, true, true, true, true, false, false, false, false, false, false, false, false, false, false, false, false, false, false, false, false] rfl rfl (any_of HT_.out (by kernel_rfl)) (fun _ _ _ h => h) (Or.inl ⟨by rfl, ?_⟩) ?_ ?_
         rotate_left
         ·intro w'
          go_simp
          with_reducible rfl
         rotate_left
         ·simp only [Act.put, sA, sB, sC, i64_w, i32_w]
          rfl
         refine pure_ (i := 24) (N := some 61) (v := ?_) (a' := ?_) #[true, true, true, true, true, true, true, true, true, true, true, true, true, true, true, true, true, true, true, true, true, true, true, true, true, false, false, false, false, false, false, false, false, false, false, false, false, false, false, false] rfl rfl (any_of HT_.out (by kernel_rfl)) (fun _ _ _ h => h) (Or.inl ⟨by rfl, ?_⟩) ?_ ?_
         rotate_left
         ·intro w'
          go_simp
          with_reducible rfl
         rotate_left
         ·simp only [Act.put, sA, sB, sC, i64_w, i32_w]
          rfl
         refine pure_ (i := 25) (N := some 62) (v := ?_) (a' := ?_) #[true, true, true, true, true, true, true, true, true, true, true, true, true, true, true, true, true, true, true, true, true, true, true, true, true, true, false, false, false, false, false, false, false, false, false, false, false, false, false, false] rfl rfl (any_of HT_.out (by kernel_rfl)) (fun _ _ _ h => h) (Or.inl ⟨by rfl, ?_⟩) ?_ ?_
         rotate_left
         ·intro w'
          go_simp
          with_reducible rfl
         rotate_left
         ·simp only [Act.put, sA, sB, sC, i64_w, i32_w]
          rfl
         refine pure_ (i := 26) (N := some 63) (v := ?_) (a' := ?_) #[true, true, true, true, true, true, true, true, true, true, true, true, true, true, true, true, true, true, true, true, true, true, true, true, true, true, true, false, false, false, false, false, false, false, false, false, false, false, false, false] rfl rfl (any_of HT_.out (by kernel_rfl)) (fun _ _ _ h => h) (Or.inl ⟨by rfl, ?_⟩) ?_ ?_
         rotate_left
         ·intro w'
          go_simp
          with_reducible rfl
         rotate_left
         ·simp only [Act.put, sA, sB, sC, i64_w, i32_w]
          rfl
         refine pure_ (i := 27) (N := some 64) (v := ?_) (a' := ?_) #[true, true, true, true, true, true, true, true, true, true, true, true, true, true, true, true, true, true, true, true, true, true, true, true, true, true, true, true, false, false, false, false, false, false, false, false, false, false, false, false] rfl rfl (any_of HT_.out (by kernel_rfl)) (fun _ _ _ h => h) (Or.inl ⟨by rfl, ?_⟩) ?_ ?_
         rotate_left
         ·intro w'
          go_simp
          with_reducible rfl
         rotate_left
         ·simp only [Act.put, sA, sB, sC, i64_w, i32_w]
          rfl
         refine pure_ (i := 28) (N := some 65) (v := ?_) (a' := ?_) #[true, true, true, true, true, true, true, true, true, true, true, true, true, true, true, true, true, true, true, true, true, true, true, true, true, true, true, true, true, false, false, false, false, false, false, false, false, false, false, false] rfl rfl (any_of HT_.out (by kernel_rfl)) (fun _ _ _ h => h) (Or.inl ⟨by rfl, ?_⟩) ?_ ?_
         rotate_left
         ·intro w'
          go_simp
          with_reducible rfl
         rotate_left
         ·simp only [Act.put, sA, sB, sC, i64_w, i32_w]
          rfl
         refine pure_ (i := 29) (N := some 66) (v := ?_) (a' := ?_) #[true, true, true, true, true, true, true, true, true, true, true, true, true, true, true, true, true, true, true, true, true, true, true, true, true, true, true, true, true, true, false, false, false, false, false, false, false, false, false, false] rfl rfl (any_of HT_.out (by kernel_rfl)) (fun _ _ _ h => h) (Or.inl ⟨by rfl, ?_⟩) ?_ ?_
         rotate_left
         ·intro w'
          go_simp
          with_reducible rfl
         rotate_left
         ·simp only [Act.put, sA, sB, sC, i64_w, i32_w]
          rfl
         refine pure_ (i := 30) (N := some 67) (v := ?_) (a' := ?_) #[true, true, true, true, true, true, true, true, true, true, true, true, true, true, true, true, true, true, true, true, true, true, true, true, true, true, true, true, true, true, true, false, false, false, false, false, false, false, false, false] rfl rfl (any_of HT_.out (by kernel_rfl)) (fun _ _ _ h => h) (Or.inl ⟨by rfl, ?_⟩) ?_ ?_
         rotate_left
         ·intro w'
          go_simp
          with_reducible rfl
         rotate_left
         ·simp only [Act.put, sA, sB, sC, i64_w, i32_w]
          rfl
         refine pure_ (i := 31) (N := some 68) (v := ?_) (a' := ?_) #[true, true, true, true, true, true, true, true, true, true, true, true, true, true, true, true, true, true, true, true, true, true, true, true, true, true, true, true, true, true, true, true, false, false, false, false, false, false, false, false] rfl rfl (any_of HT_.out (by kernel_rfl)) (fun _ _ _ h => h) (Or.inl ⟨by rfl, ?_⟩) ?_ ?_
         rotate_left
         ·intro w'
          go_simp
          with_reducible rfl
         rotate_left
         ·simp only [Act.put, sA, sB, sC, i64_w, i32_w]
          rfl
         refine pure_ (i := 32) (N := some 69) (v := ?_) (a' := ?_) #[true, true, true, true, true, true, true, true, true, true, true, true, true, true, true, true, true, true, true, true, true, true, true, true, true, true, true, true, true, true, true, true, true, false, false, false, false, false, false, false] rfl rfl (any_of HT_.out (by kernel_rfl)) (fun _ _ _ h => h) (Or.inl ⟨by rfl, ?_⟩) ?_ ?_
         rotate_left
         ·intro w'
          go_simp
          with_reducible rfl
         rotate_left
         ·simp only [Act.put, sA, sB, sC, i64_w, i32_w]
          rfl
         refine pure_ (i := 33) (N := some 70) (v := undef) (a' := ?_) #[true, true, true, true, true, true, true, true, true, true, true, true, true, true, true, true, true, true, true, true, true, true, true, true, true, true, true, true, true, true, true, true, true, true, false, false, false, false, false, false] rfl rfl (any_of HT_.out (by kernel_rfl)) (fun _ _ _ h => h) (Or.inr ⟨by rfl, rfl⟩) ?_ ?_
         rotate_left
         ·simp only [Act.put, sA, sB, sC, i64_w, i32_w]
          rfl
         refine pure_ (i := 34) (N := some 71) (v := undef) (a' := ?_) #[true, true, true, true, true, true, true, true, true, true, true, true, true, true, true, true, true, true, true, true, true, true, true, true, true, true, true, true, true, true, true, true, true, true, true, false, false, false, false, false] rfl rfl (any_of HT_.out (by kernel_rfl)) (fun _ _ _ h => h) (Or.inr ⟨by rfl, rfl⟩) ?_ ?_
         rotate_left
         ·simp only [Act.put, sA, sB, sC, i64_w, i32_w]
          rfl
         refine pure_ (i := 35) (N := some 72) (v := undef) (a' := ?_) #[true, true, true, true, true, true, true, true, true, true, true, true, true, true, true, true, true, true, true, true, true, true, true, true, true, true, true, true, true, true, true, true, true, true, true, true, false, false, false, false] rfl rfl (any_of HT_.out (by kernel_rfl)) (fun _ _ _ h => h) (Or.inr ⟨by rfl, rfl⟩) ?_ ?_
         rotate_left
         ·simp only [Act.put, sA, sB, sC, i64_w, i32_w]
          rfl
         refine pure_ (i := 36) (N := some 73) (v := undef) (a' := ?_) #[true, true, true, true, true, true, true, true, true, true, true, true, true, true, true, true, true, true, true, true, true, true, true, true, true, true, true, true, true, true, true, true, true, true, true, true, true, false, false, false] rfl rfl (any_of HT_.out (by kernel_rfl)) (fun _ _ _ h => h) (Or.inr ⟨by rfl, rfl⟩) ?_ ?_
         rotate_left
         ·simp only [Act.put, sA, sB, sC, i64_w, i32_w]
          rfl
         refine pure_ (i := 37) (N := some 74) (v := ?_) (a' := ?_) #[true, true, true, true, true, true, true, true, true, true, true, true, true, true, true, true, true, true, true, true, true, true, true, true, true, true, true, true, true, true, true, true, true, true, true, true, true, true, false, false] rfl rfl (any_of HT_.out (by kernel_rfl)) (fun _ _ _ h => h) (Or.inl ⟨by rfl, ?_⟩) ?_ ?_
         rotate_left
         ·intro w'
          go_simp
          with_reducible rfl
         rotate_left
         ·simp only [Act.put, sA, sB, sC, i64_w, i32_w]
          rfl
         refine pure_ (i := 38) (N := some 75) (v := ?_) (a' := ?_) #[true, true, true, true, true, true, true, true, true, true, true, true, true, true, true, true, true, true, true, true, true, true, true, true, true, true, true, true, true, true, true, true, true, true, true, true, true, true, true, false] rfl rfl (any_of HT_.out (by kernel_rfl)) (fun _ _ _ h => h) (Or.inl ⟨by rfl, ?_⟩) ?_ ?_
         rotate_left
         ·intro w'
          go_simp
          with_reducible rfl
         rotate_left
         ·simp only [Act.put, sA, sB, sC, i64_w, i32_w]
          rfl
         refine pure_ (i := 39) (N := some 4) (v := ?_) (a' := ?_) #[true, true, true, true, true, true, true, true, true, true, true, true, true, true, true, true, true, true, true, true, true, true, true, true, true, true, true, true, true, true, true, true, true, true, true, true, true, true, true, true] rfl rfl (any_of HT_.out (by kernel_rfl)) (fun _ _ _ h => h) (Or.inl ⟨by rfl, ?_⟩) ?_ ?_
         rotate_left
         ·intro w'
          go_simp
          with_reducible rfl
         rotate_left
         ·simp only [Act.put, sA, sB, sC, i64_w, i32_w]
          rfl
         refine done_ (done_of HT_.out (by kernel_rfl)) ?_
         try go_wp2
         go_ret
         exact ⟨by first | rfl | (simp [errW_none, errW_some] <;> rfl) | (simp [*, errW_none, errW_some] <;> rfl), by repeat (first | (with_reducible first | exact HB.out | apply below_alloc | apply pw_below_drewN | apply below_drew1 | refine below_set ?_ GE229.out | refine below_set ?_ GE243.out | refine below_set ?_ GE254.out | refine below_set ?_ GE265.out) | exact HB.out)⟩
       ·rw [if_neg c22] at H
        exact absurd H (by simp)
      ·rw [if_neg c21] at H
       exact absurd H (by simp)
     ·rw [if_neg c19] at H
      have c19b0 : (t232.toList == ([] : List UInt8)) = false := beq_eq_false_iff_ne.mpr c19
      have c19b1 : (t232.toList != ([] : List UInt8)) = true := bne_iff_ne.mpr c19
      by_cases c70 : (t233 == a0_0 && (t234 == a0_1 && (t235 == a0_2 && (t236 == a0_3 && (t237 == a0_4 && (t238 == a0_5 && ((t239 == a0_6 && (t240 == a0_7)) && (t241 == a0_8)))))))) = true
      ·rw [if_pos c70] at H
       have c70b0 : (t233 == a0_0 && (t234 == a0_1 && (t235 == a0_2 && (t236 == a0_3 && (t237 == a0_4 && (t238 == a0_5 && ((t239 == a0_6 && (t240 == a0_7)) && (t241 == a0_8)))))))) = true := c70
       (try (have c70b1 : decide (t233 = a0_0 && (t234 == a0_1 && (t235 == a0_2 && (t236 == a0_3 && (t237 == a0_4 && (t238 == a0_5 && ((t239 == a0_6 && (t240 == a0_7)) && (t241 == a0_8)))))))) = true := by simpa using c70))
       (try (have c70b2 : (t233 == a0_0 && (t234 == a0_1 && (t235 == a0_2 && (t236 == a0_3 && (t237 == a0_4 && (t238 == a0_5 && ((t239 == a0_6 && (t240 == a0_7)) && (t241 == a0_8)))))))) = true := by simpa using c70))
       clear c70
       by_cases c71 : t242 = 0
       ·rw [if_pos c71] at H
        have c71b0 : (t242 == 0) = true := beq_iff_eq.mpr c71
        have c71b1 : (t242 != 0) = false := bne_eq_false_iff_eq.mpr c71
        clear c71
        replace H := Option.bind_eq_some_iff.mp H
        obtain ⟨⟨t286, t287, t288, t289, t290, t291, t292, t293, t294⟩, A720, H⟩ := H
        replace H : (if (t286 == t255 && (t287 == t256 && (t288 == t257 && (t289 == t258 && (t290 == t259 && (t291 == t260 && ((t292 == t261 && (t293 == t262)) && (t294 == t263)))))))) = true then (if t253 = t264 then (if t264 = 0 then ((peer_PrintReport.f kj2 t244 t245 t246 t247 t248 t249 t250 t251 t252).bind fun t295 => (some (t295.toList == a1.toList))) else (some true)) else (none)) else (none)) = some r := H
        have A72 := Aside0.mk A720
        clear A720
        by_cases c73 : (t286 == t255 && (t287 == t256 && (t288 == t257 && (t289 == t258 && (t290 == t259 && (t291 == t260 && ((t292 == t261 && (t293 == t262)) && (t294 == t263)))))))) = true
        ·rw [if_pos c73] at H
         have c73b0 : (t286 == t255 && (t287 == t256 && (t288 == t257 && (t289 == t258 && (t290 == t259 && (t291 == t260 && ((t292 == t261 && (t293 == t262)) && (t294 == t263)))))))) = true := c73
         (try (have c73b1 : decide (t286 = t255 && (t287 == t256 && (t288 == t257 && (t289 == t258 && (t290 == t259 && (t291 == t260 && ((t292 == t261 && (t293 == t262)) && (t294 == t263)))))))) = true := by simpa using c73))
         (try (have c73b2 : (t286 == t255 && (t287 == t256 && (t288 == t257 && (t289 == t258 && (t290 == t259 && (t291 == t260 && ((t292 == t261 && (t293 == t262)) && (t294 == t263)))))))) = true := by simpa using c73))
         clear c73
         by_cases c74 : t253 = t264
         ·rw [if_pos c74] at H
          have c74b0 : (t253 == t264) = true := beq_iff_eq.mpr c74
          have c74b1 : (t253 != t264) = false := bne_eq_false_iff_eq.mpr c74
          clear c74
          by_cases c75 : t264 = 0
          ·rw [if_pos c75] at H
           have c75b0 : (t264 == 0) = true := beq_iff_eq.mpr c75
           have c75b1 : (t264 != 0) = false := bne_eq_false_iff_eq.mpr c75
           clear c75
           replace H := Option.bind_eq_some_iff.mp H
           obtain ⟨t295, A760, H⟩ := H
           replace H : (some (t295.toList == a1.toList)) = some r := H
           have A76 := Aside0.mk A760
           clear A760
           obtain rfl := Option.some.inj H
           have hcz77_0 : wc.cell? ⟨gb229, 0, none⟩ = some (.int .i64 a0_0) := (blk_cell BK229.out 0).trans rfl
           have hcz77_1 : wc.cell? ⟨gb229, 1, none⟩ = some (.int .i64 a0_1) := (blk_cell BK229.out 1).trans rfl
           have hcz77_2 : wc.cell? ⟨gb229, 2, none⟩ = some (.int .i64 a0_2) := (blk_cell BK229.out 2).trans rfl
           have hcz77_3 : wc.cell? ⟨gb229, 3, none⟩ = some (.int .i64 a0_3) := (blk_cell BK229.out 3).trans rfl
           have hcz77_4 : wc.cell? ⟨gb229, 4, none⟩ = some (.int .i64 a0_4) := (blk_cell BK229.out 4).trans rfl
           have hcz77_5 : wc.cell? ⟨gb229, 5, none⟩ = some (.int .i64 a0_5) := (blk_cell BK229.out 5).trans rfl
           have hcz77_6 : wc.cell? ⟨gb229, 6, none⟩ = some (.int .i64 a0_6) := (blk_cell BK229.out 6).trans rfl
           have hcz77_7 : wc.cell? ⟨gb229, 7, none⟩ = some (.int .i64 a0_7) := (blk_cell BK229.out 7).trans rfl
           have hcz77_8 : wc.cell? ⟨gb229, 8, none⟩ = some (.int .i64 a0_8) := (blk_cell BK229.out 8).trans rfl
           have hfz77_0 := blk_frozen BK229.out 0
           have hfz77_1 := blk_frozen BK229.out 1
           have hfz77_2 := blk_frozen BK229.out 2
           have hfz77_3 := blk_frozen BK229.out 3
           have hfz77_4 := blk_frozen BK229.out 4
           have hfz77_5 := blk_frozen BK229.out 5
           have hfz77_6 := blk_frozen BK229.out 6
           have hfz77_7 := blk_frozen BK229.out 7
           have hfz77_8 := blk_frozen BK229.out 8
           have tk3_1_ : True := trivial
           have tk3_3_ : True := trivial
           try go_wp2_with (first | ((with_reducible refine gate_callee (f := 14) rfl ?_); refine goesL_ (some 21) rfl rfl Try.func14 (by kernel_rfl) rfl #[.agg #[.int .i64 a0_0, .int .i64 a0_1, .int .i64 a0_2, .int .i64 a0_3, .int .i64 a0_4, .int .i64 a0_5, .int .i64 a0_6, .int .i64 a0_7, .int .i64 a0_8]] rfl (by (try simp only [sD, List.map_cons, List.map_nil]); first | done | rfl) ?_; (with_reducible refine (peer_PrintReport.calls kj2 a0_0 a0_1 a0_2 a0_3 a0_4 a0_5 a0_6 a0_7 a0_8 t232 _ A12.out).mono ?_); rintro e w78 ⟨rfl, hb⟩; refine ⟨_, rfl, ?_⟩; have n0_ := Aside0.mk (blk_below (g := gb229) BK229.out hb); have n1_ := Aside0.mk (below_step (by repeat (first | (with_reducible first | exact HB.out | apply below_alloc | apply pw_below_drewN | apply below_drew1 | refine below_set ?_ GE229.out) | exact HB.out)) hb); clear BK229; clear HB; have BK229 := n0_; have HB := n1_; clear n0_ n1_; (try clear hb)) | ((with_reducible refine gate_callee (f := 15) rfl ?_); have q_ := tk3_1_; clear q_ tk3_1_; refine goesL_ (some 24) rfl rfl Try.func15 (by kernel_rfl) rfl #[.string t232] rfl (by (try simp only [sD, List.map_cons, List.map_nil]); first | done | rfl) ?_; (with_reducible refine (peer_ReadReport.calls kj2 t232 t233 t234 t235 t236 t237 t238 t239 t240 t241 t242 _ A13.out).mono ?_); rintro e w79 ⟨rfl, hb⟩; refine ⟨_, rfl, ?_⟩; have n0_ := Aside0.mk (blk_below (g := gb229) BK229.out hb); have n1_ := Aside0.mk (below_step (by repeat (first | (with_reducible first | exact HB.out | apply below_alloc | apply pw_below_drewN | apply below_drew1 | refine below_set ?_ GE229.out) | exact HB.out)) hb); clear BK229; clear HB; have BK229 := n0_; have HB := n1_; clear n0_ n1_; (try clear hb)) | ((with_reducible refine gate_dst (N := 6) rfl ?_); (try (refine gate_guard (by rfl) ?_; dsimp only)); refine box_event ?hg (N := 6) ?hd (cs := #[.int .i64 0, .int .i64 0, .int .i64 0, .int .i64 0, .int .i64 0, .int .i64 0, .int .i64 0, .int .i64 0, .int .i64 0]) (t := 37) ?hr ?_; (case hd => rfl); (case hg => rfl); (case hr => first | (go_simp; done) | (go_simp; rfl)); intro gb243 hg w80 hbox hb; have n0_ := Aside0.mk (blk_below (g := gb229) BK229.out hb); have n1_ := Aside0.mk (below_step (by repeat (first | (with_reducible first | exact HB.out | apply below_alloc | apply pw_below_drewN | apply below_drew1 | refine below_set ?_ GE229.out) | exact HB.out)) hb); have n2_ := Aside0.mk (hbox); have n3_ := Aside0.mk ((by rw [hg]; exact (below_size (by repeat (first | (with_reducible first | exact HB.out | apply below_alloc | apply pw_below_drewN | apply below_drew1 | refine below_set ?_ GE229.out) | exact HB.out))) : w.heap.size ≤ gb243)); have n4_ := n3_; have n5_ := Aside0.mk ((by rw [hg]; exact Nat.ne_of_lt (blk_lt (g := gb229) BK229.out) : gb229 ≠ gb243)); have n6_ := Aside0.mk ((by rw [hg]; exact Nat.ne_of_gt (blk_lt (g := gb229) BK229.out) : gb243 ≠ gb229)); clear BK229; clear HB; have BK229 := n0_; have HB := n1_; have BK243 := n2_; have GW243 := n3_; have GE243 := n4_; have NB229_243 := n5_; have NB243_229 := n6_; clear n0_ n1_ n2_ n3_ n4_ n5_ n6_; clear hb hbox hg; have hnb81 := NB243_229.out; have hnc81 := NB229_243.out; have hcz82_0 : w80.cell? ⟨gb243, 0, none⟩ = some (.int .i64 0) := (blk_cell BK243.out 0).trans rfl; have hcz82_1 : w80.cell? ⟨gb243, 1, none⟩ = some (.int .i64 0) := (blk_cell BK243.out 1).trans rfl; have hcz82_2 : w80.cell? ⟨gb243, 2, none⟩ = some (.int .i64 0) := (blk_cell BK243.out 2).trans rfl; have hcz82_3 : w80.cell? ⟨gb243, 3, none⟩ = some (.int .i64 0) := (blk_cell BK243.out 3).trans rfl; have hcz82_4 : w80.cell? ⟨gb243, 4, none⟩ = some (.int .i64 0) := (blk_cell BK243.out 4).trans rfl; have hcz82_5 : w80.cell? ⟨gb243, 5, none⟩ = some (.int .i64 0) := (blk_cell BK243.out 5).trans rfl; have hcz82_6 : w80.cell? ⟨gb243, 6, none⟩ = some (.int .i64 0) := (blk_cell BK243.out 6).trans rfl; have hcz82_7 : w80.cell? ⟨gb243, 7, none⟩ = some (.int .i64 0) := (blk_cell BK243.out 7).trans rfl; have hcz82_8 : w80.cell? ⟨gb243, 8, none⟩ = some (.int .i64 0) := (blk_cell BK243.out 8).trans rfl; have hfz82_0 := blk_frozen BK243.out 0; have hfz82_1 := blk_frozen BK243.out 1; have hfz82_2 := blk_frozen BK243.out 2; have hfz82_3 := blk_frozen BK243.out 3; have hfz82_4 := blk_frozen BK243.out 4; have hfz82_5 := blk_frozen BK243.out 5; have hfz82_6 := blk_frozen BK243.out 6; have hfz82_7 := blk_frozen BK243.out 7; have hfz82_8 := blk_frozen BK243.out 8) | ((with_reducible refine gate_callee (f := 15) rfl ?_); have q_ := tk3_3_; clear q_ tk3_3_; refine goesL_ (some 29) rfl rfl Try.func15 (by kernel_rfl) rfl #[.string a1] rfl (by (try simp only [sD, List.map_cons, List.map_nil]); first | done | rfl) ?_; (with_reducible refine (peer_ReadReport.calls kj2 a1 t244 t245 t246 t247 t248 t249 t250 t251 t252 t253 _ A14.out).mono ?_); rintro e w83 ⟨rfl, hb⟩; refine ⟨_, rfl, ?_⟩; have n0_ := Aside0.mk (blk_below (g := gb229) (o := .cells #[.int .i64 a0_0, .int .i64 a0_1, .int .i64 a0_2, .int .i64 a0_3, .int .i64 a0_4, .int .i64 a0_5, .int .i64 a0_6, .int .i64 a0_7, .int .i64 a0_8] 37 (0, 0)) (by refine blk_far ?_ NB229_243.out _; refine blk_far ?_ NB229_243.out _; refine blk_far ?_ NB229_243.out _; refine blk_far ?_ NB229_243.out _; refine blk_far ?_ NB229_243.out _; refine blk_far ?_ NB229_243.out _; refine blk_far ?_ NB229_243.out _; refine blk_far ?_ NB229_243.out _; refine blk_far ?_ NB229_243.out _; exact BK229.out) hb); have n1_ := Aside0.mk (blk_below (g := gb243) (o := .cells #[.int .i64 t233, .int .i64 t234, .int .i64 t235, .int .i64 t236, .int .i64 t237, .int .i64 t238, .int .i64 t239, .int .i64 t240, .int .i64 t241] 37 (0, 0)) (by refine blk_put (cs := #[.int .i64 t233, .int .i64 t234, .int .i64 t235, .int .i64 t236, .int .i64 t237, .int .i64 t238, .int .i64 t239, .int .i64 t240, .int .i64 0]) ?_ 8 _ rfl; refine blk_put (cs := #[.int .i64 t233, .int .i64 t234, .int .i64 t235, .int .i64 t236, .int .i64 t237, .int .i64 t238, .int .i64 t239, .int .i64 0, .int .i64 0]) ?_ 7 _ rfl; refine blk_put (cs := #[.int .i64 t233, .int .i64 t234, .int .i64 t235, .int .i64 t236, .int .i64 t237, .int .i64 t238, .int .i64 0, .int .i64 0, .int .i64 0]) ?_ 6 _ rfl; refine blk_put (cs := #[.int .i64 t233, .int .i64 t234, .int .i64 t235, .int .i64 t236, .int .i64 t237, .int .i64 0, .int .i64 0, .int .i64 0, .int .i64 0]) ?_ 5 _ rfl; refine blk_put (cs := #[.int .i64 t233, .int .i64 t234, .int .i64 t235, .int .i64 t236, .int .i64 0, .int .i64 0, .int .i64 0, .int .i64 0, .int .i64 0]) ?_ 4 _ rfl; refine blk_put (cs := #[.int .i64 t233, .int .i64 t234, .int .i64 t235, .int .i64 0, .int .i64 0, .int .i64 0, .int .i64 0, .int .i64 0, .int .i64 0]) ?_ 3 _ rfl; refine blk_put (cs := #[.int .i64 t233, .int .i64 t234, .int .i64 0, .int .i64 0, .int .i64 0, .int .i64 0, .int .i64 0, .int .i64 0, .int .i64 0]) ?_ 2 _ rfl; refine blk_put (cs := #[.int .i64 t233, .int .i64 0, .int .i64 0, .int .i64 0, .int .i64 0, .int .i64 0, .int .i64 0, .int .i64 0, .int .i64 0]) ?_ 1 _ rfl; refine blk_put (cs := #[.int .i64 0, .int .i64 0, .int .i64 0, .int .i64 0, .int .i64 0, .int .i64 0, .int .i64 0, .int .i64 0, .int .i64 0]) ?_ 0 _ rfl; exact BK243.out) hb); have n2_ := Aside0.mk (below_step (by repeat (first | (with_reducible first | exact HB.out | apply below_alloc | apply pw_below_drewN | apply below_drew1 | refine below_set ?_ GE229.out | refine below_set ?_ GE243.out) | exact HB.out)) hb); clear BK229; clear BK243; clear HB; have BK229 := n0_; have BK243 := n1_; have HB := n2_; clear n0_ n1_ n2_; (try clear hb)) | ((with_reducible refine gate_dst (N := 8) rfl ?_); (try (refine gate_guard (by rfl) ?_; dsimp only)); refine box_event ?hg (N := 8) ?hd (cs := #[.int .i64 0, .int .i64 0, .int .i64 0, .int .i64 0, .int .i64 0, .int .i64 0, .int .i64 0, .int .i64 0, .int .i64 0]) (t := 37) ?hr ?_; (case hd => rfl); (case hg => rfl); (case hr => first | (go_simp; done) | (go_simp; rfl)); intro gb254 hg w84 hbox hb; have n0_ := Aside0.mk (blk_below (g := gb229) BK229.out hb); have n1_ := Aside0.mk (blk_below (g := gb243) BK243.out hb); have n2_ := Aside0.mk (below_step (by repeat (first | (with_reducible first | exact HB.out | apply below_alloc | apply pw_below_drewN | apply below_drew1 | refine below_set ?_ GE229.out | refine below_set ?_ GE243.out) | exact HB.out)) hb); have n3_ := Aside0.mk (hbox); have n4_ := Aside0.mk ((by rw [hg]; exact (below_size (by repeat (first | (with_reducible first | exact HB.out | apply below_alloc | apply pw_below_drewN | apply below_drew1 | refine below_set ?_ GE229.out | refine below_set ?_ GE243.out) | exact HB.out))) : w.heap.size ≤ gb254)); have n5_ := n4_; have n6_ := Aside0.mk ((by rw [hg]; exact Nat.ne_of_lt (blk_lt (g := gb229) BK229.out) : gb229 ≠ gb254)); have n7_ := Aside0.mk ((by rw [hg]; exact Nat.ne_of_gt (blk_lt (g := gb229) BK229.out) : gb254 ≠ gb229)); have n8_ := Aside0.mk ((by rw [hg]; exact Nat.ne_of_lt (blk_lt (g := gb243) BK243.out) : gb243 ≠ gb254)); have n9_ := Aside0.mk ((by rw [hg]; exact Nat.ne_of_gt (blk_lt (g := gb243) BK243.out) : gb254 ≠ gb243)); clear BK229; clear BK243; clear HB; have BK229 := n0_; have BK243 := n1_; have HB := n2_; have BK254 := n3_; have GW254 := n4_; have GE254 := n5_; have NB229_254 := n6_; have NB254_229 := n7_; have NB243_254 := n8_; have NB254_243 := n9_; clear n0_ n1_ n2_ n3_ n4_ n5_ n6_ n7_ n8_ n9_; clear hb hbox hg; have hnb85 := NB254_229.out; have hnc85 := NB229_254.out; have hnb86 := NB254_243.out; have hnc86 := NB243_254.out; have hcz87_0 : w84.cell? ⟨gb254, 0, none⟩ = some (.int .i64 0) := (blk_cell BK254.out 0).trans rfl; have hcz87_1 : w84.cell? ⟨gb254, 1, none⟩ = some (.int .i64 0) := (blk_cell BK254.out 1).trans rfl; have hcz87_2 : w84.cell? ⟨gb254, 2, none⟩ = some (.int .i64 0) := (blk_cell BK254.out 2).trans rfl; have hcz87_3 : w84.cell? ⟨gb254, 3, none⟩ = some (.int .i64 0) := (blk_cell BK254.out 3).trans rfl; have hcz87_4 : w84.cell? ⟨gb254, 4, none⟩ = some (.int .i64 0) := (blk_cell BK254.out 4).trans rfl; have hcz87_5 : w84.cell? ⟨gb254, 5, none⟩ = some (.int .i64 0) := (blk_cell BK254.out 5).trans rfl; have hcz87_6 : w84.cell? ⟨gb254, 6, none⟩ = some (.int .i64 0) := (blk_cell BK254.out 6).trans rfl; have hcz87_7 : w84.cell? ⟨gb254, 7, none⟩ = some (.int .i64 0) := (blk_cell BK254.out 7).trans rfl; have hcz87_8 : w84.cell? ⟨gb254, 8, none⟩ = some (.int .i64 0) := (blk_cell BK254.out 8).trans rfl; have hfz87_0 := blk_frozen BK254.out 0; have hfz87_1 := blk_frozen BK254.out 1; have hfz87_2 := blk_frozen BK254.out 2; have hfz87_3 := blk_frozen BK254.out 3; have hfz87_4 := blk_frozen BK254.out 4; have hfz87_5 := blk_frozen BK254.out 5; have hfz87_6 := blk_frozen BK254.out 6; have hfz87_7 := blk_frozen BK254.out 7; have hfz87_8 := blk_frozen BK254.out 8) | ((with_reducible refine gate_callee (f := 16) rfl ?_); refine goesL_ (some 34) rfl rfl Try.func16 (by kernel_rfl) rfl #[.string a1] rfl (by (try simp only [sD, List.map_cons, List.map_nil]); first | done | rfl) ?_; (with_reducible refine (apogeeref07_ReadReport.calls kj2 a1 t255 t256 t257 t258 t259 t260 t261 t262 t263 t264 _ A15.out).mono ?_); rintro e w88 ⟨rfl, hb⟩; refine ⟨_, rfl, ?_⟩; have n0_ := Aside0.mk (blk_below (g := gb229) (o := .cells #[.int .i64 a0_0, .int .i64 a0_1, .int .i64 a0_2, .int .i64 a0_3, .int .i64 a0_4, .int .i64 a0_5, .int .i64 a0_6, .int .i64 a0_7, .int .i64 a0_8] 37 (0, 0)) (by refine blk_far ?_ NB229_254.out _; refine blk_far ?_ NB229_254.out _; refine blk_far ?_ NB229_254.out _; refine blk_far ?_ NB229_254.out _; refine blk_far ?_ NB229_254.out _; refine blk_far ?_ NB229_254.out _; refine blk_far ?_ NB229_254.out _; refine blk_far ?_ NB229_254.out _; refine blk_far ?_ NB229_254.out _; exact BK229.out) hb); have n1_ := Aside0.mk (blk_below (g := gb243) (o := .cells #[.int .i64 t233, .int .i64 t234, .int .i64 t235, .int .i64 t236, .int .i64 t237, .int .i64 t238, .int .i64 t239, .int .i64 t240, .int .i64 t241] 37 (0, 0)) (by refine blk_far ?_ NB243_254.out _; refine blk_far ?_ NB243_254.out _; refine blk_far ?_ NB243_254.out _; refine blk_far ?_ NB243_254.out _; refine blk_far ?_ NB243_254.out _; refine blk_far ?_ NB243_254.out _; refine blk_far ?_ NB243_254.out _; refine blk_far ?_ NB243_254.out _; refine blk_far ?_ NB243_254.out _; exact BK243.out) hb); have n2_ := Aside0.mk (blk_below (g := gb254) (o := .cells #[.int .i64 t244, .int .i64 t245, .int .i64 t246, .int .i64 t247, .int .i64 t248, .int .i64 t249, .int .i64 t250, .int .i64 t251, .int .i64 t252] 37 (0, 0)) (by refine blk_put (cs := #[.int .i64 t244, .int .i64 t245, .int .i64 t246, .int .i64 t247, .int .i64 t248, .int .i64 t249, .int .i64 t250, .int .i64 t251, .int .i64 0]) ?_ 8 _ rfl; refine blk_put (cs := #[.int .i64 t244, .int .i64 t245, .int .i64 t246, .int .i64 t247, .int .i64 t248, .int .i64 t249, .int .i64 t250, .int .i64 0, .int .i64 0]) ?_ 7 _ rfl; refine blk_put (cs := #[.int .i64 t244, .int .i64 t245, .int .i64 t246, .int .i64 t247, .int .i64 t248, .int .i64 t249, .int .i64 0, .int .i64 0, .int .i64 0]) ?_ 6 _ rfl; refine blk_put (cs := #[.int .i64 t244, .int .i64 t245, .int .i64 t246, .int .i64 t247, .int .i64 t248, .int .i64 0, .int .i64 0, .int .i64 0, .int .i64 0]) ?_ 5 _ rfl; refine blk_put (cs := #[.int .i64 t244, .int .i64 t245, .int .i64 t246, .int .i64 t247, .int .i64 0, .int .i64 0, .int .i64 0, .int .i64 0, .int .i64 0]) ?_ 4 _ rfl; refine blk_put (cs := #[.int .i64 t244, .int .i64 t245, .int .i64 t246, .int .i64 0, .int .i64 0, .int .i64 0, .int .i64 0, .int .i64 0, .int .i64 0]) ?_ 3 _ rfl; refine blk_put (cs := #[.int .i64 t244, .int .i64 t245, .int .i64 0, .int .i64 0, .int .i64 0, .int .i64 0, .int .i64 0, .int .i64 0, .int .i64 0]) ?_ 2 _ rfl; refine blk_put (cs := #[.int .i64 t244, .int .i64 0, .int .i64 0, .int .i64 0, .int .i64 0, .int .i64 0, .int .i64 0, .int .i64 0, .int .i64 0]) ?_ 1 _ rfl; refine blk_put (cs := #[.int .i64 0, .int .i64 0, .int .i64 0, .int .i64 0, .int .i64 0, .int .i64 0, .int .i64 0, .int .i64 0, .int .i64 0]) ?_ 0 _ rfl; exact BK254.out) hb); have n3_ := Aside0.mk (below_step (by repeat (first | (with_reducible first | exact HB.out | apply below_alloc | apply pw_below_drewN | apply below_drew1 | refine below_set ?_ GE229.out | refine below_set ?_ GE243.out | refine below_set ?_ GE254.out) | exact HB.out)) hb); clear BK229; clear BK243; clear BK254; clear HB; have BK229 := n0_; have BK243 := n1_; have BK254 := n2_; have HB := n3_; clear n0_ n1_ n2_ n3_; (try clear hb)) | ((with_reducible refine gate_dst (N := 10) rfl ?_); (try (refine gate_guard (by rfl) ?_; dsimp only)); refine box_event ?hg (N := 10) ?hd (cs := #[.int .i64 0, .int .i64 0, .int .i64 0, .int .i64 0, .int .i64 0, .int .i64 0, .int .i64 0, .int .i64 0, .int .i64 0]) (t := 41) ?hr ?_; (case hd => rfl); (case hg => rfl); (case hr => first | (go_simp; done) | (go_simp; rfl)); intro gb265 hg w89 hbox hb; have n0_ := Aside0.mk (blk_below (g := gb229) BK229.out hb); have n1_ := Aside0.mk (blk_below (g := gb243) BK243.out hb); have n2_ := Aside0.mk (blk_below (g := gb254) BK254.out hb); have n3_ := Aside0.mk (below_step (by repeat (first | (with_reducible first | exact HB.out | apply below_alloc | apply pw_below_drewN | apply below_drew1 | refine below_set ?_ GE229.out | refine below_set ?_ GE243.out | refine below_set ?_ GE254.out) | exact HB.out)) hb); have n4_ := Aside0.mk (hbox); have n5_ := Aside0.mk ((by rw [hg]; exact (below_size (by repeat (first | (with_reducible first | exact HB.out | apply below_alloc | apply pw_below_drewN | apply below_drew1 | refine below_set ?_ GE229.out | refine below_set ?_ GE243.out | refine below_set ?_ GE254.out) | exact HB.out))) : w.heap.size ≤ gb265)); have n6_ := n5_; have n7_ := Aside0.mk ((by rw [hg]; exact Nat.ne_of_lt (blk_lt (g := gb229) BK229.out) : gb229 ≠ gb265)); have n8_ := Aside0.mk ((by rw [hg]; exact Nat.ne_of_gt (blk_lt (g := gb229) BK229.out) : gb265 ≠ gb229)); have n9_ := Aside0.mk ((by rw [hg]; exact Nat.ne_of_lt (blk_lt (g := gb243) BK243.out) : gb243 ≠ gb265)); have n10_ := Aside0.mk ((by rw [hg]; exact Nat.ne_of_gt (blk_lt (g := gb243) BK243.out) : gb265 ≠ gb243)); have n11_ := Aside0.mk ((by rw [hg]; exact Nat.ne_of_lt (blk_lt (g := gb254) BK254.out) : gb254 ≠ gb265)); have n12_ := Aside0.mk ((by rw [hg]; exact Nat.ne_of_gt (blk_lt (g := gb254) BK254.out) : gb265 ≠ gb254)); clear BK229; clear BK243; clear BK254; clear HB; have BK229 := n0_; have BK243 := n1_; have BK254 := n2_; have HB := n3_; have BK265 := n4_; have GW265 := n5_; have GE265 := n6_; have NB229_265 := n7_; have NB265_229 := n8_; have NB243_265 := n9_; have NB265_243 := n10_; have NB254_265 := n11_; have NB265_254 := n12_; clear n0_ n1_ n2_ n3_ n4_ n5_ n6_ n7_ n8_ n9_ n10_ n11_ n12_; clear hb hbox hg; have hnb90 := NB265_229.out; have hnc90 := NB229_265.out; have hnb91 := NB265_243.out; have hnc91 := NB243_265.out; have hnb92 := NB265_254.out; have hnc92 := NB254_265.out; have hcz93_0 : w89.cell? ⟨gb265, 0, none⟩ = some (.int .i64 0) := (blk_cell BK265.out 0).trans rfl; have hcz93_1 : w89.cell? ⟨gb265, 1, none⟩ = some (.int .i64 0) := (blk_cell BK265.out 1).trans rfl; have hcz93_2 : w89.cell? ⟨gb265, 2, none⟩ = some (.int .i64 0) := (blk_cell BK265.out 2).trans rfl; have hcz93_3 : w89.cell? ⟨gb265, 3, none⟩ = some (.int .i64 0) := (blk_cell BK265.out 3).trans rfl; have hcz93_4 : w89.cell? ⟨gb265, 4, none⟩ = some (.int .i64 0) := (blk_cell BK265.out 4).trans rfl; have hcz93_5 : w89.cell? ⟨gb265, 5, none⟩ = some (.int .i64 0) := (blk_cell BK265.out 5).trans rfl; have hcz93_6 : w89.cell? ⟨gb265, 6, none⟩ = some (.int .i64 0) := (blk_cell BK265.out 6).trans rfl; have hcz93_7 : w89.cell? ⟨gb265, 7, none⟩ = some (.int .i64 0) := (blk_cell BK265.out 7).trans rfl; have hcz93_8 : w89.cell? ⟨gb265, 8, none⟩ = some (.int .i64 0) := (blk_cell BK265.out 8).trans rfl; have hfz93_0 := blk_frozen BK265.out 0; have hfz93_1 := blk_frozen BK265.out 1; have hfz93_2 := blk_frozen BK265.out 2; have hfz93_3 := blk_frozen BK265.out 3; have hfz93_4 := blk_frozen BK265.out 4; have hfz93_5 := blk_frozen BK265.out 5; have hfz93_6 := blk_frozen BK265.out 6; have hfz93_7 := blk_frozen BK265.out 7; have hfz93_8 := blk_frozen BK265.out 8))
           have n0_ : Aside0 ((((((((((w89.setCell ⟨gb265, 0, none⟩ (.int .i64 t255)).setCell ⟨gb265, 1, none⟩ (.int .i64 t256)).setCell ⟨gb265, 2, none⟩ (.int .i64 t257)).setCell ⟨gb265, 3, none⟩ (.int .i64 t258)).setCell ⟨gb265, 4, none⟩ (.int .i64 t259)).setCell ⟨gb265, 5, none⟩ (.int .i64 t260)).setCell ⟨gb265, 6, none⟩ (.int .i64 t261)).setCell ⟨gb265, 7, none⟩ (.int .i64 t262)).setCell ⟨gb265, 8, none⟩ (.int .i64 t263)).heap[gb229]? = some (.cells #[.int .i64 a0_0, .int .i64 a0_1, .int .i64 a0_2, .int .i64 a0_3, .int .i64 a0_4, .int .i64 a0_5, .int .i64 a0_6, .int .i64 a0_7, .int .i64 a0_8] 37 (0, 0))) := ⟨by refine blk_far ?_ NB229_265.out _; refine blk_far ?_ NB229_265.out _; refine blk_far ?_ NB229_265.out _; refine blk_far ?_ NB229_265.out _; refine blk_far ?_ NB229_265.out _; refine blk_far ?_ NB229_265.out _; refine blk_far ?_ NB229_265.out _; refine blk_far ?_ NB229_265.out _; refine blk_far ?_ NB229_265.out _; exact BK229.out⟩
           have n1_ : Aside0 ((((((((((w89.setCell ⟨gb265, 0, none⟩ (.int .i64 t255)).setCell ⟨gb265, 1, none⟩ (.int .i64 t256)).setCell ⟨gb265, 2, none⟩ (.int .i64 t257)).setCell ⟨gb265, 3, none⟩ (.int .i64 t258)).setCell ⟨gb265, 4, none⟩ (.int .i64 t259)).setCell ⟨gb265, 5, none⟩ (.int .i64 t260)).setCell ⟨gb265, 6, none⟩ (.int .i64 t261)).setCell ⟨gb265, 7, none⟩ (.int .i64 t262)).setCell ⟨gb265, 8, none⟩ (.int .i64 t263)).heap[gb243]? = some (.cells #[.int .i64 t233, .int .i64 t234, .int .i64 t235, .int .i64 t236, .int .i64 t237, .int .i64 t238, .int .i64 t239, .int .i64 t240, .int .i64 t241] 37 (0, 0))) := ⟨by refine blk_far ?_ NB243_265.out _; refine blk_far ?_ NB243_265.out _; refine blk_far ?_ NB243_265.out _; refine blk_far ?_ NB243_265.out _; refine blk_far ?_ NB243_265.out _; refine blk_far ?_ NB243_265.out _; refine blk_far ?_ NB243_265.out _; refine blk_far ?_ NB243_265.out _; refine blk_far ?_ NB243_265.out _; exact BK243.out⟩
           have n2_ : Aside0 ((((((((((w89.setCell ⟨gb265, 0, none⟩ (.int .i64 t255)).setCell ⟨gb265, 1, none⟩ (.int .i64 t256)).setCell ⟨gb265, 2, none⟩ (.int .i64 t257)).setCell ⟨gb265, 3, none⟩ (.int .i64 t258)).setCell ⟨gb265, 4, none⟩ (.int .i64 t259)).setCell ⟨gb265, 5, none⟩ (.int .i64 t260)).setCell ⟨gb265, 6, none⟩ (.int .i64 t261)).setCell ⟨gb265, 7, none⟩ (.int .i64 t262)).setCell ⟨gb265, 8, none⟩ (.int .i64 t263)).heap[gb254]? = some (.cells #[.int .i64 t244, .int .i64 t245, .int .i64 t246, .int .i64 t247, .int .i64 t248, .int .i64 t249, .int .i64 t250, .int .i64 t251, .int .i64 t252] 37 (0, 0))) := ⟨by refine blk_far ?_ NB254_265.out _; refine blk_far ?_ NB254_265.out _; refine blk_far ?_ NB254_265.out _; refine blk_far ?_ NB254_265.out _; refine blk_far ?_ NB254_265.out _; refine blk_far ?_ NB254_265.out _; refine blk_far ?_ NB254_265.out _; refine blk_far ?_ NB254_265.out _; refine blk_far ?_ NB254_265.out _; exact BK254.out⟩
           have n3_ : Aside0 ((((((((((w89.setCell ⟨gb265, 0, none⟩ (.int .i64 t255)).setCell ⟨gb265, 1, none⟩ (.int .i64 t256)).setCell ⟨gb265, 2, none⟩ (.int .i64 t257)).setCell ⟨gb265, 3, none⟩ (.int .i64 t258)).setCell ⟨gb265, 4, none⟩ (.int .i64 t259)).setCell ⟨gb265, 5, none⟩ (.int .i64 t260)).setCell ⟨gb265, 6, none⟩ (.int .i64 t261)).setCell ⟨gb265, 7, none⟩ (.int .i64 t262)).setCell ⟨gb265, 8, none⟩ (.int .i64 t263)).heap[gb265]? = some (.cells #[.int .i64 t255, .int .i64 t256, .int .i64 t257, .int .i64 t258, .int .i64 t259, .int .i64 t260, .int .i64 t261, .int .i64 t262, .int .i64 t263] 41 (0, 0))) := ⟨by refine blk_put (cs := #[.int .i64 t255, .int .i64 t256, .int .i64 t257, .int .i64 t258, .int .i64 t259, .int .i64 t260, .int .i64 t261, .int .i64 t262, .int .i64 0]) ?_ 8 _ rfl; refine blk_put (cs := #[.int .i64 t255, .int .i64 t256, .int .i64 t257, .int .i64 t258, .int .i64 t259, .int .i64 t260, .int .i64 t261, .int .i64 0, .int .i64 0]) ?_ 7 _ rfl; refine blk_put (cs := #[.int .i64 t255, .int .i64 t256, .int .i64 t257, .int .i64 t258, .int .i64 t259, .int .i64 t260, .int .i64 0, .int .i64 0, .int .i64 0]) ?_ 6 _ rfl; refine blk_put (cs := #[.int .i64 t255, .int .i64 t256, .int .i64 t257, .int .i64 t258, .int .i64 t259, .int .i64 0, .int .i64 0, .int .i64 0, .int .i64 0]) ?_ 5 _ rfl; refine blk_put (cs := #[.int .i64 t255, .int .i64 t256, .int .i64 t257, .int .i64 t258, .int .i64 0, .int .i64 0, .int .i64 0, .int .i64 0, .int .i64 0]) ?_ 4 _ rfl; refine blk_put (cs := #[.int .i64 t255, .int .i64 t256, .int .i64 t257, .int .i64 0, .int .i64 0, .int .i64 0, .int .i64 0, .int .i64 0, .int .i64 0]) ?_ 3 _ rfl; refine blk_put (cs := #[.int .i64 t255, .int .i64 t256, .int .i64 0, .int .i64 0, .int .i64 0, .int .i64 0, .int .i64 0, .int .i64 0, .int .i64 0]) ?_ 2 _ rfl; refine blk_put (cs := #[.int .i64 t255, .int .i64 0, .int .i64 0, .int .i64 0, .int .i64 0, .int .i64 0, .int .i64 0, .int .i64 0, .int .i64 0]) ?_ 1 _ rfl; refine blk_put (cs := #[.int .i64 0, .int .i64 0, .int .i64 0, .int .i64 0, .int .i64 0, .int .i64 0, .int .i64 0, .int .i64 0, .int .i64 0]) ?_ 0 _ rfl; exact BK265.out⟩
           have n4_ : Aside0 (Below w.heap.size w (((((((((w89.setCell ⟨gb265, 0, none⟩ (.int .i64 t255)).setCell ⟨gb265, 1, none⟩ (.int .i64 t256)).setCell ⟨gb265, 2, none⟩ (.int .i64 t257)).setCell ⟨gb265, 3, none⟩ (.int .i64 t258)).setCell ⟨gb265, 4, none⟩ (.int .i64 t259)).setCell ⟨gb265, 5, none⟩ (.int .i64 t260)).setCell ⟨gb265, 6, none⟩ (.int .i64 t261)).setCell ⟨gb265, 7, none⟩ (.int .i64 t262)).setCell ⟨gb265, 8, none⟩ (.int .i64 t263))) := ⟨by repeat (first | (with_reducible first | exact HB.out | apply below_alloc | apply pw_below_drewN | apply below_drew1 | refine below_set ?_ GE229.out | refine below_set ?_ GE243.out | refine below_set ?_ GE254.out | refine below_set ?_ GE265.out) | exact HB.out)⟩
           (try clear BK229)
           (try clear BK243)
           (try clear BK254)
           (try clear BK265)
           (try clear HB)
           generalize (((((((((w89.setCell ⟨gb265, 0, none⟩ (.int .i64 t255)).setCell ⟨gb265, 1, none⟩ (.int .i64 t256)).setCell ⟨gb265, 2, none⟩ (.int .i64 t257)).setCell ⟨gb265, 3, none⟩ (.int .i64 t258)).setCell ⟨gb265, 4, none⟩ (.int .i64 t259)).setCell ⟨gb265, 5, none⟩ (.int .i64 t260)).setCell ⟨gb265, 6, none⟩ (.int .i64 t261)).setCell ⟨gb265, 7, none⟩ (.int .i64 t262)).setCell ⟨gb265, 8, none⟩ (.int .i64 t263)) = w94 at n0_ n1_ n2_ n3_ n4_ ⊢
           have BK229 := n0_
           have BK243 := n1_
           have BK254 := n2_
           have BK265 := n3_
           have HB := n4_
           clear n0_ n1_ n2_ n3_ n4_
           have n0_ := Aside0.mk (blk_drew BK229.out)
           have n1_ := Aside0.mk (blk_drew BK243.out)
           have n2_ := Aside0.mk (blk_drew BK254.out)
           have n3_ := Aside0.mk (blk_drew BK265.out)
           have n4_ := Aside0.mk (below_drew1 HB.out)
           clear BK229
           clear BK243
           clear BK254
           clear BK265
           clear HB
           have BK229 := n0_
           have BK243 := n1_
           have BK254 := n2_
           have BK265 := n3_
           have HB := n4_
           clear n0_ n1_ n2_ n3_ n4_
           refine start_ (n := 40) (S := fun w' => w'.cell? ⟨gb229, 0, none⟩ = some (.int .i64 a0_0) ∧ w'.cell? ⟨gb229, 1, none⟩ = some (.int .i64 a0_1) ∧ w'.cell? ⟨gb229, 2, none⟩ = some (.int .i64 a0_2) ∧ w'.cell? ⟨gb229, 3, none⟩ = some (.int .i64 a0_3) ∧ w'.cell? ⟨gb229, 4, none⟩ = some (.int .i64 a0_4) ∧ w'.cell? ⟨gb229, 5, none⟩ = some (.int .i64 a0_5) ∧ w'.cell? ⟨gb229, 6, none⟩ = some (.int .i64 a0_6) ∧ w'.cell? ⟨gb229, 7, none⟩ = some (.int .i64 a0_7) ∧ w'.cell? ⟨gb229, 8, none⟩ = some (.int .i64 a0_8) ∧ w'.cell? ⟨gb243, 0, none⟩ = some (.int .i64 t233) ∧ w'.cell? ⟨gb243, 1, none⟩ = some (.int .i64 t234) ∧ w'.cell? ⟨gb243, 2, none⟩ = some (.int .i64 t235) ∧ w'.cell? ⟨gb243, 3, none⟩ = some (.int .i64 t236) ∧ w'.cell? ⟨gb243, 4, none⟩ = some (.int .i64 t237) ∧ w'.cell? ⟨gb243, 5, none⟩ = some (.int .i64 t238) ∧ w'.cell? ⟨gb243, 6, none⟩ = some (.int .i64 t239) ∧ w'.cell? ⟨gb243, 7, none⟩ = some (.int .i64 t240) ∧ w'.cell? ⟨gb243, 8, none⟩ = some (.int .i64 t241) ∧ w'.cell? ⟨gb254, 0, none⟩ = some (.int .i64 t244) ∧ w'.cell? ⟨gb254, 1, none⟩ = some (.int .i64 t245) ∧ w'.cell? ⟨gb254, 2, none⟩ = some (.int .i64 t246) ∧ w'.cell? ⟨gb254, 3, none⟩ = some (.int .i64 t247) ∧ w'.cell? ⟨gb254, 4, none⟩ = some (.int .i64 t248) ∧ w'.cell? ⟨gb254, 5, none⟩ = some (.int .i64 t249) ∧ w'.cell? ⟨gb254, 6, none⟩ = some (.int .i64 t250) ∧ w'.cell? ⟨gb254, 7, none⟩ = some (.int .i64 t251) ∧ w'.cell? ⟨gb254, 8, none⟩ = some (.int .i64 t252) ∧ w'.cell? ⟨gb265, 0, none⟩ = some (.int .i64 t255) ∧ w'.cell? ⟨gb265, 1, none⟩ = some (.int .i64 t256) ∧ w'.cell? ⟨gb265, 2, none⟩ = some (.int .i64 t257) ∧ w'.cell? ⟨gb265, 3, none⟩ = some (.int .i64 t258) ∧ w'.cell? ⟨gb265, 4, none⟩ = some (.int .i64 t259) ∧ w'.cell? ⟨gb265, 5, none⟩ = some (.int .i64 t260) ∧ w'.cell? ⟨gb265, 6, none⟩ = some (.int .i64 t261) ∧ w'.cell? ⟨gb265, 7, none⟩ = some (.int .i64 t262) ∧ w'.cell? ⟨gb265, 8, none⟩ = some (.int .i64 t263)) (ds := []) #[false, false, false, false, false, false, false, false, false, false, false, false, false, false, false, false, false, false, false, false, false, false, false, false, false, false, false, false, false, false, false, false, false, false, false, false, false, false, false, false] (by kernel_rfl) rfl rfl ⟨(blk_cell BK229.out 0).trans rfl, (blk_cell BK229.out 1).trans rfl, (blk_cell BK229.out 2).trans rfl, (blk_cell BK229.out 3).trans rfl, (blk_cell BK229.out 4).trans rfl, (blk_cell BK229.out 5).trans rfl, (blk_cell BK229.out 6).trans rfl, (blk_cell BK229.out 7).trans rfl, (blk_cell BK229.out 8).trans rfl, (blk_cell BK243.out 0).trans rfl, (blk_cell BK243.out 1).trans rfl, (blk_cell BK243.out 2).trans rfl, (blk_cell BK243.out 3).trans rfl, (blk_cell BK243.out 4).trans rfl, (blk_cell BK243.out 5).trans rfl, (blk_cell BK243.out 6).trans rfl, (blk_cell BK243.out 7).trans rfl, (blk_cell BK243.out 8).trans rfl, (blk_cell BK254.out 0).trans rfl, (blk_cell BK254.out 1).trans rfl, (blk_cell BK254.out 2).trans rfl, (blk_cell BK254.out 3).trans rfl, (blk_cell BK254.out 4).trans rfl, (blk_cell BK254.out 5).trans rfl, (blk_cell BK254.out 6).trans rfl, (blk_cell BK254.out 7).trans rfl, (blk_cell BK254.out 8).trans rfl, (blk_cell BK265.out 0).trans rfl, (blk_cell BK265.out 1).trans rfl, (blk_cell BK265.out 2).trans rfl, (blk_cell BK265.out 3).trans rfl, (blk_cell BK265.out 4).trans rfl, (blk_cell BK265.out 5).trans rfl, (blk_cell BK265.out 6).trans rfl, (blk_cell BK265.out 7).trans rfl, (blk_cell BK265.out 8).trans rfl⟩ (fun hHeld => ?_); refine with_tabW apogeelaw07_PeerReports.tab7 apogeelaw07_PeerReports.bits7 (fun HT_ HW_ => ?_)
           generalize w94.drew = w95 at BK229 BK243 BK254 BK265 HB hHeld ⊢
           refine pure_ (i := 0) (N := some 37) (v := ?_) (a' := ?_) #[true, false, false, false, false, false, false, false, false, false, false, false, false, false, false, false, false, false, false, false, false, false, false, false, false, false, false, false, false, false, false, false, false, false, false, false, false, false, false, false] rfl rfl (any_of HT_.out (by kernel_rfl)) (fun _ _ _ h => h) (Or.inl ⟨by rfl, ?_⟩) ?_ ?_
           rotate_left
           ·intro w'
            go_simp
            with_reducible rfl
           rotate_left
           ·simp only [Act.put, sA, sB, sC, i64_w, i32_w]
            rfl
           refine take_ (i := 1) (N := some 38) (v := ?_) (a' := ?_) #[true, true, false, false, false, false, false, false, false, false, false, false, false, false, false, false, false, false, false, false, false, false, false, false, false, false, false, false, false, false, false, false, false, false, false, false, false, false, false, false] rfl rfl (take_ofW HT_.out HW_.out (by kernel_rfl)) (fun _ _ _ h => h) (Or.inl ⟨by rfl, ?_⟩) hHeld ?_ ?_
           rotate_left
           ·rintro w' ⟨s0, s1, s2, s3, s4, s5, s6, s7, s8, s9, s10, s11, s12, s13, s14, s15, s16, s17, s18, s19, s20, s21, s22, s23, s24, s25, s26, s27, s28, s29, s30, s31, s32, s33, s34, s35⟩
            go_simp
            with_reducible rfl
           rotate_left
           ·simp only [Act.put, sA, sB, sC, i64_w, i32_w]
            rfl
           refine one_ (i := 2) (N := some 39) #[true, true, true, false, false, false, false, false, false, false, false, false, false, false, false, false, false, false, false, false, false, false, false, false, false, false, false, false, false, false, false, false, false, false, false, false, false, false, false, false] rfl rfl (one_of HT_.out (by kernel_rfl)) (by decide) (fun K hK => ?_)
           refine goes_ Try.func18 (by kernel_rfl) rfl #[.agg #[.int .i64 a0_0, .int .i64 a0_1, .int .i64 a0_2, .int .i64 a0_3, .int .i64 a0_4, .int .i64 a0_5, .int .i64 a0_6, .int .i64 a0_7, .int .i64 a0_8]] (by rfl) rfl rfl (by (try simp only [sD, List.map_cons, List.map_nil]); first | done | rfl) ?_
           with_reducible refine (apogeelaw07_likeReport.calls a0_0 a0_1 a0_2 a0_3 a0_4 a0_5 a0_6 a0_7 a0_8 t266 t267 t268 t269 t270 t271 t272 t273 t274 _ A16.out).mono ?_
           rintro e w96 ⟨rfl, hb⟩
           refine ⟨_, rfl, ?_⟩
           have n0_ := Aside0.mk (blk_below (g := gb229) BK229.out hb)
           have n1_ := Aside0.mk (blk_below (g := gb243) BK243.out hb)
           have n2_ := Aside0.mk (blk_below (g := gb254) BK254.out hb)
           have n3_ := Aside0.mk (blk_below (g := gb265) BK265.out hb)
           have n4_ := Aside0.mk (below_step (by repeat (first | (with_reducible first | exact HB.out | apply below_alloc | apply pw_below_drewN | apply below_drew1 | refine below_set ?_ GE229.out | refine below_set ?_ GE243.out | refine below_set ?_ GE254.out | refine below_set ?_ GE265.out) | exact HB.out)) hb)
           clear BK229
           clear BK243
           clear BK254
           clear BK265
           clear HB
           have BK229 := n0_
           have BK243 := n1_
           have BK254 := n2_
           have BK265 := n3_
           have HB := n4_
           clear n0_ n1_ n2_ n3_ n4_
           (try clear hb)
           (try clear hb2)
           (try clear hk)
           (try clear hi)
           refine hK.out _ _ ⟨(blk_cell BK229.out 0).trans rfl, (blk_cell BK229.out 1).trans rfl, (blk_cell BK229.out 2).trans rfl, (blk_cell BK229.out 3).trans rfl, (blk_cell BK229.out 4).trans rfl, (blk_cell BK229.out 5).trans rfl, (blk_cell BK229.out 6).trans rfl, (blk_cell BK229.out 7).trans rfl, (blk_cell BK229.out 8).trans rfl, (blk_cell BK243.out 0).trans rfl, (blk_cell BK243.out 1).trans rfl, (blk_cell BK243.out 2).trans rfl, (blk_cell BK243.out 3).trans rfl, (blk_cell BK243.out 4).trans rfl, (blk_cell BK243.out 5).trans rfl, (blk_cell BK243.out 6).trans rfl, (blk_cell BK243.out 7).trans rfl, (blk_cell BK243.out 8).trans rfl, (blk_cell BK254.out 0).trans rfl, (blk_cell BK254.out 1).trans rfl, (blk_cell BK254.out 2).trans rfl, (blk_cell BK254.out 3).trans rfl, (blk_cell BK254.out 4).trans rfl, (blk_cell BK254.out 5).trans rfl, (blk_cell BK254.out 6).trans rfl, (blk_cell BK254.out 7).trans rfl, (blk_cell BK254.out 8).trans rfl, (blk_cell BK265.out 0).trans rfl, (blk_cell BK265.out 1).trans rfl, (blk_cell BK265.out 2).trans rfl, (blk_cell BK265.out 3).trans rfl, (blk_cell BK265.out 4).trans rfl, (blk_cell BK265.out 5).trans rfl, (blk_cell BK265.out 6).trans rfl, (blk_cell BK265.out 7).trans rfl, (blk_cell BK265.out 8).trans rfl⟩ (fun hHeld => ?_)
           clear hK K
           refine norm_ (a' := ?_) ?_ ?_
           rotate_left
           ·show Act.put _ (some 39) _ = _
            simp only [Act.put, sA, sB, sC, i64_w, i32_w]
            rfl
           refine one_ (i := 3) (N := some 40) #[true, true, true, true, false, false, false, false, false, false, false, false, false, false, false, false, false, false, false, false, false, false, false, false, false, false, false, false, false, false, false, false, false, false, false, false, false, false, false, false] rfl rfl (one_of HT_.out (by kernel_rfl)) (by decide) (fun K hK => ?_)
           refine goes_ Try.func17 (by kernel_rfl) rfl #[.agg #[.int .i64 t266, .int .i64 t267, .int .i64 t268, .int .i64 t269, .int .i64 t270, .int .i64 t271, .int .i64 t272, .int .i64 t273, .int .i64 t274]] (by rfl) rfl rfl (by (try simp only [sD, List.map_cons, List.map_nil]); first | done | rfl) ?_
           with_reducible refine (apogeeref07_PrintReport.calls kj2 t266 t267 t268 t269 t270 t271 t272 t273 t274 t275 _ A17.out).mono ?_
           rintro e w97 ⟨rfl, hb⟩
           refine ⟨_, rfl, ?_⟩
           have n0_ := Aside0.mk (blk_below (g := gb229) BK229.out hb)
           have n1_ := Aside0.mk (blk_below (g := gb243) BK243.out hb)
           have n2_ := Aside0.mk (blk_below (g := gb254) BK254.out hb)
           have n3_ := Aside0.mk (blk_below (g := gb265) BK265.out hb)
           have n4_ := Aside0.mk (below_step (by repeat (first | (with_reducible first | exact HB.out | apply below_alloc | apply pw_below_drewN | apply below_drew1 | refine below_set ?_ GE229.out | refine below_set ?_ GE243.out | refine below_set ?_ GE254.out | refine below_set ?_ GE265.out) | exact HB.out)) hb)
           clear BK229
           clear BK243
           clear BK254
           clear BK265
           clear HB
           have BK229 := n0_
           have BK243 := n1_
           have BK254 := n2_
           have BK265 := n3_
           have HB := n4_
           clear n0_ n1_ n2_ n3_ n4_
           (try clear hb)
           (try clear hb2)
           (try clear hk)
           (try clear hi)
           refine hK.out _ _ ⟨(blk_cell BK229.out 0).trans rfl, (blk_cell BK229.out 1).trans rfl, (blk_cell BK229.out 2).trans rfl, (blk_cell BK229.out 3).trans rfl, (blk_cell BK229.out 4).trans rfl, (blk_cell BK229.out 5).trans rfl, (blk_cell BK229.out 6).trans rfl, (blk_cell BK229.out 7).trans rfl, (blk_cell BK229.out 8).trans rfl, (blk_cell BK243.out 0).trans rfl, (blk_cell BK243.out 1).trans rfl, (blk_cell BK243.out 2).trans rfl, (blk_cell BK243.out 3).trans rfl, (blk_cell BK243.out 4).trans rfl, (blk_cell BK243.out 5).trans rfl, (blk_cell BK243.out 6).trans rfl, (blk_cell BK243.out 7).trans rfl, (blk_cell BK243.out 8).trans rfl, (blk_cell BK254.out 0).trans rfl, (blk_cell BK254.out 1).trans rfl, (blk_cell BK254.out 2).trans rfl, (blk_cell BK254.out 3).trans rfl, (blk_cell BK254.out 4).trans rfl, (blk_cell BK254.out 5).trans rfl, (blk_cell BK254.out 6).trans rfl, (blk_cell BK254.out 7).trans rfl, (blk_cell BK254.out 8).trans rfl, (blk_cell BK265.out 0).trans rfl, (blk_cell BK265.out 1).trans rfl, (blk_cell BK265.out 2).trans rfl, (blk_cell BK265.out 3).trans rfl, (blk_cell BK265.out 4).trans rfl, (blk_cell BK265.out 5).trans rfl, (blk_cell BK265.out 6).trans rfl, (blk_cell BK265.out 7).trans rfl, (blk_cell BK265.out 8).trans rfl⟩ (fun hHeld => ?_)
           clear hK K
           refine norm_ (a' := ?_) ?_ ?_
           rotate_left
           ·show Act.put _ (some 40) _ = _
            simp only [Act.put, sA, sB, sC, i64_w, i32_w]
            rfl
           refine pure_ (i := 4) (N := some 41) (v := ?_) (a' := ?_) #[true, true, true, true, true, false, false, false, false, false, false, false, false, false, false, false, false, false, false, false, false, false, false, false, false, false, false, false, false, false, false, false, false, false, false, false, false, false, false, false] rfl rfl (any_of HT_.out (by kernel_rfl)) (fun _ _ _ h => h) (Or.inl ⟨by rfl, ?_⟩) ?_ ?_
           rotate_left
           ·intro w'
            go_simp
            with_reducible rfl
           rotate_left
           ·simp only [Act.put, sA, sB, sC, i64_w, i32_w]
            rfl
           refine pure_ (i := 5) (N := some 42) (v := ?_) (a' := ?_) #[true, true, true, true, true, true, false, false, false, false, false, false, false, false, false, false, false, false, false, false, false, false, false, false, false, false, false, false, false, false, false, false, false, false, false, false, false, false, false, false] rfl rfl (any_of HT_.out (by kernel_rfl)) (fun _ _ _ h => h) (Or.inl ⟨by rfl, ?_⟩) ?_ ?_
           rotate_left
           ·intro w'
            go_simp
            with_reducible rfl
           rotate_left
           ·simp only [Act.put, sA, sB, sC, i64_w, i32_w]
            rfl
           refine pure_ (i := 6) (N := some 43) (v := ?_) (a' := ?_) #[true, true, true, true, true, true, true, false, false, false, false, false, false, false, false, false, false, false, false, false, false, false, false, false, false, false, false, false, false, false, false, false, false, false, false, false, false, false, false, false] rfl rfl (any_of HT_.out (by kernel_rfl)) (fun _ _ _ h => h) (Or.inl ⟨by rfl, ?_⟩) ?_ ?_
           rotate_left
           ·intro w'
            go_simp
            with_reducible rfl
           rotate_left
           ·simp only [Act.put, sA, sB, sC, i64_w, i32_w]
            rfl
           refine pure_ (i := 7) (N := some 44) (v := ?_) (a' := ?_) #[true, true, true, true, true, true, true, true, false, false, false, false, false, false, false, false, false, false, false, false, false, false, false, false, false, false, false, false, false, false, false, false, false, false, false, false, false, false, false, false] rfl rfl (any_of HT_.out (by kernel_rfl)) (fun _ _ _ h => h) (Or.inl ⟨by rfl, ?_⟩) ?_ ?_
           rotate_left
           ·intro w'
            go_simp
            with_reducible rfl
           rotate_left
           ·simp only [Act.put, sA, sB, sC, i64_w, i32_w]
            rfl
           refine pure_ (i := 8) (N := some 45) (v := ?_) (a' := ?_) #[true, true, true, true, true, true, true, true, true, false, false, false, false, false, false, false, false, false, false, false, false, false, false, false, false, false, false, false, false, false, false, false, false, false, false, false, false, false, false, false] rfl rfl (any_of HT_.out (by kernel_rfl)) (fun _ _ _ h => h) (Or.inl ⟨by rfl, ?_⟩) ?_ ?_
           rotate_left
           ·intro w'
            go_simp
            with_reducible rfl
           rotate_left
           ·simp only [Act.put, sA, sB, sC, i64_w, i32_w]
            rfl
           refine take_ (i := 9) (N := some 46) (v := ?_) (a' := ?_) #[true, true, true, true, true, true, true, true, true, true, false, false, false, false, false, false, false, false, false, false, false, false, false, false, false, false, false, false, false, false, false, false, false, false, false, false, false, false, false, false] rfl rfl (take_ofW HT_.out HW_.out (by kernel_rfl)) (fun _ _ _ h => h) (Or.inl ⟨by rfl, ?_⟩) hHeld ?_ ?_
           rotate_left
           ·rintro w' ⟨s0, s1, s2, s3, s4, s5, s6, s7, s8, s9, s10, s11, s12, s13, s14, s15, s16, s17, s18, s19, s20, s21, s22, s23, s24, s25, s26, s27, s28, s29, s30, s31, s32, s33, s34, s35⟩
            go_simp
            with_reducible rfl
           rotate_left
           ·simp only [Act.put, sA, sB, sC, i64_w, i32_w]
            rfl
           refine take_ (i := 10) (N := some 47) (v := ?_) (a' := ?_) #[true, true, true, true, true, true, true, true, true, true, true, false, false, false, false, false, false, false, false, false, false, false, false, false, false, false, false, false, false, false, false, false, false, false, false, false, false, false, false, false] rfl rfl (take_ofW HT_.out HW_.out (by kernel_rfl)) (fun _ _ _ h => h) (Or.inl ⟨by rfl, ?_⟩) hHeld ?_ ?_
           rotate_left
           ·rintro w' ⟨s0, s1, s2, s3, s4, s5, s6, s7, s8, s9, s10, s11, s12, s13, s14, s15, s16, s17, s18, s19, s20, s21, s22, s23, s24, s25, s26, s27, s28, s29, s30, s31, s32, s33, s34, s35⟩
            go_simp
            with_reducible rfl
           rotate_left
           ·simp only [Act.put, sA, sB, sC, i64_w, i32_w]
            rfl
           refine pure_ (i := 11) (N := some 48) (v := ?_) (a' := ?_) #[true, true, true, true, true, true, true, true, true, true, true, true, false, false, false, false, false, false, false, false, false, false, false, false, false, false, false, false, false, false, false, false, false, false, false, false, false, false, false, false] rfl rfl (any_of HT_.out (by kernel_rfl)) (fun _ _ _ h => h) (Or.inl ⟨by rfl, ?_⟩) ?_ ?_
           rotate_left
           ·intro w'
            go_simp
            with_reducible rfl
           rotate_left
           ·simp only [Act.put, sA, sB, sC, i64_w, i32_w]
            rfl
           refine pure_ (i := 12) (N := some 49) (v := ?_) (a' := ?_) #[true, true, true, true, true, true, true, true, true, true, true, true, true, false, false, false, false, false, false, false, false, false, false, false, false, false, false, false, false, false, false, false, false, false, false, false, false, false, false, false] rfl rfl (any_of HT_.out (by kernel_rfl)) (fun _ _ _ h => h) (Or.inl ⟨by rfl, ?_⟩) ?_ ?_
           rotate_left
           ·intro w'
            go_simp
            with_reducible rfl
           rotate_left
           ·simp only [Act.put, sA, sB, sC, i64_w, i32_w]
            rfl
           refine pure_ (i := 13) (N := some 50) (v := ?_) (a' := ?_) #[true, true, true, true, true, true, true, true, true, true, true, true, true, true, false, false, false, false, false, false, false, false, false, false, false, false, false, false, false, false, false, false, false, false, false, false, false, false, false, false] rfl rfl (any_of HT_.out (by kernel_rfl)) (fun _ _ _ h => h) (Or.inl ⟨by rfl, ?_⟩) ?_ ?_
           rotate_left
           ·intro w'
            go_simp
            with_reducible rfl
           rotate_left
           ·simp only [Act.put, sA, sB, sC, i64_w, i32_w]
            rfl
           refine pure_ (i := 14) (N := some 51) (v := ?_) (a' := ?_) #[true, true, true, true, true, true, true, true, true, true, true, true, true, true, true, false, false, false, false, false, false, false, false, false, false, false, false, false, false, false, false, false, false, false, false, false, false, false, false, false] rfl rfl (any_of HT_.out (by kernel_rfl)) (fun _ _ _ h => h) (Or.inl ⟨by rfl, ?_⟩) ?_ ?_
           rotate_left
           ·intro w'
            go_simp
            with_reducible rfl
           rotate_left
           ·simp only [Act.put, sA, sB, sC, i64_w, i32_w]
            rfl
           refine pure_ (i := 15) (N := some 52) (v := ?_) (a' := ?_) #[true, true, true, true, true, true, true, true, true, true, true, true, true, true, true, true, false, false, false, false, false, false, false, false, false, false, false, false, false, false, false, false, false, false, false, false, false, false, false, false] rfl rfl (any_of HT_.out (by kernel_rfl)) (fun _ _ _ h => h) (Or.inl ⟨by rfl, ?_⟩) ?_ ?_
           rotate_left
           ·intro w'
            go_simp
            with_reducible rfl
           rotate_left
           ·simp only [Act.put, sA, sB, sC, i64_w, i32_w]
            rfl
           refine pure_ (i := 16) (N := some 53) (v := ?_) (a' := ?_) #[true, true, true, true, true, true, true, true, true, true, true, true, true, true, true, true, true, false, false, false, false, false, false, false, false, false, false, false, false, false, false, false, false, false, false, false, false, false, false, false] rfl rfl (any_of HT_.out (by kernel_rfl)) (fun _ _ _ h => h) (Or.inl ⟨by rfl, ?_⟩) ?_ ?_
           rotate_left
           ·intro w'
            go_simp
            with_reducible rfl
           rotate_left
           ·simp only [Act.put, sA, sB, sC, i64_w, i32_w]
            rfl
           refine pure_ (i := 17) (N := some 54) (v := ?_) (a' := ?_) #[true, true, true, true, true, true, true, true, true, true, true, true, true, true, true, true, true, true, false, false, false, false, false, false, false, false, false, false, false, false, false, false, false, false, false, false, false, false, false, false] rfl rfl (any_of HT_.out (by kernel_rfl)) (fun _ _ _ h => h) (Or.inl ⟨by rfl, ?_⟩) ?_ ?_
           rotate_left
           ·intro w'
            go_simp
            with_reducible rfl
           rotate_left
           ·simp only [Act.put, sA, sB, sC, i64_w, i32_w]
            rfl
           refine pure_ (i := 18) (N := some 55) (v := ?_) (a' := ?_) #[true, true, true, true, true, true, true, true, true, true, true, true, true, true, true, true, true, true, true, false, false, false, false, false, false, false, false, false, false, false, false, false, false, false, false, false, false, false, false, false] rfl rfl (any_of HT_.out (by kernel_rfl)) (fun _ _ _ h => h) (Or.inl ⟨by rfl, ?_⟩) ?_ ?_
           rotate_left
           ·intro w'
            go_simp
            with_reducible rfl
           rotate_left
           ·simp only [Act.put, sA, sB, sC, i64_w, i32_w]
            rfl
           refine take_ (i := 19) (N := some 56) (v := ?_) (a' := ?_) #[true, true, true, true, true, true, true, true, true, true, true, true, true, true, true, true, true, true, true, true, false, false, false, false, false, false, false, false, false, false, false, false, false, false, false, false, false, false, false, false] rfl rfl (take_ofW HT_.out HW_.out (by kernel_rfl)) (fun _ _ _ h => h) (Or.inl ⟨by rfl, ?_⟩) hHeld ?_ ?_
           rotate_left
           ·rintro w' ⟨s0, s1, s2, s3, s4, s5, s6, s7, s8, s9, s10, s11, s12, s13, s14, s15, s16, s17, s18, s19, s20, s21, s22, s23, s24, s25, s26, s27, s28, s29, s30, s31, s32, s33, s34, s35⟩
            go_simp
            with_reducible rfl
           rotate_left
           ·simp only [Act.put, sA, sB, sC, i64_w, i32_w]
            rfl
           refine take_ (i := 21) (N := some 58) (v := ?_) (a' := ?_) #[true, true, true, true, true, true, true, true, true, true, true, true, true, true, true, true, true, true, true, true, false, true, false, false, false, false, false, false, false, false, false, false, false, false, false, false, false, false, false, false] rfl rfl (take_ofW HT_.out HW_.out (by kernel_rfl)) (fun _ _ _ h => h) (Or.inl ⟨by rfl, ?_⟩) hHeld ?_ ?_
           rotate_left
           ·rintro w' ⟨s0, s1, s2, s3, s4, s5, s6, s7, s8, s9, s10, s11, s12, s13, s14, s15, s16, s17, s18, s19, s20, s21, s22, s23, s24, s25, s26, s27, s28, s29, s30, s31, s32, s33, s34, s35⟩
            go_simp
            with_reducible rfl
           rotate_left
           ·simp only [Act.put, sA, sB, sC, i64_w, i32_w]
            rfl
           refine one_ (i := 20) (N := some 57) #[true, true, true, true, true, true, true, true, true, true, true, true, true, true, true, true, true, true, true, true, true, true, false, false, false, false, false, false, false, false, false, false, false, false, false, false, false, false, false, false] rfl rfl (one_of HT_.out (by kernel_rfl)) (by decide) (fun K hK => ?_)
           refine goes_ Try.func18 (by kernel_rfl) rfl #[.agg #[.int .i64 t244, .int .i64 t245, .int .i64 t246, .int .i64 t247, .int .i64 t248, .int .i64 t249, .int .i64 t250, .int .i64 t251, .int .i64 t252]] (by rfl) rfl rfl (by (try simp only [sD, List.map_cons, List.map_nil]); first | done | rfl) ?_
           with_reducible refine (apogeelaw07_likeReport.calls t244 t245 t246 t247 t248 t249 t250 t251 t252 t286 t287 t288 t289 t290 t291 t292 t293 t294 _ A72.out).mono ?_
           rintro e w98 ⟨rfl, hb⟩
           refine ⟨_, rfl, ?_⟩
           have n0_ := Aside0.mk (blk_below (g := gb229) BK229.out hb)
           have n1_ := Aside0.mk (blk_below (g := gb243) BK243.out hb)
           have n2_ := Aside0.mk (blk_below (g := gb254) BK254.out hb)
           have n3_ := Aside0.mk (blk_below (g := gb265) BK265.out hb)
           have n4_ := Aside0.mk (below_step (by repeat (first | (with_reducible first | exact HB.out | apply below_alloc | apply pw_below_drewN | apply below_drew1 | refine below_set ?_ GE229.out | refine below_set ?_ GE243.out | refine below_set ?_ GE254.out | refine below_set ?_ GE265.out) | exact HB.out)) hb)
           clear BK229
           clear BK243
           clear BK254
           clear BK265
           clear HB
           have BK229 := n0_
           have BK243 := n1_
           have BK254 := n2_
           have BK265 := n3_
           have HB := n4_
           clear n0_ n1_ n2_ n3_ n4_
           (try clear hb)
           (try clear hb2)
           (try clear hk)
           (try clear hi)
           refine hK.out _ _ ⟨(blk_cell BK229.out 0).trans rfl, (blk_cell BK229.out 1).trans rfl, (blk_cell BK229.out 2).trans rfl, (blk_cell BK229.out 3).trans rfl, (blk_cell BK229.out 4).trans rfl, (blk_cell BK229.out 5).trans rfl, (blk_cell BK229.out 6).trans rfl, (blk_cell BK229.out 7).trans rfl, (blk_cell BK229.out 8).trans rfl, (blk_cell BK243.out 0).trans rfl, (blk_cell BK243.out 1).trans rfl, (blk_cell BK243.out 2).trans rfl, (blk_cell BK243.out 3).trans rfl, (blk_cell BK243.out 4).trans rfl, (blk_cell BK243.out 5).trans rfl, (blk_cell BK243.out 6).trans rfl, (blk_cell BK243.out 7).trans rfl, (blk_cell BK243.out 8).trans rfl, (blk_cell BK254.out 0).trans rfl, (blk_cell BK254.out 1).trans rfl, (blk_cell BK254.out 2).trans rfl, (blk_cell BK254.out 3).trans rfl, (blk_cell BK254.out 4).trans rfl, (blk_cell BK254.out 5).trans rfl, (blk_cell BK254.out 6).trans rfl, (blk_cell BK254.out 7).trans rfl, (blk_cell BK254.out 8).trans rfl, (blk_cell BK265.out 0).trans rfl, (blk_cell BK265.out 1).trans rfl, (blk_cell BK265.out 2).trans rfl, (blk_cell BK265.out 3).trans rfl, (blk_cell BK265.out 4).trans rfl, (blk_cell BK265.out 5).trans rfl, (blk_cell BK265.out 6).trans rfl, (blk_cell BK265.out 7).trans rfl, (blk_cell BK265.out 8).trans rfl⟩ (fun hHeld => ?_)
           clear hK K
           refine norm_ (a' := ?_) ?_ ?_
           rotate_left
           ·show Act.put _ (some 57) _ = _
            simp only [Act.put, sA, sB, sC, i64_w, i32_w]
            rfl
           refine pure_ (i := 22) (N := some 59) (v := ?_) (a' := ?_) #[true, true, true, true, true, true, true, true, true, true, true, true, true, true, true, true, true, true, true, true, true, true, true, false, false, false, false, false, false, false, false, false, false, false, false, false, false, false, false, false] rfl rfl (any_of HT_.out (by kernel_rfl)) (fun _ _ _ h => h) (Or.inl ⟨by rfl, ?_⟩) ?_ ?_
           rotate_left
           ·intro w'
            go_simp
            with_reducible rfl
           rotate_left
           ·simp only [Act.put, sA, sB, sC, i64_w, i32_w]
            rfl
           refine pure_ (i := 23) (N := some 60) (v := ?_) (a' := ?_) #[true, true, true, true, true, true, true, true, true, true, true, true, true, true, true, true, true, true, true, true, true, true, true, true, false, false, false, false, false, false, false, false, false, false, false, false, false, false, false, false] rfl rfl (any_of HT_.out (by kernel_rfl)) (fun _ _ _ h => h) (Or.inl ⟨by rfl, ?_⟩) ?_ ?_
           rotate_left
           ·intro w'
            go_simp
            with_reducible rfl
           rotate_left
           ·simp only [Act.put, sA, sB, sC, i64_w, i32_w]
            rfl
           refine pure_ (i := 24) (N := some 61) (v := ?_) (a' := ?_) #[true, true, true, true, true, true, true, true, true, true, true, true, true, true, true, true, true, true, true, true, true, true, true, true, true, false, false, false, false, false, false, false, false, false, false, false, false, false, false, false] rfl rfl (any_of HT_.out (by kernel_rfl)) (fun _ _ _ h => h) (Or.inl ⟨by rfl, ?_⟩) ?_ ?_
           rotate_left
           ·intro w'
            go_simp
            with_reducible rfl
           rotate_left
           ·simp only [Act.put, sA, sB, sC, i64_w, i32_w]
            rfl
           refine pure_ (i := 25) (N := some 62) (v := ?_) (a' := ?_) #[true, true, true, true, true, true, true, true, true, true, true, true, true, true, true, true, true, true, true, true, true, true, true, true, true, true, false, false, false, false, false, false, false, false, false, false, false, false, false, false] rfl rfl (any_of HT_.out (by kernel_rfl)) (fun _ _ _ h => h) (Or.inl ⟨by rfl, ?_⟩) ?_ ?_
           rotate_left
           ·intro w'
            go_simp
            with_reducible rfl
           rotate_left
           ·simp only [Act.put, sA, sB, sC, i64_w, i32_w]
            rfl
           refine pure_ (i := 26) (N := some 63) (v := ?_) (a' := ?_) #[true, true, true, true, true, true, true, true, true, true, true, true, true, true, true, true, true, true, true, true, true, true, true, true, true, true, true, false, false, false, false, false, false, false, false, false, false, false, false, false] rfl rfl (any_of HT_.out (by kernel_rfl)) (fun _ _ _ h => h) (Or.inl ⟨by rfl, ?_⟩) ?_ ?_
           rotate_left
           ·intro w'
            go_simp
            with_reducible rfl
           rotate_left
           ·simp only [Act.put, sA, sB, sC, i64_w, i32_w]
            rfl
           refine pure_ (i := 27) (N := some 64) (v := ?_) (a' := ?_) #[true, true, true, true, true, true, true, true, true, true, true, true, true, true, true, true, true, true, true, true, true, true, true, true, true, true, true, true, false, false, false, false, false, false, false, false, false, false, false, false] rfl rfl (any_of HT_.out (by kernel_rfl)) (fun _ _ _ h => h) (Or.inl ⟨by rfl, ?_⟩) ?_ ?_
           rotate_left
           ·intro w'
            go_simp
            with_reducible rfl
           rotate_left
           ·simp only [Act.put, sA, sB, sC, i64_w, i32_w]
            rfl
           refine pure_ (i := 28) (N := some 65) (v := ?_) (a' := ?_) #[true, true, true, true, true, true, true, true, true, true, true, true, true, true, true, true, true, true, true, true, true, true, true, true, true, true, true, true, true, false, false, false, false, false, false, false, false, false, false, false] rfl rfl (any_of HT_.out (by kernel_rfl)) (fun _ _ _ h => h) (Or.inl ⟨by rfl, ?_⟩) ?_ ?_
           rotate_left
           ·intro w'
            go_simp
            with_reducible rfl
           rotate_left
           ·simp only [Act.put, sA, sB, sC, i64_w, i32_w]
            rfl
           refine pure_ (i := 29) (N := some 66) (v := ?_) (a' := ?_) #[true, true, true, true, true, true, true, true, true, true, true, true, true, true, true, true, true, true, true, true, true, true, true, true, true, true, true, true, true, true, false, false, false, false, false, false, false, false, false, false] rfl rfl (any_of HT_.out (by kernel_rfl)) (fun _ _ _ h => h) (Or.inl ⟨by rfl, ?_⟩) ?_ ?_
           rotate_left
           ·intro w'
            go_simp
            with_reducible rfl
           rotate_left
           ·simp only [Act.put, sA, sB, sC, i64_w, i32_w]
            rfl
           refine pure_ (i := 30) (N := some 67) (v := ?_) (a' := ?_) #[true, true, true, true, true, true, true, true, true, true, true, true, true, true, true, true, true, true, true, true, true, true, true, true, true, true, true, true, true, true, true, false, false, false, false, false, false, false, false, false] rfl rfl (any_of HT_.out (by kernel_rfl)) (fun _ _ _ h => h) (Or.inl ⟨by rfl, ?_⟩) ?_ ?_
           rotate_left
           ·intro w'
            go_simp
            with_reducible rfl
           rotate_left
           ·simp only [Act.put, sA, sB, sC, i64_w, i32_w]
            rfl
           refine pure_ (i := 31) (N := some 68) (v := ?_) (a' := ?_) #[true, true, true, true, true, true, true, true, true, true, true, true, true, true, true, true, true, true, true, true, true, true, true, true, true, true, true, true, true, true, true, true, false, false, false, false, false, false, false, false] rfl rfl (any_of HT_.out (by kernel_rfl)) (fun _ _ _ h => h) (Or.inl ⟨by rfl, ?_⟩) ?_ ?_
           rotate_left
           ·intro w'
            go_simp
            with_reducible rfl
           rotate_left
           ·simp only [Act.put, sA, sB, sC, i64_w, i32_w]
            rfl
           refine pure_ (i := 32) (N := some 69) (v := ?_) (a' := ?_) #[true, true, true, true, true, true, true, true, true, true, true, true, true, true, true, true, true, true, true, true, true, true, true, true, true, true, true, true, true, true, true, true, true, false, false, false, false, false, false, false] rfl rfl (any_of HT_.out (by kernel_rfl)) (fun _ _ _ h => h) (Or.inl ⟨by rfl, ?_⟩) ?_ ?_
           rotate_left
           ·intro w'
            go_simp
            with_reducible rfl
           rotate_left
           ·simp only [Act.put, sA, sB, sC, i64_w, i32_w]
            rfl
           refine pure_ (i := 35) (N := some 72) (v := ?_) (a' := ?_) #[true, true, true, true, true, true, true, true, true, true, true, true, true, true, true, true, true, true, true, true, true, true, true, true, true, true, true, true, true, true, true, true, true, false, false, true, false, false, false, false] rfl rfl (any_of HT_.out (by kernel_rfl)) (fun _ _ _ h => h) (Or.inl ⟨by rfl, ?_⟩) ?_ ?_
           rotate_left
           ·intro w'
            go_simp
            with_reducible rfl
           rotate_left
           ·simp only [Act.put, sA, sB, sC, i64_w, i32_w]
            rfl
           refine take_ (i := 33) (N := some 70) (v := ?_) (a' := ?_) #[true, true, true, true, true, true, true, true, true, true, true, true, true, true, true, true, true, true, true, true, true, true, true, true, true, true, true, true, true, true, true, true, true, true, false, true, false, false, false, false] rfl rfl (take_ofW HT_.out HW_.out (by kernel_rfl)) (fun _ _ _ h => h) (Or.inl ⟨by rfl, ?_⟩) hHeld ?_ ?_
           rotate_left
           ·rintro w' ⟨s0, s1, s2, s3, s4, s5, s6, s7, s8, s9, s10, s11, s12, s13, s14, s15, s16, s17, s18, s19, s20, s21, s22, s23, s24, s25, s26, s27, s28, s29, s30, s31, s32, s33, s34, s35⟩
            go_simp
            with_reducible rfl
           rotate_left
           ·simp only [Act.put, sA, sB, sC, i64_w, i32_w]
            rfl
           refine one_ (i := 34) (N := some 71) #[true, true, true, true, true, true, true, true, true, true, true, true, true, true, true, true, true, true, true, true, true, true, true, true, true, true, true, true, true, true, true, true, true, true, true, true, false, false, false, false] rfl rfl (one_of HT_.out (by kernel_rfl)) (by decide) (fun K hK => ?_)
           refine goes_ Try.func14 (by kernel_rfl) rfl #[.agg #[.int .i64 t244, .int .i64 t245, .int .i64 t246, .int .i64 t247, .int .i64 t248, .int .i64 t249, .int .i64 t250, .int .i64 t251, .int .i64 t252]] (by rfl) rfl rfl (by (try simp only [sD, List.map_cons, List.map_nil]); first | done | rfl) ?_
           with_reducible refine (peer_PrintReport.calls kj2 t244 t245 t246 t247 t248 t249 t250 t251 t252 t295 _ A76.out).mono ?_
           rintro e w99 ⟨rfl, hb⟩
           refine ⟨_, rfl, ?_⟩
           have n0_ := Aside0.mk (blk_below (g := gb229) BK229.out hb)
           have n1_ := Aside0.mk (blk_below (g := gb243) BK243.out hb)
           have n2_ := Aside0.mk (blk_below (g := gb254) BK254.out hb)
           have n3_ := Aside0.mk (blk_below (g := gb265) BK265.out hb)
           have n4_ := Aside0.mk (below_step (by repeat (first | (with_reducible first | exact HB.out | apply below_alloc | apply pw_below_drewN | apply below_drew1 | refine below_set ?_ GE229.out | refine below_set ?_ GE243.out | refine below_set ?_ GE254.out | refine below_set ?_ GE265.out) | exact HB.out)) hb)
           clear BK229
           clear BK243
           clear BK254
           clear BK265
           clear HB
           have BK229 := n0_
           have BK243 := n1_
           have BK254 := n2_
           have BK265 := n3_
           have HB := n4_
           clear n0_ n1_ n2_ n3_ n4_
           (try clear hb)
           (try clear hb2)
           (try clear hk)
           (try clear hi)
           refine hK.out _ _ ⟨(blk_cell BK229.out 0).trans rfl, (blk_cell BK229.out 1).trans rfl, (blk_cell BK229.out 2).trans rfl, (blk_cell BK229.out 3).trans rfl, (blk_cell BK229.out 4).trans rfl, (blk_cell BK229.out 5).trans rfl, (blk_cell BK229.out 6).trans rfl, (blk_cell BK229.out 7).trans rfl, (blk_cell BK229.out 8).trans rfl, (blk_cell BK243.out 0).trans rfl, (blk_cell BK243.out 1).trans rfl, (blk_cell BK243.out 2).trans rfl, (blk_cell BK243.out 3).trans rfl, (blk_cell BK243.out 4).trans rfl, (blk_cell BK243.out 5).trans rfl, (blk_cell BK243.out 6).trans rfl, (blk_cell BK243.out 7).trans rfl, (blk_cell BK243.out 8).trans rfl, (blk_cell BK254.out 0).trans rfl, (blk_cell BK254.out 1).trans rfl, (blk_cell BK254.out 2).trans rfl, (blk_cell BK254.out 3).trans rfl, (blk_cell BK254.out 4).trans rfl, (blk_cell BK254.out 5).trans rfl, (blk_cell BK254.out 6).trans rfl, (blk_cell BK254.out 7).trans rfl, (blk_cell BK254.out 8).trans rfl, (blk_cell BK265.out 0).trans rfl, (blk_cell BK265.out 1).trans rfl, (blk_cell BK265.out 2).trans rfl, (blk_cell BK265.out 3).trans rfl, (blk_cell BK265.out 4).trans rfl, (blk_cell BK265.out 5).trans rfl, (blk_cell BK265.out 6).trans rfl, (blk_cell BK265.out 7).trans rfl, (blk_cell BK265.out 8).trans rfl⟩ (fun hHeld => ?_)
           clear hK K
           refine norm_ (a' := ?_) ?_ ?_
           rotate_left
           ·show Act.put _ (some 71) _ = _
            simp only [Act.put, sA, sB, sC, i64_w, i32_w]
            rfl
           refine pure_ (i := 36) (N := some 73) (v := ?_) (a' := ?_) #[true, true, true, true, true, true, true, true, true, true, true, true, true, true, true, true, true, true, true, true, true, true, true, true, true, true, true, true, true, true, true, true, true, true, true, true, true, false, false, false] rfl rfl (any_of HT_.out (by kernel_rfl)) (fun _ _ _ h => h) (Or.inl ⟨by rfl, ?_⟩) ?_ ?_
           rotate_left
           ·intro w'
            go_simp
            with_reducible rfl
           rotate_left
           ·simp only [Act.put, sA, sB, sC, i64_w, i32_w]
            rfl
           refine pure_ (i := 37) (N := some 74) (v := ?_) (a' := ?_) #[true, true, true, true, true, true, true, true, true, true, true, true, true, true, true, true, true, true, true, true, true, true, true, true, true, true, true, true, true, true, true, true, true, true, true, true, true, true, false, false] rfl rfl (any_of HT_.out (by kernel_rfl)) (fun _ _ _ h => h) (Or.inl ⟨by rfl, ?_⟩) ?_ ?_
           rotate_left
           ·intro w'
            go_simp
            with_reducible rfl
           rotate_left
           ·simp only [Act.put, sA, sB, sC, i64_w, i32_w]
            rfl
           refine pure_ (i := 38) (N := some 75) (v := ?_) (a' := ?_) #[true, true, true, true, true, true, true, true, true, true, true, true, true, true, true, true, true, true, true, true, true, true, true, true, true, true, true, true, true, true, true, true, true, true, true, true, true, true, true, false] rfl rfl (any_of HT_.out (by kernel_rfl)) (fun _ _ _ h => h) (Or.inl ⟨by rfl, ?_⟩) ?_ ?_
           rotate_left
           ·intro w'
            go_simp
            with_reducible rfl
           rotate_left
           ·simp only [Act.put, sA, sB, sC, i64_w, i32_w]
            rfl
           refine pure_ (i := 39) (N := some 4) (v := ?_) (a' := ?_) #[true, true, true, true, true, true, true, true, true, true, true, true, true, true, true, true, true, true, true, true, true, true, true, true, true, true, true, true, true, true, true, true, true, true, true, true, true, true, true, true] rfl rfl (any_of HT_.out (by kernel_rfl)) (fun _ _ _ h => h) (Or.inl ⟨by rfl, ?_⟩) ?_ ?_
           rotate_left
           ·intro w'
            go_simp
            with_reducible rfl
           rotate_left
           ·simp only [Act.put, sA, sB, sC, i64_w, i32_w]
            rfl
           refine done_ (done_of HT_.out (by kernel_rfl)) ?_
           try go_wp2
           go_ret
           exact ⟨by first | rfl | (simp [errW_none, errW_some] <;> rfl) | (simp [*, errW_none, errW_some] <;> rfl), by repeat (first | (with_reducible first | exact HB.out | apply below_alloc | apply pw_below_drewN | apply below_drew1 | refine below_set ?_ GE229.out | refine below_set ?_ GE243.out | refine below_set ?_ GE254.out | refine below_set ?_ GE265.out) | exact HB.out)⟩
          ·rw [if_neg c75] at H
           have c75b0 : (t264 == 0) = false := beq_eq_false_iff_ne.mpr c75
           have c75b1 : (t264 != 0) = true := bne_iff_ne.mpr c75
           obtain rfl := Option.some.inj H
           have hcz100_0 : wc.cell? ⟨gb229, 0, none⟩ = some (.int .i64 a0_0) := (blk_cell BK229.out 0).trans rfl
           have hcz100_1 : wc.cell? ⟨gb229, 1, none⟩ = some (.int .i64 a0_1) := (blk_cell BK229.out 1).trans rfl
           have hcz100_2 : wc.cell? ⟨gb229, 2, none⟩ = some (.int .i64 a0_2) := (blk_cell BK229.out 2).trans rfl
           have hcz100_3 : wc.cell? ⟨gb229, 3, none⟩ = some (.int .i64 a0_3) := (blk_cell BK229.out 3).trans rfl
           have hcz100_4 : wc.cell? ⟨gb229, 4, none⟩ = some (.int .i64 a0_4) := (blk_cell BK229.out 4).trans rfl
           have hcz100_5 : wc.cell? ⟨gb229, 5, none⟩ = some (.int .i64 a0_5) := (blk_cell BK229.out 5).trans rfl
           have hcz100_6 : wc.cell? ⟨gb229, 6, none⟩ = some (.int .i64 a0_6) := (blk_cell BK229.out 6).trans rfl
           have hcz100_7 : wc.cell? ⟨gb229, 7, none⟩ = some (.int .i64 a0_7) := (blk_cell BK229.out 7).trans rfl
           have hcz100_8 : wc.cell? ⟨gb229, 8, none⟩ = some (.int .i64 a0_8) := (blk_cell BK229.out 8).trans rfl
           have hfz100_0 := blk_frozen BK229.out 0
           have hfz100_1 := blk_frozen BK229.out 1
           have hfz100_2 := blk_frozen BK229.out 2
           have hfz100_3 := blk_frozen BK229.out 3
           have hfz100_4 := blk_frozen BK229.out 4
           have hfz100_5 := blk_frozen BK229.out 5
           have hfz100_6 := blk_frozen BK229.out 6
           have hfz100_7 := blk_frozen BK229.out 7
           have hfz100_8 := blk_frozen BK229.out 8
           have tk4_1_ : True := trivial
           have tk4_3_ : True := trivial
           try go_wp2_with (first | ((with_reducible refine gate_callee (f := 14) rfl ?_); refine goesL_ (some 21) rfl rfl Try.func14 (by kernel_rfl) rfl #[.agg #[.int .i64 a0_0, .int .i64 a0_1, .int .i64 a0_2, .int .i64 a0_3, .int .i64 a0_4, .int .i64 a0_5, .int .i64 a0_6, .int .i64 a0_7, .int .i64 a0_8]] rfl (by (try simp only [sD, List.map_cons, List.map_nil]); first | done | rfl) ?_; (with_reducible refine (peer_PrintReport.calls kj2 a0_0 a0_1 a0_2 a0_3 a0_4 a0_5 a0_6 a0_7 a0_8 t232 _ A12.out).mono ?_); rintro e w101 ⟨rfl, hb⟩; refine ⟨_, rfl, ?_⟩; have n0_ := Aside0.mk (blk_below (g := gb229) BK229.out hb); have n1_ := Aside0.mk (below_step (by repeat (first | (with_reducible first | exact HB.out | apply below_alloc | apply pw_below_drewN | apply below_drew1 | refine below_set ?_ GE229.out) | exact HB.out)) hb); clear BK229; clear HB; have BK229 := n0_; have HB := n1_; clear n0_ n1_; (try clear hb)) | ((with_reducible refine gate_callee (f := 15) rfl ?_); have q_ := tk4_1_; clear q_ tk4_1_; refine goesL_ (some 24) rfl rfl Try.func15 (by kernel_rfl) rfl #[.string t232] rfl (by (try simp only [sD, List.map_cons, List.map_nil]); first | done | rfl) ?_; (with_reducible refine (peer_ReadReport.calls kj2 t232 t233 t234 t235 t236 t237 t238 t239 t240 t241 t242 _ A13.out).mono ?_); rintro e w102 ⟨rfl, hb⟩; refine ⟨_, rfl, ?_⟩; have n0_ := Aside0.mk (blk_below (g := gb229) BK229.out hb); have n1_ := Aside0.mk (below_step (by repeat (first | (with_reducible first | exact HB.out | apply below_alloc | apply pw_below_drewN | apply below_drew1 | refine below_set ?_ GE229.out) | exact HB.out)) hb); clear BK229; clear HB; have BK229 := n0_; have HB := n1_; clear n0_ n1_; (try clear hb)) | ((with_reducible refine gate_dst (N := 6) rfl ?_); (try (refine gate_guard (by rfl) ?_; dsimp only)); refine box_event ?hg (N := 6) ?hd (cs := #[.int .i64 0, .int .i64 0, .int .i64 0, .int .i64 0, .int .i64 0, .int .i64 0, .int .i64 0, .int .i64 0, .int .i64 0]) (t := 37) ?hr ?_; (case hd => rfl); (case hg => rfl); (case hr => first | (go_simp; done) | (go_simp; rfl)); intro gb243 hg w103 hbox hb; have n0_ := Aside0.mk (blk_below (g := gb229) BK229.out hb); have n1_ := Aside0.mk (below_step (by repeat (first | (with_reducible first | exact HB.out | apply below_alloc | apply pw_below_drewN | apply below_drew1 | refine below_set ?_ GE229.out) | exact HB.out)) hb); have n2_ := Aside0.mk (hbox); have n3_ := Aside0.mk ((by rw [hg]; exact (below_size (by repeat (first | (with_reducible first | exact HB.out | apply below_alloc | apply pw_below_drewN | apply below_drew1 | refine below_set ?_ GE229.out) | exact HB.out))) : w.heap.size ≤ gb243)); have n4_ := n3_; have n5_ := Aside0.mk ((by rw [hg]; exact Nat.ne_of_lt (blk_lt (g := gb229) BK229.out) : gb229 ≠ gb243)); have n6_ := Aside0.mk ((by rw [hg]; exact Nat.ne_of_gt (blk_lt (g := gb229) BK229.out) : gb243 ≠ gb229)); clear BK229; clear HB; have BK229 := n0_; have HB := n1_; have BK243 := n2_; have GW243 := n3_; have GE243 := n4_; have NB229_243 := n5_; have NB243_229 := n6_; clear n0_ n1_ n2_ n3_ n4_ n5_ n6_; clear hb hbox hg; have hnb104 := NB243_229.out; have hnc104 := NB229_243.out; have hcz105_0 : w103.cell? ⟨gb243, 0, none⟩ = some (.int .i64 0) := (blk_cell BK243.out 0).trans rfl; have hcz105_1 : w103.cell? ⟨gb243, 1, none⟩ = some (.int .i64 0) := (blk_cell BK243.out 1).trans rfl; have hcz105_2 : w103.cell? ⟨gb243, 2, none⟩ = some (.int .i64 0) := (blk_cell BK243.out 2).trans rfl; have hcz105_3 : w103.cell? ⟨gb243, 3, none⟩ = some (.int .i64 0) := (blk_cell BK243.out 3).trans rfl; have hcz105_4 : w103.cell? ⟨gb243, 4, none⟩ = some (.int .i64 0) := (blk_cell BK243.out 4).trans rfl; have hcz105_5 : w103.cell? ⟨gb243, 5, none⟩ = some (.int .i64 0) := (blk_cell BK243.out 5).trans rfl; have hcz105_6 : w103.cell? ⟨gb243, 6, none⟩ = some (.int .i64 0) := (blk_cell BK243.out 6).trans rfl; have hcz105_7 : w103.cell? ⟨gb243, 7, none⟩ = some (.int .i64 0) := (blk_cell BK243.out 7).trans rfl; have hcz105_8 : w103.cell? ⟨gb243, 8, none⟩ = some (.int .i64 0) := (blk_cell BK243.out 8).trans rfl; have hfz105_0 := blk_frozen BK243.out 0; have hfz105_1 := blk_frozen BK243.out 1; have hfz105_2 := blk_frozen BK243.out 2; have hfz105_3 := blk_frozen BK243.out 3; have hfz105_4 := blk_frozen BK243.out 4; have hfz105_5 := blk_frozen BK243.out 5; have hfz105_6 := blk_frozen BK243.out 6; have hfz105_7 := blk_frozen BK243.out 7; have hfz105_8 := blk_frozen BK243.out 8) | ((with_reducible refine gate_callee (f := 15) rfl ?_); have q_ := tk4_3_; clear q_ tk4_3_; refine goesL_ (some 29) rfl rfl Try.func15 (by kernel_rfl) rfl #[.string a1] rfl (by (try simp only [sD, List.map_cons, List.map_nil]); first | done | rfl) ?_; (with_reducible refine (peer_ReadReport.calls kj2 a1 t244 t245 t246 t247 t248 t249 t250 t251 t252 t253 _ A14.out).mono ?_); rintro e w106 ⟨rfl, hb⟩; refine ⟨_, rfl, ?_⟩; have n0_ := Aside0.mk (blk_below (g := gb229) (o := .cells #[.int .i64 a0_0, .int .i64 a0_1, .int .i64 a0_2, .int .i64 a0_3, .int .i64 a0_4, .int .i64 a0_5, .int .i64 a0_6, .int .i64 a0_7, .int .i64 a0_8] 37 (0, 0)) (by refine blk_far ?_ NB229_243.out _; refine blk_far ?_ NB229_243.out _; refine blk_far ?_ NB229_243.out _; refine blk_far ?_ NB229_243.out _; refine blk_far ?_ NB229_243.out _; refine blk_far ?_ NB229_243.out _; refine blk_far ?_ NB229_243.out _; refine blk_far ?_ NB229_243.out _; refine blk_far ?_ NB229_243.out _; exact BK229.out) hb); have n1_ := Aside0.mk (blk_below (g := gb243) (o := .cells #[.int .i64 t233, .int .i64 t234, .int .i64 t235, .int .i64 t236, .int .i64 t237, .int .i64 t238, .int .i64 t239, .int .i64 t240, .int .i64 t241] 37 (0, 0)) (by refine blk_put (cs := #[.int .i64 t233, .int .i64 t234, .int .i64 t235, .int .i64 t236, .int .i64 t237, .int .i64 t238, .int .i64 t239, .int .i64 t240, .int .i64 0]) ?_ 8 _ rfl; refine blk_put (cs := #[.int .i64 t233, .int .i64 t234, .int .i64 t235, .int .i64 t236, .int .i64 t237, .int .i64 t238, .int .i64 t239, .int .i64 0, .int .i64 0]) ?_ 7 _ rfl; refine blk_put (cs := #[.int .i64 t233, .int .i64 t234, .int .i64 t235, .int .i64 t236, .int .i64 t237, .int .i64 t238, .int .i64 0, .int .i64 0, .int .i64 0]) ?_ 6 _ rfl; refine blk_put (cs := #[.int .i64 t233, .int .i64 t234, .int .i64 t235, .int .i64 t236, .int .i64 t237, .int .i64 0, .int .i64 0, .int .i64 0, .int .i64 0]) ?_ 5 _ rfl; refine blk_put (cs := #[.int .i64 t233, .int .i64 t234, .int .i64 t235, .int .i64 t236, .int .i64 0, .int .i64 0, .int .i64 0, .int .i64 0, .int .i64 0]) ?_ 4 _ rfl; refine blk_put (cs := #[.int .i64 t233, .int .i64 t234, .int .i64 t235, .int .i64 0, .int .i64 0, .int .i64 0, .int .i64 0, .int .i64 0, .int .i64 0]) ?_ 3 _ rfl; refine blk_put (cs := #[.int .i64 t233, .int .i64 t234, .int .i64 0, .int .i64 0, .int .i64 0, .int .i64 0, .int .i64 0, .int .i64 0, .int .i64 0]) ?_ 2 _ rfl; refine blk_put (cs := #[.int .i64 t233, .int .i64 0, .int .i64 0, .int .i64 0, .int .i64 0, .int .i64 0, .int .i64 0, .int .i64 0, .int .i64 0]) ?_ 1 _ rfl; refine blk_put (cs := #[.int .i64 0, .int .i64 0, .int .i64 0, .int .i64 0, .int .i64 0, .int .i64 0, .int .i64 0, .int .i64 0, .int .i64 0]) ?_ 0 _ rfl; exact BK243.out) hb); have n2_ := Aside0.mk (below_step (by repeat (first | (with_reducible first | exact HB.out | apply below_alloc | apply pw_below_drewN | apply below_drew1 | refine below_set ?_ GE229.out | refine below_set ?_ GE243.out) | exact HB.out)) hb); clear BK229; clear BK243; clear HB; have BK229 := n0_; have BK243 := n1_; have HB := n2_; clear n0_ n1_ n2_; (try clear hb)) | ((with_reducible refine gate_dst (N := 8) rfl ?_); (try (refine gate_guard (by rfl) ?_; dsimp only)); refine box_event ?hg (N := 8) ?hd (cs := #[.int .i64 0, .int .i64 0, .int .i64 0, .int .i64 0, .int .i64 0, .int .i64 0, .int .i64 0, .int .i64 0, .int .i64 0]) (t := 37) ?hr ?_; (case hd => rfl); (case hg => rfl); (case hr => first | (go_simp; done) | (go_simp; rfl)); intro gb254 hg w107 hbox hb; have n0_ := Aside0.mk (blk_below (g := gb229) BK229.out hb); have n1_ := Aside0.mk (blk_below (g := gb243) BK243.out hb); have n2_ := Aside0.mk (below_step (by repeat (first | (with_reducible first | exact HB.out | apply below_alloc | apply pw_below_drewN | apply below_drew1 | refine below_set ?_ GE229.out | refine below_set ?_ GE243.out) | exact HB.out)) hb); have n3_ := Aside0.mk (hbox); have n4_ := Aside0.mk ((by rw [hg]; exact (below_size (by repeat (first | (with_reducible first | exact HB.out | apply below_alloc | apply pw_below_drewN | apply below_drew1 | refine below_set ?_ GE229.out | refine below_set ?_ GE243.out) | exact HB.out))) : w.heap.size ≤ gb254)); have n5_ := n4_; have n6_ := Aside0.mk ((by rw [hg]; exact Nat.ne_of_lt (blk_lt (g := gb229) BK229.out) : gb229 ≠ gb254)); have n7_ := Aside0.mk ((by rw [hg]; exact Nat.ne_of_gt (blk_lt (g := gb229) BK229.out) : gb254 ≠ gb229)); have n8_ := Aside0.mk ((by rw [hg]; exact Nat.ne_of_lt (blk_lt (g := gb243) BK243.out) : gb243 ≠ gb254)); have n9_ := Aside0.mk ((by rw [hg]; exact Nat.ne_of_gt (blk_lt (g := gb243) BK243.out) : gb254 ≠ gb243)); clear BK229; clear BK243; clear HB; have BK229 := n0_; have BK243 := n1_; have HB := n2_; have BK254 := n3_; have GW254 := n4_; have GE254 := n5_; have NB229_254 := n6_; have NB254_229 := n7_; have NB243_254 := n8_; have NB254_243 := n9_; clear n0_ n1_ n2_ n3_ n4_ n5_ n6_ n7_ n8_ n9_; clear hb hbox hg; have hnb108 := NB254_229.out; have hnc108 := NB229_254.out; have hnb109 := NB254_243.out; have hnc109 := NB243_254.out; have hcz110_0 : w107.cell? ⟨gb254, 0, none⟩ = some (.int .i64 0) := (blk_cell BK254.out 0).trans rfl; have hcz110_1 : w107.cell? ⟨gb254, 1, none⟩ = some (.int .i64 0) := (blk_cell BK254.out 1).trans rfl; have hcz110_2 : w107.cell? ⟨gb254, 2, none⟩ = some (.int .i64 0) := (blk_cell BK254.out 2).trans rfl; have hcz110_3 : w107.cell? ⟨gb254, 3, none⟩ = some (.int .i64 0) := (blk_cell BK254.out 3).trans rfl; have hcz110_4 : w107.cell? ⟨gb254, 4, none⟩ = some (.int .i64 0) := (blk_cell BK254.out 4).trans rfl; have hcz110_5 : w107.cell? ⟨gb254, 5, none⟩ = some (.int .i64 0) := (blk_cell BK254.out 5).trans rfl; have hcz110_6 : w107.cell? ⟨gb254, 6, none⟩ = some (.int .i64 0) := (blk_cell BK254.out 6).trans rfl; have hcz110_7 : w107.cell? ⟨gb254, 7, none⟩ = some (.int .i64 0) := (blk_cell BK254.out 7).trans rfl; have hcz110_8 : w107.cell? ⟨gb254, 8, none⟩ = some (.int .i64 0) := (blk_cell BK254.out 8).trans rfl; have hfz110_0 := blk_frozen BK254.out 0; have hfz110_1 := blk_frozen BK254.out 1; have hfz110_2 := blk_frozen BK254.out 2; have hfz110_3 := blk_frozen BK254.out 3; have hfz110_4 := blk_frozen BK254.out 4; have hfz110_5 := blk_frozen BK254.out 5; have hfz110_6 := blk_frozen BK254.out 6; have hfz110_7 := blk_frozen BK254.out 7; have hfz110_8 := blk_frozen BK254.out 8) | ((with_reducible refine gate_callee (f := 16) rfl ?_); refine goesL_ (some 34) rfl rfl Try.func16 (by kernel_rfl) rfl #[.string a1] rfl (by (try simp only [sD, List.map_cons, List.map_nil]); first | done | rfl) ?_; (with_reducible refine (apogeeref07_ReadReport.calls kj2 a1 t255 t256 t257 t258 t259 t260 t261 t262 t263 t264 _ A15.out).mono ?_); rintro e w111 ⟨rfl, hb⟩; refine ⟨_, rfl, ?_⟩; have n0_ := Aside0.mk (blk_below (g := gb229) (o := .cells #[.int .i64 a0_0, .int .i64 a0_1, .int .i64 a0_2, .int .i64 a0_3, .int .i64 a0_4, .int .i64 a0_5, .int .i64 a0_6, .int .i64 a0_7, .int .i64 a0_8] 37 (0, 0)) (by refine blk_far ?_ NB229_254.out _; refine blk_far ?_ NB229_254.out _; refine blk_far ?_ NB229_254.out _; refine blk_far ?_ NB229_254.out _; refine blk_far ?_ NB229_254.out _; refine blk_far ?_ NB229_254.out _; refine blk_far ?_ NB229_254.out _; refine blk_far ?_ NB229_254.out _; refine blk_far ?_ NB229_254.out _; exact BK229.out) hb); have n1_ := Aside0.mk (blk_below (g := gb243) (o := .cells #[.int .i64 t233, .int .i64 t234, .int .i64 t235, .int .i64 t236, .int .i64 t237, .int .i64 t238, .int .i64 t239, .int .i64 t240, .int .i64 t241] 37 (0, 0)) (by refine blk_far ?_ NB243_254.out _; refine blk_far ?_ NB243_254.out _; refine blk_far ?_ NB243_254.out _; refine blk_far ?_ NB243_254.out _; refine blk_far ?_ NB243_254.out _; refine blk_far ?_ NB243_254.out _; refine blk_far ?_ NB243_254.out _; refine blk_far ?_ NB243_254.out _; refine blk_far ?_ NB243_254.out _; exact BK243.out) hb); have n2_ := Aside0.mk (blk_below (g := gb254) (o := .cells #[.int .i64 t244, .int .i64 t245, .int .i64 t246, .int .i64 t247, .int .i64 t248, .int .i64 t249, .int .i64 t250, .int .i64 t251, .int .i64 t252] 37 (0, 0)) (by refine blk_put (cs := #[.int .i64 t244, .int .i64 t245, .int .i64 t246, .int .i64 t247, .int .i64 t248, .int .i64 t249, .int .i64 t250, .int .i64 t251, .int .i64 0]) ?_ 8 _ rfl; refine blk_put (cs := #[.int .i64 t244, .int .i64 t245, .int .i64 t246, .int .i64 t247, .int .i64 t248, .int .i64 t249, .int .i64 t250, .int .i64 0, .int .i64 0]) ?_ 7 _ rfl; refine blk_put (cs := #[.int .i64 t244, .int .i64 t245, .int .i64 t246, .int .i64 t247, .int .i64 t248, .int .i64 t249, .int .i64 0, .int .i64 0, .int .i64 0]) ?_ 6 _ rfl; refine blk_put (cs := #[.int .i64 t244, .int .i64 t245, .int .i64 t246, .int .i64 t247, .int .i64 t248, .int .i64 0, .int .i64 0, .int .i64 0, .int .i64 0]) ?_ 5 _ rfl; refine blk_put (cs := #[.int .i64 t244, .int .i64 t245, .int .i64 t246, .int .i64 t247, .int .i64 0, .int .i64 0, .int .i64 0, .int .i64 0, .int .i64 0]) ?_ 4 _ rfl; refine blk_put (cs := #[.int .i64 t244, .int .i64 t245, .int .i64 t246, .int .i64 0, .int .i64 0, .int .i64 0, .int .i64 0, .int .i64 0, .int .i64 0]) ?_ 3 _ rfl; refine blk_put (cs := #[.int .i64 t244, .int .i64 t245, .int .i64 0, .int .i64 0, .int .i64 0, .int .i64 0, .int .i64 0, .int .i64 0, .int .i64 0]) ?_ 2 _ rfl; refine blk_put (cs := #[.int .i64 t244, .int .i64 0, .int .i64 0, .int .i64 0, .int .i64 0, .int .i64 0, .int .i64 0, .int .i64 0, .int .i64 0]) ?_ 1 _ rfl; refine blk_put (cs := #[.int .i64 0, .int .i64 0, .int .i64 0, .int .i64 0, .int .i64 0, .int .i64 0, .int .i64 0, .int .i64 0, .int .i64 0]) ?_ 0 _ rfl; exact BK254.out) hb); have n3_ := Aside0.mk (below_step (by repeat (first | (with_reducible first | exact HB.out | apply below_alloc | apply pw_below_drewN | apply below_drew1 | refine below_set ?_ GE229.out | refine below_set ?_ GE243.out | refine below_set ?_ GE254.out) | exact HB.out)) hb); clear BK229; clear BK243; clear BK254; clear HB; have BK229 := n0_; have BK243 := n1_; have BK254 := n2_; have HB := n3_; clear n0_ n1_ n2_ n3_; (try clear hb)) | ((with_reducible refine gate_dst (N := 10) rfl ?_); (try (refine gate_guard (by rfl) ?_; dsimp only)); refine box_event ?hg (N := 10) ?hd (cs := #[.int .i64 0, .int .i64 0, .int .i64 0, .int .i64 0, .int .i64 0, .int .i64 0, .int .i64 0, .int .i64 0, .int .i64 0]) (t := 41) ?hr ?_; (case hd => rfl); (case hg => rfl); (case hr => first | (go_simp; done) | (go_simp; rfl)); intro gb265 hg w112 hbox hb; have n0_ := Aside0.mk (blk_below (g := gb229) BK229.out hb); have n1_ := Aside0.mk (blk_below (g := gb243) BK243.out hb); have n2_ := Aside0.mk (blk_below (g := gb254) BK254.out hb); have n3_ := Aside0.mk (below_step (by repeat (first | (with_reducible first | exact HB.out | apply below_alloc | apply pw_below_drewN | apply below_drew1 | refine below_set ?_ GE229.out | refine below_set ?_ GE243.out | refine below_set ?_ GE254.out) | exact HB.out)) hb); have n4_ := Aside0.mk (hbox); have n5_ := Aside0.mk ((by rw [hg]; exact (below_size (by repeat (first | (with_reducible first | exact HB.out | apply below_alloc | apply pw_below_drewN | apply below_drew1 | refine below_set ?_ GE229.out | refine below_set ?_ GE243.out | refine below_set ?_ GE254.out) | exact HB.out))) : w.heap.size ≤ gb265)); have n6_ := n5_; have n7_ := Aside0.mk ((by rw [hg]; exact Nat.ne_of_lt (blk_lt (g := gb229) BK229.out) : gb229 ≠ gb265)); have n8_ := Aside0.mk ((by rw [hg]; exact Nat.ne_of_gt (blk_lt (g := gb229) BK229.out) : gb265 ≠ gb229)); have n9_ := Aside0.mk ((by rw [hg]; exact Nat.ne_of_lt (blk_lt (g := gb243) BK243.out) : gb243 ≠ gb265)); have n10_ := Aside0.mk ((by rw [hg]; exact Nat.ne_of_gt (blk_lt (g := gb243) BK243.out) : gb265 ≠ gb243)); have n11_ := Aside0.mk ((by rw [hg]; exact Nat.ne_of_lt (blk_lt (g := gb254) BK254.out) : gb254 ≠ gb265)); have n12_ := Aside0.mk ((by rw [hg]; exact Nat.ne_of_gt (blk_lt (g := gb254) BK254.out) : gb265 ≠ gb254)); clear BK229; clear BK243; clear BK254; clear HB; have BK229 := n0_; have BK243 := n1_; have BK254 := n2_; have HB := n3_; have BK265 := n4_; have GW265 := n5_; have GE265 := n6_; have NB229_265 := n7_; have NB265_229 := n8_; have NB243_265 := n9_; have NB265_243 := n10_; have NB254_265 := n11_; have NB265_254 := n12_; clear n0_ n1_ n2_ n3_ n4_ n5_ n6_ n7_ n8_ n9_ n10_ n11_ n12_; clear hb hbox hg; have hnb113 := NB265_229.out; have hnc113 := NB229_265.out; have hnb114 := NB265_243.out; have hnc114 := NB243_265.out; have hnb115 := NB265_254.out; have hnc115 := NB254_265.out; have hcz116_0 : w112.cell? ⟨gb265, 0, none⟩ = some (.int .i64 0) := (blk_cell BK265.out 0).trans rfl; have hcz116_1 : w112.cell? ⟨gb265, 1, none⟩ = some (.int .i64 0) := (blk_cell BK265.out 1).trans rfl; have hcz116_2 : w112.cell? ⟨gb265, 2, none⟩ = some (.int .i64 0) := (blk_cell BK265.out 2).trans rfl; have hcz116_3 : w112.cell? ⟨gb265, 3, none⟩ = some (.int .i64 0) := (blk_cell BK265.out 3).trans rfl; have hcz116_4 : w112.cell? ⟨gb265, 4, none⟩ = some (.int .i64 0) := (blk_cell BK265.out 4).trans rfl; have hcz116_5 : w112.cell? ⟨gb265, 5, none⟩ = some (.int .i64 0) := (blk_cell BK265.out 5).trans rfl; have hcz116_6 : w112.cell? ⟨gb265, 6, none⟩ = some (.int .i64 0) := (blk_cell BK265.out 6).trans rfl; have hcz116_7 : w112.cell? ⟨gb265, 7, none⟩ = some (.int .i64 0) := (blk_cell BK265.out 7).trans rfl; have hcz116_8 : w112.cell? ⟨gb265, 8, none⟩ = some (.int .i64 0) := (blk_cell BK265.out 8).trans rfl; have hfz116_0 := blk_frozen BK265.out 0; have hfz116_1 := blk_frozen BK265.out 1; have hfz116_2 := blk_frozen BK265.out 2; have hfz116_3 := blk_frozen BK265.out 3; have hfz116_4 := blk_frozen BK265.out 4; have hfz116_5 := blk_frozen BK265.out 5; have hfz116_6 := blk_frozen BK265.out 6; have hfz116_7 := blk_frozen BK265.out 7; have hfz116_8 := blk_frozen BK265.out 8))
           have n0_ : Aside0 ((((((((((w112.setCell ⟨gb265, 0, none⟩ (.int .i64 t255)).setCell ⟨gb265, 1, none⟩ (.int .i64 t256)).setCell ⟨gb265, 2, none⟩ (.int .i64 t257)).setCell ⟨gb265, 3, none⟩ (.int .i64 t258)).setCell ⟨gb265, 4, none⟩ (.int .i64 t259)).setCell ⟨gb265, 5, none⟩ (.int .i64 t260)).setCell ⟨gb265, 6, none⟩ (.int .i64 t261)).setCell ⟨gb265, 7, none⟩ (.int .i64 t262)).setCell ⟨gb265, 8, none⟩ (.int .i64 t263)).heap[gb229]? = some (.cells #[.int .i64 a0_0, .int .i64 a0_1, .int .i64 a0_2, .int .i64 a0_3, .int .i64 a0_4, .int .i64 a0_5, .int .i64 a0_6, .int .i64 a0_7, .int .i64 a0_8] 37 (0, 0))) := ⟨by refine blk_far ?_ NB229_265.out _; refine blk_far ?_ NB229_265.out _; refine blk_far ?_ NB229_265.out _; refine blk_far ?_ NB229_265.out _; refine blk_far ?_ NB229_265.out _; refine blk_far ?_ NB229_265.out _; refine blk_far ?_ NB229_265.out _; refine blk_far ?_ NB229_265.out _; refine blk_far ?_ NB229_265.out _; exact BK229.out⟩
           have n1_ : Aside0 ((((((((((w112.setCell ⟨gb265, 0, none⟩ (.int .i64 t255)).setCell ⟨gb265, 1, none⟩ (.int .i64 t256)).setCell ⟨gb265, 2, none⟩ (.int .i64 t257)).setCell ⟨gb265, 3, none⟩ (.int .i64 t258)).setCell ⟨gb265, 4, none⟩ (.int .i64 t259)).setCell ⟨gb265, 5, none⟩ (.int .i64 t260)).setCell ⟨gb265, 6, none⟩ (.int .i64 t261)).setCell ⟨gb265, 7, none⟩ (.int .i64 t262)).setCell ⟨gb265, 8, none⟩ (.int .i64 t263)).heap[gb243]? = some (.cells #[.int .i64 t233, .int .i64 t234, .int .i64 t235, .int .i64 t236, .int .i64 t237, .int .i64 t238, .int .i64 t239, .int .i64 t240, .int .i64 t241] 37 (0, 0))) := ⟨by refine blk_far ?_ NB243_265.out _; refine blk_far ?_ NB243_265.out _; refine blk_far ?_ NB243_265.out _; refine blk_far ?_ NB243_265.out _; refine blk_far ?_ NB243_265.out _; refine blk_far ?_ NB243_265.out _; refine blk_far ?_ NB243_265.out _; refine blk_far ?_ NB243_265.out _; refine blk_far ?_ NB243_265.out _; exact BK243.out⟩
           have n2_ : Aside0 ((((((((((w112.setCell ⟨gb265, 0, none⟩ (.int .i64 t255)).setCell ⟨gb265, 1, none⟩ (.int .i64 t256)).setCell ⟨gb265, 2, none⟩ (.int .i64 t257)).setCell ⟨gb265, 3, none⟩ (.int .i64 t258)).setCell ⟨gb265, 4, none⟩ (.int .i64 t259)).setCell ⟨gb265, 5, none⟩ (.int .i64 t260)).setCell ⟨gb265, 6, none⟩ (.int .i64 t261)).setCell ⟨gb265, 7, none⟩ (.int .i64 t262)).setCell ⟨gb265, 8, none⟩ (.int .i64 t263)).heap[gb254]? = some (.cells #[.int .i64 t244, .int .i64 t245, .int .i64 t246, .int .i64 t247, .int .i64 t248, .int .i64 t249, .int .i64 t250, .int .i64 t251, .int .i64 t252] 37 (0, 0))) := ⟨by refine blk_far ?_ NB254_265.out _; refine blk_far ?_ NB254_265.out _; refine blk_far ?_ NB254_265.out _; refine blk_far ?_ NB254_265.out _; refine blk_far ?_ NB254_265.out _; refine blk_far ?_ NB254_265.out _; refine blk_far ?_ NB254_265.out _; refine blk_far ?_ NB254_265.out _; refine blk_far ?_ NB254_265.out _; exact BK254.out⟩
           have n3_ : Aside0 ((((((((((w112.setCell ⟨gb265, 0, none⟩ (.int .i64 t255)).setCell ⟨gb265, 1, none⟩ (.int .i64 t256)).setCell ⟨gb265, 2, none⟩ (.int .i64 t257)).setCell ⟨gb265, 3, none⟩ (.int .i64 t258)).setCell ⟨gb265, 4, none⟩ (.int .i64 t259)).setCell ⟨gb265, 5, none⟩ (.int .i64 t260)).setCell ⟨gb265, 6, none⟩ (.int .i64 t261)).setCell ⟨gb265, 7, none⟩ (.int .i64 t262)).setCell ⟨gb265, 8, none⟩ (.int .i64 t263)).heap[gb265]? = some (.cells #[.int .i64 t255, .int .i64 t256, .int .i64 t257, .int .i64 t258, .int .i64 t259, .int .i64 t260, .int .i64 t261, .int .i64 t262, .int .i64 t263] 41 (0, 0))) := ⟨by refine blk_put (cs := #[.int .i64 t255, .int .i64 t256, .int .i64 t257, .int .i64 t258, .int .i64 t259, .int .i64 t260, .int .i64 t261, .int .i64 t262, .int .i64 0]) ?_ 8 _ rfl; refine blk_put (cs := #[.int .i64 t255, .int .i64 t256, .int .i64 t257, .int .i64 t258, .int .i64 t259, .int .i64 t260, .int .i64 t261, .int .i64 0, .int .i64 0]) ?_ 7 _ rfl; refine blk_put (cs := #[.int .i64 t255, .int .i64 t256, .int .i64 t257, .int .i64 t258, .int .i64 t259, .int .i64 t260, .int .i64 0, .int .i64 0, .int .i64 0]) ?_ 6 _ rfl; refine blk_put (cs := #[.int .i64 t255, .int .i64 t256, .int .i64 t257, .int .i64 t258, .int .i64 t259, .int .i64 0, .int .i64 0, .int .i64 0, .int .i64 0]) ?_ 5 _ rfl; refine blk_put (cs := #[.int .i64 t255, .int .i64 t256, .int .i64 t257, .int .i64 t258, .int .i64 0, .int .i64 0, .int .i64 0, .int .i64 0, .int .i64 0]) ?_ 4 _ rfl; refine blk_put (cs := #[.int .i64 t255, .int .i64 t256, .int .i64 t257, .int .i64 0, .int .i64 0, .int .i64 0, .int .i64 0, .int .i64 0, .int .i64 0]) ?_ 3 _ rfl; refine blk_put (cs := #[.int .i64 t255, .int .i64 t256, .int .i64 0, .int .i64 0, .int .i64 0, .int .i64 0, .int .i64 0, .int .i64 0, .int .i64 0]) ?_ 2 _ rfl; refine blk_put (cs := #[.int .i64 t255, .int .i64 0, .int .i64 0, .int .i64 0, .int .i64 0, .int .i64 0, .int .i64 0, .int .i64 0, .int .i64 0]) ?_ 1 _ rfl; refine blk_put (cs := #[.int .i64 0, .int .i64 0, .int .i64 0, .int .i64 0, .int .i64 0, .int .i64 0, .int .i64 0, .int .i64 0, .int .i64 0]) ?_ 0 _ rfl; exact BK265.out⟩
           have n4_ : Aside0 (Below w.heap.size w (((((((((w112.setCell ⟨gb265, 0, none⟩ (.int .i64 t255)).setCell ⟨gb265, 1, none⟩ (.int .i64 t256)).setCell ⟨gb265, 2, none⟩ (.int .i64 t257)).setCell ⟨gb265, 3, none⟩ (.int .i64 t258)).setCell ⟨gb265, 4, none⟩ (.int .i64 t259)).setCell ⟨gb265, 5, none⟩ (.int .i64 t260)).setCell ⟨gb265, 6, none⟩ (.int .i64 t261)).setCell ⟨gb265, 7, none⟩ (.int .i64 t262)).setCell ⟨gb265, 8, none⟩ (.int .i64 t263))) := ⟨by repeat (first | (with_reducible first | exact HB.out | apply below_alloc | apply pw_below_drewN | apply below_drew1 | refine below_set ?_ GE229.out | refine below_set ?_ GE243.out | refine below_set ?_ GE254.out | refine below_set ?_ GE265.out) | exact HB.out)⟩
           (try clear BK229)
           (try clear BK243)
           (try clear BK254)
           (try clear BK265)
           (try clear HB)
           generalize (((((((((w112.setCell ⟨gb265, 0, none⟩ (.int .i64 t255)).setCell ⟨gb265, 1, none⟩ (.int .i64 t256)).setCell ⟨gb265, 2, none⟩ (.int .i64 t257)).setCell ⟨gb265, 3, none⟩ (.int .i64 t258)).setCell ⟨gb265, 4, none⟩ (.int .i64 t259)).setCell ⟨gb265, 5, none⟩ (.int .i64 t260)).setCell ⟨gb265, 6, none⟩ (.int .i64 t261)).setCell ⟨gb265, 7, none⟩ (.int .i64 t262)).setCell ⟨gb265, 8, none⟩ (.int .i64 t263)) = w117 at n0_ n1_ n2_ n3_ n4_ ⊢
           have BK229 := n0_
           have BK243 := n1_
           have BK254 := n2_
           have BK265 := n3_
           have HB := n4_
           clear n0_ n1_ n2_ n3_ n4_
           have n0_ := Aside0.mk (blk_drew BK229.out)
           have n1_ := Aside0.mk (blk_drew BK243.out)
           have n2_ := Aside0.mk (blk_drew BK254.out)
           have n3_ := Aside0.mk (blk_drew BK265.out)
           have n4_ := Aside0.mk (below_drew1 HB.out)
           clear BK229
           clear BK243
           clear BK254
           clear BK265
           clear HB
           have BK229 := n0_
           have BK243 := n1_
           have BK254 := n2_
           have BK265 := n3_
           have HB := n4_
           clear n0_ n1_ n2_ n3_ n4_
           refine start_ (n := 40) (S := fun w' => w'.cell? ⟨gb229, 0, none⟩ = some (.int .i64 a0_0) ∧ w'.cell? ⟨gb229, 1, none⟩ = some (.int .i64 a0_1) ∧ w'.cell? ⟨gb229, 2, none⟩ = some (.int .i64 a0_2) ∧ w'.cell? ⟨gb229, 3, none⟩ = some (.int .i64 a0_3) ∧ w'.cell? ⟨gb229, 4, none⟩ = some (.int .i64 a0_4) ∧ w'.cell? ⟨gb229, 5, none⟩ = some (.int .i64 a0_5) ∧ w'.cell? ⟨gb229, 6, none⟩ = some (.int .i64 a0_6) ∧ w'.cell? ⟨gb229, 7, none⟩ = some (.int .i64 a0_7) ∧ w'.cell? ⟨gb229, 8, none⟩ = some (.int .i64 a0_8) ∧ w'.cell? ⟨gb243, 0, none⟩ = some (.int .i64 t233) ∧ w'.cell? ⟨gb243, 1, none⟩ = some (.int .i64 t234) ∧ w'.cell? ⟨gb243, 2, none⟩ = some (.int .i64 t235) ∧ w'.cell? ⟨gb243, 3, none⟩ = some (.int .i64 t236) ∧ w'.cell? ⟨gb243, 4, none⟩ = some (.int .i64 t237) ∧ w'.cell? ⟨gb243, 5, none⟩ = some (.int .i64 t238) ∧ w'.cell? ⟨gb243, 6, none⟩ = some (.int .i64 t239) ∧ w'.cell? ⟨gb243, 7, none⟩ = some (.int .i64 t240) ∧ w'.cell? ⟨gb243, 8, none⟩ = some (.int .i64 t241) ∧ w'.cell? ⟨gb254, 0, none⟩ = some (.int .i64 t244) ∧ w'.cell? ⟨gb254, 1, none⟩ = some (.int .i64 t245) ∧ w'.cell? ⟨gb254, 2, none⟩ = some (.int .i64 t246) ∧ w'.cell? ⟨gb254, 3, none⟩ = some (.int .i64 t247) ∧ w'.cell? ⟨gb254, 4, none⟩ = some (.int .i64 t248) ∧ w'.cell? ⟨gb254, 5, none⟩ = some (.int .i64 t249) ∧ w'.cell? ⟨gb254, 6, none⟩ = some (.int .i64 t250) ∧ w'.cell? ⟨gb254, 7, none⟩ = some (.int .i64 t251) ∧ w'.cell? ⟨gb254, 8, none⟩ = some (.int .i64 t252) ∧ w'.cell? ⟨gb265, 0, none⟩ = some (.int .i64 t255) ∧ w'.cell? ⟨gb265, 1, none⟩ = some (.int .i64 t256) ∧ w'.cell? ⟨gb265, 2, none⟩ = some (.int .i64 t257) ∧ w'.cell? ⟨gb265, 3, none⟩ = some (.int .i64 t258) ∧ w'.cell? ⟨gb265, 4, none⟩ = some (.int .i64 t259) ∧ w'.cell? ⟨gb265, 5, none⟩ = some (.int .i64 t260) ∧ w'.cell? ⟨gb265, 6, none⟩ = some (.int .i64 t261) ∧ w'.cell? ⟨gb265, 7, none⟩ = some (.int .i64 t262) ∧ w'.cell? ⟨gb265, 8, none⟩ = some (.int .i64 t263)) (ds := []) #[false, false, false, false, false, false, false, false, false, false, false, false, false, false, false, false, false, false, false, false, false, false, false, false, false, false, false, false, false, false, false, false, false, false, false, false, false, false, false, false] (by kernel_rfl) rfl rfl ⟨(blk_cell BK229.out 0).trans rfl, (blk_cell BK229.out 1).trans rfl, (blk_cell BK229.out 2).trans rfl, (blk_cell BK229.out 3).trans rfl, (blk_cell BK229.out 4).trans rfl, (blk_cell BK229.out 5).trans rfl, (blk_cell BK229.out 6).trans rfl, (blk_cell BK229.out 7).trans rfl, (blk_cell BK229.out 8).trans rfl, (blk_cell BK243.out 0).trans rfl, (blk_cell BK243.out 1).trans rfl, (blk_cell BK243.out 2).trans rfl, (blk_cell BK243.out 3).trans rfl, (blk_cell BK243.out 4).trans rfl, (blk_cell BK243.out 5).trans rfl, (blk_cell BK243.out 6).trans rfl, (blk_cell BK243.out 7).trans rfl, (blk_cell BK243.out 8).trans rfl, (blk_cell BK254.out 0).trans rfl, (blk_cell BK254.out 1).trans rfl, (blk_cell BK254.out 2).trans rfl, (blk_cell BK254.out 3).trans rfl, (blk_cell BK254.out 4).trans rfl, (blk_cell BK254.out 5).trans rfl, (blk_cell BK254.out 6).trans rfl, (blk_cell BK254.out 7).trans rfl, (blk_cell BK254.out 8).trans rfl, (blk_cell BK265.out 0).trans rfl, (blk_cell BK265.out 1).trans rfl, (blk_cell BK265.out 2).trans rfl, (blk_cell BK265.out 3).trans rfl, (blk_cell BK265.out 4).trans rfl, (blk_cell BK265.out 5).trans rfl, (blk_cell BK265.out 6).trans rfl, (blk_cell BK265.out 7).trans rfl, (blk_cell BK265.out 8).trans rfl⟩ (fun hHeld => ?_); refine with_tabW apogeelaw07_PeerReports.tab7 apogeelaw07_PeerReports.bits7 (fun HT_ HW_ => ?_)
           generalize w117.drew = w118 at BK229 BK243 BK254 BK265 HB hHeld ⊢
           refine pure_ (i := 0) (N := some 37) (v := ?_) (a' := ?_) #[true, false, false, false, false, false, false, false, false, false, false, false, false, false, false, false, false, false, false, false, false, false, false, false, false, false, false, false, false, false, false, false, false, false, false, false, false, false, false, false] rfl rfl (any_of HT_.out (by kernel_rfl)) (fun _ _ _ h => h) (Or.inl ⟨by rfl, ?_⟩) ?_ ?_
           rotate_left
           ·intro w'
            go_simp
            with_reducible rfl
           rotate_left
           ·simp only [Act.put, sA, sB, sC, i64_w, i32_w]
            rfl
           refine take_ (i := 1) (N := some 38) (v := ?_) (a' := ?_) #[true, true, false, false, false, false, false, false, false, false, false, false, false, false, false, false, false, false, false, false, false, false, false, false, false, false, false, false, false, false, false, false, false, false, false, false, false, false, false, false] rfl rfl (take_ofW HT_.out HW_.out (by kernel_rfl)) (fun _ _ _ h => h) (Or.inl ⟨by rfl, ?_⟩) hHeld ?_ ?_
           rotate_left
           ·rintro w' ⟨s0, s1, s2, s3, s4, s5, s6, s7, s8, s9, s10, s11, s12, s13, s14, s15, s16, s17, s18, s19, s20, s21, s22, s23, s24, s25, s26, s27, s28, s29, s30, s31, s32, s33, s34, s35⟩
            go_simp
            with_reducible rfl
           rotate_left
           ·simp only [Act.put, sA, sB, sC, i64_w, i32_w]
            rfl
           refine one_ (i := 2) (N := some 39) #[true, true, true, false, false, false, false, false, false, false, false, false, false, false, false, false, false, false, false, false, false, false, false, false, false, false, false, false, false, false, false, false, false, false, false, false, false, false, false, false] rfl rfl (one_of HT_.out (by kernel_rfl)) (by decide) (fun K hK => ?_)
           refine goes_ Try.func18 (by kernel_rfl) rfl #[.agg #[.int .i64 a0_0, .int .i64 a0_1, .int .i64 a0_2, .int .i64 a0_3, .int .i64 a0_4, .int .i64 a0_5, .int .i64 a0_6, .int .i64 a0_7, .int .i64 a0_8]] (by rfl) rfl rfl (by (try simp only [sD, List.map_cons, List.map_nil]); first | done | rfl) ?_
           with_reducible refine (apogeelaw07_likeReport.calls a0_0 a0_1 a0_2 a0_3 a0_4 a0_5 a0_6 a0_7 a0_8 t266 t267 t268 t269 t270 t271 t272 t273 t274 _ A16.out).mono ?_
           rintro e w119 ⟨rfl, hb⟩
           refine ⟨_, rfl, ?_⟩
           have n0_ := Aside0.mk (blk_below (g := gb229) BK229.out hb)
           have n1_ := Aside0.mk (blk_below (g := gb243) BK243.out hb)
           have n2_ := Aside0.mk (blk_below (g := gb254) BK254.out hb)
           have n3_ := Aside0.mk (blk_below (g := gb265) BK265.out hb)
           have n4_ := Aside0.mk (below_step (by repeat (first | (with_reducible first | exact HB.out | apply below_alloc | apply pw_below_drewN | apply below_drew1 | refine below_set ?_ GE229.out | refine below_set ?_ GE243.out | refine below_set ?_ GE254.out | refine below_set ?_ GE265.out) | exact HB.out)) hb)
           clear BK229
           clear BK243
           clear BK254
           clear BK265
           clear HB
           have BK229 := n0_
           have BK243 := n1_
           have BK254 := n2_
           have BK265 := n3_
           have HB := n4_
           clear n0_ n1_ n2_ n3_ n4_
           (try clear hb)
           (try clear hb2)
           (try clear hk)
           (try clear hi)
           refine hK.out _ _ ⟨(blk_cell BK229.out 0).trans rfl, (blk_cell BK229.out 1).trans rfl, (blk_cell BK229.out 2).trans rfl, (blk_cell BK229.out 3).trans rfl, (blk_cell BK229.out 4).trans rfl, (blk_cell BK229.out 5).trans rfl, (blk_cell BK229.out 6).trans rfl, (blk_cell BK229.out 7).trans rfl, (blk_cell BK229.out 8).trans rfl, (blk_cell BK243.out 0).trans rfl, (blk_cell BK243.out 1).trans rfl, (blk_cell BK243.out 2).trans rfl, (blk_cell BK243.out 3).trans rfl, (blk_cell BK243.out 4).trans rfl, (blk_cell BK243.out 5).trans rfl, (blk_cell BK243.out 6).trans rfl, (blk_cell BK243.out 7).trans rfl, (blk_cell BK243.out 8).trans rfl, (blk_cell BK254.out 0).trans rfl, (blk_cell BK254.out 1).trans rfl, (blk_cell BK254.out 2).trans rfl, (blk_cell BK254.out 3).trans rfl, (blk_cell BK254.out 4).trans rfl, (blk_cell BK254.out 5).trans rfl, (blk_cell BK254.out 6).trans rfl, (blk_cell BK254.out 7).trans rfl, (blk_cell BK254.out 8).trans rfl, (blk_cell BK265.out 0).trans rfl, (blk_cell BK265.out 1).trans rfl, (blk_cell BK265.out 2).trans rfl, (blk_cell BK265.out 3).trans rfl, (blk_cell BK265.out 4).trans rfl, (blk_cell BK265.out 5).trans rfl, (blk_cell BK265.out 6).trans rfl, (blk_cell BK265.out 7).trans rfl, (blk_cell BK265.out 8).trans rfl⟩ (fun hHeld => ?_)
           clear hK K
           refine norm_ (a' := ?_) ?_ ?_
           rotate_left
           ·show Act.put _ (some 39) _ = _
            simp only [Act.put, sA, sB, sC, i64_w, i32_w]
            rfl
           refine one_ (i := 3) (N := some 40) #[true, true, true, true, false, false, false, false, false, false, false, false, false, false, false, false, false, false, false, false, false, false, false, false, false, false, false, false, false, false, false, false, false, false, false, false, false, false, false, false] rfl rfl (one_of HT_.out (by kernel_rfl)) (by decide) (fun K hK => ?_)
           refine goes_ Try.func17 (by kernel_rfl) rfl #[.agg #[.int .i64 t266, .int .i64 t267, .int .i64 t268, .int .i64 t269, .int .i64 t270, .int .i64 t271, .int .i64 t272, .int .i64 t273, .int .i64 t274]] (by rfl) rfl rfl (by (try simp only [sD, List.map_cons, List.map_nil]); first | done | rfl) ?_
           with_reducible refine (apogeeref07_PrintReport.calls kj2 t266 t267 t268 t269 t270 t271 t272 t273 t274 t275 _ A17.out).mono ?_
           rintro e w120 ⟨rfl, hb⟩
           refine ⟨_, rfl, ?_⟩
           have n0_ := Aside0.mk (blk_below (g := gb229) BK229.out hb)
           have n1_ := Aside0.mk (blk_below (g := gb243) BK243.out hb)
           have n2_ := Aside0.mk (blk_below (g := gb254) BK254.out hb)
           have n3_ := Aside0.mk (blk_below (g := gb265) BK265.out hb)
           have n4_ := Aside0.mk (below_step (by repeat (first | (with_reducible first | exact HB.out | apply below_alloc | apply pw_below_drewN | apply below_drew1 | refine below_set ?_ GE229.out | refine below_set ?_ GE243.out | refine below_set ?_ GE254.out | refine below_set ?_ GE265.out) | exact HB.out)) hb)
           clear BK229
           clear BK243
           clear BK254
           clear BK265
           clear HB
           have BK229 := n0_
           have BK243 := n1_
           have BK254 := n2_
           have BK265 := n3_
           have HB := n4_
           clear n0_ n1_ n2_ n3_ n4_
           (try clear hb)
           (try clear hb2)
           (try clear hk)
           (try clear hi)
           refine hK.out _ _ ⟨(blk_cell BK229.out 0).trans rfl, (blk_cell BK229.out 1).trans rfl, (blk_cell BK229.out 2).trans rfl, (blk_cell BK229.out 3).trans rfl, (blk_cell BK229.out 4).trans rfl, (blk_cell BK229.out 5).trans rfl, (blk_cell BK229.out 6).trans rfl, (blk_cell BK229.out 7).trans rfl, (blk_cell BK229.out 8).trans rfl, (blk_cell BK243.out 0).trans rfl, (blk_cell BK243.out 1).trans rfl, (blk_cell BK243.out 2).trans rfl, (blk_cell BK243.out 3).trans rfl, (blk_cell BK243.out 4).trans rfl, (blk_cell BK243.out 5).trans rfl, (blk_cell BK243.out 6).trans rfl, (blk_cell BK243.out 7).trans rfl, (blk_cell BK243.out 8).trans rfl, (blk_cell BK254.out 0).trans rfl, (blk_cell BK254.out 1).trans rfl, (blk_cell BK254.out 2).trans rfl, (blk_cell BK254.out 3).trans rfl, (blk_cell BK254.out 4).trans rfl, (blk_cell BK254.out 5).trans rfl, (blk_cell BK254.out 6).trans rfl, (blk_cell BK254.out 7).trans rfl, (blk_cell BK254.out 8).trans rfl, (blk_cell BK265.out 0).trans rfl, (blk_cell BK265.out 1).trans rfl, (blk_cell BK265.out 2).trans rfl, (blk_cell BK265.out 3).trans rfl, (blk_cell BK265.out 4).trans rfl, (blk_cell BK265.out 5).trans rfl, (blk_cell BK265.out 6).trans rfl, (blk_cell BK265.out 7).trans rfl, (blk_cell BK265.out 8).trans rfl⟩ (fun hHeld => ?_)
           clear hK K
           refine norm_ (a' := ?_) ?_ ?_
           rotate_left
           ·show Act.put _ (some 40) _ = _
            simp only [Act.put, sA, sB, sC, i64_w, i32_w]
            rfl
           refine pure_ (i := 4) (N := some 41) (v := ?_) (a' := ?_) #[true, true, true, true, true, false, false, false, false, false, false, false, false, false, false, false, false, false, false, false, false, false, false, false, false, false, false, false, false, false, false, false, false, false, false, false, false, false, false, false] rfl rfl (any_of HT_.out (by kernel_rfl)) (fun _ _ _ h => h) (Or.inl ⟨by rfl, ?_⟩) ?_ ?_
           rotate_left
           ·intro w'
            go_simp
            with_reducible rfl
           rotate_left
           ·simp only [Act.put, sA, sB, sC, i64_w, i32_w]
            rfl
           refine pure_ (i := 5) (N := some 42) (v := ?_) (a' := ?_) #[true, true, true, true, true, true, false, false, false, false, false, false, false, false, false, false, false, false, false, false, false, false, false, false, false, false, false, false, false, false, false, false, false, false, false, false, false, false, false, false] rfl rfl (any_of HT_.out (by kernel_rfl)) (fun _ _ _ h => h) (Or.inl ⟨by rfl, ?_⟩) ?_ ?_
           rotate_left
           ·intro w'
            go_simp
            with_reducible rfl
           rotate_left
           ·simp only [Act.put, sA, sB, sC, i64_w, i32_w]
            rfl
           refine pure_ (i := 6) (N := some 43) (v := ?_) (a' := ?_) #[true, true, true, true, true, true, true, false, false, false, false, false, false, false, false, false, false, false, false, false, false, false, false, false, false, false, false, false, false, false, false, false, false, false, false, false, false, false, false, false] rfl rfl (any_of HT_.out (by kernel_rfl)) (fun _ _ _ h => h) (Or.inl ⟨by rfl, ?_⟩) ?_ ?_
           rotate_left
           ·intro w'
            go_simp
            with_reducible rfl
           rotate_left
           ·simp only [Act.put, sA, sB, sC, i64_w, i32_w]
            rfl
           refine pure_ (i := 7) (N := some 44) (v := ?_) (a' := ?_) #[true, true, true, true, true, true, true, true, false, false, false, false, false, false, false, false, false, false, false, false, false, false, false, false, false, false, false, false, false, false, false, false, false, false, false, false, false, false, false, false] rfl rfl (any_of HT_.out (by kernel_rfl)) (fun _ _ _ h => h) (Or.inl ⟨by rfl, ?_⟩) ?_ ?_
           rotate_left
           ·intro w'
            go_simp
            with_reducible rfl
           rotate_left
           ·simp only [Act.put, sA, sB, sC, i64_w, i32_w]
            rfl
           refine pure_ (i := 8) (N := some 45) (v := ?_) (a' := ?_) #[true, true, true, true, true, true, true, true, true, false, false, false, false, false, false, false, false, false, false, false, false, false, false, false, false, false, false, false, false, false, false, false, false, false, false, false, false, false, false, false] rfl rfl (any_of HT_.out (by kernel_rfl)) (fun _ _ _ h => h) (Or.inl ⟨by rfl, ?_⟩) ?_ ?_
           rotate_left
           ·intro w'
            go_simp
            with_reducible rfl
           rotate_left
           ·simp only [Act.put, sA, sB, sC, i64_w, i32_w]
            rfl
           refine take_ (i := 9) (N := some 46) (v := ?_) (a' := ?_) #[true, true, true, true, true, true, true, true, true, true, false, false, false, false, false, false, false, false, false, false, false, false, false, false, false, false, false, false, false, false, false, false, false, false, false, false, false, false, false, false] rfl rfl (take_ofW HT_.out HW_.out (by kernel_rfl)) (fun _ _ _ h => h) (Or.inl ⟨by rfl, ?_⟩) hHeld ?_ ?_
           rotate_left
           ·rintro w' ⟨s0, s1, s2, s3, s4, s5, s6, s7, s8, s9, s10, s11, s12, s13, s14, s15, s16, s17, s18, s19, s20, s21, s22, s23, s24, s25, s26, s27, s28, s29, s30, s31, s32, s33, s34, s35⟩
            go_simp
            with_reducible rfl
           rotate_left
           ·simp only [Act.put, sA, sB, sC, i64_w, i32_w]
            rfl
           refine take_ (i := 10) (N := some 47) (v := ?_) (a' := ?_) #[true, true, true, true, true, true, true, true, true, true, true, false, false, false, false, false, false, false, false, false, false, false, false, false, false, false, false, false, false, false, false, false, false, false, false, false, false, false, false, false] rfl rfl (take_ofW HT_.out HW_.out (by kernel_rfl)) (fun _ _ _ h => h) (Or.inl ⟨by rfl, ?_⟩) hHeld ?_ ?_
           rotate_left
           ·rintro w' ⟨s0, s1, s2, s3, s4, s5, s6, s7, s8, s9, s10, s11, s12, s13, s14, s15, s16, s17, s18, s19, s20, s21, s22, s23, s24, s25, s26, s27, s28, s29, s30, s31, s32, s33, s34, s35⟩
            go_simp
            with_reducible rfl
           rotate_left
           ·simp only [Act.put, sA, sB, sC, i64_w, i32_w]
            rfl
           refine pure_ (i := 11) (N := some 48) (v := ?_) (a' := ?_) #[true, true, true, true, true, true, true, true, true, true, true, true, false, false, false, false, false, false, false, false, false, false, false, false, false, false, false, false, false, false, false, false, false, false, false, false, false, false, false, false] rfl rfl (any_of HT_.out (by kernel_rfl)) (fun _ _ _ h => h) (Or.inl ⟨by rfl, ?_⟩) ?_ ?_
           rotate_left
           ·intro w'
            go_simp
            with_reducible rfl
           rotate_left
           ·simp only [Act.put, sA, sB, sC, i64_w, i32_w]
            rfl
           refine pure_ (i := 12) (N := some 49) (v := ?_) (a' := ?_) #[true, true, true, true, true, true, true, true, true, true, true, true, true, false, false, false, false, false, false, false, false, false, false, false, false, false, false, false, false, false, false, false, false, false, false, false, false, false, false, false] rfl rfl (any_of HT_.out (by kernel_rfl)) (fun _ _ _ h => h) (Or.inl ⟨by rfl, ?_⟩) ?_ ?_
           rotate_left
           ·intro w'
            go_simp
            with_reducible rfl
           rotate_left
           ·simp only [Act.put, sA, sB, sC, i64_w, i32_w]
            rfl
           refine pure_ (i := 13) (N := some 50) (v := ?_) (a' := ?_) #[true, true, true, true, true, true, true, true, true, true, true, true, true, true, false, false, false, false, false, false, false, false, false, false, false, false, false, false, false, false, false, false, false, false, false, false, false, false, false, false] rfl rfl (any_of HT_.out (by kernel_rfl)) (fun _ _ _ h => h) (Or.inl ⟨by rfl, ?_⟩) ?_ ?_
           rotate_left
           ·intro w'
            go_simp
            with_reducible rfl
           rotate_left
           ·simp only [Act.put, sA, sB, sC, i64_w, i32_w]
            rfl
           refine pure_ (i := 14) (N := some 51) (v := ?_) (a' := ?_) #[true, true, true, true, true, true, true, true, true, true, true, true, true, true, true, false, false, false, false, false, false, false, false, false, false, false, false, false, false, false, false, false, false, false, false, false, false, false, false, false] rfl rfl (any_of HT_.out (by kernel_rfl)) (fun _ _ _ h => h) (Or.inl ⟨by rfl, ?_⟩) ?_ ?_
           rotate_left
           ·intro w'
            go_simp
            with_reducible rfl
           rotate_left
           ·simp only [Act.put, sA, sB, sC, i64_w, i32_w]
            rfl
           refine pure_ (i := 15) (N := some 52) (v := ?_) (a' := ?_) #[true, true, true, true, true, true, true, true, true, true, true, true, true, true, true, true, false, false, false, false, false, false, false, false, false, false, false, false, false, false, false, false, false, false, false, false, false, false, false, false] rfl rfl (any_of HT_.out (by kernel_rfl)) (fun _ _ _ h => h) (Or.inl ⟨by rfl, ?_⟩) ?_ ?_
           rotate_left
           ·intro w'
            go_simp
            with_reducible rfl
           rotate_left
           ·simp only [Act.put, sA, sB, sC, i64_w, i32_w]
            rfl
           refine pure_ (i := 16) (N := some 53) (v := ?_) (a' := ?_) #[true, true, true, true, true, true, true, true, true, true, true, true, true, true, true, true, true, false, false, false, false, false, false, false, false, false, false, false, false, false, false, false, false, false, false, false, false, false, false, false] rfl rfl (any_of HT_.out (by kernel_rfl)) (fun _ _ _ h => h) (Or.inl ⟨by rfl, ?_⟩) ?_ ?_
           rotate_left
           ·intro w'
            go_simp
            with_reducible rfl
           rotate_left
           ·simp only [Act.put, sA, sB, sC, i64_w, i32_w]
            rfl
           refine pure_ (i := 17) (N := some 54) (v := ?_) (a' := ?_) #[true, true, true, true, true, true, true, true, true, true, true, true, true, true, true, true, true, true, false, false, false, false, false, false, false, false, false, false, false, false, false, false, false, false, false, false, false, false, false, false] rfl rfl (any_of HT_.out (by kernel_rfl)) (fun _ _ _ h => h) (Or.inl ⟨by rfl, ?_⟩) ?_ ?_
           rotate_left
           ·intro w'
            go_simp
            with_reducible rfl
           rotate_left
           ·simp only [Act.put, sA, sB, sC, i64_w, i32_w]
            rfl
           refine pure_ (i := 18) (N := some 55) (v := ?_) (a' := ?_) #[true, true, true, true, true, true, true, true, true, true, true, true, true, true, true, true, true, true, true, false, false, false, false, false, false, false, false, false, false, false, false, false, false, false, false, false, false, false, false, false] rfl rfl (any_of HT_.out (by kernel_rfl)) (fun _ _ _ h => h) (Or.inl ⟨by rfl, ?_⟩) ?_ ?_
           rotate_left
           ·intro w'
            go_simp
            with_reducible rfl
           rotate_left
           ·simp only [Act.put, sA, sB, sC, i64_w, i32_w]
            rfl
           refine take_ (i := 19) (N := some 56) (v := ?_) (a' := ?_) #[true, true, true, true, true, true, true, true, true, true, true, true, true, true, true, true, true, true, true, true, false, false, false, false, false, false, false, false, false, false, false, false, false, false, false, false, false, false, false, false] rfl rfl (take_ofW HT_.out HW_.out (by kernel_rfl)) (fun _ _ _ h => h) (Or.inl ⟨by rfl, ?_⟩) hHeld ?_ ?_
           rotate_left
           ·rintro w' ⟨s0, s1, s2, s3, s4, s5, s6, s7, s8, s9, s10, s11, s12, s13, s14, s15, s16, s17, s18, s19, s20, s21, s22, s23, s24, s25, s26, s27, s28, s29, s30, s31, s32, s33, s34, s35⟩
            go_simp
            with_reducible rfl
           rotate_left
           ·simp only [Act.put, sA, sB, sC, i64_w, i32_w]
            rfl
           refine take_ (i := 21) (N := some 58) (v := ?_) (a' := ?_) #[true, true, true, true, true, true, true, true, true, true, true, true, true, true, true, true, true, true, true, true, false, true, false, false, false, false, false, false, false, false, false, false, false, false, false, false, false, false, false, false] rfl rfl (take_ofW HT_.out HW_.out (by kernel_rfl)) (fun _ _ _ h => h) (Or.inl ⟨by rfl, ?_⟩) hHeld ?_ ?_
           rotate_left
           ·rintro w' ⟨s0, s1, s2, s3, s4, s5, s6, s7, s8, s9, s10, s11, s12, s13, s14, s15, s16, s17, s18, s19, s20, s21, s22, s23, s24, s25, s26, s27, s28, s29, s30, s31, s32, s33, s34, s35⟩
            go_simp
            with_reducible rfl
           rotate_left
           ·simp only [Act.put, sA, sB, sC, i64_w, i32_w]
            rfl
           refine one_ (i := 20) (N := some 57) #[true, true, true, true, true, true, true, true, true, true, true, true, true, true, true, true, true, true, true, true, true, true, false, false, false, false, false, false, false, false, false, false, false, false, false, false, false, false, false, false] rfl rfl (one_of HT_.out (by kernel_rfl)) (by decide) (fun K hK => ?_)
           refine goes_ Try.func18 (by kernel_rfl) rfl #[.agg #[.int .i64 t244, .int .i64 t245, .int .i64 t246, .int .i64 t247, .int .i64 t248, .int .i64 t249, .int .i64 t250, .int .i64 t251, .int .i64 t252]] (by rfl) rfl rfl (by (try simp only [sD, List.map_cons, List.map_nil]); first | done | rfl) ?_
           with_reducible refine (apogeelaw07_likeReport.calls t244 t245 t246 t247 t248 t249 t250 t251 t252 t286 t287 t288 t289 t290 t291 t292 t293 t294 _ A72.out).mono ?_
           rintro e w121 ⟨rfl, hb⟩
           refine ⟨_, rfl, ?_⟩
           have n0_ := Aside0.mk (blk_below (g := gb229) BK229.out hb)
           have n1_ := Aside0.mk (blk_below (g := gb243) BK243.out hb)
           have n2_ := Aside0.mk (blk_below (g := gb254) BK254.out hb)
           have n3_ := Aside0.mk (blk_below (g := gb265) BK265.out hb)
           have n4_ := Aside0.mk (below_step (by repeat (first | (with_reducible first | exact HB.out | apply below_alloc | apply pw_below_drewN | apply below_drew1 | refine below_set ?_ GE229.out | refine below_set ?_ GE243.out | refine below_set ?_ GE254.out | refine below_set ?_ GE265.out) | exact HB.out)) hb)
           clear BK229
           clear BK243
           clear BK254
           clear BK265
           clear HB
           have BK229 := n0_
           have BK243 := n1_
           have BK254 := n2_
           have BK265 := n3_
           have HB := n4_
           clear n0_ n1_ n2_ n3_ n4_
           (try clear hb)
           (try clear hb2)
           (try clear hk)
           (try clear hi)
           refine hK.out _ _ ⟨(blk_cell BK229.out 0).trans rfl, (blk_cell BK229.out 1).trans rfl, (blk_cell BK229.out 2).trans rfl, (blk_cell BK229.out 3).trans rfl, (blk_cell BK229.out 4).trans rfl, (blk_cell BK229.out 5).trans rfl, (blk_cell BK229.out 6).trans rfl, (blk_cell BK229.out 7).trans rfl, (blk_cell BK229.out 8).trans rfl, (blk_cell BK243.out 0).trans rfl, (blk_cell BK243.out 1).trans rfl, (blk_cell BK243.out 2).trans rfl, (blk_cell BK243.out 3).trans rfl, (blk_cell BK243.out 4).trans rfl, (blk_cell BK243.out 5).trans rfl, (blk_cell BK243.out 6).trans rfl, (blk_cell BK243.out 7).trans rfl, (blk_cell BK243.out 8).trans rfl, (blk_cell BK254.out 0).trans rfl, (blk_cell BK254.out 1).trans rfl, (blk_cell BK254.out 2).trans rfl, (blk_cell BK254.out 3).trans rfl, (blk_cell BK254.out 4).trans rfl, (blk_cell BK254.out 5).trans rfl, (blk_cell BK254.out 6).trans rfl, (blk_cell BK254.out 7).trans rfl, (blk_cell BK254.out 8).trans rfl, (blk_cell BK265.out 0).trans rfl, (blk_cell BK265.out 1).trans rfl, (blk_cell BK265.out 2).trans rfl, (blk_cell BK265.out 3).trans rfl, (blk_cell BK265.out 4).trans rfl, (blk_cell BK265.out 5).trans rfl, (blk_cell BK265.out 6).trans rfl, (blk_cell BK265.out 7).trans rfl, (blk_cell BK265.out 8).trans rfl⟩ (fun hHeld => ?_)
           clear hK K
           refine norm_ (a' := ?_) ?_ ?_
           rotate_left
           ·show Act.put _ (some 57) _ = _
            simp only [Act.put, sA, sB, sC, i64_w, i32_w]
            rfl
           refine pure_ (i := 22) (N := some 59) (v := ?_) (a' := ?_) #[true, true, true, true, true, true, true, true, true, true, true, true, true, true, true, true, true, true, true, true, true, true, true, false, false, false, false, false, false, false, false, false, false, false, false, false, false, false, false, false] rfl rfl (any_of HT_.out (by kernel_rfl)) (fun _ _ _ h => h) (Or.inl ⟨by rfl, ?_⟩) ?_ ?_
           rotate_left
           ·intro w'
            go_simp
            with_reducible rfl
           rotate_left
           ·simp only [Act.put, sA, sB, sC, i64_w, i32_w]
            rfl
           refine pure_ (i := 23) (N := some 60) (v := ?_) (a' := ?_) #[true, true, true, true, true, true, true, true, true, true, true, true, true, true, true, true, true, true, true, true, true, true, true, true, false, false, false, false, false, false, false, false, false, false, false, false, false, false, false, false] rfl rfl (any_of HT_.out (by kernel_rfl)) (fun _ _ _ h => h) (Or.inl ⟨by rfl, ?_⟩) ?_ ?_
           rotate_left
           ·intro w'
            go_simp
            with_reducible rfl
           rotate_left
           ·simp only [Act.put, sA, sB, sC, i64_w, i32_w]
            rfl
           refine pure_ (i := 24) (N := some 61) (v := ?_) (a' := ?_) #[true, true, true, true, true, true, true, true, true, true, true, true, true, true, true, true, true, true, true, true, true, true, true, true, true, false, false, false, false, false, false, false, false, false, false, false, false, false, false, false] rfl rfl (any_of HT_.out (by kernel_rfl)) (fun _ _ _ h => h) (Or.inl ⟨by rfl, ?_⟩) ?_ ?_
           rotate_left
           ·intro w'
            go_simp
            with_reducible rfl
           rotate_left
           ·simp only [Act.put, sA, sB, sC, i64_w, i32_w]
            rfl
           refine pure_ (i := 25) (N := some 62) (v := ?_) (a' := ?_) #[true, true, true, true, true, true, true, true, true, true, true, true, true, true, true, true, true, true, true, true, true, true, true, true, true, true, false, false, false, false, false, false, false, false, false, false, false, false, false, false] rfl rfl (any_of HT_.out (by kernel_rfl)) (fun _ _ _ h => h) (Or.inl ⟨by rfl, ?_⟩) ?_ ?_
           rotate_left
           ·intro w'
            go_simp
            with_reducible rfl
           rotate_left
           ·simp only [Act.put, sA, sB, sC, i64_w, i32_w]
            rfl
           refine pure_ (i := 26) (N := some 63) (v := ?_) (a' := ?_) #[true, true, true, true, true, true, true, true, true, true, true, true, true, true, true, true, true, true, true, true, true, true, true, true, true, true, true, false, false, false, false, false, false, false, false, false, false, false, false, false] rfl rfl (any_of HT_.out (by kernel_rfl)) (fun _ _ _ h => h) (Or.inl ⟨by rfl, ?_⟩) ?_ ?_
           rotate_left
           ·intro w'
            go_simp
            with_reducible rfl
           rotate_left
           ·simp only [Act.put, sA, sB, sC, i64_w, i32_w]
            rfl
           refine pure_ (i := 27) (N := some 64) (v := ?_) (a' := ?_) #[true, true, true, true, true, true, true, true, true, true, true, true, true, true, true, true, true, true, true, true, true, true, true, true, true, true, true, true, false, false, false, false, false, false, false, false, false, false, false, false] rfl rfl (any_of HT_.out (by kernel_rfl)) (fun _ _ _ h => h) (Or.inl ⟨by rfl, ?_⟩) ?_ ?_
           rotate_left
           ·intro w'
            go_simp
            with_reducible rfl
           rotate_left
           ·simp only [Act.put, sA, sB, sC, i64_w, i32_w]
            rfl
           refine pure_ (i := 28) (N := some 65) (v := ?_) (a' := ?_) #[true, true, true, true, true, true, true, true, true, true, true, true, true, true, true, true, true, true, true, true, true, true, true, true, true, true, true, true, true, false, false, false, false, false, false, false, false, false, false, false] rfl rfl (any_of HT_.out (by kernel_rfl)) (fun _ _ _ h => h) (Or.inl ⟨by rfl, ?_⟩) ?_ ?_
           rotate_left
           ·intro w'
            go_simp
            with_reducible rfl
           rotate_left
           ·simp only [Act.put, sA, sB, sC, i64_w, i32_w]
            rfl
           refine pure_ (i := 29) (N := some 66) (v := ?_) (a' := ?_) #[true, true, true, true, true, true, true, true, true, true, true, true, true, true, true, true, true, true, true, true, true, true, true, true, true, true, true, true, true, true, false, false, false, false, false, false, false, false, false, false] rfl rfl (any_of HT_.out (by kernel_rfl)) (fun _ _ _ h => h) (Or.inl ⟨by rfl, ?_⟩) ?_ ?_
           rotate_left
           ·intro w'
            go_simp
            with_reducible rfl
           rotate_left
           ·simp only [Act.put, sA, sB, sC, i64_w, i32_w]
            rfl
           refine pure_ (i := 30) (N := some 67) (v := ?_) (a' := ?_) #[true, true, true, true, true, true, true, true, true, true, true, true, true, true, true, true, true, true, true, true, true, true, true, true, true, true, true, true, true, true, true, false, false, false, false, false, false, false, false, false] rfl rfl (any_of HT_.out (by kernel_rfl)) (fun _ _ _ h => h) (Or.inl ⟨by rfl, ?_⟩) ?_ ?_
           rotate_left
           ·intro w'
            go_simp
            with_reducible rfl
           rotate_left
           ·simp only [Act.put, sA, sB, sC, i64_w, i32_w]
            rfl
           refine pure_ (i := 31) (N := some 68) (v := ?_) (a' := ?_) #[true, true, true, true, true, true, true, true, true, true, true, true, true, true, true, true, true, true, true, true, true, true, true, true, true, true, true, true, true, true, true, true, false, false, false, false, false, false, false, false] rfl rfl (any_of HT_.out (by kernel_rfl)) (fun _ _ _ h => h) (Or.inl ⟨by rfl, ?_⟩) ?_ ?_
           rotate_left
           ·intro w'
            go_simp
            with_reducible rfl
           rotate_left
           ·simp only [Act.put, sA, sB, sC, i64_w, i32_w]
            rfl
           refine pure_ (i := 32) (N := some 69) (v := ?_) (a' := ?_) #[true, true, true, true, true, true, true, true, true, true, true, true, true, true, true, true, true, true, true, true, true, true, true, true, true, true, true, true, true, true, true, true, true, false, false, false, false, false, false, false] rfl rfl (any_of HT_.out (by kernel_rfl)) (fun _ _ _ h => h) (Or.inl ⟨by rfl, ?_⟩) ?_ ?_
           rotate_left
           ·intro w'
            go_simp
            with_reducible rfl
           rotate_left
           ·simp only [Act.put, sA, sB, sC, i64_w, i32_w]
            rfl
           refine pure_ (i := 33) (N := some 70) (v := undef) (a' := ?_) #[true, true, true, true, true, true, true, true, true, true, true, true, true, true, true, true, true, true, true, true, true, true, true, true, true, true, true, true, true, true, true, true, true, true, false, false, false, false, false, false] rfl rfl (any_of HT_.out (by kernel_rfl)) (fun _ _ _ h => h) (Or.inr ⟨by rfl, rfl⟩) ?_ ?_
           rotate_left
           ·simp only [Act.put, sA, sB, sC, i64_w, i32_w]
            rfl
           refine pure_ (i := 34) (N := some 71) (v := undef) (a' := ?_) #[true, true, true, true, true, true, true, true, true, true, true, true, true, true, true, true, true, true, true, true, true, true, true, true, true, true, true, true, true, true, true, true, true, true, true, false, false, false, false, false] rfl rfl (any_of HT_.out (by kernel_rfl)) (fun _ _ _ h => h) (Or.inr ⟨by rfl, rfl⟩) ?_ ?_
           rotate_left
           ·simp only [Act.put, sA, sB, sC, i64_w, i32_w]
            rfl
           refine pure_ (i := 35) (N := some 72) (v := undef) (a' := ?_) #[true, true, true, true, true, true, true, true, true, true, true, true, true, true, true, true, true, true, true, true, true, true, true, true, true, true, true, true, true, true, true, true, true, true, true, true, false, false, false, false] rfl rfl (any_of HT_.out (by kernel_rfl)) (fun _ _ _ h => h) (Or.inr ⟨by rfl, rfl⟩) ?_ ?_
           rotate_left
           ·simp only [Act.put, sA, sB, sC, i64_w, i32_w]
            rfl
           refine pure_ (i := 36) (N := some 73) (v := undef) (a' := ?_) #[true, true, true, true, true, true, true, true, true, true, true, true, true, true, true, true, true, true, true, true, true, true, true, true, true, true, true, true, true, true, true, true, true, true, true, true, true, false, false, false] rfl rfl (any_of HT_.out (by kernel_rfl)) (fun _ _ _ h => h) (Or.inr ⟨by rfl, rfl⟩) ?_ ?_
           rotate_left
           ·simp only [Act.put, sA, sB, sC, i64_w, i32_w]
            rfl
           refine pure_ (i := 37) (N := some 74) (v := ?_) (a' := ?_) #[true, true, true, true, true, true, true, true, true, true, true, true, true, true, true, true, true, true, true, true, true, true, true, true, true, true, true, true, true, true, true, true, true, true, true, true, true, true, false, false] rfl rfl (any_of HT_.out (by kernel_rfl)) (fun _ _ _ h => h) (Or.inl ⟨by rfl, ?_⟩) ?_ ?_
           rotate_left
           ·intro w'
            go_simp
            with_reducible rfl
           rotate_left
           ·simp only [Act.put, sA, sB, sC, i64_w, i32_w]
            rfl
           refine pure_ (i := 38) (N := some 75) (v := ?_) (a' := ?_) #[true, true, true, true, true, true, true, true, true, true, true, true, true, true, true, true, true, true, true, true, true, true, true, true, true, true, true, true, true, true, true, true, true, true, true, true, true, true, true, false] rfl rfl (any_of HT_.out (by kernel_rfl)) (fun _ _ _ h => h) (Or.inl ⟨by rfl, ?_⟩) ?_ ?_
           rotate_left
           ·intro w'
            go_simp
            with_reducible rfl
           rotate_left
           ·simp only [Act.put, sA, sB, sC, i64_w, i32_w]
            rfl
           refine pure_ (i := 39) (N := some 4) (v := ?_) (a' := ?_) #[true, true, true, true, true, true, true, true, true, true, true, true, true, true, true, true, true, true, true, true, true, true, true, true, true, true, true, true, true, true, true, true, true, true, true, true, true, true, true, true] rfl rfl (any_of HT_.out (by kernel_rfl)) (fun _ _ _ h => h) (Or.inl ⟨by rfl, ?_⟩) ?_ ?_
           rotate_left
           ·intro w'
            go_simp
            with_reducible rfl
           rotate_left
           ·simp only [Act.put, sA, sB, sC, i64_w, i32_w]
            rfl
           refine done_ (done_of HT_.out (by kernel_rfl)) ?_
           try go_wp2
           go_ret
           exact ⟨by first | rfl | (simp [errW_none, errW_some] <;> rfl) | (simp [*, errW_none, errW_some] <;> rfl), by repeat (first | (with_reducible first | exact HB.out | apply below_alloc | apply pw_below_drewN | apply below_drew1 | refine below_set ?_ GE229.out | refine below_set ?_ GE243.out | refine below_set ?_ GE254.out | refine below_set ?_ GE265.out) | exact HB.out)⟩
         ·rw [if_neg c74] at H
          exact absurd H (by simp)
        ·rw [if_neg c73] at H
         exact absurd H (by simp)
       ·rw [if_neg c71] at H
        exact absurd H (by simp)
      ·rw [if_neg c70] at H
       exact absurd H (by simp)
    ·rw [if_neg c18] at H
     exact absurd H (by simp)

end Go.Proofs.Ythhknlibgfmdkaa.PPeerReports

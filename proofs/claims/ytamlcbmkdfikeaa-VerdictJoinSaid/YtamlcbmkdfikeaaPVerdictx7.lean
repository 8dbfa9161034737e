-- written by handprint.py, a program of this session's, over the seat Ytamlcbmkdfikeaa
import Derived.Test.YtamlcbmkdfikeaaPVerdictx0
import Derived.Test.YtamlcbmkdfikeaaPVerdictx4
import Derived.Test.YtamlcbmkdfikeaaPVerdictx5
import Derived.Test.YtamlcbmkdfikeaaPVerdictx6
namespace Go.Proofs.Ytamlcbmkdfikeaa.PVerdict
open Go.RowKit Go.Proofs.YtamlcbmkdfikeaaW.PrintWords Go.Proofs.YtamlcbmkdfikeaaW.PrintLast Go.Proofs.YtamlcbmkdfikeaaW.PrintMore
open Go.Proofs.YtamlcbmkdfikeaaW.PrintWords renaming blk_drewN → kN, blk_drew → kD, blk_alloc → kA, blk_put → kP, blk_far → kF, blk_cell → kC, blk_below → kB, blk_frozen → kZ, below_alloc → bA, pw_below_drewN → bN, below_drew1 → bD, below_step → bS, below_size → bZ, below_set → bE
open List renaming setIfInBounds_toArray → sA, set_cons_zero → sB, set_cons_succ → sC, map_toArray → sD, map_cons → sE, map_nil → sF, length_drop → sG, length_take → sH
attribute [local go_sem] max2_int min2_int max_two min_two max_three min_three max_four min_four   -- for this text's walks alone
set_option linter.unusedVariables false
set_option linter.unusedSimpArgs false

/-! ### impact_Box: function 14 -/
def impact_Box.j0 : Nat → Int → Int → Int → Bool → Int → Int → Int → Int → Int → Int → Int → Int → Int → Int → Int → Int → Option (Int × Int × Int × Int × Bool)
 | 0, _, _, _, _, _, _, _, _, _, _, _, _, _, _, _, _ => none
 | k + 1, x2, x8, x9, x26, x220000, x220001, x220002, x220003, x220004, x220005, x220006, x220007, x221000, x221001, x221002, x221003 => if x26 = true then (some (x221000, x221001, x221002, x221003, false)) else ((impact_side.f x220002 x220005 x2 x8 x9).bind fun bt225 => ((impact_side.f x220003 x220006 x2 x8 x9).bind fun bt227 => ((box_Right.f bt225.1 bt227.1 bt225.2 bt227.2).bind fun t229 => (some (bt225.1, bt227.1, bt225.2, bt227.2, t229)))))
def impact_Box.f (k : Nat) (a0_0 : Int) (a0_1 : Int) (a0_2 : Int) (a0_3 : Int) (a0_4 : Int) (a0_5 : Int) (a0_6 : Int) (a0_7 : Int) (a1 : Int) (a2 : Int) : Option (Int × Int × Int × Int × Bool) := (fall_Span.f k a0_4 a0_7 a1 a2).bind fun bt221 => (if bt221.2.2 = true then ((impact_may.f k a0_0 a0_1 a0_2 a0_3 a0_4 a0_5 a0_6 a0_7).bind fun t224 => (impact_Box.j0 k a2 bt221.1 bt221.2.1 (!t224) a0_0 a0_1 a0_2 a0_3 a0_4 a0_5 a0_6 a0_7 0 0 0 0)) else (impact_Box.j0 k a2 bt221.1 bt221.2.1 true a0_0 a0_1 a0_2 a0_3 a0_4 a0_5 a0_6 a0_7 0 0 0 0))
theorem impact_Box.mono_l : ∀ k, (∀ y0 y1 y2 y3 y4 y5 y6 y7 y8 y9 y10 y11 y12 y13 y14 y15, LeO (impact_Box.j0 k y0 y1 y2 y3 y4 y5 y6 y7 y8 y9 y10 y11 y12 y13 y14 y15) (impact_Box.j0 (k + 1) y0 y1 y2 y3 y4 y5 y6 y7 y8 y9 y10 y11 y12 y13 y14 y15))
 | 0 => fun _ _ _ _ _ _ _ _ _ _ _ _ _ _ _ _ r h => by simp [impact_Box.j0] at h
 | k + 1 => by
  have ih0 := impact_Box.mono_l k
  ·intro y0 y1 y2 y3 y4 y5 y6 y7 y8 y9 y10 y11 y12 y13 y14 y15
   unfold impact_Box.j0
   repeat' first
   | (with_reducible exact ih0 _ _ _ _ _ _ _ _ _ _ _ _ _ _ _ _)
   | (with_reducible exact fall_Span.mono _ _ _ _ _)
   | (with_reducible exact impact_may.mono _ _ _ _ _ _ _ _ _)
   | (with_reducible exact LeO.refl _)
   | (with_reducible exact LeO.none _)
   | (with_reducible refine LeO.ite ?_ ?_)
   | (with_reducible refine LeO.bind ?_ (fun _ => ?_))
   | exact ih0 _ _ _ _ _ _ _ _ _ _ _ _ _ _ _ _
   | exact fall_Span.mono _ _ _ _ _
   | exact impact_may.mono _ _ _ _ _ _ _ _ _
   | exact LeO.none _
   | refine LeO.ite ?_ ?_
   | refine LeO.bind ?_ (fun _ => ?_)
theorem impact_Box.mono : ∀ a0 a1 a2 a3 a4 a5 a6 a7 a8 a9 k, LeO (impact_Box.f k a0 a1 a2 a3 a4 a5 a6 a7 a8 a9) (impact_Box.f (k + 1) a0 a1 a2 a3 a4 a5 a6 a7 a8 a9) := by
 intro a0 a1 a2 a3 a4 a5 a6 a7 a8 a9 k
 have ih0 := impact_Box.mono_l k
 unfold impact_Box.f
 repeat' first
   | (with_reducible exact ih0 _ _ _ _ _ _ _ _ _ _ _ _ _ _ _ _)
   | (with_reducible exact fall_Span.mono _ _ _ _ _)
   | (with_reducible exact impact_may.mono _ _ _ _ _ _ _ _ _)
   | (with_reducible exact LeO.refl _)
   | (with_reducible exact LeO.none _)
   | (with_reducible refine LeO.ite ?_ ?_)
   | (with_reducible refine LeO.bind ?_ (fun _ => ?_))
   | exact ih0 _ _ _ _ _ _ _ _ _ _ _ _ _ _ _ _
   | exact fall_Span.mono _ _ _ _ _
   | exact impact_may.mono _ _ _ _ _ _ _ _ _
   | exact LeO.none _
   | refine LeO.ite ?_ ?_
   | refine LeO.bind ?_ (fun _ => ?_)
set_option maxHeartbeats 8000000 in
set_option maxRecDepth 100000 in
theorem impact_Box.calls (k : Nat) (a0_0 : Int) (a0_1 : Int) (a0_2 : Int) (a0_3 : Int) (a0_4 : Int) (a0_5 : Int) (a0_6 : Int) (a0_7 : Int) (a1 : Int) (a2 : Int) (r1 : Int) (r2 : Int) (r3 : Int) (r4 : Int) (r5 : Bool) (w : World) (h : impact_Box.f k a0_0 a0_1 a0_2 a0_3 a0_4 a0_5 a0_6 a0_7 a1 a2 = some (r1, r2, r3, r4, r5)) :
  Calls Try.prog 14 #[.agg #[.int .i64 a0_0, .int .i64 a0_1, .int .i64 a0_2, .int .i64 a0_3, .int .i64 a0_4, .int .i64 a0_5, .int .i64 a0_6, .int .i64 a0_7], .int .i64 a1, .int .i64 a2] w fun e w' => e = .returned (.tuple #[.agg #[.int .i64 r1, .int .i64 r2, .int .i64 r3, .int .i64 r4], .bool r5]) ∧ Below w.heap.size w w' := by
 have hu34 := Try.underlying34
 have hu43 := Try.underlying43
 have HB := Aside0.mk (Below.refl w.heap.size w)
 have H : ((fall_Span.f k a0_4 a0_7 a1 a2).bind fun bt221 => (if bt221.2.2 = true then ((impact_may.f k a0_0 a0_1 a0_2 a0_3 a0_4 a0_5 a0_6 a0_7).bind fun t224 => (impact_Box.j0 k a2 bt221.1 bt221.2.1 (!t224) a0_0 a0_1 a0_2 a0_3 a0_4 a0_5 a0_6 a0_7 0 0 0 0)) else (impact_Box.j0 k a2 bt221.1 bt221.2.1 true a0_0 a0_1 a0_2 a0_3 a0_4 a0_5 a0_6 a0_7 0 0 0 0))) = some (r1, r2, r3, r4, r5) := h
 clear h
 replace H := Option.bind_eq_some_iff.mp H
 obtain ⟨⟨t221, t222, t223⟩, A40, H⟩ := H
 replace H : (if t223 = true then ((impact_may.f k a0_0 a0_1 a0_2 a0_3 a0_4 a0_5 a0_6 a0_7).bind fun t224 => (impact_Box.j0 k a2 t221 t222 (!t224) a0_0 a0_1 a0_2 a0_3 a0_4 a0_5 a0_6 a0_7 0 0 0 0)) else (impact_Box.j0 k a2 t221 t222 true a0_0 a0_1 a0_2 a0_3 a0_4 a0_5 a0_6 a0_7 0 0 0 0)) = some (r1, r2, r3, r4, r5) := H
 have A4 := Aside0.mk A40
 clear A40
 have HC5 := Aside0.mk H
 clear H
 go_enter Try.func14, Try.ntmps14
 go_upto_region 2 with (first | ((with_reducible refine gate_dst (N := 3) rfl ?_); refine box_event ?hg (N := 3) ?hd (cs := #[.int .i64 a0_0, .int .i64 a0_1, .int .i64 a0_2, .int .i64 a0_3, .int .i64 a0_4, .int .i64 a0_5, .int .i64 a0_6, .int .i64 a0_7]) (t := 34) ?hr ?_; (case hd => rfl); (case hg => rfl); (case hr => first | (go_simp; done) | (go_simp; rfl)); intro gb219 hg w6 hbox hb; have n0_ := Aside0.mk (bS (by repeat (first | (with_reducible first | exact HB.out | apply bA | apply bN | apply bD) | exact HB.out)) hb); have n1_ := Aside0.mk (hbox); have n2_ := Aside0.mk ((by rw [hg]; exact (bZ (by repeat (first | (with_reducible first | exact HB.out | apply bA | apply bN | apply bD) | exact HB.out))) : w.heap.size ≤ gb219)); have n3_ := Aside0.mk ((by rw [hg]; exact (bZ (by repeat (first | (with_reducible first | exact HB.out | apply bA | apply bN | apply bD) | exact HB.out))) : w.heap.size ≤ gb219)); clear HB; have HB := n0_; have BK219 := n1_; have GW219 := n2_; have GE219 := n3_; clear n0_ n1_ n2_ n3_; clear hb hbox hg) | ((with_reducible refine gate_dst (N := 6) rfl ?_); refine box_event ?hg (N := 6) ?hd (cs := #[.int .i64 0, .int .i64 0, .int .i64 0, .int .i64 0]) (t := 43) ?hr ?_; (case hd => rfl); (case hg => rfl); (case hr => first | (go_simp; done) | (go_simp; rfl)); intro gb220 hg w7 hbox hb; have n0_ := Aside0.mk (kB (g := gb219) (o := .cells #[.int .i64 a0_0, .int .i64 a0_1, .int .i64 a0_2, .int .i64 a0_3, .int .i64 a0_4, .int .i64 a0_5, .int .i64 a0_6, .int .i64 a0_7] 34 (0, 0)) (by (with_reducible repeat (first | refine kN ?_ _ | refine kD ?_ | refine kA ?_ _)); exact BK219.out) hb); have n1_ := Aside0.mk (bS (by repeat (first | (with_reducible first | exact HB.out | apply bA | apply bN | apply bD | refine bE ?_ GE219.out) | exact HB.out)) hb); have n2_ := Aside0.mk (hbox); have n3_ := Aside0.mk ((by rw [hg]; exact (bZ (by repeat (first | (with_reducible first | exact HB.out | apply bA | apply bN | apply bD | refine bE ?_ GE219.out) | exact HB.out))) : w.heap.size ≤ gb220)); have n4_ := Aside0.mk ((by rw [hg]; exact (bZ (by repeat (first | (with_reducible first | exact HB.out | apply bA | apply bN | apply bD | refine bE ?_ GE219.out) | exact HB.out))) : w.heap.size ≤ gb220)); have n5_ := Aside0.mk ((by rw [hg]; exact Nat.ne_of_lt (blk_lt (g := gb219) (o := .cells #[.int .i64 a0_0, .int .i64 a0_1, .int .i64 a0_2, .int .i64 a0_3, .int .i64 a0_4, .int .i64 a0_5, .int .i64 a0_6, .int .i64 a0_7] 34 (0, 0)) (by (with_reducible repeat (first | refine kN ?_ _ | refine kD ?_ | refine kA ?_ _)); exact BK219.out)) : gb219 ≠ gb220)); have n6_ := Aside0.mk ((by rw [hg]; exact Nat.ne_of_gt (blk_lt (g := gb219) (o := .cells #[.int .i64 a0_0, .int .i64 a0_1, .int .i64 a0_2, .int .i64 a0_3, .int .i64 a0_4, .int .i64 a0_5, .int .i64 a0_6, .int .i64 a0_7] 34 (0, 0)) (by (with_reducible repeat (first | refine kN ?_ _ | refine kD ?_ | refine kA ?_ _)); exact BK219.out)) : gb220 ≠ gb219)); clear BK219; clear HB; have BK219 := n0_; have HB := n1_; have BK220 := n2_; have GW220 := n3_; have GE220 := n4_; have NB219_220 := n5_; have NB220_219 := n6_; clear n0_ n1_ n2_ n3_ n4_ n5_ n6_; clear hb hbox hg; have hnb8 := NB219_220.out; have hnc8 := NB220_219.out; have hcz9_0 : w7.cell? ⟨gb219, 0, none⟩ = some (.int .i64 a0_0) := (kC BK219.out 0).trans rfl; have hcz9_1 : w7.cell? ⟨gb219, 1, none⟩ = some (.int .i64 a0_1) := (kC BK219.out 1).trans rfl; have hcz9_2 : w7.cell? ⟨gb219, 2, none⟩ = some (.int .i64 a0_2) := (kC BK219.out 2).trans rfl; have hcz9_3 : w7.cell? ⟨gb219, 3, none⟩ = some (.int .i64 a0_3) := (kC BK219.out 3).trans rfl; have hcz9_4 : w7.cell? ⟨gb219, 4, none⟩ = some (.int .i64 a0_4) := (kC BK219.out 4).trans rfl; have hcz9_5 : w7.cell? ⟨gb219, 5, none⟩ = some (.int .i64 a0_5) := (kC BK219.out 5).trans rfl; have hcz9_6 : w7.cell? ⟨gb219, 6, none⟩ = some (.int .i64 a0_6) := (kC BK219.out 6).trans rfl; have hcz9_7 : w7.cell? ⟨gb219, 7, none⟩ = some (.int .i64 a0_7) := (kC BK219.out 7).trans rfl; have hfz9_0 := kZ BK219.out 0; have hfz9_1 := kZ BK219.out 1; have hfz9_2 := kZ BK219.out 2; have hfz9_3 := kZ BK219.out 3; have hfz9_4 := kZ BK219.out 4; have hfz9_5 := kZ BK219.out 5; have hfz9_6 := kZ BK219.out 6; have hfz9_7 := kZ BK219.out 7) | ((with_reducible refine gate_callee (f := 19) rfl ?_); refine goesL_ (some 17) rfl rfl Try.func19 (by kernel_rfl) rfl #[.int .i64 a0_4, .int .i64 a0_7, .int .i64 a1, .int .i64 a2] rfl (by (try simp only [sD, sE, sF]); first | done | rfl | (simp only [sG, sH]; rfl)) ?_; (with_reducible refine (fall_Span.calls k a0_4 a0_7 a1 a2 t221 t222 t223 _ A4.out).mono ?_); rintro e w10 ⟨rfl, hb⟩; refine ⟨_, rfl, ?_⟩; have n0_ := Aside0.mk (kB (g := gb219) (o := .cells #[.int .i64 a0_0, .int .i64 a0_1, .int .i64 a0_2, .int .i64 a0_3, .int .i64 a0_4, .int .i64 a0_5, .int .i64 a0_6, .int .i64 a0_7] 34 (0, 0)) (by (with_reducible repeat (first | refine kN ?_ _ | refine kD ?_ | refine kA ?_ _)); exact BK219.out) hb); have n1_ := Aside0.mk (kB (g := gb220) (o := .cells #[.int .i64 0, .int .i64 0, .int .i64 0, .int .i64 0] 43 (0, 0)) (by (with_reducible repeat (first | refine kN ?_ _ | refine kD ?_ | refine kA ?_ _)); exact BK220.out) hb); have n2_ := Aside0.mk (bS (by repeat (first | (with_reducible first | exact HB.out | apply bA | apply bN | apply bD | refine bE ?_ GE219.out | refine bE ?_ GE220.out) | exact HB.out)) hb); clear BK219; clear BK220; clear HB; have BK219 := n0_; have BK220 := n1_; have HB := n2_; clear n0_ n1_ n2_; (try clear hb); (try clear hb2); (try clear hk); (try clear hi)))
 (try simp only [Act.put, sA, sB, sC])
 go_cut [26] (fun v26 wc => ∃ (kq : Nat) (x26_4 : Bool) (x220000_4 : Int) (x220001_4 : Int) (x220002_4 : Int) (x220003_4 : Int) (x220004_4 : Int) (x220005_4 : Int) (x220006_4 : Int) (x220007_4 : Int), v26 = .bool x26_4 ∧ Aside0 (impact_Box.j0 kq a2 t221 t222 x26_4 x220000_4 x220001_4 x220002_4 x220003_4 x220004_4 x220005_4 x220006_4 x220007_4 0 0 0 0 = some (r1, r2, r3, r4, r5)) ∧ Aside0 (kq ≤ k) ∧ Aside0 (wc.heap[gb219]? = some (.cells #[.int .i64 x220000_4, .int .i64 x220001_4, .int .i64 x220002_4, .int .i64 x220003_4, .int .i64 x220004_4, .int .i64 x220005_4, .int .i64 x220006_4, .int .i64 x220007_4] 34 (0, 0))) ∧ Aside0 (wc.heap[gb220]? = some (.cells #[.int .i64 0, .int .i64 0, .int .i64 0, .int .i64 0] 43 (0, 0))) ∧ Aside0 (Below w.heap.size w wc))
 case first =>
  have H := HC5.out
  clear HC5
  by_cases c11 : t223 = true
  ·subst c11
   have H1 : ((impact_may.f k a0_0 a0_1 a0_2 a0_3 a0_4 a0_5 a0_6 a0_7).bind fun t224 => (impact_Box.j0 k a2 t221 t222 (!t224) a0_0 a0_1 a0_2 a0_3 a0_4 a0_5 a0_6 a0_7 0 0 0 0)) = some (r1, r2, r3, r4, r5) := by rw [if_pos rfl] at H; exact H
   clear H
   have H := H1
   clear H1
   replace H := Option.bind_eq_some_iff.mp H
   obtain ⟨t224, A120, H⟩ := H
   replace H : (impact_Box.j0 k a2 t221 t222 (!t224) a0_0 a0_1 a0_2 a0_3 a0_4 a0_5 a0_6 a0_7 0 0 0 0) = some (r1, r2, r3, r4, r5) := H
   have A12 := Aside0.mk A120
   clear A120
   have H' := Aside0.mk H
   clear H
   go_wp2_with (first | (go_at_call 20; (with_reducible refine (impact_may.calls k gb219 a0_0 a0_1 a0_2 a0_3 a0_4 a0_5 a0_6 a0_7 t224 _ ?side1 A12.out).mono ?_); (case side1 => (with_reducible repeat (first | refine kN ?_ _ | refine kD ?_ | refine kA ?_ _)); exact BK219.out); rintro e w13 ⟨rfl, hb⟩; have n0_ := Aside0.mk (kB (g := gb219) (o := .cells #[.int .i64 a0_0, .int .i64 a0_1, .int .i64 a0_2, .int .i64 a0_3, .int .i64 a0_4, .int .i64 a0_5, .int .i64 a0_6, .int .i64 a0_7] 34 (0, 0)) (by (with_reducible repeat (first | refine kN ?_ _ | refine kD ?_ | refine kA ?_ _)); exact BK219.out) hb); have n1_ := Aside0.mk (kB (g := gb220) (o := .cells #[.int .i64 0, .int .i64 0, .int .i64 0, .int .i64 0] 43 (0, 0)) (by (with_reducible repeat (first | refine kN ?_ _ | refine kD ?_ | refine kA ?_ _)); exact BK220.out) hb); have n2_ := Aside0.mk (bS (by repeat (first | (with_reducible first | exact HB.out | apply bA | apply bN | apply bD | refine bE ?_ GE219.out | refine bE ?_ GE220.out) | exact HB.out)) hb); clear BK219; clear BK220; clear HB; have BK219 := n0_; have BK220 := n1_; have HB := n2_; clear n0_ n1_ n2_; (try clear hb); (try clear hb2); (try clear hk); (try clear hi)))
   go_meet
   case rel => exact ⟨_, (!t224), (a0_0), (a0_1), (a0_2), (a0_3), (a0_4), (a0_5), (a0_6), (a0_7), (by first | rfl | (simp; done) | (simp [*]; done)), H', ⟨by first | omega | exact Nat.le_refl _⟩, ⟨by (with_reducible repeat (first | refine kN ?_ _ | refine kD ?_ | refine kA ?_ _)); exact BK219.out⟩, ⟨by (with_reducible repeat (first | refine kN ?_ _ | refine kD ?_ | refine kA ?_ _)); exact BK220.out⟩, ⟨by repeat (first | (with_reducible first | exact HB.out | apply bA | apply bN | apply bD | refine bE ?_ GE219.out | refine bE ?_ GE220.out) | exact HB.out)⟩⟩
  ·replace c11 := Bool.eq_false_iff.mpr c11
   subst c11
   have H1 : (impact_Box.j0 k a2 t221 t222 true a0_0 a0_1 a0_2 a0_3 a0_4 a0_5 a0_6 a0_7 0 0 0 0) = some (r1, r2, r3, r4, r5) := by rw [if_neg (show ¬ (false = true) by decide)] at H; exact H
   clear H
   have H := H1
   clear H1
   have H' := Aside0.mk H
   clear H
   go_wp2
   go_meet
   case rel => exact ⟨_, (true), (a0_0), (a0_1), (a0_2), (a0_3), (a0_4), (a0_5), (a0_6), (a0_7), (by first | rfl | (simp; done) | (simp [*]; done)), H', ⟨by first | omega | exact Nat.le_refl _⟩, ⟨by (with_reducible repeat (first | refine kN ?_ _ | refine kD ?_ | refine kA ?_ _)); exact BK219.out⟩, ⟨by (with_reducible repeat (first | refine kN ?_ _ | refine kD ?_ | refine kA ?_ _)); exact BK220.out⟩, ⟨by repeat (first | (with_reducible first | exact HB.out | apply bA | apply bN | apply bD | refine bE ?_ GE219.out | refine bE ?_ GE220.out) | exact HB.out)⟩⟩
 case rest =>
  clear HC5
  try clear c1
  try clear p2
  try clear c8
  try clear c11
  try clear hcz9_0
  try clear hcz9_1
  try clear hcz9_2
  try clear hcz9_3
  try clear hcz9_4
  try clear hcz9_5
  try clear hcz9_6
  try clear hcz9_7
  try clear hfz9_0
  try clear hfz9_1
  try clear hfz9_2
  try clear hfz9_3
  try clear hfz9_4
  try clear hfz9_5
  try clear hfz9_6
  try clear hfz9_7
  obtain ⟨kq, x26_4, x220000_4, x220001_4, x220002_4, x220003_4, x220004_4, x220005_4, x220006_4, x220007_4, rfl, HA, HJ4, BK219, BK220, HB⟩ := hcut
  cases kq with
  | zero => exact absurd HA.out (by simp [impact_Box.j0])
  | succ kj4 =>
   have H := HA.out
   clear HA
   simp only [impact_Box.j0] at H
   by_cases c14 : x26_4 = true
   ·subst c14
    have H1 : (some (0, 0, 0, 0, false)) = some (r1, r2, r3, r4, r5) := by rw [if_pos rfl] at H; exact H
    clear H
    have H := H1
    clear H1
    simp only [Option.some.injEq, Prod.mk.injEq] at H
    obtain ⟨rfl, rfl, rfl, rfl, rfl⟩ := H
    have hnb15 := NB220_219.out
    have hnc15 := NB219_220.out
    have hcz16_0 : wc.cell? ⟨gb220, 0, none⟩ = some (.int .i64 0) := (kC BK220.out 0).trans rfl
    have hcz16_1 : wc.cell? ⟨gb220, 1, none⟩ = some (.int .i64 0) := (kC BK220.out 1).trans rfl
    have hcz16_2 : wc.cell? ⟨gb220, 2, none⟩ = some (.int .i64 0) := (kC BK220.out 2).trans rfl
    have hcz16_3 : wc.cell? ⟨gb220, 3, none⟩ = some (.int .i64 0) := (kC BK220.out 3).trans rfl
    have hfz16_0 := kZ BK220.out 0
    have hfz16_1 := kZ BK220.out 1
    have hfz16_2 := kZ BK220.out 2
    have hfz16_3 := kZ BK220.out 3
    go_wp2
    refine bodyPost_ret (results_ct rfl _ _ gb220 43 #[.int .i64 0, .int .i64 0, .int .i64 0, .int .i64 0] (0, 0) _ rfl (by (with_reducible repeat (first | refine kN ?_ _ | refine kD ?_ | refine kA ?_ _)); refine kP (cs := #[.int .i64 0, .int .i64 0, .int .i64 0, .int .i64 0]) ?_ 3 _ rfl; (with_reducible repeat (first | refine kN ?_ _ | refine kD ?_ | refine kA ?_ _)); refine kP (cs := #[.int .i64 0, .int .i64 0, .int .i64 0, .int .i64 0]) ?_ 2 _ rfl; (with_reducible repeat (first | refine kN ?_ _ | refine kD ?_ | refine kA ?_ _)); refine kP (cs := #[.int .i64 0, .int .i64 0, .int .i64 0, .int .i64 0]) ?_ 1 _ rfl; (with_reducible repeat (first | refine kN ?_ _ | refine kD ?_ | refine kA ?_ _)); refine kP (cs := #[.int .i64 0, .int .i64 0, .int .i64 0, .int .i64 0]) ?_ 0 _ rfl; (with_reducible repeat (first | refine kN ?_ _ | refine kD ?_ | refine kA ?_ _)); exact BK220.out) Try.underlying43 rfl (by kernel_rfl)) rfl ?_
    exact ⟨by first | rfl | (simp [errW_none, errW_some] <;> rfl) | (simp [*, errW_none, errW_some] <;> rfl), by repeat (first | (with_reducible first | exact HB.out | apply bA | apply bN | apply bD | refine bE ?_ GE219.out | refine bE ?_ GE220.out) | exact HB.out)⟩
   ·replace c14 := Bool.eq_false_iff.mpr c14
    subst c14
    have H1 : ((impact_side.f x220002_4 x220005_4 a2 t221 t222).bind fun bt225 => ((impact_side.f x220003_4 x220006_4 a2 t221 t222).bind fun bt227 => ((box_Right.f bt225.1 bt227.1 bt225.2 bt227.2).bind fun t229 => (some (bt225.1, bt227.1, bt225.2, bt227.2, t229))))) = some (r1, r2, r3, r4, r5) := by rw [if_neg (show ¬ (false = true) by decide)] at H; exact H
    clear H
    have H := H1
    clear H1
    replace H := Option.bind_eq_some_iff.mp H
    obtain ⟨⟨t225, t226⟩, A170, H⟩ := H
    replace H : ((impact_side.f x220003_4 x220006_4 a2 t221 t222).bind fun bt227 => ((box_Right.f t225 bt227.1 t226 bt227.2).bind fun t229 => (some (t225, bt227.1, t226, bt227.2, t229)))) = some (r1, r2, r3, r4, r5) := H
    have A17 := Aside0.mk A170
    clear A170
    replace H := Option.bind_eq_some_iff.mp H
    obtain ⟨⟨t227, t228⟩, A180, H⟩ := H
    replace H : ((box_Right.f t225 t227 t226 t228).bind fun t229 => (some (t225, t227, t226, t228, t229))) = some (r1, r2, r3, r4, r5) := H
    have A18 := Aside0.mk A180
    clear A180
    replace H := Option.bind_eq_some_iff.mp H
    obtain ⟨t229, A190, H⟩ := H
    replace H : (some (t225, t227, t226, t228, t229)) = some (r1, r2, r3, r4, r5) := H
    have A19 := Aside0.mk A190
    clear A190
    simp only [Option.some.injEq, Prod.mk.injEq] at H
    obtain ⟨rfl, rfl, rfl, rfl, rfl⟩ := H
    have hnb20 := NB219_220.out
    have hnc20 := NB220_219.out
    have hcz21_0 : wc.cell? ⟨gb219, 0, none⟩ = some (.int .i64 x220000_4) := (kC BK219.out 0).trans rfl
    have hcz21_1 : wc.cell? ⟨gb219, 1, none⟩ = some (.int .i64 x220001_4) := (kC BK219.out 1).trans rfl
    have hcz21_2 : wc.cell? ⟨gb219, 2, none⟩ = some (.int .i64 x220002_4) := (kC BK219.out 2).trans rfl
    have hcz21_3 : wc.cell? ⟨gb219, 3, none⟩ = some (.int .i64 x220003_4) := (kC BK219.out 3).trans rfl
    have hcz21_4 : wc.cell? ⟨gb219, 4, none⟩ = some (.int .i64 x220004_4) := (kC BK219.out 4).trans rfl
    have hcz21_5 : wc.cell? ⟨gb219, 5, none⟩ = some (.int .i64 x220005_4) := (kC BK219.out 5).trans rfl
    have hcz21_6 : wc.cell? ⟨gb219, 6, none⟩ = some (.int .i64 x220006_4) := (kC BK219.out 6).trans rfl
    have hcz21_7 : wc.cell? ⟨gb219, 7, none⟩ = some (.int .i64 x220007_4) := (kC BK219.out 7).trans rfl
    have hfz21_0 := kZ BK219.out 0
    have hfz21_1 := kZ BK219.out 1
    have hfz21_2 := kZ BK219.out 2
    have hfz21_3 := kZ BK219.out 3
    have hfz21_4 := kZ BK219.out 4
    have hfz21_5 := kZ BK219.out 5
    have hfz21_6 := kZ BK219.out 6
    have hfz21_7 := kZ BK219.out 7
    have tk1_0_ : True := trivial
    have tk1_1_ : True := trivial
    try go_wp2_with (first | ((with_reducible refine gate_callee (f := 21) rfl ?_); have q_ := tk1_0_; clear q_ tk1_0_; refine goesL_ (some 36) rfl rfl Try.func21 (by kernel_rfl) rfl #[.int .i64 x220002_4, .int .i64 x220005_4, .int .i64 a2, .int .i64 t221, .int .i64 t222] rfl (by (try simp only [sD, sE, sF]); first | done | rfl | (simp only [sG, sH]; rfl)) ?_; (with_reducible refine (impact_side.calls x220002_4 x220005_4 a2 t221 t222 t225 t226 _ A17.out).mono ?_); rintro e w22 ⟨rfl, hb⟩; refine ⟨_, rfl, ?_⟩; have n0_ := Aside0.mk (kB (g := gb219) (o := .cells #[.int .i64 x220000_4, .int .i64 x220001_4, .int .i64 x220002_4, .int .i64 x220003_4, .int .i64 x220004_4, .int .i64 x220005_4, .int .i64 x220006_4, .int .i64 x220007_4] 34 (0, 0)) (by (with_reducible repeat (first | refine kN ?_ _ | refine kD ?_ | refine kA ?_ _)); exact BK219.out) hb); have n1_ := Aside0.mk (kB (g := gb220) (o := .cells #[.int .i64 0, .int .i64 0, .int .i64 0, .int .i64 0] 43 (0, 0)) (by (with_reducible repeat (first | refine kN ?_ _ | refine kD ?_ | refine kA ?_ _)); exact BK220.out) hb); have n2_ := Aside0.mk (bS (by repeat (first | (with_reducible first | exact HB.out | apply bA | apply bN | apply bD | refine bE ?_ GE219.out | refine bE ?_ GE220.out) | exact HB.out)) hb); clear BK219; clear BK220; clear HB; have BK219 := n0_; have BK220 := n1_; have HB := n2_; clear n0_ n1_ n2_; (try clear hb); (try clear hb2); (try clear hk); (try clear hi); have hcz23_0 : w22.cell? ⟨gb220, 0, none⟩ = some (.int .i64 0) := (kC BK220.out 0).trans rfl; have hcz23_1 : w22.cell? ⟨gb220, 1, none⟩ = some (.int .i64 0) := (kC BK220.out 1).trans rfl; have hcz23_2 : w22.cell? ⟨gb220, 2, none⟩ = some (.int .i64 0) := (kC BK220.out 2).trans rfl; have hcz23_3 : w22.cell? ⟨gb220, 3, none⟩ = some (.int .i64 0) := (kC BK220.out 3).trans rfl; have hfz23_0 := kZ BK220.out 0; have hfz23_1 := kZ BK220.out 1; have hfz23_2 := kZ BK220.out 2; have hfz23_3 := kZ BK220.out 3; have hcz24_0 : w22.cell? ⟨gb219, 0, none⟩ = some (.int .i64 x220000_4) := (kC BK219.out 0).trans rfl; have hcz24_1 : w22.cell? ⟨gb219, 1, none⟩ = some (.int .i64 x220001_4) := (kC BK219.out 1).trans rfl; have hcz24_2 : w22.cell? ⟨gb219, 2, none⟩ = some (.int .i64 x220002_4) := (kC BK219.out 2).trans rfl; have hcz24_3 : w22.cell? ⟨gb219, 3, none⟩ = some (.int .i64 x220003_4) := (kC BK219.out 3).trans rfl; have hcz24_4 : w22.cell? ⟨gb219, 4, none⟩ = some (.int .i64 x220004_4) := (kC BK219.out 4).trans rfl; have hcz24_5 : w22.cell? ⟨gb219, 5, none⟩ = some (.int .i64 x220005_4) := (kC BK219.out 5).trans rfl; have hcz24_6 : w22.cell? ⟨gb219, 6, none⟩ = some (.int .i64 x220006_4) := (kC BK219.out 6).trans rfl; have hcz24_7 : w22.cell? ⟨gb219, 7, none⟩ = some (.int .i64 x220007_4) := (kC BK219.out 7).trans rfl; have hfz24_0 := kZ BK219.out 0; have hfz24_1 := kZ BK219.out 1; have hfz24_2 := kZ BK219.out 2; have hfz24_3 := kZ BK219.out 3; have hfz24_4 := kZ BK219.out 4; have hfz24_5 := kZ BK219.out 5; have hfz24_6 := kZ BK219.out 6; have hfz24_7 := kZ BK219.out 7) | ((with_reducible refine gate_callee (f := 21) rfl ?_); have q_ := tk1_1_; clear q_ tk1_1_; refine goesL_ (some 51) rfl rfl Try.func21 (by kernel_rfl) rfl #[.int .i64 x220003_4, .int .i64 x220006_4, .int .i64 a2, .int .i64 t221, .int .i64 t222] rfl (by (try simp only [sD, sE, sF]); first | done | rfl | (simp only [sG, sH]; rfl)) ?_; (with_reducible refine (impact_side.calls x220003_4 x220006_4 a2 t221 t222 t227 t228 _ A18.out).mono ?_); rintro e w25 ⟨rfl, hb⟩; refine ⟨_, rfl, ?_⟩; have n0_ := Aside0.mk (kB (g := gb219) (o := .cells #[.int .i64 x220000_4, .int .i64 x220001_4, .int .i64 x220002_4, .int .i64 x220003_4, .int .i64 x220004_4, .int .i64 x220005_4, .int .i64 x220006_4, .int .i64 x220007_4] 34 (0, 0)) (by (with_reducible repeat (first | refine kN ?_ _ | refine kD ?_ | refine kA ?_ _)); refine kF ?_ NB219_220.out _; (with_reducible repeat (first | refine kN ?_ _ | refine kD ?_ | refine kA ?_ _)); refine kF ?_ NB219_220.out _; (with_reducible repeat (first | refine kN ?_ _ | refine kD ?_ | refine kA ?_ _)); exact BK219.out) hb); have n1_ := Aside0.mk (kB (g := gb220) (o := .cells #[.int .i64 t225, .int .i64 0, .int .i64 t226, .int .i64 0] 43 (0, 0)) (by (with_reducible repeat (first | refine kN ?_ _ | refine kD ?_ | refine kA ?_ _)); refine kP (cs := #[.int .i64 t225, .int .i64 0, .int .i64 0, .int .i64 0]) ?_ 2 _ rfl; (with_reducible repeat (first | refine kN ?_ _ | refine kD ?_ | refine kA ?_ _)); refine kP (cs := #[.int .i64 0, .int .i64 0, .int .i64 0, .int .i64 0]) ?_ 0 _ rfl; (with_reducible repeat (first | refine kN ?_ _ | refine kD ?_ | refine kA ?_ _)); exact BK220.out) hb); have n2_ := Aside0.mk (bS (by repeat (first | (with_reducible first | exact HB.out | apply bA | apply bN | apply bD | refine bE ?_ GE219.out | refine bE ?_ GE220.out) | exact HB.out)) hb); clear BK219; clear BK220; clear HB; have BK219 := n0_; have BK220 := n1_; have HB := n2_; clear n0_ n1_ n2_; (try clear hb); (try clear hb2); (try clear hk); (try clear hi); have hcz26_0 : w25.cell? ⟨gb220, 0, none⟩ = some (.int .i64 t225) := (kC BK220.out 0).trans rfl; have hcz26_1 : w25.cell? ⟨gb220, 1, none⟩ = some (.int .i64 0) := (kC BK220.out 1).trans rfl; have hcz26_2 : w25.cell? ⟨gb220, 2, none⟩ = some (.int .i64 t226) := (kC BK220.out 2).trans rfl; have hcz26_3 : w25.cell? ⟨gb220, 3, none⟩ = some (.int .i64 0) := (kC BK220.out 3).trans rfl; have hfz26_0 := kZ BK220.out 0; have hfz26_1 := kZ BK220.out 1; have hfz26_2 := kZ BK220.out 2; have hfz26_3 := kZ BK220.out 3))
    have n0_ : Aside0 (((w25.setCell ⟨gb220, 1, none⟩ (.int .i64 t227)).setCell ⟨gb220, 3, none⟩ (.int .i64 t228)).heap[gb219]? = some (.cells #[.int .i64 x220000_4, .int .i64 x220001_4, .int .i64 x220002_4, .int .i64 x220003_4, .int .i64 x220004_4, .int .i64 x220005_4, .int .i64 x220006_4, .int .i64 x220007_4] 34 (0, 0))) := ⟨by (with_reducible repeat (first | refine kN ?_ _ | refine kD ?_ | refine kA ?_ _)); refine kF ?_ NB219_220.out _; (with_reducible repeat (first | refine kN ?_ _ | refine kD ?_ | refine kA ?_ _)); refine kF ?_ NB219_220.out _; (with_reducible repeat (first | refine kN ?_ _ | refine kD ?_ | refine kA ?_ _)); exact BK219.out⟩
    have n1_ : Aside0 (((w25.setCell ⟨gb220, 1, none⟩ (.int .i64 t227)).setCell ⟨gb220, 3, none⟩ (.int .i64 t228)).heap[gb220]? = some (.cells #[.int .i64 t225, .int .i64 t227, .int .i64 t226, .int .i64 t228] 43 (0, 0))) := ⟨by (with_reducible repeat (first | refine kN ?_ _ | refine kD ?_ | refine kA ?_ _)); refine kP (cs := #[.int .i64 t225, .int .i64 t227, .int .i64 t226, .int .i64 0]) ?_ 3 _ rfl; (with_reducible repeat (first | refine kN ?_ _ | refine kD ?_ | refine kA ?_ _)); refine kP (cs := #[.int .i64 t225, .int .i64 0, .int .i64 t226, .int .i64 0]) ?_ 1 _ rfl; (with_reducible repeat (first | refine kN ?_ _ | refine kD ?_ | refine kA ?_ _)); exact BK220.out⟩
    have n2_ : Aside0 (Below w.heap.size w ((w25.setCell ⟨gb220, 1, none⟩ (.int .i64 t227)).setCell ⟨gb220, 3, none⟩ (.int .i64 t228))) := ⟨by repeat (first | (with_reducible first | exact HB.out | apply bA | apply bN | apply bD | refine bE ?_ GE219.out | refine bE ?_ GE220.out) | exact HB.out)⟩
    (try clear BK219)
    (try clear BK220)
    (try clear HB)
    generalize ((w25.setCell ⟨gb220, 1, none⟩ (.int .i64 t227)).setCell ⟨gb220, 3, none⟩ (.int .i64 t228)) = w27 at n0_ n1_ n2_ ⊢
    have BK219 := n0_
    have BK220 := n1_
    have HB := n2_
    clear n0_ n1_ n2_
    have n0_ := Aside0.mk (kD BK219.out)
    have n1_ := Aside0.mk (kD BK220.out)
    have n2_ := Aside0.mk (bD HB.out)
    clear BK219
    clear BK220
    clear HB
    have BK219 := n0_
    have BK220 := n1_
    have HB := n2_
    clear n0_ n1_ n2_
    refine start_ (n := 5) (S := fun w' => w'.cell? ⟨gb220, 0, none⟩ = some (.int .i64 t225) ∧ w'.cell? ⟨gb220, 1, none⟩ = some (.int .i64 t227) ∧ w'.cell? ⟨gb220, 2, none⟩ = some (.int .i64 t226) ∧ w'.cell? ⟨gb220, 3, none⟩ = some (.int .i64 t228)) (ds := [3]) #[false, false, false, false, false] (by kernel_rfl) rfl rfl ⟨(kC BK220.out 0).trans rfl, (kC BK220.out 1).trans rfl, (kC BK220.out 2).trans rfl, (kC BK220.out 3).trans rfl⟩ (fun hHeld => ?_)
    generalize w27.drew = w28 at BK219 BK220 HB hHeld ⊢
    refine take_ (i := 0) (N := some 58) (v := ?_) (a' := ?_) #[true, false, false, false, false] rfl rfl (by kernel_rfl) (fun _ _ _ h => h) (Or.inl ⟨by rfl, ?_⟩) hHeld ?_ ?_
    rotate_left
    ·rintro w' ⟨s0, s1, s2, s3⟩
     go_simp
     with_reducible rfl
    rotate_left
    ·simp only [Act.put, sA, sB, sC, i64_w, i32_w]
     rfl
    refine take_ (i := 1) (N := some 59) (v := ?_) (a' := ?_) #[true, true, false, false, false] rfl rfl (by kernel_rfl) (fun _ _ _ h => h) (Or.inl ⟨by rfl, ?_⟩) hHeld ?_ ?_
    rotate_left
    ·rintro w' ⟨s0, s1, s2, s3⟩
     go_simp
     with_reducible rfl
    rotate_left
    ·simp only [Act.put, sA, sB, sC, i64_w, i32_w]
     rfl
    refine one_ (i := 2) (N := some 60) #[true, true, true, false, false] rfl rfl (by kernel_rfl) (by decide) (fun K hK => ?_)
    refine goes_ Try.func22 (by kernel_rfl) rfl #[.agg #[.int .i64 t225, .int .i64 t227, .int .i64 t226, .int .i64 t228]] (by rfl) rfl rfl (by (try simp only [sD, sE, sF]); first | done | rfl | (simp only [sG, sH]; rfl)) ?_
    with_reducible refine (box_Right.calls t225 t227 t226 t228 t229 _ A19.out).mono ?_
    rintro e w29 ⟨rfl, hb⟩
    refine ⟨_, rfl, ?_⟩
    have n0_ := Aside0.mk (kB (g := gb219) (o := .cells #[.int .i64 x220000_4, .int .i64 x220001_4, .int .i64 x220002_4, .int .i64 x220003_4, .int .i64 x220004_4, .int .i64 x220005_4, .int .i64 x220006_4, .int .i64 x220007_4] 34 (0, 0)) (by (with_reducible repeat (first | refine kN ?_ _ | refine kD ?_ | refine kA ?_ _)); exact BK219.out) hb)
    have n1_ := Aside0.mk (kB (g := gb220) (o := .cells #[.int .i64 t225, .int .i64 t227, .int .i64 t226, .int .i64 t228] 43 (0, 0)) (by (with_reducible repeat (first | refine kN ?_ _ | refine kD ?_ | refine kA ?_ _)); exact BK220.out) hb)
    have n2_ := Aside0.mk (bS (by repeat (first | (with_reducible first | exact HB.out | apply bA | apply bN | apply bD | refine bE ?_ GE219.out | refine bE ?_ GE220.out) | exact HB.out)) hb)
    clear BK219
    clear BK220
    clear HB
    have BK219 := n0_
    have BK220 := n1_
    have HB := n2_
    clear n0_ n1_ n2_
    (try clear hb)
    (try clear hb2)
    (try clear hk)
    (try clear hi)
    refine hK.out _ _ ⟨(kC BK220.out 0).trans rfl, (kC BK220.out 1).trans rfl, (kC BK220.out 2).trans rfl, (kC BK220.out 3).trans rfl⟩ (fun hHeld => ?_)
    clear hK K
    refine norm_ (a' := ?_) ?_ ?_
    rotate_left
    ·show Act.put _ (some 60) _ = _
     simp only [Act.put, sA, sB, sC, i64_w, i32_w]
     rfl
    refine last_ (i := 3) (N := none) #[true, true, true, true, false] rfl rfl (by kernel_rfl) (by decide) (fun K hK => ?_)
    have hs30 : w29.cell? ⟨gb220, 0, none⟩ = some (.int .i64 t225) := (kC BK220.out 0).trans rfl
    have hfs30 := kZ BK220.out 0
    have hns30_0 := NB219_220.out
    have hms30_0 := NB220_219.out
    have hs31 : w29.cell? ⟨gb220, 1, none⟩ = some (.int .i64 t227) := (kC BK220.out 1).trans rfl
    have hfs31 := kZ BK220.out 1
    have hns31_0 := NB219_220.out
    have hms31_0 := NB220_219.out
    have hs32 : w29.cell? ⟨gb220, 2, none⟩ = some (.int .i64 t226) := (kC BK220.out 2).trans rfl
    have hfs32 := kZ BK220.out 2
    have hns32_0 := NB219_220.out
    have hms32_0 := NB220_219.out
    have hs33 : w29.cell? ⟨gb220, 3, none⟩ = some (.int .i64 t228) := (kC BK220.out 3).trans rfl
    have hfs33 := kZ BK220.out 3
    have hns33_0 := NB219_220.out
    have hms33_0 := NB220_219.out
    refine skip_ (w1 := ?_) (by rfl) rfl ?_ ?_
    rotate_left
    ·go_simp
     rfl
    refine hK.out _ _ ?_
    clear hK K
    refine pure_ (i := 4) (N := some 7) (v := ?_) (a' := ?_) #[true, true, true, true, true] rfl rfl (by kernel_rfl) (fun _ _ _ h => h) (Or.inl ⟨by rfl, ?_⟩) ?_ ?_
    rotate_left
    ·intro w'
     go_simp
     with_reducible rfl
    rotate_left
    ·simp only [Act.put, sA, sB, sC, i64_w, i32_w]
     rfl
    refine done_ (by kernel_rfl) ?_
    try go_wp2
    refine bodyPost_ret (results_ct rfl _ _ gb220 43 #[.int .i64 t225, .int .i64 t227, .int .i64 t226, .int .i64 t228] (0, 0) _ rfl (by (with_reducible repeat (first | refine kN ?_ _ | refine kD ?_ | refine kA ?_ _)); refine kP (cs := #[.int .i64 t225, .int .i64 t227, .int .i64 t226, .int .i64 t228]) ?_ 3 _ rfl; (with_reducible repeat (first | refine kN ?_ _ | refine kD ?_ | refine kA ?_ _)); refine kP (cs := #[.int .i64 t225, .int .i64 t227, .int .i64 t226, .int .i64 t228]) ?_ 2 _ rfl; (with_reducible repeat (first | refine kN ?_ _ | refine kD ?_ | refine kA ?_ _)); refine kP (cs := #[.int .i64 t225, .int .i64 t227, .int .i64 t226, .int .i64 t228]) ?_ 1 _ rfl; (with_reducible repeat (first | refine kN ?_ _ | refine kD ?_ | refine kA ?_ _)); refine kP (cs := #[.int .i64 t225, .int .i64 t227, .int .i64 t226, .int .i64 t228]) ?_ 0 _ rfl; (with_reducible repeat (first | refine kN ?_ _ | refine kD ?_ | refine kA ?_ _)); exact BK220.out) Try.underlying43 rfl (by kernel_rfl)) rfl ?_
    exact ⟨by first | rfl | (simp [errW_none, errW_some] <;> rfl) | (simp [*, errW_none, errW_some] <;> rfl), by repeat (first | (with_reducible first | exact HB.out | apply bA | apply bN | apply bD | refine bE ?_ GE219.out | refine bE ?_ GE220.out) | exact HB.out)⟩

-- NOT PRINTED: function 52 (api_Point_52)

-- NOT PRINTED: function 40 (api_Point_40)

/-! ### poly_Simple_1: function 50 -/
def poly_Simple_1.f (a0_0 : Int) (a0_1 : Int) : Option (Bool) := (point_Right.f a0_0 a0_1).bind fun t231 => (some (!t231))
set_option maxHeartbeats 8000000 in
set_option maxRecDepth 100000 in
theorem poly_Simple_1.calls (a0_0 : Int) (a0_1 : Int) (r : Bool) (w : World) (h : poly_Simple_1.f a0_0 a0_1 = some r) :
  Calls Try.prog 50 #[.agg #[.int .i64 a0_0, .int .i64 a0_1]] w fun e w' => e = .returned (.bool r) ∧ Below w.heap.size w w' := by
 have hu41 := Try.underlying41
 have HB := Aside0.mk (Below.refl w.heap.size w)
 have H : ((point_Right.f a0_0 a0_1).bind fun t231 => (some (!t231))) = some r := h
 clear h
 replace H := Option.bind_eq_some_iff.mp H
 obtain ⟨t231, A20, H⟩ := H
 replace H : (some (!t231)) = some r := H
 have A2 := Aside0.mk A20
 clear A20
 obtain rfl := Option.some.inj H
 go_enter Try.func50, Try.ntmps50
 go_wp2_with (first | ((with_reducible refine gate_dst (N := 1) rfl ?_); refine box_event ?hg (N := 1) ?hd (cs := #[.int .i64 a0_0, .int .i64 a0_1]) (t := 41) ?hr ?_; (case hd => rfl); (case hg => rfl); (case hr => first | (go_simp; done) | (go_simp; rfl)); intro gb230 hg w3 hbox hb; have n0_ := Aside0.mk (bS (by repeat (first | (with_reducible first | exact HB.out | apply bA | apply bN | apply bD) | exact HB.out)) hb); have n1_ := Aside0.mk (hbox); have n2_ := Aside0.mk ((by rw [hg]; exact (bZ (by repeat (first | (with_reducible first | exact HB.out | apply bA | apply bN | apply bD) | exact HB.out))) : w.heap.size ≤ gb230)); have n3_ := Aside0.mk ((by rw [hg]; exact (bZ (by repeat (first | (with_reducible first | exact HB.out | apply bA | apply bN | apply bD) | exact HB.out))) : w.heap.size ≤ gb230)); clear HB; have HB := n0_; have BK230 := n1_; have GW230 := n2_; have GE230 := n3_; clear n0_ n1_ n2_ n3_; clear hb hbox hg; have hcz4_0 : w3.cell? ⟨gb230, 0, none⟩ = some (.int .i64 a0_0) := (kC BK230.out 0).trans rfl; have hcz4_1 : w3.cell? ⟨gb230, 1, none⟩ = some (.int .i64 a0_1) := (kC BK230.out 1).trans rfl; have hfz4_0 := kZ BK230.out 0; have hfz4_1 := kZ BK230.out 1) | ((with_reducible refine gate_callee (f := 35) rfl ?_); refine goesL_ (some 4) rfl rfl Try.func35 (by kernel_rfl) rfl #[.agg #[.int .i64 a0_0, .int .i64 a0_1]] rfl (by (try simp only [sD, sE, sF]); first | done | rfl | (simp only [sG, sH]; rfl)) ?_; (with_reducible refine (point_Right.calls a0_0 a0_1 t231 _ A2.out).mono ?_); rintro e w5 ⟨rfl, hb⟩; refine ⟨_, rfl, ?_⟩; have n0_ := Aside0.mk (kB (g := gb230) (o := .cells #[.int .i64 a0_0, .int .i64 a0_1] 41 (0, 0)) (by (with_reducible repeat (first | refine kN ?_ _ | refine kD ?_ | refine kA ?_ _)); exact BK230.out) hb); have n1_ := Aside0.mk (bS (by repeat (first | (with_reducible first | exact HB.out | apply bA | apply bN | apply bD | refine bE ?_ GE230.out) | exact HB.out)) hb); clear BK230; clear HB; have BK230 := n0_; have HB := n1_; clear n0_ n1_; (try clear hb); (try clear hb2); (try clear hk); (try clear hi)))
 go_ret
 exact ⟨by first | rfl | (simp [errW_none, errW_some] <;> rfl) | (simp [*, errW_none, errW_some] <;> rfl), by repeat (first | (with_reducible first | exact HB.out | apply bA | apply bN | apply bD | refine bE ?_ GE230.out) | exact HB.out)⟩

/-! ### poly_edge: function 46 -/
def poly_edge.f (l0 : List (S41)) (a1 : Int) : Option (Int × Int × Int × Int) := if 0 ≤ a1 then (if a1 < (l0.length : Int) then (if (l0.length : Int) = 0 then (none) else (if 0 ≤ (Int.tmod (wrap64 (a1 + 1)) (l0.length : Int)) then (if (Int.tmod (wrap64 (a1 + 1)) (l0.length : Int)) < (l0.length : Int) then (some ((rd_T41 l0 a1).f0, (rd_T41 l0 a1).f1, (rd_T41 l0 (Int.tmod (wrap64 (a1 + 1)) (l0.length : Int))).f0, (rd_T41 l0 (Int.tmod (wrap64 (a1 + 1)) (l0.length : Int))).f1)) else (none)) else (none))) else (none)) else (none)
def poly_edge.T1 : Bool × List (List Nat × List Nat) := (true, [([], []), ([], []), ([0, 1], [0, 1]), ([2], [2]), ([], []), ([], []), ([5], [5]), ([], []), ([7], [7]), ([6, 8], [6, 8]), ([4, 9], [4, 9]), ([10], [10]), ([3, 0, 1, 2, 3], [3]), ([11, 12, 0, 1, 2, 3, 4, 5, 6, 7, 8, 9, 10, 11, 12], [11])])
def poly_edge.B1 : List Nat := [0, 0, 3, 7, 0, 0, 32, 0, 128, 480, 1008, 2032, 15, 8191]
theorem poly_edge.tab1 : rtab .any (opsOf Try.f46 1) = poly_edge.T1 := by kernel_rfl
theorem poly_edge.bits1 : waitsOk poly_edge.T1.2 poly_edge.B1 = true := by kernel_rfl
set_option maxHeartbeats 8000000 in
set_option maxRecDepth 100000 in
theorem poly_edge.calls (A0 : Option Addr) (c0 : Nat) (l0 : List (S41)) (a1 : Int) (r1 : Int) (r2 : Int) (r3 : Int) (r4 : Int) (w : World) (hr0 : Kd.C k41 w A0 l0.length l0) (hc0 : l0.length ≤ c0) (h : poly_edge.f l0 a1 = some (r1, r2, r3, r4)) :
  Calls Try.prog 46 #[.slice A0 l0.length c0, .int .i64 a1] w fun e w' => e = .returned (.tuple #[.agg #[.int .i64 r1, .int .i64 r2], .agg #[.int .i64 r3, .int .i64 r4]]) ∧ Below w.heap.size w w' := by
 have hu41 := Try.underlying41
 have HR0 := Aside0.mk hr0
 have HC0 := Aside0.mk hc0
 clear hr0 hc0
 have HB := Aside0.mk (Below.refl w.heap.size w)
 have H : (if 0 ≤ a1 then (if a1 < (l0.length : Int) then (if (l0.length : Int) = 0 then (none) else (if 0 ≤ (Int.tmod (wrap64 (a1 + 1)) (l0.length : Int)) then (if (Int.tmod (wrap64 (a1 + 1)) (l0.length : Int)) < (l0.length : Int) then (some ((rd_T41 l0 a1).f0, (rd_T41 l0 a1).f1, (rd_T41 l0 (Int.tmod (wrap64 (a1 + 1)) (l0.length : Int))).f0, (rd_T41 l0 (Int.tmod (wrap64 (a1 + 1)) (l0.length : Int))).f1)) else (none)) else (none))) else (none)) else (none)) = some (r1, r2, r3, r4) := h
 clear h
 by_cases c3 : 0 ≤ a1
 ·rw [if_pos c3] at H
  have c3b0 : decide (0 ≤ a1) = true := decide_eq_true c3
  clear c3
  by_cases c4 : a1 < (l0.length : Int)
  ·rw [if_pos c4] at H
   have c4b0 : decide (a1 < (l0.length : Int)) = true := decide_eq_true c4
   clear c4
   by_cases c5 : (l0.length : Int) = 0
   ·rw [if_pos c5] at H
    exact absurd H (by simp)
   ·rw [if_neg c5] at H
    have c5b0 : ((l0.length : Int) == 0) = false := beq_eq_false_iff_ne.mpr c5
    have c5b1 : ((l0.length : Int) != 0) = true := bne_iff_ne.mpr c5
    have c5b2 : ¬ (l0 = []) := fun h_ => c5 (by rw [h_]; rfl)
    obtain ⟨ji6, hji6⟩ : ∃ j_ : Int, (Int.tmod (wrap64 (a1 + 1)) (l0.length : Int)) = j_ := ⟨_, rfl⟩
    replace H : (if 0 ≤ (ji6) then (if (ji6) < (l0.length : Int) then (some ((rd_T41 l0 a1).f0, (rd_T41 l0 a1).f1, (rd_T41 l0 (ji6)).f0, (rd_T41 l0 (ji6)).f1)) else (none)) else (none)) = some (r1, r2, r3, r4) := by first | (rw [hji6] at H; exact H) | (simp only [hji6] at H ⊢; exact H)
    by_cases c7 : 0 ≤ (ji6)
    ·rw [if_pos c7] at H
     have c7b0 : decide (0 ≤ (ji6)) = true := decide_eq_true c7
     clear c7
     by_cases c8 : (ji6) < (l0.length : Int)
     ·rw [if_pos c8] at H
      have c8b0 : decide ((ji6) < (l0.length : Int)) = true := decide_eq_true c8
      clear c8
      simp only [Option.some.injEq, Prod.mk.injEq] at H
      obtain ⟨rfl, rfl, rfl, rfl⟩ := H
      go_enter Try.func46, Try.ntmps46
      try go_wp2_with (first | ((with_reducible refine gate_dst (N := 4) rfl ?_); refine box_event ?hg (N := 4) ?hd (cs := #[.int .i64 0, .int .i64 0]) (t := 41) ?hr ?_; (case hd => rfl); (case hg => rfl); (case hr => first | (go_simp; done) | (go_simp; rfl)); intro gb232 hg w9 hbox hb; have n0_ := Aside0.mk (bS (by repeat (first | (with_reducible first | exact HB.out | apply bA | apply bN | apply bD) | exact HB.out)) hb); have n1_ := Aside0.mk (hbox); have n2_ := Aside0.mk ((by rw [hg]; exact (bZ (by repeat (first | (with_reducible first | exact HB.out | apply bA | apply bN | apply bD) | exact HB.out))) : w.heap.size ≤ gb232)); have n3_ := Aside0.mk ((by rw [hg]; exact (bZ (by repeat (first | (with_reducible first | exact HB.out | apply bA | apply bN | apply bD) | exact HB.out))) : w.heap.size ≤ gb232)); clear HB; have HB := n0_; have BK232 := n1_; have GW232 := n2_; have GE232 := n3_; clear n0_ n1_ n2_ n3_; clear hb hbox hg) | ((with_reducible refine gate_dst (N := 5) rfl ?_); refine box_event ?hg (N := 5) ?hd (cs := #[.int .i64 0, .int .i64 0]) (t := 41) ?hr ?_; (case hd => rfl); (case hg => rfl); (case hr => first | (go_simp; done) | (go_simp; rfl)); intro gb233 hg w10 hbox hb; have n0_ := Aside0.mk (kB (g := gb232) (o := .cells #[.int .i64 0, .int .i64 0] 41 (0, 0)) (by (with_reducible repeat (first | refine kN ?_ _ | refine kD ?_ | refine kA ?_ _)); exact BK232.out) hb); have n1_ := Aside0.mk (bS (by repeat (first | (with_reducible first | exact HB.out | apply bA | apply bN | apply bD | refine bE ?_ GE232.out) | exact HB.out)) hb); have n2_ := Aside0.mk (hbox); have n3_ := Aside0.mk ((by rw [hg]; exact (bZ (by repeat (first | (with_reducible first | exact HB.out | apply bA | apply bN | apply bD | refine bE ?_ GE232.out) | exact HB.out))) : w.heap.size ≤ gb233)); have n4_ := Aside0.mk ((by rw [hg]; exact (bZ (by repeat (first | (with_reducible first | exact HB.out | apply bA | apply bN | apply bD | refine bE ?_ GE232.out) | exact HB.out))) : w.heap.size ≤ gb233)); have n5_ := Aside0.mk ((by rw [hg]; exact Nat.ne_of_lt (blk_lt (g := gb232) (o := .cells #[.int .i64 0, .int .i64 0] 41 (0, 0)) (by (with_reducible repeat (first | refine kN ?_ _ | refine kD ?_ | refine kA ?_ _)); exact BK232.out)) : gb232 ≠ gb233)); have n6_ := Aside0.mk ((by rw [hg]; exact Nat.ne_of_gt (blk_lt (g := gb232) (o := .cells #[.int .i64 0, .int .i64 0] 41 (0, 0)) (by (with_reducible repeat (first | refine kN ?_ _ | refine kD ?_ | refine kA ?_ _)); exact BK232.out)) : gb233 ≠ gb232)); clear BK232; clear HB; have BK232 := n0_; have HB := n1_; have BK233 := n2_; have GW233 := n3_; have GE233 := n4_; have NB232_233 := n5_; have NB233_232 := n6_; clear n0_ n1_ n2_ n3_ n4_ n5_ n6_; clear hb hbox hg))
      have n0_ := Aside0.mk (kD BK232.out)
      have n1_ := Aside0.mk (kD BK233.out)
      have n2_ := Aside0.mk (bD HB.out)
      clear BK232
      clear BK233
      clear HB
      have BK232 := n0_
      have BK233 := n1_
      have HB := n2_
      clear n0_ n1_ n2_
      have p234 : 0 ≤ (a1 : Int) := of_decide_eq_true (by first | (with_reducible assumption) | assumption)
      have q234 : a1 < (l0.length : Int) := of_decide_eq_true (by first | (with_reducible assumption) | assumption)
      obtain ⟨ad234, e234, hx234_0, hx234_1⟩ := at_T41 HR0.out a1 p234 q234
      have hw234_1 := hx234_1
      have hw234_0 := hx234_0
      cases e234
      replace hx234_0 := (HB.out.cell (World.block_lt_of_cell? w _ hx234_0)).trans hx234_0
      replace hx234_1 := (HB.out.cell (World.block_lt_of_cell? w _ hx234_1)).trans hx234_1
      replace p234 := eq_true p234
      replace q234 := eq_true q234
      have p235 : 0 ≤ ((ji6) : Int) := of_decide_eq_true (by first | (with_reducible assumption) | assumption)
      have q235 : (ji6) < (l0.length : Int) := of_decide_eq_true (by first | (with_reducible assumption) | assumption)
      obtain ⟨ad235, e235, hx235_0, hx235_1⟩ := at_T41 HR0.out (ji6) p235 q235
      have hw235_1 := hx235_1
      have hw235_0 := hx235_0
      obtain rfl : ad234 = ad235 := (by injection e235)
      replace hx235_0 := (HB.out.cell (World.block_lt_of_cell? w _ hx235_0)).trans hx235_0
      replace hx235_1 := (HB.out.cell (World.block_lt_of_cell? w _ hx235_1)).trans hx235_1
      replace p235 := eq_true p235
      replace q235 := eq_true q235
      refine start_ (n := 14) (S := fun w' => w'.cell? (ad234.add ((a1).toNat * 2)) = some (.int .i64 ((rd_T41 l0 a1).f0)) ∧ w'.cell? ⟨(ad234.add ((a1).toNat * 2)).block, (ad234.add ((a1).toNat * 2)).off + 1, none⟩ = some (.int .i64 ((rd_T41 l0 a1).f1)) ∧ w'.cell? (ad234.add (((ji6)).toNat * 2)) = some (.int .i64 ((rd_T41 l0 (ji6)).f0)) ∧ w'.cell? ⟨(ad234.add (((ji6)).toNat * 2)).block, (ad234.add (((ji6)).toNat * 2)).off + 1, none⟩ = some (.int .i64 ((rd_T41 l0 (ji6)).f1))) (ds := []) #[false, false, false, false, false, false, false, false, false, false, false, false, false, false] (by kernel_rfl) rfl rfl ⟨((HB.out.cell (World.block_lt_of_cell? w _ hw234_0)).trans hw234_0), ((HB.out.cell (World.block_lt_of_cell? w _ hw234_1)).trans hw234_1), ((HB.out.cell (World.block_lt_of_cell? w _ hw235_0)).trans hw235_0), ((HB.out.cell (World.block_lt_of_cell? w _ hw235_1)).trans hw235_1)⟩ (fun hHeld => ?_); refine with_tabW poly_edge.tab1 poly_edge.bits1 (fun HT_ HW_ => ?_)
      generalize w10.drew = w11 at BK232 BK233 HB hx234_0 hx234_1 hx235_0 hx235_1 hHeld ⊢
      refine pure_ (i := 0) (N := some 6) (v := ?_) (a' := ?_) #[true, false, false, false, false, false, false, false, false, false, false, false, false, false] rfl rfl (any_of HT_.out (by kernel_rfl)) (fun _ _ _ h => h) (Or.inl ⟨by rfl, ?_⟩) ?_ ?_
      rotate_left
      ·intro w'
       go_simp
       with_reducible rfl
      rotate_left
      ·simp only [Act.put, sA, sB, sC, i64_w, i32_w]
       rfl
      refine pure_ (i := 1) (N := some 7) (v := ?_) (a' := ?_) #[true, true, false, false, false, false, false, false, false, false, false, false, false, false] rfl rfl (any_of HT_.out (by kernel_rfl)) (fun _ _ _ h => h) (Or.inl ⟨by rfl, ?_⟩) ?_ ?_
      rotate_left
      ·intro w'
       go_simp
       with_reducible rfl
      rotate_left
      ·simp only [Act.put, sA, sB, sC, i64_w, i32_w]
       rfl
      refine pure_ (i := 2) (N := some 8) (v := ?_) (a' := ?_) #[true, true, true, false, false, false, false, false, false, false, false, false, false, false] rfl rfl (any_of HT_.out (by kernel_rfl)) (fun _ _ _ h => h) (Or.inl ⟨by rfl, ?_⟩) ?_ ?_
      rotate_left
      ·intro w'
       go_simp
       with_reducible rfl
      rotate_left
      ·simp only [Act.put, sA, sB, sC, i64_w, i32_w]
       rfl
      refine pure_ (i := 4) (N := some 10) (v := ?_) (a' := ?_) #[true, true, true, false, true, false, false, false, false, false, false, false, false, false] rfl rfl (any_of HT_.out (by kernel_rfl)) (fun _ _ _ h => h) (Or.inl ⟨by rfl, ?_⟩) ?_ ?_
      rotate_left
      ·intro w'
       go_simp
       with_reducible rfl
      rotate_left
      ·simp only [Act.put, sA, sB, sC, i64_w, i32_w]
       rfl
      refine pure_ (i := 5) (N := some 11) (v := ?_) (a' := ?_) #[true, true, true, false, true, true, false, false, false, false, false, false, false, false] rfl rfl (any_of HT_.out (by kernel_rfl)) (fun _ _ _ h => h) (Or.inl ⟨by rfl, ?_⟩) ?_ ?_
      rotate_left
      ·intro w'
       go_simp
       with_reducible rfl
      rotate_left
      ·simp only [Act.put, sA, sB, sC, i64_w, i32_w]
       rfl
      refine pure_ (i := 6) (N := some 12) (v := ?_) (a' := ?_) #[true, true, true, false, true, true, true, false, false, false, false, false, false, false] rfl rfl (any_of HT_.out (by kernel_rfl)) (fun _ _ _ h => h) (Or.inl ⟨by rfl, ?_⟩) ?_ ?_
      rotate_left
      ·intro w'
       go_simp
       with_reducible rfl
      rotate_left
      ·simp only [Act.put, sA, sB, sC, i64_w, i32_w]
       rfl
      refine pure_ (i := 7) (N := some 13) (v := ?_) (a' := ?_) #[true, true, true, false, true, true, true, true, false, false, false, false, false, false] rfl rfl (any_of HT_.out (by kernel_rfl)) (fun _ _ _ h => h) (Or.inl ⟨by rfl, ?_⟩) ?_ ?_
      rotate_left
      ·intro w'
       go_simp
       with_reducible rfl
      rotate_left
      ·simp only [Act.put, sA, sB, sC, i64_w, i32_w]
       rfl
      refine pure_ (i := 8) (N := some 14) (v := ?_) (a' := ?_) #[true, true, true, false, true, true, true, true, true, false, false, false, false, false] rfl rfl (any_of HT_.out (by kernel_rfl)) (fun _ _ _ h => h) (Or.inl ⟨by rfl, ?_⟩) ?_ ?_
      rotate_left
      ·intro w'
       go_simp
       with_reducible rfl
      rotate_left
      ·simp only [Act.put, sA, sB, sC, i64_w, i32_w]
       rfl
      refine pure_ (i := 9) (N := some 15) (v := ?_) (a' := ?_) #[true, true, true, false, true, true, true, true, true, true, false, false, false, false] rfl rfl (any_of HT_.out (by kernel_rfl)) (fun _ _ _ h => h) (Or.inl ⟨by rfl, ?_⟩) ?_ ?_
      rotate_left
      ·intro w'
       go_simp
       with_reducible rfl
      rotate_left
      ·simp only [Act.put, sA, sB, sC, i64_w, i32_w]
       rfl
      refine pure_ (i := 10) (N := some 16) (v := ?_) (a' := ?_) #[true, true, true, false, true, true, true, true, true, true, true, false, false, false] rfl rfl (any_of HT_.out (by kernel_rfl)) (fun _ _ _ h => h) (Or.inl ⟨by rfl, ?_⟩) ?_ ?_
      rotate_left
      ·intro w'
       go_simp
       with_reducible rfl
      rotate_left
      ·simp only [Act.put, sA, sB, sC, i64_w, i32_w]
       rfl
      refine take_ (i := 3) (N := some 9) (v := ?_) (a' := ?_) #[true, true, true, true, true, true, true, true, true, true, true, false, false, false] rfl rfl (take_ofW HT_.out HW_.out (by kernel_rfl)) (fun _ _ _ h => h) (Or.inl ⟨by rfl, ?_⟩) hHeld ?_ ?_
      rotate_left
      ·rintro w' ⟨s0, s1, s2, s3⟩
       go_simp
       with_reducible rfl
      rotate_left
      ·simp only [Act.put, sA, sB, sC, i64_w, i32_w]
       rfl
      refine take_ (i := 11) (N := some 17) (v := ?_) (a' := ?_) #[true, true, true, true, true, true, true, true, true, true, true, true, false, false] rfl rfl (take_ofW HT_.out HW_.out (by kernel_rfl)) (fun _ _ _ h => h) (Or.inl ⟨by rfl, ?_⟩) hHeld ?_ ?_
      rotate_left
      ·rintro w' ⟨s0, s1, s2, s3⟩
       go_simp
       with_reducible rfl
      rotate_left
      ·simp only [Act.put, sA, sB, sC, i64_w, i32_w]
       rfl
      refine one_ (i := 12) (N := none) #[true, true, true, true, true, true, true, true, true, true, true, true, true, false] rfl rfl (one_of HT_.out (by kernel_rfl)) (by decide) (fun K hK => ?_)
      have hs12 : w11.cell? ⟨gb232, 0, none⟩ = some (.int .i64 0) := (kC BK232.out 0).trans rfl
      have hfs12 := kZ BK232.out 0
      have hns12_1 := NB233_232.out
      have hms12_1 := NB232_233.out
      have hs13 : w11.cell? ⟨gb232, 1, none⟩ = some (.int .i64 0) := (kC BK232.out 1).trans rfl
      have hfs13 := kZ BK232.out 1
      have hns13_1 := NB233_232.out
      have hms13_1 := NB232_233.out
      refine skip_ (w1 := ?_) (by rfl) rfl ?_ ?_
      rotate_left
      ·go_simp
       rfl
      refine hK.out _ _ ⟨((cell_far (p := ⟨gb232, _, none⟩) (by first | exact Nat.ne_of_lt (Nat.lt_of_lt_of_le (by have := World.block_lt_of_cell? _ _ hw234_0; first | rwa [add_block] at this | exact this) GW232.out) | (rw [add_block]; exact Nat.ne_of_lt (Nat.lt_of_lt_of_le (by have := World.block_lt_of_cell? _ _ hw234_0; first | rwa [add_block] at this | exact this) GW232.out)) | (show (Addr.add _ _).block ≠ _; rw [add_block]; exact Nat.ne_of_lt (Nat.lt_of_lt_of_le (by have := World.block_lt_of_cell? _ _ hw234_0; first | rwa [add_block] at this | exact this) GW232.out)) | (dsimp only; exact Nat.ne_of_lt (Nat.lt_of_lt_of_le (by have := World.block_lt_of_cell? _ _ hw234_0; first | rwa [add_block] at this | exact this) GW232.out))) _).trans (((cell_far (p := ⟨gb232, _, none⟩) (by first | exact Nat.ne_of_lt (Nat.lt_of_lt_of_le (by have := World.block_lt_of_cell? _ _ hw234_0; first | rwa [add_block] at this | exact this) GW232.out) | (rw [add_block]; exact Nat.ne_of_lt (Nat.lt_of_lt_of_le (by have := World.block_lt_of_cell? _ _ hw234_0; first | rwa [add_block] at this | exact this) GW232.out)) | (show (Addr.add _ _).block ≠ _; rw [add_block]; exact Nat.ne_of_lt (Nat.lt_of_lt_of_le (by have := World.block_lt_of_cell? _ _ hw234_0; first | rwa [add_block] at this | exact this) GW232.out)) | (dsimp only; exact Nat.ne_of_lt (Nat.lt_of_lt_of_le (by have := World.block_lt_of_cell? _ _ hw234_0; first | rwa [add_block] at this | exact this) GW232.out))) _).trans (hHeld.1)))), ((cell_far (p := ⟨gb232, _, none⟩) (by first | exact Nat.ne_of_lt (Nat.lt_of_lt_of_le (by have := World.block_lt_of_cell? _ _ hw234_1; first | rwa [add_block] at this | exact this) GW232.out) | (rw [add_block]; exact Nat.ne_of_lt (Nat.lt_of_lt_of_le (by have := World.block_lt_of_cell? _ _ hw234_1; first | rwa [add_block] at this | exact this) GW232.out)) | (show (Addr.add _ _).block ≠ _; rw [add_block]; exact Nat.ne_of_lt (Nat.lt_of_lt_of_le (by have := World.block_lt_of_cell? _ _ hw234_1; first | rwa [add_block] at this | exact this) GW232.out)) | (dsimp only; exact Nat.ne_of_lt (Nat.lt_of_lt_of_le (by have := World.block_lt_of_cell? _ _ hw234_1; first | rwa [add_block] at this | exact this) GW232.out))) _).trans (((cell_far (p := ⟨gb232, _, none⟩) (by first | exact Nat.ne_of_lt (Nat.lt_of_lt_of_le (by have := World.block_lt_of_cell? _ _ hw234_1; first | rwa [add_block] at this | exact this) GW232.out) | (rw [add_block]; exact Nat.ne_of_lt (Nat.lt_of_lt_of_le (by have := World.block_lt_of_cell? _ _ hw234_1; first | rwa [add_block] at this | exact this) GW232.out)) | (show (Addr.add _ _).block ≠ _; rw [add_block]; exact Nat.ne_of_lt (Nat.lt_of_lt_of_le (by have := World.block_lt_of_cell? _ _ hw234_1; first | rwa [add_block] at this | exact this) GW232.out)) | (dsimp only; exact Nat.ne_of_lt (Nat.lt_of_lt_of_le (by have := World.block_lt_of_cell? _ _ hw234_1; first | rwa [add_block] at this | exact this) GW232.out))) _).trans (hHeld.2.1)))), ((cell_far (p := ⟨gb232, _, none⟩) (by first | exact Nat.ne_of_lt (Nat.lt_of_lt_of_le (by have := World.block_lt_of_cell? _ _ hw235_0; first | rwa [add_block] at this | exact this) GW232.out) | (rw [add_block]; exact Nat.ne_of_lt (Nat.lt_of_lt_of_le (by have := World.block_lt_of_cell? _ _ hw235_0; first | rwa [add_block] at this | exact this) GW232.out)) | (show (Addr.add _ _).block ≠ _; rw [add_block]; exact Nat.ne_of_lt (Nat.lt_of_lt_of_le (by have := World.block_lt_of_cell? _ _ hw235_0; first | rwa [add_block] at this | exact this) GW232.out)) | (dsimp only; exact Nat.ne_of_lt (Nat.lt_of_lt_of_le (by have := World.block_lt_of_cell? _ _ hw235_0; first | rwa [add_block] at this | exact this) GW232.out))) _).trans (((cell_far (p := ⟨gb232, _, none⟩) (by first | exact Nat.ne_of_lt (Nat.lt_of_lt_of_le (by have := World.block_lt_of_cell? _ _ hw235_0; first | rwa [add_block] at this | exact this) GW232.out) | (rw [add_block]; exact Nat.ne_of_lt (Nat.lt_of_lt_of_le (by have := World.block_lt_of_cell? _ _ hw235_0; first | rwa [add_block] at this | exact this) GW232.out)) | (show (Addr.add _ _).block ≠ _; rw [add_block]; exact Nat.ne_of_lt (Nat.lt_of_lt_of_le (by have := World.block_lt_of_cell? _ _ hw235_0; first | rwa [add_block] at this | exact this) GW232.out)) | (dsimp only; exact Nat.ne_of_lt (Nat.lt_of_lt_of_le (by have := World.block_lt_of_cell? _ _ hw235_0; first | rwa [add_block] at this | exact this) GW232.out))) _).trans (hHeld.2.2.1)))), ((cell_far (p := ⟨gb232, _, none⟩) (by first | exact Nat.ne_of_lt (Nat.lt_of_lt_of_le (by have := World.block_lt_of_cell? _ _ hw235_1; first | rwa [add_block] at this | exact this) GW232.out) | (rw [add_block]; exact Nat.ne_of_lt (Nat.lt_of_lt_of_le (by have := World.block_lt_of_cell? _ _ hw235_1; first | rwa [add_block] at this | exact this) GW232.out)) | (show (Addr.add _ _).block ≠ _; rw [add_block]; exact Nat.ne_of_lt (Nat.lt_of_lt_of_le (by have := World.block_lt_of_cell? _ _ hw235_1; first | rwa [add_block] at this | exact this) GW232.out)) | (dsimp only; exact Nat.ne_of_lt (Nat.lt_of_lt_of_le (by have := World.block_lt_of_cell? _ _ hw235_1; first | rwa [add_block] at this | exact this) GW232.out))) _).trans (((cell_far (p := ⟨gb232, _, none⟩) (by first | exact Nat.ne_of_lt (Nat.lt_of_lt_of_le (by have := World.block_lt_of_cell? _ _ hw235_1; first | rwa [add_block] at this | exact this) GW232.out) | (rw [add_block]; exact Nat.ne_of_lt (Nat.lt_of_lt_of_le (by have := World.block_lt_of_cell? _ _ hw235_1; first | rwa [add_block] at this | exact this) GW232.out)) | (show (Addr.add _ _).block ≠ _; rw [add_block]; exact Nat.ne_of_lt (Nat.lt_of_lt_of_le (by have := World.block_lt_of_cell? _ _ hw235_1; first | rwa [add_block] at this | exact this) GW232.out)) | (dsimp only; exact Nat.ne_of_lt (Nat.lt_of_lt_of_le (by have := World.block_lt_of_cell? _ _ hw235_1; first | rwa [add_block] at this | exact this) GW232.out))) _).trans (hHeld.2.2.2))))⟩ (fun hHeld => ?_)
      clear hK K
      refine one_ (i := 13) (N := none) #[true, true, true, true, true, true, true, true, true, true, true, true, true, true] rfl rfl (one_of HT_.out (by kernel_rfl)) (by decide) (fun K hK => ?_)
      have hs14 : w11.cell? ⟨gb233, 0, none⟩ = some (.int .i64 0) := (kC BK233.out 0).trans rfl
      have hfs14 := kZ BK233.out 0
      have hns14_0 := NB232_233.out
      have hms14_0 := NB233_232.out
      have hs15 : w11.cell? ⟨gb233, 1, none⟩ = some (.int .i64 0) := (kC BK233.out 1).trans rfl
      have hfs15 := kZ BK233.out 1
      have hns15_0 := NB232_233.out
      have hms15_0 := NB233_232.out
      refine skip_ (w1 := ?_) (by rfl) rfl ?_ ?_
      rotate_left
      ·go_simp
       rfl
      refine hK.out _ _ ⟨((cell_far (p := ⟨gb233, _, none⟩) (by first | exact Nat.ne_of_lt (Nat.lt_of_lt_of_le (by have := World.block_lt_of_cell? _ _ hw234_0; first | rwa [add_block] at this | exact this) GW233.out) | (rw [add_block]; exact Nat.ne_of_lt (Nat.lt_of_lt_of_le (by have := World.block_lt_of_cell? _ _ hw234_0; first | rwa [add_block] at this | exact this) GW233.out)) | (show (Addr.add _ _).block ≠ _; rw [add_block]; exact Nat.ne_of_lt (Nat.lt_of_lt_of_le (by have := World.block_lt_of_cell? _ _ hw234_0; first | rwa [add_block] at this | exact this) GW233.out)) | (dsimp only; exact Nat.ne_of_lt (Nat.lt_of_lt_of_le (by have := World.block_lt_of_cell? _ _ hw234_0; first | rwa [add_block] at this | exact this) GW233.out))) _).trans (((cell_far (p := ⟨gb233, _, none⟩) (by first | exact Nat.ne_of_lt (Nat.lt_of_lt_of_le (by have := World.block_lt_of_cell? _ _ hw234_0; first | rwa [add_block] at this | exact this) GW233.out) | (rw [add_block]; exact Nat.ne_of_lt (Nat.lt_of_lt_of_le (by have := World.block_lt_of_cell? _ _ hw234_0; first | rwa [add_block] at this | exact this) GW233.out)) | (show (Addr.add _ _).block ≠ _; rw [add_block]; exact Nat.ne_of_lt (Nat.lt_of_lt_of_le (by have := World.block_lt_of_cell? _ _ hw234_0; first | rwa [add_block] at this | exact this) GW233.out)) | (dsimp only; exact Nat.ne_of_lt (Nat.lt_of_lt_of_le (by have := World.block_lt_of_cell? _ _ hw234_0; first | rwa [add_block] at this | exact this) GW233.out))) _).trans (hHeld.1)))), ((cell_far (p := ⟨gb233, _, none⟩) (by first | exact Nat.ne_of_lt (Nat.lt_of_lt_of_le (by have := World.block_lt_of_cell? _ _ hw234_1; first | rwa [add_block] at this | exact this) GW233.out) | (rw [add_block]; exact Nat.ne_of_lt (Nat.lt_of_lt_of_le (by have := World.block_lt_of_cell? _ _ hw234_1; first | rwa [add_block] at this | exact this) GW233.out)) | (show (Addr.add _ _).block ≠ _; rw [add_block]; exact Nat.ne_of_lt (Nat.lt_of_lt_of_le (by have := World.block_lt_of_cell? _ _ hw234_1; first | rwa [add_block] at this | exact this) GW233.out)) | (dsimp only; exact Nat.ne_of_lt (Nat.lt_of_lt_of_le (by have := World.block_lt_of_cell? _ _ hw234_1; first | rwa [add_block] at this | exact this) GW233.out))) _).trans (((cell_far (p := ⟨gb233, _, none⟩) (by first | exact Nat.ne_of_lt (Nat.lt_of_lt_of_le (by have := World.block_lt_of_cell? _ _ hw234_1; first | rwa [add_block] at this | exact this) GW233.out) | (rw [add_block]; exact Nat.ne_of_lt (Nat.lt_of_lt_of_le (by have := World.block_lt_of_cell? _ _ hw234_1; first | rwa [add_block] at this | exact this) GW233.out)) | (show (Addr.add _ _).block ≠ _; rw [add_block]; exact Nat.ne_of_lt (Nat.lt_of_lt_of_le (by have := World.block_lt_of_cell? _ _ hw234_1; first | rwa [add_block] at this | exact this) GW233.out)) | (dsimp only; exact Nat.ne_of_lt (Nat.lt_of_lt_of_le (by have := World.block_lt_of_cell? _ _ hw234_1; first | rwa [add_block] at this | exact this) GW233.out))) _).trans (hHeld.2.1)))), ((cell_far (p := ⟨gb233, _, none⟩) (by first | exact Nat.ne_of_lt (Nat.lt_of_lt_of_le (by have := World.block_lt_of_cell? _ _ hw235_0; first | rwa [add_block] at this | exact this) GW233.out) | (rw [add_block]; exact Nat.ne_of_lt (Nat.lt_of_lt_of_le (by have := World.block_lt_of_cell? _ _ hw235_0; first | rwa [add_block] at this | exact this) GW233.out)) | (show (Addr.add _ _).block ≠ _; rw [add_block]; exact Nat.ne_of_lt (Nat.lt_of_lt_of_le (by have := World.block_lt_of_cell? _ _ hw235_0; first | rwa [add_block] at this | exact this) GW233.out)) | (dsimp only; exact Nat.ne_of_lt (Nat.lt_of_lt_of_le (by have := World.block_lt_of_cell? _ _ hw235_0; first | rwa [add_block] at this | exact this) GW233.out))) _).trans (((cell_far (p := ⟨gb233, _, none⟩) (by first | exact Nat.ne_of_lt (Nat.lt_of_lt_of_le (by have := World.block_lt_of_cell? _ _ hw235_0; first | rwa [add_block] at this | exact this) GW233.out) | (rw [add_block]; exact Nat.ne_of_lt (Nat.lt_of_lt_of_le (by have := World.block_lt_of_cell? _ _ hw235_0; first | rwa [add_block] at this | exact this) GW233.out)) | (show (Addr.add _ _).block ≠ _; rw [add_block]; exact Nat.ne_of_lt (Nat.lt_of_lt_of_le (by have := World.block_lt_of_cell? _ _ hw235_0; first | rwa [add_block] at this | exact this) GW233.out)) | (dsimp only; exact Nat.ne_of_lt (Nat.lt_of_lt_of_le (by have := World.block_lt_of_cell? _ _ hw235_0; first | rwa [add_block] at this | exact this) GW233.out))) _).trans (hHeld.2.2.1)))), ((cell_far (p := ⟨gb233, _, none⟩) (by first | exact Nat.ne_of_lt (Nat.lt_of_lt_of_le (by have := World.block_lt_of_cell? _ _ hw235_1; first | rwa [add_block] at this | exact this) GW233.out) | (rw [add_block]; exact Nat.ne_of_lt (Nat.lt_of_lt_of_le (by have := World.block_lt_of_cell? _ _ hw235_1; first | rwa [add_block] at this | exact this) GW233.out)) | (show (Addr.add _ _).block ≠ _; rw [add_block]; exact Nat.ne_of_lt (Nat.lt_of_lt_of_le (by have := World.block_lt_of_cell? _ _ hw235_1; first | rwa [add_block] at this | exact this) GW233.out)) | (dsimp only; exact Nat.ne_of_lt (Nat.lt_of_lt_of_le (by have := World.block_lt_of_cell? _ _ hw235_1; first | rwa [add_block] at this | exact this) GW233.out))) _).trans (((cell_far (p := ⟨gb233, _, none⟩) (by first | exact Nat.ne_of_lt (Nat.lt_of_lt_of_le (by have := World.block_lt_of_cell? _ _ hw235_1; first | rwa [add_block] at this | exact this) GW233.out) | (rw [add_block]; exact Nat.ne_of_lt (Nat.lt_of_lt_of_le (by have := World.block_lt_of_cell? _ _ hw235_1; first | rwa [add_block] at this | exact this) GW233.out)) | (show (Addr.add _ _).block ≠ _; rw [add_block]; exact Nat.ne_of_lt (Nat.lt_of_lt_of_le (by have := World.block_lt_of_cell? _ _ hw235_1; first | rwa [add_block] at this | exact this) GW233.out)) | (dsimp only; exact Nat.ne_of_lt (Nat.lt_of_lt_of_le (by have := World.block_lt_of_cell? _ _ hw235_1; first | rwa [add_block] at this | exact this) GW233.out))) _).trans (hHeld.2.2.2))))⟩ (fun hHeld => ?_)
      clear hK K
      refine done_ (done_of HT_.out (by kernel_rfl)) ?_
      try go_wp2
      refine bodyPost_ret (results_cc rfl _ _ gb232 gb233 41 41 #[.int .i64 ((rd_T41 l0 a1).f0), .int .i64 ((rd_T41 l0 a1).f1)] #[.int .i64 ((rd_T41 l0 (ji6)).f0), .int .i64 ((rd_T41 l0 (ji6)).f1)] (0, 0) (0, 0) _ _ rfl (by (with_reducible repeat (first | refine kN ?_ _ | refine kD ?_ | refine kA ?_ _)); refine kF ?_ NB232_233.out _; (with_reducible repeat (first | refine kN ?_ _ | refine kD ?_ | refine kA ?_ _)); refine kF ?_ NB232_233.out _; (with_reducible repeat (first | refine kN ?_ _ | refine kD ?_ | refine kA ?_ _)); refine kP (cs := #[.int .i64 ((rd_T41 l0 a1).f0), .int .i64 0]) ?_ 1 _ rfl; (with_reducible repeat (first | refine kN ?_ _ | refine kD ?_ | refine kA ?_ _)); refine kP (cs := #[.int .i64 0, .int .i64 0]) ?_ 0 _ rfl; (with_reducible repeat (first | refine kN ?_ _ | refine kD ?_ | refine kA ?_ _)); exact BK232.out) Try.underlying41 rfl (by kernel_rfl) rfl (by (with_reducible repeat (first | refine kN ?_ _ | refine kD ?_ | refine kA ?_ _)); refine kP (cs := #[.int .i64 ((rd_T41 l0 (ji6)).f0), .int .i64 0]) ?_ 1 _ rfl; (with_reducible repeat (first | refine kN ?_ _ | refine kD ?_ | refine kA ?_ _)); refine kP (cs := #[.int .i64 0, .int .i64 0]) ?_ 0 _ rfl; (with_reducible repeat (first | refine kN ?_ _ | refine kD ?_ | refine kA ?_ _)); refine kF ?_ NB233_232.out _; (with_reducible repeat (first | refine kN ?_ _ | refine kD ?_ | refine kA ?_ _)); refine kF ?_ NB233_232.out _; (with_reducible repeat (first | refine kN ?_ _ | refine kD ?_ | refine kA ?_ _)); exact BK233.out) Try.underlying41 rfl (by kernel_rfl)) rfl ?_
      exact ⟨by first | rfl | (simp [errW_none, errW_some] <;> rfl) | (simp only [← hji6]; first | rfl | (simp [errW_none, errW_some] <;> rfl)) | (simp [*, errW_none, errW_some] <;> rfl), by repeat (first | (with_reducible first | exact HB.out | apply bA | apply bN | apply bD | refine bE ?_ GE232.out | refine bE ?_ GE233.out) | exact HB.out)⟩
     ·rw [if_neg c8] at H
      exact absurd H (by simp)
    ·rw [if_neg c7] at H
     exact absurd H (by simp)
  ·rw [if_neg c4] at H
   exact absurd H (by simp)
 ·rw [if_neg c3] at H
  exact absurd H (by simp)

/-! ### point_right_1: function 59 -/
def point_right_1.f (a0_0 : Int) (a0_1 : Int) : Option (Bool) := (point_Right.f a0_0 a0_1).bind fun t237 => (some (!t237))
set_option maxHeartbeats 8000000 in
set_option maxRecDepth 100000 in
theorem point_right_1.calls (a0_0 : Int) (a0_1 : Int) (r : Bool) (w : World) (h : point_right_1.f a0_0 a0_1 = some r) :
  Calls Try.prog 59 #[.agg #[.int .i64 a0_0, .int .i64 a0_1]] w fun e w' => e = .returned (.bool r) ∧ Below w.heap.size w w' := by
 have hu41 := Try.underlying41
 have HB := Aside0.mk (Below.refl w.heap.size w)
 have H : ((point_Right.f a0_0 a0_1).bind fun t237 => (some (!t237))) = some r := h
 clear h
 replace H := Option.bind_eq_some_iff.mp H
 obtain ⟨t237, A20, H⟩ := H
 replace H : (some (!t237)) = some r := H
 have A2 := Aside0.mk A20
 clear A20
 obtain rfl := Option.some.inj H
 go_enter Try.func59, Try.ntmps59
 go_wp2_with (first | ((with_reducible refine gate_dst (N := 1) rfl ?_); refine box_event ?hg (N := 1) ?hd (cs := #[.int .i64 a0_0, .int .i64 a0_1]) (t := 41) ?hr ?_; (case hd => rfl); (case hg => rfl); (case hr => first | (go_simp; done) | (go_simp; rfl)); intro gb236 hg w3 hbox hb; have n0_ := Aside0.mk (bS (by repeat (first | (with_reducible first | exact HB.out | apply bA | apply bN | apply bD) | exact HB.out)) hb); have n1_ := Aside0.mk (hbox); have n2_ := Aside0.mk ((by rw [hg]; exact (bZ (by repeat (first | (with_reducible first | exact HB.out | apply bA | apply bN | apply bD) | exact HB.out))) : w.heap.size ≤ gb236)); have n3_ := Aside0.mk ((by rw [hg]; exact (bZ (by repeat (first | (with_reducible first | exact HB.out | apply bA | apply bN | apply bD) | exact HB.out))) : w.heap.size ≤ gb236)); clear HB; have HB := n0_; have BK236 := n1_; have GW236 := n2_; have GE236 := n3_; clear n0_ n1_ n2_ n3_; clear hb hbox hg; have hcz4_0 : w3.cell? ⟨gb236, 0, none⟩ = some (.int .i64 a0_0) := (kC BK236.out 0).trans rfl; have hcz4_1 : w3.cell? ⟨gb236, 1, none⟩ = some (.int .i64 a0_1) := (kC BK236.out 1).trans rfl; have hfz4_0 := kZ BK236.out 0; have hfz4_1 := kZ BK236.out 1) | ((with_reducible refine gate_callee (f := 35) rfl ?_); refine goesL_ (some 4) rfl rfl Try.func35 (by kernel_rfl) rfl #[.agg #[.int .i64 a0_0, .int .i64 a0_1]] rfl (by (try simp only [sD, sE, sF]); first | done | rfl | (simp only [sG, sH]; rfl)) ?_; (with_reducible refine (point_Right.calls a0_0 a0_1 t237 _ A2.out).mono ?_); rintro e w5 ⟨rfl, hb⟩; refine ⟨_, rfl, ?_⟩; have n0_ := Aside0.mk (kB (g := gb236) (o := .cells #[.int .i64 a0_0, .int .i64 a0_1] 41 (0, 0)) (by (with_reducible repeat (first | refine kN ?_ _ | refine kD ?_ | refine kA ?_ _)); exact BK236.out) hb); have n1_ := Aside0.mk (bS (by repeat (first | (with_reducible first | exact HB.out | apply bA | apply bN | apply bD | refine bE ?_ GE236.out) | exact HB.out)) hb); clear BK236; clear HB; have BK236 := n0_; have HB := n1_; clear n0_ n1_; (try clear hb); (try clear hb2); (try clear hk); (try clear hi)))
 go_ret
 exact ⟨by first | rfl | (simp [errW_none, errW_some] <;> rfl) | (simp [*, errW_none, errW_some] <;> rfl), by repeat (first | (with_reducible first | exact HB.out | apply bA | apply bN | apply bD | refine bE ?_ GE236.out) | exact HB.out)⟩

/-! ### slices_IndexFunc_52_at_59: function 52 -/
def slices_IndexFunc_52_at_59.l0 : Nat → List (S41) → Int → Int → Option (Int)
 | 0, _, _, _ => none
 | k + 1, x0, x7, x8 => if x8 < x7 then (if 0 ≤ x8 then (if x8 < (x0.length : Int) then ((point_right_1.f ((rd_T41 x0 x8).f0) ((rd_T41 x0 x8).f1)).bind fun t239 => (if t239 = true then (some x8) else (slices_IndexFunc_52_at_59.l0 k x0 x7 (wrap64 (x8 + 1))))) else (none)) else (none)) else (some (-1))
def slices_IndexFunc_52_at_59.f (k : Nat) (l0 : List (S41))  : Option (Int) := slices_IndexFunc_52_at_59.l0 k l0 (l0.length : Int) 0
theorem slices_IndexFunc_52_at_59.mono_l : ∀ k, (∀ y0 y1 y2, LeO (slices_IndexFunc_52_at_59.l0 k y0 y1 y2) (slices_IndexFunc_52_at_59.l0 (k + 1) y0 y1 y2))
 | 0 => fun _ _ _ r h => by simp [slices_IndexFunc_52_at_59.l0] at h
 | k + 1 => by
  have ih0 := slices_IndexFunc_52_at_59.mono_l k
  ·intro y0 y1 y2
   unfold slices_IndexFunc_52_at_59.l0
   repeat' first
   | (with_reducible exact ih0 _ _ _)
   | (with_reducible exact LeO.refl _)
   | (with_reducible exact LeO.none _)
   | (with_reducible refine LeO.ite ?_ ?_)
   | (with_reducible refine LeO.bind ?_ (fun _ => ?_))
   | exact ih0 _ _ _
   | exact LeO.none _
   | refine LeO.ite ?_ ?_
   | refine LeO.bind ?_ (fun _ => ?_)
theorem slices_IndexFunc_52_at_59.mono : ∀ a0 k, LeO (slices_IndexFunc_52_at_59.f k a0) (slices_IndexFunc_52_at_59.f (k + 1) a0) := by
 intro a0 k
 have ih0 := slices_IndexFunc_52_at_59.mono_l k
 unfold slices_IndexFunc_52_at_59.f
 repeat' first
   | (with_reducible exact ih0 _ _ _)
   | (with_reducible exact LeO.refl _)
   | (with_reducible exact LeO.none _)
   | (with_reducible refine LeO.ite ?_ ?_)
   | (with_reducible refine LeO.bind ?_ (fun _ => ?_))
   | exact ih0 _ _ _
   | exact LeO.none _
   | refine LeO.ite ?_ ?_
   | refine LeO.bind ?_ (fun _ => ?_)
set_option maxHeartbeats 8000000 in
set_option maxRecDepth 100000 in
theorem slices_IndexFunc_52_at_59.calls (k : Nat) (A0 : Option Addr) (c0 : Nat) (l0 : List (S41))  (r : Int) (w : World) (hr0 : Kd.C k41 w A0 l0.length l0) (hc0 : l0.length ≤ c0) (h : slices_IndexFunc_52_at_59.f k l0 = some r) :
  Calls Try.prog 52 #[.slice A0 l0.length c0, .func (.func 59) #[] #[]] w fun e w' => e = .returned (.int .i64 r) ∧ Below w.heap.size w w' := by
 have hu41 := Try.underlying41
 have HR0 := Aside0.mk hr0
 have HC0 := Aside0.mk hc0
 clear hr0 hc0
 have HB := Aside0.mk (Below.refl w.heap.size w)
 have H : (slices_IndexFunc_52_at_59.l0 k l0 (l0.length : Int) 0) = some r := h
 clear h
 have H' := Aside0.mk H
 clear H
 go_enter Try.func52, Try.ntmps52
 go_wp2
 go_loopg [8] k (fun kq v8 w' => ∃ (x8_1 : Int), v8 = .int .i64 x8_1 ∧ Aside0 (slices_IndexFunc_52_at_59.l0 kq l0 (l0.length : Int) x8_1 = some r) ∧ Aside0 (kq ≤ k) ∧ Aside0 (Below w.heap.size w w'))
 case atStart => exact ⟨(0), (by first | rfl | (simp; done) | (simp [*]; done)), H', ⟨Nat.le_refl _⟩, ⟨by repeat (first | (with_reducible first | exact HB.out | apply bA | apply bN | apply bD) | exact HB.out)⟩⟩
 case round =>
  clear H'
  try clear p2
  obtain ⟨x8_1, rfl, HA, HK1, HB⟩ := hrel
  cases gk with
  | zero => exact absurd HA.out (by simp [slices_IndexFunc_52_at_59.l0])
  | succ k1 =>
   have H := HA.out
   clear HA
   simp only [slices_IndexFunc_52_at_59.l0] at H
   by_cases c3 : x8_1 < (l0.length : Int)
   ·rw [if_pos c3] at H
    have c3b0 : decide (x8_1 < (l0.length : Int)) = true := decide_eq_true c3
    clear c3
    by_cases c4 : 0 ≤ x8_1
    ·rw [if_pos c4] at H
     have c4b0 : decide (0 ≤ x8_1) = true := decide_eq_true c4
     clear c4
     by_cases c5 : x8_1 < (l0.length : Int)
     ·rw [if_pos c5] at H
      have c5b0 : decide (x8_1 < (l0.length : Int)) = true := decide_eq_true c5
      clear c5
      replace H := Option.bind_eq_some_iff.mp H
      obtain ⟨t239, A60, H⟩ := H
      replace H : (if t239 = true then (some x8_1) else (slices_IndexFunc_52_at_59.l0 k1 l0 (l0.length : Int) (wrap64 (x8_1 + 1)))) = some r := H
      have A6 := Aside0.mk A60
      clear A60
      by_cases c7 : t239 = true
      ·subst c7
       have H1 : (some x8_1) = some r := by rw [if_pos rfl] at H; exact H
       clear H
       have H := H1
       clear H1
       obtain rfl := Option.some.inj H
       have p238 : 0 ≤ (x8_1 : Int) := of_decide_eq_true (by first | (with_reducible assumption) | assumption)
       have q238 : x8_1 < (l0.length : Int) := of_decide_eq_true (by first | (with_reducible assumption) | assumption)
       obtain ⟨ad238, e238, hx238_0, hx238_1⟩ := at_T41 HR0.out x8_1 p238 q238
       cases e238
       replace hx238_0 := (HB.out.cell (World.block_lt_of_cell? w _ hx238_0)).trans hx238_0
       replace hx238_1 := (HB.out.cell (World.block_lt_of_cell? w _ hx238_1)).trans hx238_1
       replace p238 := eq_true p238
       replace q238 := eq_true q238
       go_wp2_with (first | (go_at_call 59; (with_reducible refine (point_right_1.calls ((rd_T41 l0 x8_1).f0) ((rd_T41 l0 x8_1).f1) true _ A6.out).mono ?_); rintro e w8 ⟨rfl, hb⟩; have n0_ := Aside0.mk (bS (by repeat (first | (with_reducible first | exact HB.out | apply bA | apply bN | apply bD) | exact HB.out)) hb); clear HB; have HB := n0_; clear n0_; (try clear hb); (try clear hb2); (try clear hk); (try clear hi)))
       go_ret
       exact ⟨by first | rfl | (simp [errW_none, errW_some] <;> rfl) | (simp [*, errW_none, errW_some] <;> rfl), by repeat (first | (with_reducible first | exact HB.out | apply bA | apply bN | apply bD) | exact HB.out)⟩
      ·replace c7 := Bool.eq_false_iff.mpr c7
       subst c7
       have H1 : (slices_IndexFunc_52_at_59.l0 k1 l0 (l0.length : Int) (wrap64 (x8_1 + 1))) = some r := by rw [if_neg (show ¬ (false = true) by decide)] at H; exact H
       clear H
       have H := H1
       clear H1
       have H' := Aside0.mk H
       clear H
       have p238 : 0 ≤ (x8_1 : Int) := of_decide_eq_true (by first | (with_reducible assumption) | assumption)
       have q238 : x8_1 < (l0.length : Int) := of_decide_eq_true (by first | (with_reducible assumption) | assumption)
       obtain ⟨ad238, e238, hx238_0, hx238_1⟩ := at_T41 HR0.out x8_1 p238 q238
       cases e238
       replace hx238_0 := (HB.out.cell (World.block_lt_of_cell? w _ hx238_0)).trans hx238_0
       replace hx238_1 := (HB.out.cell (World.block_lt_of_cell? w _ hx238_1)).trans hx238_1
       replace p238 := eq_true p238
       replace q238 := eq_true q238
       go_wp2_with (first | (go_at_call 59; (with_reducible refine (point_right_1.calls ((rd_T41 l0 x8_1).f0) ((rd_T41 l0 x8_1).f1) false _ A6.out).mono ?_); rintro e w9 ⟨rfl, hb⟩; have n0_ := Aside0.mk (bS (by repeat (first | (with_reducible first | exact HB.out | apply bA | apply bN | apply bD) | exact HB.out)) hb); clear HB; have HB := n0_; clear n0_; (try clear hb); (try clear hb2); (try clear hk); (try clear hi)))
       go_roundg k1
       case measure => have := HK1.out; omega
       case rel => exact ⟨(wrap64 (x8_1 + 1)), (by first | rfl | (simp; done) | (simp [*]; done)), H', ⟨by have := HK1.out; omega⟩, ⟨by repeat (first | (with_reducible first | exact HB.out | apply bA | apply bN | apply bD) | exact HB.out)⟩⟩
     ·rw [if_neg c5] at H
      exact absurd H (by simp)
    ·rw [if_neg c4] at H
     exact absurd H (by simp)
   ·rw [if_neg c3] at H
    have c3b0 : decide (x8_1 < (l0.length : Int)) = false := decide_eq_false c3
    clear c3
    obtain rfl := Option.some.inj H
    go_wp2
    go_ret
    exact ⟨by first | rfl | (simp [errW_none, errW_some] <;> rfl) | (simp [*, errW_none, errW_some] <;> rfl), by repeat (first | (with_reducible first | exact HB.out | apply bA | apply bN | apply bD) | exact HB.out)⟩

/-! ### slices_ContainsFunc_40_at_59: function 40 -/
def slices_ContainsFunc_40_at_59.f (k : Nat) (l0 : List (S41))  : Option (Bool) := (slices_IndexFunc_52_at_59.f k l0).bind fun t240 => (some (decide (t240 ≥ 0)))
theorem slices_ContainsFunc_40_at_59.mono : ∀ a0 k, LeO (slices_ContainsFunc_40_at_59.f k a0) (slices_ContainsFunc_40_at_59.f (k + 1) a0) := by
 intro a0 k
 unfold slices_ContainsFunc_40_at_59.f
 repeat' first
   | (with_reducible exact slices_IndexFunc_52_at_59.mono _ _)
   | (with_reducible exact LeO.refl _)
   | (with_reducible exact LeO.none _)
   | (with_reducible refine LeO.ite ?_ ?_)
   | (with_reducible refine LeO.bind ?_ (fun _ => ?_))
   | exact slices_IndexFunc_52_at_59.mono _ _
   | exact LeO.none _
   | refine LeO.ite ?_ ?_
   | refine LeO.bind ?_ (fun _ => ?_)
set_option maxHeartbeats 8000000 in
set_option maxRecDepth 100000 in
theorem slices_ContainsFunc_40_at_59.calls (k : Nat) (A0 : Option Addr) (c0 : Nat) (l0 : List (S41))  (r : Bool) (w : World) (hr0 : Kd.C k41 w A0 l0.length l0) (hc0 : l0.length ≤ c0) (h : slices_ContainsFunc_40_at_59.f k l0 = some r) :
  Calls Try.prog 40 #[.slice A0 l0.length c0, .func (.func 59) #[] #[]] w fun e w' => e = .returned (.bool r) ∧ Below w.heap.size w w' := by
 have HR0 := Aside0.mk hr0
 have HC0 := Aside0.mk hc0
 clear hr0 hc0
 have HB := Aside0.mk (Below.refl w.heap.size w)
 have H : ((slices_IndexFunc_52_at_59.f k l0).bind fun t240 => (some (decide (t240 ≥ 0)))) = some r := h
 clear h
 replace H := Option.bind_eq_some_iff.mp H
 obtain ⟨t240, A30, H⟩ := H
 replace H : (some (decide (t240 ≥ 0))) = some r := H
 have A3 := Aside0.mk A30
 clear A30
 obtain rfl := Option.some.inj H
 go_enter Try.func40, Try.ntmps40
 go_wp2_with (first | ((with_reducible refine gate_callee (f := 52) rfl ?_); refine goesL_ (some 7) rfl rfl Try.func52 (by kernel_rfl) rfl #[.slice A0 l0.length c0, .func (.func 59) #[] #[]] rfl (by (try simp only [sD, sE, sF]); first | done | rfl | (simp only [sG, sH]; rfl)) ?_; (with_reducible refine (slices_IndexFunc_52_at_59.calls k _ _ l0  t240 _ ?side1 ?side2 A3.out).mono ?_); (case side1 => repeat (first | exact HR0.out | (with_reducible refine Kd.C_alloc ?_ _) | (with_reducible refine Kd.C_drewN ?_ _) | (with_reducible refine Kd.C_drew ?_))); (case side2 => exact HC0.out); rintro e w4 ⟨rfl, hb⟩; refine ⟨_, rfl, ?_⟩; have n0_ := Aside0.mk (bS (by repeat (first | (with_reducible first | exact HB.out | apply bA | apply bN | apply bD) | exact HB.out)) hb); clear HB; have HB := n0_; clear n0_; (try clear hb); (try clear hb2); (try clear hk); (try clear hi)))
 go_ret
 exact ⟨by first | rfl | (simp [errW_none, errW_some] <;> rfl) | (simp [*, errW_none, errW_some] <;> rfl), by repeat (first | (with_reducible first | exact HB.out | apply bA | apply bN | apply bD) | exact HB.out)⟩

/-! ### point_right: function 53 -/
def point_right.f (k : Nat) (l0 : List (S41)) : Option (Bool) := (slices_ContainsFunc_40_at_59.f k l0).bind fun t241 => (some (!t241))
theorem point_right.mono : ∀ a0 k, LeO (point_right.f k a0) (point_right.f (k + 1) a0) := by
 intro a0 k
 unfold point_right.f
 repeat' first
   | (with_reducible exact slices_ContainsFunc_40_at_59.mono _ _)
   | (with_reducible exact LeO.refl _)
   | (with_reducible exact LeO.none _)
   | (with_reducible refine LeO.ite ?_ ?_)
   | (with_reducible refine LeO.bind ?_ (fun _ => ?_))
   | exact slices_ContainsFunc_40_at_59.mono _ _
   | exact LeO.none _
   | refine LeO.ite ?_ ?_
   | refine LeO.bind ?_ (fun _ => ?_)
set_option maxHeartbeats 8000000 in
set_option maxRecDepth 100000 in
theorem point_right.calls (k : Nat) (A0 : Option Addr) (c0 : Nat) (l0 : List (S41)) (r : Bool) (w : World) (hr0 : Kd.C k41 w A0 l0.length l0) (hc0 : l0.length ≤ c0) (h : point_right.f k l0 = some r) :
  Calls Try.prog 53 #[.slice A0 l0.length c0] w fun e w' => e = .returned (.bool r) ∧ Below w.heap.size w w' := by
 have HR0 := Aside0.mk hr0
 have HC0 := Aside0.mk hc0
 clear hr0 hc0
 have HB := Aside0.mk (Below.refl w.heap.size w)
 have H : ((slices_ContainsFunc_40_at_59.f k l0).bind fun t241 => (some (!t241))) = some r := h
 clear h
 replace H := Option.bind_eq_some_iff.mp H
 obtain ⟨t241, A20, H⟩ := H
 replace H : (some (!t241)) = some r := H
 have A2 := Aside0.mk A20
 clear A20
 obtain rfl := Option.some.inj H
 go_enter Try.func53, Try.ntmps53
 go_wp2_with (first | ((with_reducible refine gate_callee (f := 40) rfl ?_); refine goesL_ (some 4) rfl rfl Try.func40 (by kernel_rfl) rfl #[.slice A0 l0.length c0, .func (.func 59) #[] #[]] rfl (by (try simp only [sD, sE, sF]); first | done | rfl | (simp only [sG, sH]; rfl)) ?_; (with_reducible refine (slices_ContainsFunc_40_at_59.calls k _ _ l0  t241 _ ?side1 ?side2 A2.out).mono ?_); (case side1 => repeat (first | exact HR0.out | (with_reducible refine Kd.C_alloc ?_ _) | (with_reducible refine Kd.C_drewN ?_ _) | (with_reducible refine Kd.C_drew ?_))); (case side2 => exact HC0.out); rintro e w3 ⟨rfl, hb⟩; refine ⟨_, rfl, ?_⟩; have n0_ := Aside0.mk (bS (by repeat (first | (with_reducible first | exact HB.out | apply bA | apply bN | apply bD) | exact HB.out)) hb); clear HB; have HB := n0_; clear n0_; (try clear hb); (try clear hb2); (try clear hk); (try clear hi)))
 go_ret
 exact ⟨by first | rfl | (simp [errW_none, errW_some] <;> rfl) | (simp [*, errW_none, errW_some] <;> rfl), by repeat (first | (with_reducible first | exact HB.out | apply bA | apply bN | apply bD) | exact HB.out)⟩

/-! ### wide_Mul: function 54 -/
def wide_Mul.j0 : Nat → Int → Int → Int → Int → Option (Int × Int)
 | 0, _, _, _, _ => none
 | k + 1, x0, x1, x5, x6 => if x1 < 0 then (some (wrap64 (IntKind.u64.wrap (x5 - (IntKind.u64.wrap (x0)))), x6)) else (some (wrap64 (x5), x6))
def wide_Mul.f (k : Nat) (a0 : Int) (a1 : Int) : Option (Int × Int) := (bits_Mul64.f (IntKind.u64.wrap (a0)) (IntKind.u64.wrap (a1))).bind fun bt243 => (if a0 < 0 then (wide_Mul.j0 k a0 a1 (IntKind.u64.wrap (bt243.1 - (IntKind.u64.wrap (a1)))) bt243.2) else (wide_Mul.j0 k a0 a1 bt243.1 bt243.2))
theorem wide_Mul.mono_l : ∀ k, (∀ y0 y1 y2 y3, LeO (wide_Mul.j0 k y0 y1 y2 y3) (wide_Mul.j0 (k + 1) y0 y1 y2 y3))
 | 0 => fun _ _ _ _ r h => by simp [wide_Mul.j0] at h
 | k + 1 => by
  have ih0 := wide_Mul.mono_l k
  ·intro y0 y1 y2 y3
   unfold wide_Mul.j0
   repeat' first
   | (with_reducible exact ih0 _ _ _ _)
   | (with_reducible exact LeO.refl _)
   | (with_reducible exact LeO.none _)
   | (with_reducible refine LeO.ite ?_ ?_)
   | (with_reducible refine LeO.bind ?_ (fun _ => ?_))
   | exact ih0 _ _ _ _
   | exact LeO.none _
   | refine LeO.ite ?_ ?_
   | refine LeO.bind ?_ (fun _ => ?_)
theorem wide_Mul.mono : ∀ a0 a1 k, LeO (wide_Mul.f k a0 a1) (wide_Mul.f (k + 1) a0 a1) := by
 intro a0 a1 k
 have ih0 := wide_Mul.mono_l k
 unfold wide_Mul.f
 repeat' first
   | (with_reducible exact ih0 _ _ _ _)
   | (with_reducible exact LeO.refl _)
   | (with_reducible exact LeO.none _)
   | (with_reducible refine LeO.ite ?_ ?_)
   | (with_reducible refine LeO.bind ?_ (fun _ => ?_))
   | exact ih0 _ _ _ _
   | exact LeO.none _
   | refine LeO.ite ?_ ?_
   | refine LeO.bind ?_ (fun _ => ?_)
set_option maxHeartbeats 8000000 in
set_option maxRecDepth 100000 in
theorem wide_Mul.calls (k : Nat) (a0 : Int) (a1 : Int) (r1 : Int) (r2 : Int) (w : World) (h : wide_Mul.f k a0 a1 = some (r1, r2)) :
  Calls Try.prog 54 #[.int .i64 a0, .int .i64 a1] w fun e w' => e = .returned (.agg #[.int .i64 r1, .int .u64 r2]) ∧ Below w.heap.size w w' := by
 have hu61 := Try.underlying61
 have HB := Aside0.mk (Below.refl w.heap.size w)
 have H : ((bits_Mul64.f (IntKind.u64.wrap (a0)) (IntKind.u64.wrap (a1))).bind fun bt243 => (if a0 < 0 then (wide_Mul.j0 k a0 a1 (IntKind.u64.wrap (bt243.1 - (IntKind.u64.wrap (a1)))) bt243.2) else (wide_Mul.j0 k a0 a1 bt243.1 bt243.2))) = some (r1, r2) := h
 clear h
 replace H := Option.bind_eq_some_iff.mp H
 obtain ⟨⟨t243, t244⟩, A30, H⟩ := H
 replace H : (if a0 < 0 then (wide_Mul.j0 k a0 a1 (IntKind.u64.wrap (t243 - (IntKind.u64.wrap (a1)))) t244) else (wide_Mul.j0 k a0 a1 t243 t244)) = some (r1, r2) := H
 have A3 := Aside0.mk A30
 clear A30
 have HC4 := Aside0.mk H
 clear H
 go_enter Try.func54, Try.ntmps54
 go_upto_if 16 with (first | ((with_reducible refine gate_dst (N := 4) rfl ?_); refine box_event ?hg (N := 4) ?hd (cs := #[.int .i64 0, .int .u64 0]) (t := 61) ?hr ?_; (case hd => rfl); (case hg => rfl); (case hr => first | (go_simp; done) | (go_simp; rfl)); intro gb242 hg w5 hbox hb; have n0_ := Aside0.mk (bS (by repeat (first | (with_reducible first | exact HB.out | apply bA | apply bN | apply bD) | exact HB.out)) hb); have n1_ := Aside0.mk (hbox); have n2_ := Aside0.mk ((by rw [hg]; exact (bZ (by repeat (first | (with_reducible first | exact HB.out | apply bA | apply bN | apply bD) | exact HB.out))) : w.heap.size ≤ gb242)); have n3_ := Aside0.mk ((by rw [hg]; exact (bZ (by repeat (first | (with_reducible first | exact HB.out | apply bA | apply bN | apply bD) | exact HB.out))) : w.heap.size ≤ gb242)); clear HB; have HB := n0_; have BK242 := n1_; have GW242 := n2_; have GE242 := n3_; clear n0_ n1_ n2_ n3_; clear hb hbox hg) | ((with_reducible refine gate_callee (f := 60) rfl ?_); refine goesL_ (some 12) rfl rfl Try.func60 (by kernel_rfl) rfl #[.int .u64 (IntKind.u64.wrap (a0)), .int .u64 (IntKind.u64.wrap (a1))] rfl (by (try simp only [sD, sE, sF]); first | done | rfl | (simp only [sG, sH]; rfl)) ?_; (with_reducible refine (bits_Mul64.calls (IntKind.u64.wrap (a0)) (IntKind.u64.wrap (a1)) t243 t244 _ A3.out).mono ?_); rintro e w' ⟨rfl, ⟨nd, rfl⟩⟩; refine ⟨_, rfl, ?_⟩))
 (try simp only [Act.put, sA, sB, sC])
 go_cut [5] (fun v5 wc => ∃ (kq : Nat) (x5_3 : Int), v5 = .int .u64 x5_3 ∧ Aside0 (wide_Mul.j0 kq a0 a1 x5_3 t244 = some (r1, r2)) ∧ Aside0 (kq ≤ k) ∧ Aside0 (wc.heap[gb242]? = some (.cells #[.int .i64 0, .int .u64 0] 61 (0, 0))) ∧ Aside0 (Below w.heap.size w wc))
 case first =>
  have H := HC4.out
  clear HC4
  by_cases c6 : a0 < 0
  ·rw [if_pos c6] at H
   have c6b0 : decide (a0 < 0) = true := decide_eq_true c6
   clear c6
   (first | rw [c6b0] | (simp only [i64_w, i32_w]; rw [c6b0]) | skip)
   have H' := Aside0.mk H
   clear H
   go_wp2
   go_meet
   case rel => exact ⟨_, (IntKind.u64.wrap (t243 - (IntKind.u64.wrap (a1)))), (by first | rfl | (simp; done) | (simp [*]; done)), H', ⟨by first | omega | exact Nat.le_refl _⟩, ⟨by (with_reducible repeat (first | refine kN ?_ _ | refine kD ?_ | refine kA ?_ _)); exact BK242.out⟩, ⟨by repeat (first | (with_reducible first | exact HB.out | apply bA | apply bN | apply bD | refine bE ?_ GE242.out) | exact HB.out)⟩⟩
  ·rw [if_neg c6] at H
   have c6b0 : decide (a0 < 0) = false := decide_eq_false c6
   clear c6
   (first | rw [c6b0] | (simp only [i64_w, i32_w]; rw [c6b0]) | skip)
   have H' := Aside0.mk H
   clear H
   go_wp2
   go_meet
   case rel => exact ⟨_, (t243), (by first | rfl | (simp; done) | (simp [*]; done)), H', ⟨by first | omega | exact Nat.le_refl _⟩, ⟨by (with_reducible repeat (first | refine kN ?_ _ | refine kD ?_ | refine kA ?_ _)); exact BK242.out⟩, ⟨by repeat (first | (with_reducible first | exact HB.out | apply bA | apply bN | apply bD | refine bE ?_ GE242.out) | exact HB.out)⟩⟩
 case rest =>
  clear HC4
  try clear p2
  try clear c5
  try clear c6
  try clear c6b0
  obtain ⟨kq, x5_3, rfl, HA, HJ3, BK242, HB⟩ := hcut
  cases kq with
  | zero => exact absurd HA.out (by simp [wide_Mul.j0])
  | succ kj3 =>
   have H := HA.out
   clear HA
   simp only [wide_Mul.j0] at H
   by_cases c7 : a1 < 0
   ·rw [if_pos c7] at H
    have c7b0 : decide (a1 < 0) = true := decide_eq_true c7
    clear c7
    simp only [Option.some.injEq, Prod.mk.injEq] at H
    obtain ⟨rfl, rfl⟩ := H
    have hcz8_0 : wc.cell? ⟨gb242, 0, none⟩ = some (.int .i64 0) := (kC BK242.out 0).trans rfl
    have hcz8_1 : wc.cell? ⟨gb242, 1, none⟩ = some (.int .u64 0) := (kC BK242.out 1).trans rfl
    have hfz8_0 := kZ BK242.out 0
    have hfz8_1 := kZ BK242.out 1
    go_wp2
    refine bodyPost_ret (results_cell_row rfl _ _ gb242 61 #[.int .i64 (wrap64 (IntKind.u64.wrap (x5_3 - (IntKind.u64.wrap (a0))))), .int .u64 t244] (0, 0) _ rfl (by (with_reducible repeat (first | refine kN ?_ _ | refine kD ?_ | refine kA ?_ _)); refine kP (cs := #[.int .i64 (wrap64 (IntKind.u64.wrap (x5_3 - (IntKind.u64.wrap (a0))))), .int .u64 0]) ?_ 1 _ rfl; (with_reducible repeat (first | refine kN ?_ _ | refine kD ?_ | refine kA ?_ _)); refine kP (cs := #[.int .i64 0, .int .u64 0]) ?_ 0 _ rfl; (with_reducible repeat (first | refine kN ?_ _ | refine kD ?_ | refine kA ?_ _)); exact BK242.out) Try.underlying61 rfl (by kernel_rfl)) rfl ?_
    exact ⟨by first | rfl | (simp [errW_none, errW_some] <;> rfl) | (simp [*, errW_none, errW_some] <;> rfl), by repeat (first | (with_reducible first | exact HB.out | apply bA | apply bN | apply bD | refine bE ?_ GE242.out) | exact HB.out)⟩
   ·rw [if_neg c7] at H
    have c7b0 : decide (a1 < 0) = false := decide_eq_false c7
    clear c7
    simp only [Option.some.injEq, Prod.mk.injEq] at H
    obtain ⟨rfl, rfl⟩ := H
    have hcz9_0 : wc.cell? ⟨gb242, 0, none⟩ = some (.int .i64 0) := (kC BK242.out 0).trans rfl
    have hcz9_1 : wc.cell? ⟨gb242, 1, none⟩ = some (.int .u64 0) := (kC BK242.out 1).trans rfl
    have hfz9_0 := kZ BK242.out 0
    have hfz9_1 := kZ BK242.out 1
    go_wp2
    refine bodyPost_ret (results_cell_row rfl _ _ gb242 61 #[.int .i64 (wrap64 (x5_3)), .int .u64 t244] (0, 0) _ rfl (by (with_reducible repeat (first | refine kN ?_ _ | refine kD ?_ | refine kA ?_ _)); refine kP (cs := #[.int .i64 (wrap64 (x5_3)), .int .u64 0]) ?_ 1 _ rfl; (with_reducible repeat (first | refine kN ?_ _ | refine kD ?_ | refine kA ?_ _)); refine kP (cs := #[.int .i64 0, .int .u64 0]) ?_ 0 _ rfl; (with_reducible repeat (first | refine kN ?_ _ | refine kD ?_ | refine kA ?_ _)); exact BK242.out) Try.underlying61 rfl (by kernel_rfl)) rfl ?_
    exact ⟨by first | rfl | (simp [errW_none, errW_some] <;> rfl) | (simp [*, errW_none, errW_some] <;> rfl), by repeat (first | (with_reducible first | exact HB.out | apply bA | apply bN | apply bD | refine bE ?_ GE242.out) | exact HB.out)⟩

end Go.Proofs.Ytamlcbmkdfikeaa.PVerdict

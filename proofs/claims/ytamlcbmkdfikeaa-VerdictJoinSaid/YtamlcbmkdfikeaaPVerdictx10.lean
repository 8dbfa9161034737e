-- written by handprint.py, a program of this session's, over the seat Ytamlcbmkdfikeaa
import Derived.Test.YtamlcbmkdfikeaaPVerdictx0
import Derived.Test.YtamlcbmkdfikeaaPVerdictx7
import Derived.Test.YtamlcbmkdfikeaaPVerdictx8
import Derived.Test.YtamlcbmkdfikeaaPVerdictx9
namespace Go.Proofs.Ytamlcbmkdfikeaa.PVerdict
open Go.RowKit Go.Proofs.YtamlcbmkdfikeaaW.PrintWords Go.Proofs.YtamlcbmkdfikeaaW.PrintLast Go.Proofs.YtamlcbmkdfikeaaW.PrintMore
open Go.Proofs.YtamlcbmkdfikeaaW.PrintWords renaming blk_drewN → kN, blk_drew → kD, blk_alloc → kA, blk_cell → kC, blk_below → kB, blk_frozen → kZ, below_alloc → bA, pw_below_drewN → bN, below_drew1 → bD, below_step → bS, below_size → bZ, below_set → bE
open List renaming setIfInBounds_toArray → sA, set_cons_zero → sB, set_cons_succ → sC, map_toArray → sD, map_cons → sE, map_nil → sF, length_drop → sG, length_take → sH
attribute [local go_sem] max2_int min2_int max_two min_two max_three min_three max_four min_four   -- for this text's walks alone
set_option linter.unusedVariables false
set_option linter.unusedSimpArgs false

/-! ### point_Meet: function 58 -/
def point_Meet.j0 : Nat → Bool → Int → Int → Int → Int → Int → Int → Int → Int → Option (Bool)
 | 0, _, _, _, _, _, _, _, _, _ => none
 | k + 1, x17, x281000, x281001, x282000, x282001, x283000, x283001, x284000, x284001 => if x17 = true then (some true) else ((point_Turn.f k x281000 x281001 x282000 x282001 x283000 x283001).bind fun t292 => ((point_Turn.f k x281000 x281001 x282000 x282001 x284000 x284001).bind fun t293 => (if (wrap64 (t292 * t293)) < 0 then ((point_Turn.f k x283000 x283001 x284000 x284001 x281000 x281001).bind fun t294 => ((point_Turn.f k x283000 x283001 x284000 x284001 x282000 x282001).bind fun t295 => (some (decide ((wrap64 (t294 * t295)) < 0))))) else (some false))))
def point_Meet.f (k : Nat) (a0_0 : Int) (a0_1 : Int) (a1_0 : Int) (a1_1 : Int) (a2_0 : Int) (a2_1 : Int) (a3_0 : Int) (a3_1 : Int) : Option (Bool) := (point_right.f k (([(⟨a0_0, a0_1⟩ : S41), (⟨a1_0, a1_1⟩ : S41), (⟨a2_0, a2_1⟩ : S41), (⟨a3_0, a3_1⟩ : S41)] : List (S41)))).bind fun t287 => (if t287 = true then ((point_On.f k a0_0 a0_1 a2_0 a2_1 a3_0 a3_1).bind fun t288 => (if t288 = true then (point_Meet.j0 k t288 a0_0 a0_1 a1_0 a1_1 a2_0 a2_1 a3_0 a3_1) else ((point_On.f k a1_0 a1_1 a2_0 a2_1 a3_0 a3_1).bind fun t289 => (if t289 = true then (point_Meet.j0 k t289 a0_0 a0_1 a1_0 a1_1 a2_0 a2_1 a3_0 a3_1) else ((point_On.f k a2_0 a2_1 a0_0 a0_1 a1_0 a1_1).bind fun t290 => (if t290 = true then (point_Meet.j0 k t290 a0_0 a0_1 a1_0 a1_1 a2_0 a2_1 a3_0 a3_1) else ((point_On.f k a3_0 a3_1 a0_0 a0_1 a1_0 a1_1).bind fun t291 => (point_Meet.j0 k t291 a0_0 a0_1 a1_0 a1_1 a2_0 a2_1 a3_0 a3_1)))))))) else (some false))
theorem point_Meet.mono_l : ∀ k, (∀ y0 y1 y2 y3 y4 y5 y6 y7 y8, LeO (point_Meet.j0 k y0 y1 y2 y3 y4 y5 y6 y7 y8) (point_Meet.j0 (k + 1) y0 y1 y2 y3 y4 y5 y6 y7 y8))
 | 0 => fun _ _ _ _ _ _ _ _ _ r h => by simp [point_Meet.j0] at h
 | k + 1 => by
  have ih0 := point_Meet.mono_l k
  ·intro y0 y1 y2 y3 y4 y5 y6 y7 y8
   unfold point_Meet.j0
   repeat' first
   | (with_reducible exact ih0 _ _ _ _ _ _ _ _ _)
   | (with_reducible exact point_On.mono _ _ _ _ _ _ _)
   | (with_reducible exact point_Turn.mono _ _ _ _ _ _ _)
   | (with_reducible exact point_right.mono _ _)
   | (with_reducible exact LeO.refl _)
   | (with_reducible exact LeO.none _)
   | (with_reducible refine LeO.ite ?_ ?_)
   | (with_reducible refine LeO.bind ?_ (fun _ => ?_))
   | exact ih0 _ _ _ _ _ _ _ _ _
   | exact point_On.mono _ _ _ _ _ _ _
   | exact point_Turn.mono _ _ _ _ _ _ _
   | exact point_right.mono _ _
   | exact LeO.none _
   | refine LeO.ite ?_ ?_
   | refine LeO.bind ?_ (fun _ => ?_)
theorem point_Meet.mono : ∀ a0 a1 a2 a3 a4 a5 a6 a7 k, LeO (point_Meet.f k a0 a1 a2 a3 a4 a5 a6 a7) (point_Meet.f (k + 1) a0 a1 a2 a3 a4 a5 a6 a7) := by
 intro a0 a1 a2 a3 a4 a5 a6 a7 k
 have ih0 := point_Meet.mono_l k
 unfold point_Meet.f
 repeat' first
   | (with_reducible exact ih0 _ _ _ _ _ _ _ _ _)
   | (with_reducible exact point_On.mono _ _ _ _ _ _ _)
   | (with_reducible exact point_Turn.mono _ _ _ _ _ _ _)
   | (with_reducible exact point_right.mono _ _)
   | (with_reducible exact LeO.refl _)
   | (with_reducible exact LeO.none _)
   | (with_reducible refine LeO.ite ?_ ?_)
   | (with_reducible refine LeO.bind ?_ (fun _ => ?_))
   | exact ih0 _ _ _ _ _ _ _ _ _
   | exact point_On.mono _ _ _ _ _ _ _
   | exact point_Turn.mono _ _ _ _ _ _ _
   | exact point_right.mono _ _
   | exact LeO.none _
   | refine LeO.ite ?_ ?_
   | refine LeO.bind ?_ (fun _ => ?_)
def point_Meet.T8 : Bool × List (List Nat × List Nat) := (true, [([], []), ([], []), ([], []), ([0, 1, 2], [0, 1, 2]), ([], []), ([], []), ([], []), ([4, 5, 6, 3], [4, 5, 6]), ([3, 7], [3, 7]), ([8], [8]), ([9, 7], [9]), ([10], [10]), ([10], [10]), ([10], [10]), ([11, 12, 13, 10, 10], [10, 11, 12, 13]), ([10], [10]), ([10], [10]), ([10], [10]), ([15, 16, 17, 14, 10], [10, 15, 16, 17]), ([14, 18, 10], [10, 14, 18]), ([19, 10], [10, 19]), ([10, 20], [10, 20]), ([21, 18, 0, 1, 2, 3, 4, 5, 6, 7, 8, 9, 10, 11, 12, 13, 14, 15, 16, 17, 18, 19, 20, 21], [21])])
def point_Meet.B8 : List Nat := [0, 0, 0, 7, 0, 0, 0, 127, 255, 511, 1023, 2047, 2047, 2047, 16383, 2047, 2047, 2047, 262143, 524287, 1048575, 2097151, 4194303]
theorem point_Meet.tab8 : rtab .any (opsOf Try.f58 8) = point_Meet.T8 := by kernel_rfl
theorem point_Meet.bits8 : waitsOk point_Meet.T8.2 point_Meet.B8 = true := by kernel_rfl
set_option maxHeartbeats 8000000 in
set_option maxRecDepth 100000 in
theorem point_Meet.calls (k : Nat) (a0_0 : Int) (a0_1 : Int) (a1_0 : Int) (a1_1 : Int) (a2_0 : Int) (a2_1 : Int) (a3_0 : Int) (a3_1 : Int) (r : Bool) (w : World) (h : point_Meet.f k a0_0 a0_1 a1_0 a1_1 a2_0 a2_1 a3_0 a3_1 = some r) :
  Calls Try.prog 58 #[.agg #[.int .i64 a0_0, .int .i64 a0_1], .agg #[.int .i64 a1_0, .int .i64 a1_1], .agg #[.int .i64 a2_0, .int .i64 a2_1], .agg #[.int .i64 a3_0, .int .i64 a3_1]] w fun e w' => e = .returned (.bool r) ∧ Below w.heap.size w w' := by
 have hu41 := Try.underlying41
 have HB := Aside0.mk (Below.refl w.heap.size w)
 have H : ((point_right.f k (([(⟨a0_0, a0_1⟩ : S41), (⟨a1_0, a1_1⟩ : S41), (⟨a2_0, a2_1⟩ : S41), (⟨a3_0, a3_1⟩ : S41)] : List (S41)))).bind fun t287 => (if t287 = true then ((point_On.f k a0_0 a0_1 a2_0 a2_1 a3_0 a3_1).bind fun t288 => (if t288 = true then (point_Meet.j0 k t288 a0_0 a0_1 a1_0 a1_1 a2_0 a2_1 a3_0 a3_1) else ((point_On.f k a1_0 a1_1 a2_0 a2_1 a3_0 a3_1).bind fun t289 => (if t289 = true then (point_Meet.j0 k t289 a0_0 a0_1 a1_0 a1_1 a2_0 a2_1 a3_0 a3_1) else ((point_On.f k a2_0 a2_1 a0_0 a0_1 a1_0 a1_1).bind fun t290 => (if t290 = true then (point_Meet.j0 k t290 a0_0 a0_1 a1_0 a1_1 a2_0 a2_1 a3_0 a3_1) else ((point_On.f k a3_0 a3_1 a0_0 a0_1 a1_0 a1_1).bind fun t291 => (point_Meet.j0 k t291 a0_0 a0_1 a1_0 a1_1 a2_0 a2_1 a3_0 a3_1)))))))) else (some false))) = some r := h
 clear h
 obtain ⟨y284, hy284⟩ : ∃ y_ : List (S41), y_ = (([(⟨a0_0, a0_1⟩ : S41), (⟨a1_0, a1_1⟩ : S41), (⟨a2_0, a2_1⟩ : S41), (⟨a3_0, a3_1⟩ : S41)] : List (S41))) := ⟨_, rfl⟩
 replace H : ((point_right.f k y284).bind fun t287 => (if t287 = true then ((point_On.f k a0_0 a0_1 a2_0 a2_1 a3_0 a3_1).bind fun t288 => (if t288 = true then (point_Meet.j0 k t288 a0_0 a0_1 a1_0 a1_1 a2_0 a2_1 a3_0 a3_1) else ((point_On.f k a1_0 a1_1 a2_0 a2_1 a3_0 a3_1).bind fun t289 => (if t289 = true then (point_Meet.j0 k t289 a0_0 a0_1 a1_0 a1_1 a2_0 a2_1 a3_0 a3_1) else ((point_On.f k a2_0 a2_1 a0_0 a0_1 a1_0 a1_1).bind fun t290 => (if t290 = true then (point_Meet.j0 k t290 a0_0 a0_1 a1_0 a1_1 a2_0 a2_1 a3_0 a3_1) else ((point_On.f k a3_0 a3_1 a0_0 a0_1 a1_0 a1_1).bind fun t291 => (point_Meet.j0 k t291 a0_0 a0_1 a1_0 a1_1 a2_0 a2_1 a3_0 a3_1)))))))) else (some false))) = some r := by first | (rw [hy284]; with_reducible exact H) | (have H2_ := (Option.bind_some _ _).symm.trans H; rw [hy284]; with_reducible exact H2_) | (have H2_ := (Option.bind_some _ _).symm.trans H; with_reducible exact H2_) | with_reducible exact H | (rw [hy284]; exact H) | exact H
 have Ny284 := Aside0.mk hy284
 clear hy284
 replace H := Option.bind_eq_some_iff.mp H
 obtain ⟨t287, A50, H⟩ := H
 replace H : (if t287 = true then ((point_On.f k a0_0 a0_1 a2_0 a2_1 a3_0 a3_1).bind fun t288 => (if t288 = true then (point_Meet.j0 k t288 a0_0 a0_1 a1_0 a1_1 a2_0 a2_1 a3_0 a3_1) else ((point_On.f k a1_0 a1_1 a2_0 a2_1 a3_0 a3_1).bind fun t289 => (if t289 = true then (point_Meet.j0 k t289 a0_0 a0_1 a1_0 a1_1 a2_0 a2_1 a3_0 a3_1) else ((point_On.f k a2_0 a2_1 a0_0 a0_1 a1_0 a1_1).bind fun t290 => (if t290 = true then (point_Meet.j0 k t290 a0_0 a0_1 a1_0 a1_1 a2_0 a2_1 a3_0 a3_1) else ((point_On.f k a3_0 a3_1 a0_0 a0_1 a1_0 a1_1).bind fun t291 => (point_Meet.j0 k t291 a0_0 a0_1 a1_0 a1_1 a2_0 a2_1 a3_0 a3_1)))))))) else (some false)) = some r := H
 have A5 := Aside0.mk A50
 clear A50
 by_cases c6 : t287 = true
 ·subst c6
  have H1 : ((point_On.f k a0_0 a0_1 a2_0 a2_1 a3_0 a3_1).bind fun t288 => (if t288 = true then (point_Meet.j0 k t288 a0_0 a0_1 a1_0 a1_1 a2_0 a2_1 a3_0 a3_1) else ((point_On.f k a1_0 a1_1 a2_0 a2_1 a3_0 a3_1).bind fun t289 => (if t289 = true then (point_Meet.j0 k t289 a0_0 a0_1 a1_0 a1_1 a2_0 a2_1 a3_0 a3_1) else ((point_On.f k a2_0 a2_1 a0_0 a0_1 a1_0 a1_1).bind fun t290 => (if t290 = true then (point_Meet.j0 k t290 a0_0 a0_1 a1_0 a1_1 a2_0 a2_1 a3_0 a3_1) else ((point_On.f k a3_0 a3_1 a0_0 a0_1 a1_0 a1_1).bind fun t291 => (point_Meet.j0 k t291 a0_0 a0_1 a1_0 a1_1 a2_0 a2_1 a3_0 a3_1)))))))) = some r := by rw [if_pos rfl] at H; exact H
  clear H
  have H := H1
  clear H1
  replace H := Option.bind_eq_some_iff.mp H
  obtain ⟨t288, A70, H⟩ := H
  replace H : (if t288 = true then (point_Meet.j0 k t288 a0_0 a0_1 a1_0 a1_1 a2_0 a2_1 a3_0 a3_1) else ((point_On.f k a1_0 a1_1 a2_0 a2_1 a3_0 a3_1).bind fun t289 => (if t289 = true then (point_Meet.j0 k t289 a0_0 a0_1 a1_0 a1_1 a2_0 a2_1 a3_0 a3_1) else ((point_On.f k a2_0 a2_1 a0_0 a0_1 a1_0 a1_1).bind fun t290 => (if t290 = true then (point_Meet.j0 k t290 a0_0 a0_1 a1_0 a1_1 a2_0 a2_1 a3_0 a3_1) else ((point_On.f k a3_0 a3_1 a0_0 a0_1 a1_0 a1_1).bind fun t291 => (point_Meet.j0 k t291 a0_0 a0_1 a1_0 a1_1 a2_0 a2_1 a3_0 a3_1))))))) = some r := H
  have A7 := Aside0.mk A70
  clear A70
  have HC8 := Aside0.mk H
  clear H
  go_enter Try.func58, Try.ntmps58
  go_upto_if 17 with (first | ((with_reducible refine gate_dst (N := 4) rfl ?_); refine box_event ?hg (N := 4) ?hd (cs := #[.int .i64 a0_0, .int .i64 a0_1]) (t := 41) ?hr ?_; (case hd => rfl); (case hg => rfl); (case hr => first | (go_simp; done) | (go_simp; rfl)); intro gb280 hg w9 hbox hb; have n0_ := Aside0.mk (bS (by repeat (first | (with_reducible first | exact HB.out | apply bA | apply bN | apply bD) | exact HB.out)) hb); have n1_ := Aside0.mk (hbox); have n2_ := Aside0.mk ((by rw [hg]; exact (bZ (by repeat (first | (with_reducible first | exact HB.out | apply bA | apply bN | apply bD) | exact HB.out))) : w.heap.size ≤ gb280)); have n3_ := Aside0.mk ((by rw [hg]; exact (bZ (by repeat (first | (with_reducible first | exact HB.out | apply bA | apply bN | apply bD) | exact HB.out))) : w.heap.size ≤ gb280)); clear HB; have HB := n0_; have BK280 := n1_; have GW280 := n2_; have GE280 := n3_; clear n0_ n1_ n2_ n3_; clear hb hbox hg) | ((with_reducible refine gate_dst (N := 5) rfl ?_); refine box_event ?hg (N := 5) ?hd (cs := #[.int .i64 a1_0, .int .i64 a1_1]) (t := 41) ?hr ?_; (case hd => rfl); (case hg => rfl); (case hr => first | (go_simp; done) | (go_simp; rfl)); intro gb281 hg w10 hbox hb; have n0_ := Aside0.mk (kB (g := gb280) (o := .cells #[.int .i64 a0_0, .int .i64 a0_1] 41 (0, 0)) (by (with_reducible repeat (first | refine kN ?_ _ | refine kD ?_ | refine kA ?_ _)); exact BK280.out) hb); have n1_ := Aside0.mk (bS (by repeat (first | (with_reducible first | exact HB.out | apply bA | apply bN | apply bD | refine bE ?_ GE280.out) | exact HB.out)) hb); have n2_ := Aside0.mk (hbox); have n3_ := Aside0.mk ((by rw [hg]; exact (bZ (by repeat (first | (with_reducible first | exact HB.out | apply bA | apply bN | apply bD | refine bE ?_ GE280.out) | exact HB.out))) : w.heap.size ≤ gb281)); have n4_ := Aside0.mk ((by rw [hg]; exact (bZ (by repeat (first | (with_reducible first | exact HB.out | apply bA | apply bN | apply bD | refine bE ?_ GE280.out) | exact HB.out))) : w.heap.size ≤ gb281)); have n5_ := Aside0.mk ((by rw [hg]; exact Nat.ne_of_lt (blk_lt (g := gb280) (o := .cells #[.int .i64 a0_0, .int .i64 a0_1] 41 (0, 0)) (by (with_reducible repeat (first | refine kN ?_ _ | refine kD ?_ | refine kA ?_ _)); exact BK280.out)) : gb280 ≠ gb281)); have n6_ := Aside0.mk ((by rw [hg]; exact Nat.ne_of_gt (blk_lt (g := gb280) (o := .cells #[.int .i64 a0_0, .int .i64 a0_1] 41 (0, 0)) (by (with_reducible repeat (first | refine kN ?_ _ | refine kD ?_ | refine kA ?_ _)); exact BK280.out)) : gb281 ≠ gb280)); clear BK280; clear HB; have BK280 := n0_; have HB := n1_; have BK281 := n2_; have GW281 := n3_; have GE281 := n4_; have NB280_281 := n5_; have NB281_280 := n6_; clear n0_ n1_ n2_ n3_ n4_ n5_ n6_; clear hb hbox hg) | ((with_reducible refine gate_dst (N := 6) rfl ?_); refine box_event ?hg (N := 6) ?hd (cs := #[.int .i64 a2_0, .int .i64 a2_1]) (t := 41) ?hr ?_; (case hd => rfl); (case hg => rfl); (case hr => first | (go_simp; done) | (go_simp; rfl)); intro gb282 hg w11 hbox hb; have n0_ := Aside0.mk (kB (g := gb280) (o := .cells #[.int .i64 a0_0, .int .i64 a0_1] 41 (0, 0)) (by (with_reducible repeat (first | refine kN ?_ _ | refine kD ?_ | refine kA ?_ _)); exact BK280.out) hb); have n1_ := Aside0.mk (kB (g := gb281) (o := .cells #[.int .i64 a1_0, .int .i64 a1_1] 41 (0, 0)) (by (with_reducible repeat (first | refine kN ?_ _ | refine kD ?_ | refine kA ?_ _)); exact BK281.out) hb); have n2_ := Aside0.mk (bS (by repeat (first | (with_reducible first | exact HB.out | apply bA | apply bN | apply bD | refine bE ?_ GE280.out | refine bE ?_ GE281.out) | exact HB.out)) hb); have n3_ := Aside0.mk (hbox); have n4_ := Aside0.mk ((by rw [hg]; exact (bZ (by repeat (first | (with_reducible first | exact HB.out | apply bA | apply bN | apply bD | refine bE ?_ GE280.out | refine bE ?_ GE281.out) | exact HB.out))) : w.heap.size ≤ gb282)); have n5_ := Aside0.mk ((by rw [hg]; exact (bZ (by repeat (first | (with_reducible first | exact HB.out | apply bA | apply bN | apply bD | refine bE ?_ GE280.out | refine bE ?_ GE281.out) | exact HB.out))) : w.heap.size ≤ gb282)); have n6_ := Aside0.mk ((by rw [hg]; exact Nat.ne_of_lt (blk_lt (g := gb280) (o := .cells #[.int .i64 a0_0, .int .i64 a0_1] 41 (0, 0)) (by (with_reducible repeat (first | refine kN ?_ _ | refine kD ?_ | refine kA ?_ _)); exact BK280.out)) : gb280 ≠ gb282)); have n7_ := Aside0.mk ((by rw [hg]; exact Nat.ne_of_gt (blk_lt (g := gb280) (o := .cells #[.int .i64 a0_0, .int .i64 a0_1] 41 (0, 0)) (by (with_reducible repeat (first | refine kN ?_ _ | refine kD ?_ | refine kA ?_ _)); exact BK280.out)) : gb282 ≠ gb280)); have n8_ := Aside0.mk ((by rw [hg]; exact Nat.ne_of_lt (blk_lt (g := gb281) (o := .cells #[.int .i64 a1_0, .int .i64 a1_1] 41 (0, 0)) (by (with_reducible repeat (first | refine kN ?_ _ | refine kD ?_ | refine kA ?_ _)); exact BK281.out)) : gb281 ≠ gb282)); have n9_ := Aside0.mk ((by rw [hg]; exact Nat.ne_of_gt (blk_lt (g := gb281) (o := .cells #[.int .i64 a1_0, .int .i64 a1_1] 41 (0, 0)) (by (with_reducible repeat (first | refine kN ?_ _ | refine kD ?_ | refine kA ?_ _)); exact BK281.out)) : gb282 ≠ gb281)); clear BK280; clear BK281; clear HB; have BK280 := n0_; have BK281 := n1_; have HB := n2_; have BK282 := n3_; have GW282 := n4_; have GE282 := n5_; have NB280_282 := n6_; have NB282_280 := n7_; have NB281_282 := n8_; have NB282_281 := n9_; clear n0_ n1_ n2_ n3_ n4_ n5_ n6_ n7_ n8_ n9_; clear hb hbox hg) | ((with_reducible refine gate_dst (N := 7) rfl ?_); refine box_event ?hg (N := 7) ?hd (cs := #[.int .i64 a3_0, .int .i64 a3_1]) (t := 41) ?hr ?_; (case hd => rfl); (case hg => rfl); (case hr => first | (go_simp; done) | (go_simp; rfl)); intro gb283 hg w12 hbox hb; have n0_ := Aside0.mk (kB (g := gb280) (o := .cells #[.int .i64 a0_0, .int .i64 a0_1] 41 (0, 0)) (by (with_reducible repeat (first | refine kN ?_ _ | refine kD ?_ | refine kA ?_ _)); exact BK280.out) hb); have n1_ := Aside0.mk (kB (g := gb281) (o := .cells #[.int .i64 a1_0, .int .i64 a1_1] 41 (0, 0)) (by (with_reducible repeat (first | refine kN ?_ _ | refine kD ?_ | refine kA ?_ _)); exact BK281.out) hb); have n2_ := Aside0.mk (kB (g := gb282) (o := .cells #[.int .i64 a2_0, .int .i64 a2_1] 41 (0, 0)) (by (with_reducible repeat (first | refine kN ?_ _ | refine kD ?_ | refine kA ?_ _)); exact BK282.out) hb); have n3_ := Aside0.mk (bS (by repeat (first | (with_reducible first | exact HB.out | apply bA | apply bN | apply bD | refine bE ?_ GE280.out | refine bE ?_ GE281.out | refine bE ?_ GE282.out) | exact HB.out)) hb); have n4_ := Aside0.mk (hbox); have n5_ := Aside0.mk ((by rw [hg]; exact (bZ (by repeat (first | (with_reducible first | exact HB.out | apply bA | apply bN | apply bD | refine bE ?_ GE280.out | refine bE ?_ GE281.out | refine bE ?_ GE282.out) | exact HB.out))) : w.heap.size ≤ gb283)); have n6_ := Aside0.mk ((by rw [hg]; exact (bZ (by repeat (first | (with_reducible first | exact HB.out | apply bA | apply bN | apply bD | refine bE ?_ GE280.out | refine bE ?_ GE281.out | refine bE ?_ GE282.out) | exact HB.out))) : w.heap.size ≤ gb283)); have n7_ := Aside0.mk ((by rw [hg]; exact Nat.ne_of_lt (blk_lt (g := gb280) (o := .cells #[.int .i64 a0_0, .int .i64 a0_1] 41 (0, 0)) (by (with_reducible repeat (first | refine kN ?_ _ | refine kD ?_ | refine kA ?_ _)); exact BK280.out)) : gb280 ≠ gb283)); have n8_ := Aside0.mk ((by rw [hg]; exact Nat.ne_of_gt (blk_lt (g := gb280) (o := .cells #[.int .i64 a0_0, .int .i64 a0_1] 41 (0, 0)) (by (with_reducible repeat (first | refine kN ?_ _ | refine kD ?_ | refine kA ?_ _)); exact BK280.out)) : gb283 ≠ gb280)); have n9_ := Aside0.mk ((by rw [hg]; exact Nat.ne_of_lt (blk_lt (g := gb281) (o := .cells #[.int .i64 a1_0, .int .i64 a1_1] 41 (0, 0)) (by (with_reducible repeat (first | refine kN ?_ _ | refine kD ?_ | refine kA ?_ _)); exact BK281.out)) : gb281 ≠ gb283)); have n10_ := Aside0.mk ((by rw [hg]; exact Nat.ne_of_gt (blk_lt (g := gb281) (o := .cells #[.int .i64 a1_0, .int .i64 a1_1] 41 (0, 0)) (by (with_reducible repeat (first | refine kN ?_ _ | refine kD ?_ | refine kA ?_ _)); exact BK281.out)) : gb283 ≠ gb281)); have n11_ := Aside0.mk ((by rw [hg]; exact Nat.ne_of_lt (blk_lt (g := gb282) (o := .cells #[.int .i64 a2_0, .int .i64 a2_1] 41 (0, 0)) (by (with_reducible repeat (first | refine kN ?_ _ | refine kD ?_ | refine kA ?_ _)); exact BK282.out)) : gb282 ≠ gb283)); have n12_ := Aside0.mk ((by rw [hg]; exact Nat.ne_of_gt (blk_lt (g := gb282) (o := .cells #[.int .i64 a2_0, .int .i64 a2_1] 41 (0, 0)) (by (with_reducible repeat (first | refine kN ?_ _ | refine kD ?_ | refine kA ?_ _)); exact BK282.out)) : gb283 ≠ gb282)); clear BK280; clear BK281; clear BK282; clear HB; have BK280 := n0_; have BK281 := n1_; have BK282 := n2_; have HB := n3_; have BK283 := n4_; have GW283 := n5_; have GE283 := n6_; have NB280_283 := n7_; have NB283_280 := n8_; have NB281_283 := n9_; have NB283_281 := n10_; have NB282_283 := n11_; have NB283_282 := n12_; clear n0_ n1_ n2_ n3_ n4_ n5_ n6_ n7_ n8_ n9_ n10_ n11_ n12_; clear hb hbox hg; have hnb13 := NB280_281.out; have hnc13 := NB281_280.out; have hnb14 := NB280_282.out; have hnc14 := NB282_280.out; have hnb15 := NB280_283.out; have hnc15 := NB283_280.out; have hcz16_0 : w12.cell? ⟨gb280, 0, none⟩ = some (.int .i64 a0_0) := (kC BK280.out 0).trans rfl; have hcz16_1 : w12.cell? ⟨gb280, 1, none⟩ = some (.int .i64 a0_1) := (kC BK280.out 1).trans rfl; have hfz16_0 := kZ BK280.out 0; have hfz16_1 := kZ BK280.out 1; have hnb17 := NB281_282.out; have hnc17 := NB282_281.out; have hnb18 := NB281_283.out; have hnc18 := NB283_281.out; have hcz19_0 : w12.cell? ⟨gb281, 0, none⟩ = some (.int .i64 a1_0) := (kC BK281.out 0).trans rfl; have hcz19_1 : w12.cell? ⟨gb281, 1, none⟩ = some (.int .i64 a1_1) := (kC BK281.out 1).trans rfl; have hfz19_0 := kZ BK281.out 0; have hfz19_1 := kZ BK281.out 1; have hnb20 := NB282_283.out; have hnc20 := NB283_282.out; have hcz21_0 : w12.cell? ⟨gb282, 0, none⟩ = some (.int .i64 a2_0) := (kC BK282.out 0).trans rfl; have hcz21_1 : w12.cell? ⟨gb282, 1, none⟩ = some (.int .i64 a2_1) := (kC BK282.out 1).trans rfl; have hfz21_0 := kZ BK282.out 0; have hfz21_1 := kZ BK282.out 1; have hcz22_0 : w12.cell? ⟨gb283, 0, none⟩ = some (.int .i64 a3_0) := (kC BK283.out 0).trans rfl; have hcz22_1 : w12.cell? ⟨gb283, 1, none⟩ = some (.int .i64 a3_1) := (kC BK283.out 1).trans rfl; have hfz22_0 := kZ BK283.out 0; have hfz22_1 := kZ BK283.out 1) | ((with_reducible refine gate_dst (N := 14) rfl ?_); refine Kd.R_lit k41 _ 41 ?hg (N := 14) ?hd (xs := ([(⟨a0_0, a0_1⟩ : S41), (⟨a1_0, a1_1⟩ : S41), (⟨a2_0, a2_1⟩ : S41), (⟨a3_0, a3_1⟩ : S41)] : List (S41))) (inner := [.int .i64 a0_0, .int .i64 a0_1, .int .i64 a1_0, .int .i64 a1_1, .int .i64 a2_0, .int .i64 a2_1, .int .i64 a3_0, .int .i64 a3_1]) (ok := fun _ => True) (okp := fun _ => True) ?hr ?hp (fun _ hk => hk) trivial (Below.refl _ _) (Nat.le_refl _) (by simp) ?_; (case hd => rfl); (case hg => rfl); (case hr => first | (go_simp; done) | (go_simp; rfl)); (case hp => exact (Reps.c2 (show Kd.M k41 _ _ _ (⟨a0_0, a0_1⟩ : S41) [.int .i64 a0_0, .int .i64 a0_1] from (k41_mkM _ _ _ (⟨a0_0, a0_1⟩ : S41) )) (Reps.c2 (show Kd.M k41 _ _ _ (⟨a1_0, a1_1⟩ : S41) [.int .i64 a1_0, .int .i64 a1_1] from (k41_mkM _ _ _ (⟨a1_0, a1_1⟩ : S41) )) (Reps.c2 (show Kd.M k41 _ _ _ (⟨a2_0, a2_1⟩ : S41) [.int .i64 a2_0, .int .i64 a2_1] from (k41_mkM _ _ _ (⟨a2_0, a2_1⟩ : S41) )) (Reps.c2 (show Kd.M k41 _ _ _ (⟨a3_0, a3_1⟩ : S41) [.int .i64 a3_0, .int .i64 a3_1] from (k41_mkM _ _ _ (⟨a3_0, a3_1⟩ : S41) )) (Reps.none _ _)))))); intro v285 w23 ho24 hb hg_ hnew_; clear hg_ hnew_; (first | rw [← Ny284.out] at ho24 | (simp only [Int.reduceToNat] at ho24; rw [← Ny284.out] at ho24)); have n0_ := Aside0.mk (Kd.R_lower (Kd.R_newB (Kd.R_newB (Kd.R_newB (Kd.R_newB ho24 (g := gb280) (o := .cells #[.int .i64 a0_0, .int .i64 a0_1] 41 (0, 0)) (by (with_reducible repeat (first | refine kN ?_ _ | refine kD ?_ | refine kA ?_ _)); exact BK280.out)) (g := gb281) (o := .cells #[.int .i64 a1_0, .int .i64 a1_1] 41 (0, 0)) (by (with_reducible repeat (first | refine kN ?_ _ | refine kD ?_ | refine kA ?_ _)); exact BK281.out)) (g := gb282) (o := .cells #[.int .i64 a2_0, .int .i64 a2_1] 41 (0, 0)) (by (with_reducible repeat (first | refine kN ?_ _ | refine kD ?_ | refine kA ?_ _)); exact BK282.out)) (g := gb283) (o := .cells #[.int .i64 a3_0, .int .i64 a3_1] 41 (0, 0)) (by (with_reducible repeat (first | refine kN ?_ _ | refine kD ?_ | refine kA ?_ _)); exact BK283.out)) (bZ (by repeat (first | (with_reducible first | exact HB.out | apply bA | apply bN | apply bD | refine bE ?_ GE280.out | refine bE ?_ GE281.out | refine bE ?_ GE282.out | refine bE ?_ GE283.out) | exact HB.out)))); have n1_ := Aside0.mk (kB (g := gb280) (o := .cells #[.int .i64 a0_0, .int .i64 a0_1] 41 (0, 0)) (by (with_reducible repeat (first | refine kN ?_ _ | refine kD ?_ | refine kA ?_ _)); exact BK280.out) hb); have n2_ := Aside0.mk (kB (g := gb281) (o := .cells #[.int .i64 a1_0, .int .i64 a1_1] 41 (0, 0)) (by (with_reducible repeat (first | refine kN ?_ _ | refine kD ?_ | refine kA ?_ _)); exact BK281.out) hb); have n3_ := Aside0.mk (kB (g := gb282) (o := .cells #[.int .i64 a2_0, .int .i64 a2_1] 41 (0, 0)) (by (with_reducible repeat (first | refine kN ?_ _ | refine kD ?_ | refine kA ?_ _)); exact BK282.out) hb); have n4_ := Aside0.mk (kB (g := gb283) (o := .cells #[.int .i64 a3_0, .int .i64 a3_1] 41 (0, 0)) (by (with_reducible repeat (first | refine kN ?_ _ | refine kD ?_ | refine kA ?_ _)); exact BK283.out) hb); have n5_ := Aside0.mk (bS (by repeat (first | (with_reducible first | exact HB.out | apply bA | apply bN | apply bD | refine bE ?_ GE280.out | refine bE ?_ GE281.out | refine bE ?_ GE282.out | refine bE ?_ GE283.out) | exact HB.out)) hb); clear BK280; clear BK281; clear BK282; clear BK283; clear HB; have HO286 := n0_; have BK280 := n1_; have BK281 := n2_; have BK282 := n3_; have BK283 := n4_; have HB := n5_; clear n0_ n1_ n2_ n3_ n4_ n5_; clear hb ho24; obtain ⟨Ao25, co25, eo25⟩ := Kd.R_slice HO286.out; subst eo25) | ((with_reducible refine gate_callee (f := 53) rfl ?_); refine goesL_ (some 15) rfl rfl Try.func53 (by kernel_rfl) rfl #[.slice Ao25 y284.length co25] rfl (by (try simp only [sD, sE, sF]); first | done | rfl | (simp only [sG, sH]; rfl)) ?_; (with_reducible refine (point_right.calls k _ _ y284 true _ ?side1 ?side2 A5.out).mono ?_); (case side1 => repeat (first | exact (Kd.R_reads' HO286.out).2.2 | (with_reducible refine Kd.C_alloc ?_ _) | (with_reducible refine Kd.C_drewN ?_ _) | (with_reducible refine Kd.C_drew ?_))); (case side2 => exact (Kd.R_reads' HO286.out).2.1); rintro e w26 ⟨rfl, hb⟩; refine ⟨_, rfl, ?_⟩; have n0_ := Aside0.mk (Kd.R_below (by (with_reducible repeat (first | apply Kd.R_alloc | apply Kd.R_drewN | apply Kd.R_drew)); exact HO286.out) hb); have n1_ := Aside0.mk (kB (g := gb280) (o := .cells #[.int .i64 a0_0, .int .i64 a0_1] 41 (0, 0)) (by (with_reducible repeat (first | refine kN ?_ _ | refine kD ?_ | refine kA ?_ _)); exact BK280.out) hb); have n2_ := Aside0.mk (kB (g := gb281) (o := .cells #[.int .i64 a1_0, .int .i64 a1_1] 41 (0, 0)) (by (with_reducible repeat (first | refine kN ?_ _ | refine kD ?_ | refine kA ?_ _)); exact BK281.out) hb); have n3_ := Aside0.mk (kB (g := gb282) (o := .cells #[.int .i64 a2_0, .int .i64 a2_1] 41 (0, 0)) (by (with_reducible repeat (first | refine kN ?_ _ | refine kD ?_ | refine kA ?_ _)); exact BK282.out) hb); have n4_ := Aside0.mk (kB (g := gb283) (o := .cells #[.int .i64 a3_0, .int .i64 a3_1] 41 (0, 0)) (by (with_reducible repeat (first | refine kN ?_ _ | refine kD ?_ | refine kA ?_ _)); exact BK283.out) hb); have n5_ := Aside0.mk (bS (by repeat (first | (with_reducible first | exact HB.out | apply bA | apply bN | apply bD | refine bE ?_ GE280.out | refine bE ?_ GE281.out | refine bE ?_ GE282.out | refine bE ?_ GE283.out) | exact HB.out)) hb); clear HO286; clear BK280; clear BK281; clear BK282; clear BK283; clear HB; have HO286 := n0_; have BK280 := n1_; have BK281 := n2_; have BK282 := n3_; have BK283 := n4_; have HB := n5_; clear n0_ n1_ n2_ n3_ n4_ n5_; (try clear hb); (try clear hb2); (try clear hk); (try clear hi); have hcz27_0 : w26.cell? ⟨gb280, 0, none⟩ = some (.int .i64 a0_0) := (kC BK280.out 0).trans rfl; have hcz27_1 : w26.cell? ⟨gb280, 1, none⟩ = some (.int .i64 a0_1) := (kC BK280.out 1).trans rfl; have hfz27_0 := kZ BK280.out 0; have hfz27_1 := kZ BK280.out 1; have hcz28_0 : w26.cell? ⟨gb282, 0, none⟩ = some (.int .i64 a2_0) := (kC BK282.out 0).trans rfl; have hcz28_1 : w26.cell? ⟨gb282, 1, none⟩ = some (.int .i64 a2_1) := (kC BK282.out 1).trans rfl; have hfz28_0 := kZ BK282.out 0; have hfz28_1 := kZ BK282.out 1; have hcz29_0 : w26.cell? ⟨gb283, 0, none⟩ = some (.int .i64 a3_0) := (kC BK283.out 0).trans rfl; have hcz29_1 : w26.cell? ⟨gb283, 1, none⟩ = some (.int .i64 a3_1) := (kC BK283.out 1).trans rfl; have hfz29_0 := kZ BK283.out 0; have hfz29_1 := kZ BK283.out 1) | ((with_reducible refine gate_callee (f := 47) rfl ?_); refine goesL_ (some 21) rfl rfl Try.func47 (by kernel_rfl) rfl #[.agg #[.int .i64 a0_0, .int .i64 a0_1], .agg #[.int .i64 a2_0, .int .i64 a2_1], .agg #[.int .i64 a3_0, .int .i64 a3_1]] rfl (by (try simp only [sD, sE, sF]); first | done | rfl | (simp only [sG, sH]; rfl)) ?_; (with_reducible refine (point_On.calls k a0_0 a0_1 a2_0 a2_1 a3_0 a3_1 t288 _ A7.out).mono ?_); rintro e w30 ⟨rfl, hb⟩; refine ⟨_, rfl, ?_⟩; have n0_ := Aside0.mk (Kd.R_below (by (with_reducible repeat (first | apply Kd.R_alloc | apply Kd.R_drewN | apply Kd.R_drew)); exact HO286.out) hb); have n1_ := Aside0.mk (kB (g := gb280) (o := .cells #[.int .i64 a0_0, .int .i64 a0_1] 41 (0, 0)) (by (with_reducible repeat (first | refine kN ?_ _ | refine kD ?_ | refine kA ?_ _)); exact BK280.out) hb); have n2_ := Aside0.mk (kB (g := gb281) (o := .cells #[.int .i64 a1_0, .int .i64 a1_1] 41 (0, 0)) (by (with_reducible repeat (first | refine kN ?_ _ | refine kD ?_ | refine kA ?_ _)); exact BK281.out) hb); have n3_ := Aside0.mk (kB (g := gb282) (o := .cells #[.int .i64 a2_0, .int .i64 a2_1] 41 (0, 0)) (by (with_reducible repeat (first | refine kN ?_ _ | refine kD ?_ | refine kA ?_ _)); exact BK282.out) hb); have n4_ := Aside0.mk (kB (g := gb283) (o := .cells #[.int .i64 a3_0, .int .i64 a3_1] 41 (0, 0)) (by (with_reducible repeat (first | refine kN ?_ _ | refine kD ?_ | refine kA ?_ _)); exact BK283.out) hb); have n5_ := Aside0.mk (bS (by repeat (first | (with_reducible first | exact HB.out | apply bA | apply bN | apply bD | refine bE ?_ GE280.out | refine bE ?_ GE281.out | refine bE ?_ GE282.out | refine bE ?_ GE283.out) | exact HB.out)) hb); clear HO286; clear BK280; clear BK281; clear BK282; clear BK283; clear HB; have HO286 := n0_; have BK280 := n1_; have BK281 := n2_; have BK282 := n3_; have BK283 := n4_; have HB := n5_; clear n0_ n1_ n2_ n3_ n4_ n5_; (try clear hb); (try clear hb2); (try clear hk); (try clear hi)))
  (try simp only [Act.put, sA, sB, sC])
  go_cut [17] (fun v17 wc => ∃ (kq : Nat) (x17_7 : Bool), v17 = .bool x17_7 ∧ Aside0 (point_Meet.j0 kq x17_7 a0_0 a0_1 a1_0 a1_1 a2_0 a2_1 a3_0 a3_1 = some r) ∧ Aside0 (kq ≤ k) ∧ Aside0 (wc.heap[gb280]? = some (.cells #[.int .i64 a0_0, .int .i64 a0_1] 41 (0, 0))) ∧ Aside0 (wc.heap[gb281]? = some (.cells #[.int .i64 a1_0, .int .i64 a1_1] 41 (0, 0))) ∧ Aside0 (wc.heap[gb282]? = some (.cells #[.int .i64 a2_0, .int .i64 a2_1] 41 (0, 0))) ∧ Aside0 (wc.heap[gb283]? = some (.cells #[.int .i64 a3_0, .int .i64 a3_1] 41 (0, 0))) ∧ Aside0 (Below w.heap.size w wc))
  case first =>
   have H := HC8.out
   clear HC8
   by_cases c31 : t288 = true
   ·subst c31
    have H1 : (point_Meet.j0 k true a0_0 a0_1 a1_0 a1_1 a2_0 a2_1 a3_0 a3_1) = some r := by rw [if_pos rfl] at H; exact H
    clear H
    have H := H1
    clear H1
    have H' := Aside0.mk H
    clear H
    go_wp2
    go_meet
    case rel => exact ⟨_, (true), (by first | rfl | (simp; done) | (simp [*]; done)), H', ⟨by first | omega | exact Nat.le_refl _⟩, ⟨by (with_reducible repeat (first | refine kN ?_ _ | refine kD ?_ | refine kA ?_ _)); exact BK280.out⟩, ⟨by (with_reducible repeat (first | refine kN ?_ _ | refine kD ?_ | refine kA ?_ _)); exact BK281.out⟩, ⟨by (with_reducible repeat (first | refine kN ?_ _ | refine kD ?_ | refine kA ?_ _)); exact BK282.out⟩, ⟨by (with_reducible repeat (first | refine kN ?_ _ | refine kD ?_ | refine kA ?_ _)); exact BK283.out⟩, ⟨by repeat (first | (with_reducible first | exact HB.out | apply bA | apply bN | apply bD | refine bE ?_ GE280.out | refine bE ?_ GE281.out | refine bE ?_ GE282.out | refine bE ?_ GE283.out) | exact HB.out)⟩⟩
   ·replace c31 := Bool.eq_false_iff.mpr c31
    subst c31
    have H1 : ((point_On.f k a1_0 a1_1 a2_0 a2_1 a3_0 a3_1).bind fun t289 => (if t289 = true then (point_Meet.j0 k t289 a0_0 a0_1 a1_0 a1_1 a2_0 a2_1 a3_0 a3_1) else ((point_On.f k a2_0 a2_1 a0_0 a0_1 a1_0 a1_1).bind fun t290 => (if t290 = true then (point_Meet.j0 k t290 a0_0 a0_1 a1_0 a1_1 a2_0 a2_1 a3_0 a3_1) else ((point_On.f k a3_0 a3_1 a0_0 a0_1 a1_0 a1_1).bind fun t291 => (point_Meet.j0 k t291 a0_0 a0_1 a1_0 a1_1 a2_0 a2_1 a3_0 a3_1)))))) = some r := by rw [if_neg (show ¬ (false = true) by decide)] at H; exact H
    clear H
    have H := H1
    clear H1
    replace H := Option.bind_eq_some_iff.mp H
    obtain ⟨t289, A320, H⟩ := H
    replace H : (if t289 = true then (point_Meet.j0 k t289 a0_0 a0_1 a1_0 a1_1 a2_0 a2_1 a3_0 a3_1) else ((point_On.f k a2_0 a2_1 a0_0 a0_1 a1_0 a1_1).bind fun t290 => (if t290 = true then (point_Meet.j0 k t290 a0_0 a0_1 a1_0 a1_1 a2_0 a2_1 a3_0 a3_1) else ((point_On.f k a3_0 a3_1 a0_0 a0_1 a1_0 a1_1).bind fun t291 => (point_Meet.j0 k t291 a0_0 a0_1 a1_0 a1_1 a2_0 a2_1 a3_0 a3_1))))) = some r := H
    have A32 := Aside0.mk A320
    clear A320
    by_cases c33 : t289 = true
    ·subst c33
     have H1 : (point_Meet.j0 k true a0_0 a0_1 a1_0 a1_1 a2_0 a2_1 a3_0 a3_1) = some r := by rw [if_pos rfl] at H; exact H
     clear H
     have H := H1
     clear H1
     have H' := Aside0.mk H
     clear H
     have hnb34 := NB281_280.out
     have hnc34 := NB280_281.out
     have hnb35 := NB281_282.out
     have hnc35 := NB282_281.out
     have hnb36 := NB281_283.out
     have hnc36 := NB283_281.out
     have hcz37_0 : w30.cell? ⟨gb281, 0, none⟩ = some (.int .i64 a1_0) := (kC BK281.out 0).trans rfl
     have hcz37_1 : w30.cell? ⟨gb281, 1, none⟩ = some (.int .i64 a1_1) := (kC BK281.out 1).trans rfl
     have hfz37_0 := kZ BK281.out 0
     have hfz37_1 := kZ BK281.out 1
     have hnb38 := NB282_280.out
     have hnc38 := NB280_282.out
     have hnb39 := NB282_283.out
     have hnc39 := NB283_282.out
     have hcz40_0 : w30.cell? ⟨gb282, 0, none⟩ = some (.int .i64 a2_0) := (kC BK282.out 0).trans rfl
     have hcz40_1 : w30.cell? ⟨gb282, 1, none⟩ = some (.int .i64 a2_1) := (kC BK282.out 1).trans rfl
     have hfz40_0 := kZ BK282.out 0
     have hfz40_1 := kZ BK282.out 1
     have hnb41 := NB283_280.out
     have hnc41 := NB280_283.out
     have hcz42_0 : w30.cell? ⟨gb283, 0, none⟩ = some (.int .i64 a3_0) := (kC BK283.out 0).trans rfl
     have hcz42_1 : w30.cell? ⟨gb283, 1, none⟩ = some (.int .i64 a3_1) := (kC BK283.out 1).trans rfl
     have hfz42_0 := kZ BK283.out 0
     have hfz42_1 := kZ BK283.out 1
     go_wp2_with (first | ((with_reducible refine gate_callee (f := 47) rfl ?_); refine goesL_ (some 25) rfl rfl Try.func47 (by kernel_rfl) rfl #[.agg #[.int .i64 a1_0, .int .i64 a1_1], .agg #[.int .i64 a2_0, .int .i64 a2_1], .agg #[.int .i64 a3_0, .int .i64 a3_1]] rfl (by (try simp only [sD, sE, sF]); first | done | rfl | (simp only [sG, sH]; rfl)) ?_; (with_reducible refine (point_On.calls k a1_0 a1_1 a2_0 a2_1 a3_0 a3_1 true _ A32.out).mono ?_); rintro e w43 ⟨rfl, hb⟩; refine ⟨_, rfl, ?_⟩; have n0_ := Aside0.mk (Kd.R_below (by (with_reducible repeat (first | apply Kd.R_alloc | apply Kd.R_drewN | apply Kd.R_drew)); exact HO286.out) hb); have n1_ := Aside0.mk (kB (g := gb280) (o := .cells #[.int .i64 a0_0, .int .i64 a0_1] 41 (0, 0)) (by (with_reducible repeat (first | refine kN ?_ _ | refine kD ?_ | refine kA ?_ _)); exact BK280.out) hb); have n2_ := Aside0.mk (kB (g := gb281) (o := .cells #[.int .i64 a1_0, .int .i64 a1_1] 41 (0, 0)) (by (with_reducible repeat (first | refine kN ?_ _ | refine kD ?_ | refine kA ?_ _)); exact BK281.out) hb); have n3_ := Aside0.mk (kB (g := gb282) (o := .cells #[.int .i64 a2_0, .int .i64 a2_1] 41 (0, 0)) (by (with_reducible repeat (first | refine kN ?_ _ | refine kD ?_ | refine kA ?_ _)); exact BK282.out) hb); have n4_ := Aside0.mk (kB (g := gb283) (o := .cells #[.int .i64 a3_0, .int .i64 a3_1] 41 (0, 0)) (by (with_reducible repeat (first | refine kN ?_ _ | refine kD ?_ | refine kA ?_ _)); exact BK283.out) hb); have n5_ := Aside0.mk (bS (by repeat (first | (with_reducible first | exact HB.out | apply bA | apply bN | apply bD | refine bE ?_ GE280.out | refine bE ?_ GE281.out | refine bE ?_ GE282.out | refine bE ?_ GE283.out) | exact HB.out)) hb); clear HO286; clear BK280; clear BK281; clear BK282; clear BK283; clear HB; have HO286 := n0_; have BK280 := n1_; have BK281 := n2_; have BK282 := n3_; have BK283 := n4_; have HB := n5_; clear n0_ n1_ n2_ n3_ n4_ n5_; (try clear hb); (try clear hb2); (try clear hk); (try clear hi)))
     go_meet
     case rel => exact ⟨_, (true), (by first | rfl | (simp; done) | (simp [*]; done)), H', ⟨by first | omega | exact Nat.le_refl _⟩, ⟨by (with_reducible repeat (first | refine kN ?_ _ | refine kD ?_ | refine kA ?_ _)); exact BK280.out⟩, ⟨by (with_reducible repeat (first | refine kN ?_ _ | refine kD ?_ | refine kA ?_ _)); exact BK281.out⟩, ⟨by (with_reducible repeat (first | refine kN ?_ _ | refine kD ?_ | refine kA ?_ _)); exact BK282.out⟩, ⟨by (with_reducible repeat (first | refine kN ?_ _ | refine kD ?_ | refine kA ?_ _)); exact BK283.out⟩, ⟨by repeat (first | (with_reducible first | exact HB.out | apply bA | apply bN | apply bD | refine bE ?_ GE280.out | refine bE ?_ GE281.out | refine bE ?_ GE282.out | refine bE ?_ GE283.out) | exact HB.out)⟩⟩
    ·replace c33 := Bool.eq_false_iff.mpr c33
     subst c33
     have H1 : ((point_On.f k a2_0 a2_1 a0_0 a0_1 a1_0 a1_1).bind fun t290 => (if t290 = true then (point_Meet.j0 k t290 a0_0 a0_1 a1_0 a1_1 a2_0 a2_1 a3_0 a3_1) else ((point_On.f k a3_0 a3_1 a0_0 a0_1 a1_0 a1_1).bind fun t291 => (point_Meet.j0 k t291 a0_0 a0_1 a1_0 a1_1 a2_0 a2_1 a3_0 a3_1)))) = some r := by rw [if_neg (show ¬ (false = true) by decide)] at H; exact H
     clear H
     have H := H1
     clear H1
     replace H := Option.bind_eq_some_iff.mp H
     obtain ⟨t290, A440, H⟩ := H
     replace H : (if t290 = true then (point_Meet.j0 k t290 a0_0 a0_1 a1_0 a1_1 a2_0 a2_1 a3_0 a3_1) else ((point_On.f k a3_0 a3_1 a0_0 a0_1 a1_0 a1_1).bind fun t291 => (point_Meet.j0 k t291 a0_0 a0_1 a1_0 a1_1 a2_0 a2_1 a3_0 a3_1))) = some r := H
     have A44 := Aside0.mk A440
     clear A440
     by_cases c45 : t290 = true
     ·subst c45
      have H1 : (point_Meet.j0 k true a0_0 a0_1 a1_0 a1_1 a2_0 a2_1 a3_0 a3_1) = some r := by rw [if_pos rfl] at H; exact H
      clear H
      have H := H1
      clear H1
      have H' := Aside0.mk H
      clear H
      have hnb46 := NB281_280.out
      have hnc46 := NB280_281.out
      have hnb47 := NB281_282.out
      have hnc47 := NB282_281.out
      have hnb48 := NB281_283.out
      have hnc48 := NB283_281.out
      have hcz49_0 : w30.cell? ⟨gb281, 0, none⟩ = some (.int .i64 a1_0) := (kC BK281.out 0).trans rfl
      have hcz49_1 : w30.cell? ⟨gb281, 1, none⟩ = some (.int .i64 a1_1) := (kC BK281.out 1).trans rfl
      have hfz49_0 := kZ BK281.out 0
      have hfz49_1 := kZ BK281.out 1
      have hnb50 := NB282_280.out
      have hnc50 := NB280_282.out
      have hnb51 := NB282_283.out
      have hnc51 := NB283_282.out
      have hcz52_0 : w30.cell? ⟨gb282, 0, none⟩ = some (.int .i64 a2_0) := (kC BK282.out 0).trans rfl
      have hcz52_1 : w30.cell? ⟨gb282, 1, none⟩ = some (.int .i64 a2_1) := (kC BK282.out 1).trans rfl
      have hfz52_0 := kZ BK282.out 0
      have hfz52_1 := kZ BK282.out 1
      have hnb53 := NB283_280.out
      have hnc53 := NB280_283.out
      have hcz54_0 : w30.cell? ⟨gb283, 0, none⟩ = some (.int .i64 a3_0) := (kC BK283.out 0).trans rfl
      have hcz54_1 : w30.cell? ⟨gb283, 1, none⟩ = some (.int .i64 a3_1) := (kC BK283.out 1).trans rfl
      have hfz54_0 := kZ BK283.out 0
      have hfz54_1 := kZ BK283.out 1
      have tk1_0_ : True := trivial
      have tk1_1_ : True := trivial
      go_wp2_with (first | ((with_reducible refine gate_callee (f := 47) rfl ?_); have q_ := tk1_0_; clear q_ tk1_0_; refine goesL_ (some 25) rfl rfl Try.func47 (by kernel_rfl) rfl #[.agg #[.int .i64 a1_0, .int .i64 a1_1], .agg #[.int .i64 a2_0, .int .i64 a2_1], .agg #[.int .i64 a3_0, .int .i64 a3_1]] rfl (by (try simp only [sD, sE, sF]); first | done | rfl | (simp only [sG, sH]; rfl)) ?_; (with_reducible refine (point_On.calls k a1_0 a1_1 a2_0 a2_1 a3_0 a3_1 false _ A32.out).mono ?_); rintro e w55 ⟨rfl, hb⟩; refine ⟨_, rfl, ?_⟩; have n0_ := Aside0.mk (Kd.R_below (by (with_reducible repeat (first | apply Kd.R_alloc | apply Kd.R_drewN | apply Kd.R_drew)); exact HO286.out) hb); have n1_ := Aside0.mk (kB (g := gb280) (o := .cells #[.int .i64 a0_0, .int .i64 a0_1] 41 (0, 0)) (by (with_reducible repeat (first | refine kN ?_ _ | refine kD ?_ | refine kA ?_ _)); exact BK280.out) hb); have n2_ := Aside0.mk (kB (g := gb281) (o := .cells #[.int .i64 a1_0, .int .i64 a1_1] 41 (0, 0)) (by (with_reducible repeat (first | refine kN ?_ _ | refine kD ?_ | refine kA ?_ _)); exact BK281.out) hb); have n3_ := Aside0.mk (kB (g := gb282) (o := .cells #[.int .i64 a2_0, .int .i64 a2_1] 41 (0, 0)) (by (with_reducible repeat (first | refine kN ?_ _ | refine kD ?_ | refine kA ?_ _)); exact BK282.out) hb); have n4_ := Aside0.mk (kB (g := gb283) (o := .cells #[.int .i64 a3_0, .int .i64 a3_1] 41 (0, 0)) (by (with_reducible repeat (first | refine kN ?_ _ | refine kD ?_ | refine kA ?_ _)); exact BK283.out) hb); have n5_ := Aside0.mk (bS (by repeat (first | (with_reducible first | exact HB.out | apply bA | apply bN | apply bD | refine bE ?_ GE280.out | refine bE ?_ GE281.out | refine bE ?_ GE282.out | refine bE ?_ GE283.out) | exact HB.out)) hb); clear HO286; clear BK280; clear BK281; clear BK282; clear BK283; clear HB; have HO286 := n0_; have BK280 := n1_; have BK281 := n2_; have BK282 := n3_; have BK283 := n4_; have HB := n5_; clear n0_ n1_ n2_ n3_ n4_ n5_; (try clear hb); (try clear hb2); (try clear hk); (try clear hi); have hcz56_0 : w55.cell? ⟨gb282, 0, none⟩ = some (.int .i64 a2_0) := (kC BK282.out 0).trans rfl; have hcz56_1 : w55.cell? ⟨gb282, 1, none⟩ = some (.int .i64 a2_1) := (kC BK282.out 1).trans rfl; have hfz56_0 := kZ BK282.out 0; have hfz56_1 := kZ BK282.out 1; have hcz57_0 : w55.cell? ⟨gb280, 0, none⟩ = some (.int .i64 a0_0) := (kC BK280.out 0).trans rfl; have hcz57_1 : w55.cell? ⟨gb280, 1, none⟩ = some (.int .i64 a0_1) := (kC BK280.out 1).trans rfl; have hfz57_0 := kZ BK280.out 0; have hfz57_1 := kZ BK280.out 1; have hcz58_0 : w55.cell? ⟨gb281, 0, none⟩ = some (.int .i64 a1_0) := (kC BK281.out 0).trans rfl; have hcz58_1 : w55.cell? ⟨gb281, 1, none⟩ = some (.int .i64 a1_1) := (kC BK281.out 1).trans rfl; have hfz58_0 := kZ BK281.out 0; have hfz58_1 := kZ BK281.out 1) | ((with_reducible refine gate_callee (f := 47) rfl ?_); have q_ := tk1_1_; clear q_ tk1_1_; refine goesL_ (some 29) rfl rfl Try.func47 (by kernel_rfl) rfl #[.agg #[.int .i64 a2_0, .int .i64 a2_1], .agg #[.int .i64 a0_0, .int .i64 a0_1], .agg #[.int .i64 a1_0, .int .i64 a1_1]] rfl (by (try simp only [sD, sE, sF]); first | done | rfl | (simp only [sG, sH]; rfl)) ?_; (with_reducible refine (point_On.calls k a2_0 a2_1 a0_0 a0_1 a1_0 a1_1 true _ A44.out).mono ?_); rintro e w59 ⟨rfl, hb⟩; refine ⟨_, rfl, ?_⟩; have n0_ := Aside0.mk (Kd.R_below (by (with_reducible repeat (first | apply Kd.R_alloc | apply Kd.R_drewN | apply Kd.R_drew)); exact HO286.out) hb); have n1_ := Aside0.mk (kB (g := gb280) (o := .cells #[.int .i64 a0_0, .int .i64 a0_1] 41 (0, 0)) (by (with_reducible repeat (first | refine kN ?_ _ | refine kD ?_ | refine kA ?_ _)); exact BK280.out) hb); have n2_ := Aside0.mk (kB (g := gb281) (o := .cells #[.int .i64 a1_0, .int .i64 a1_1] 41 (0, 0)) (by (with_reducible repeat (first | refine kN ?_ _ | refine kD ?_ | refine kA ?_ _)); exact BK281.out) hb); have n3_ := Aside0.mk (kB (g := gb282) (o := .cells #[.int .i64 a2_0, .int .i64 a2_1] 41 (0, 0)) (by (with_reducible repeat (first | refine kN ?_ _ | refine kD ?_ | refine kA ?_ _)); exact BK282.out) hb); have n4_ := Aside0.mk (kB (g := gb283) (o := .cells #[.int .i64 a3_0, .int .i64 a3_1] 41 (0, 0)) (by (with_reducible repeat (first | refine kN ?_ _ | refine kD ?_ | refine kA ?_ _)); exact BK283.out) hb); have n5_ := Aside0.mk (bS (by repeat (first | (with_reducible first | exact HB.out | apply bA | apply bN | apply bD | refine bE ?_ GE280.out | refine bE ?_ GE281.out | refine bE ?_ GE282.out | refine bE ?_ GE283.out) | exact HB.out)) hb); clear HO286; clear BK280; clear BK281; clear BK282; clear BK283; clear HB; have HO286 := n0_; have BK280 := n1_; have BK281 := n2_; have BK282 := n3_; have BK283 := n4_; have HB := n5_; clear n0_ n1_ n2_ n3_ n4_ n5_; (try clear hb); (try clear hb2); (try clear hk); (try clear hi)))
      go_meet
      case rel => exact ⟨_, (true), (by first | rfl | (simp; done) | (simp [*]; done)), H', ⟨by first | omega | exact Nat.le_refl _⟩, ⟨by (with_reducible repeat (first | refine kN ?_ _ | refine kD ?_ | refine kA ?_ _)); exact BK280.out⟩, ⟨by (with_reducible repeat (first | refine kN ?_ _ | refine kD ?_ | refine kA ?_ _)); exact BK281.out⟩, ⟨by (with_reducible repeat (first | refine kN ?_ _ | refine kD ?_ | refine kA ?_ _)); exact BK282.out⟩, ⟨by (with_reducible repeat (first | refine kN ?_ _ | refine kD ?_ | refine kA ?_ _)); exact BK283.out⟩, ⟨by repeat (first | (with_reducible first | exact HB.out | apply bA | apply bN | apply bD | refine bE ?_ GE280.out | refine bE ?_ GE281.out | refine bE ?_ GE282.out | refine bE ?_ GE283.out) | exact HB.out)⟩⟩
     ·replace c45 := Bool.eq_false_iff.mpr c45
      subst c45
      have H1 : ((point_On.f k a3_0 a3_1 a0_0 a0_1 a1_0 a1_1).bind fun t291 => (point_Meet.j0 k t291 a0_0 a0_1 a1_0 a1_1 a2_0 a2_1 a3_0 a3_1)) = some r := by rw [if_neg (show ¬ (false = true) by decide)] at H; exact H
      clear H
      have H := H1
      clear H1
      replace H := Option.bind_eq_some_iff.mp H
      obtain ⟨t291, A600, H⟩ := H
      replace H : (point_Meet.j0 k t291 a0_0 a0_1 a1_0 a1_1 a2_0 a2_1 a3_0 a3_1) = some r := H
      have A60 := Aside0.mk A600
      clear A600
      have H' := Aside0.mk H
      clear H
      have hnb61 := NB281_280.out
      have hnc61 := NB280_281.out
      have hnb62 := NB281_282.out
      have hnc62 := NB282_281.out
      have hnb63 := NB281_283.out
      have hnc63 := NB283_281.out
      have hcz64_0 : w30.cell? ⟨gb281, 0, none⟩ = some (.int .i64 a1_0) := (kC BK281.out 0).trans rfl
      have hcz64_1 : w30.cell? ⟨gb281, 1, none⟩ = some (.int .i64 a1_1) := (kC BK281.out 1).trans rfl
      have hfz64_0 := kZ BK281.out 0
      have hfz64_1 := kZ BK281.out 1
      have hnb65 := NB282_280.out
      have hnc65 := NB280_282.out
      have hnb66 := NB282_283.out
      have hnc66 := NB283_282.out
      have hcz67_0 : w30.cell? ⟨gb282, 0, none⟩ = some (.int .i64 a2_0) := (kC BK282.out 0).trans rfl
      have hcz67_1 : w30.cell? ⟨gb282, 1, none⟩ = some (.int .i64 a2_1) := (kC BK282.out 1).trans rfl
      have hfz67_0 := kZ BK282.out 0
      have hfz67_1 := kZ BK282.out 1
      have hnb68 := NB283_280.out
      have hnc68 := NB280_283.out
      have hcz69_0 : w30.cell? ⟨gb283, 0, none⟩ = some (.int .i64 a3_0) := (kC BK283.out 0).trans rfl
      have hcz69_1 : w30.cell? ⟨gb283, 1, none⟩ = some (.int .i64 a3_1) := (kC BK283.out 1).trans rfl
      have hfz69_0 := kZ BK283.out 0
      have hfz69_1 := kZ BK283.out 1
      have tk2_0_ : True := trivial
      have tk2_1_ : True := trivial
      have tk2_2_ : True := trivial
      go_wp2_with (first | ((with_reducible refine gate_callee (f := 47) rfl ?_); have q_ := tk2_0_; clear q_ tk2_0_; refine goesL_ (some 25) rfl rfl Try.func47 (by kernel_rfl) rfl #[.agg #[.int .i64 a1_0, .int .i64 a1_1], .agg #[.int .i64 a2_0, .int .i64 a2_1], .agg #[.int .i64 a3_0, .int .i64 a3_1]] rfl (by (try simp only [sD, sE, sF]); first | done | rfl | (simp only [sG, sH]; rfl)) ?_; (with_reducible refine (point_On.calls k a1_0 a1_1 a2_0 a2_1 a3_0 a3_1 false _ A32.out).mono ?_); rintro e w70 ⟨rfl, hb⟩; refine ⟨_, rfl, ?_⟩; have n0_ := Aside0.mk (Kd.R_below (by (with_reducible repeat (first | apply Kd.R_alloc | apply Kd.R_drewN | apply Kd.R_drew)); exact HO286.out) hb); have n1_ := Aside0.mk (kB (g := gb280) (o := .cells #[.int .i64 a0_0, .int .i64 a0_1] 41 (0, 0)) (by (with_reducible repeat (first | refine kN ?_ _ | refine kD ?_ | refine kA ?_ _)); exact BK280.out) hb); have n2_ := Aside0.mk (kB (g := gb281) (o := .cells #[.int .i64 a1_0, .int .i64 a1_1] 41 (0, 0)) (by (with_reducible repeat (first | refine kN ?_ _ | refine kD ?_ | refine kA ?_ _)); exact BK281.out) hb); have n3_ := Aside0.mk (kB (g := gb282) (o := .cells #[.int .i64 a2_0, .int .i64 a2_1] 41 (0, 0)) (by (with_reducible repeat (first | refine kN ?_ _ | refine kD ?_ | refine kA ?_ _)); exact BK282.out) hb); have n4_ := Aside0.mk (kB (g := gb283) (o := .cells #[.int .i64 a3_0, .int .i64 a3_1] 41 (0, 0)) (by (with_reducible repeat (first | refine kN ?_ _ | refine kD ?_ | refine kA ?_ _)); exact BK283.out) hb); have n5_ := Aside0.mk (bS (by repeat (first | (with_reducible first | exact HB.out | apply bA | apply bN | apply bD | refine bE ?_ GE280.out | refine bE ?_ GE281.out | refine bE ?_ GE282.out | refine bE ?_ GE283.out) | exact HB.out)) hb); clear HO286; clear BK280; clear BK281; clear BK282; clear BK283; clear HB; have HO286 := n0_; have BK280 := n1_; have BK281 := n2_; have BK282 := n3_; have BK283 := n4_; have HB := n5_; clear n0_ n1_ n2_ n3_ n4_ n5_; (try clear hb); (try clear hb2); (try clear hk); (try clear hi); have hcz71_0 : w70.cell? ⟨gb282, 0, none⟩ = some (.int .i64 a2_0) := (kC BK282.out 0).trans rfl; have hcz71_1 : w70.cell? ⟨gb282, 1, none⟩ = some (.int .i64 a2_1) := (kC BK282.out 1).trans rfl; have hfz71_0 := kZ BK282.out 0; have hfz71_1 := kZ BK282.out 1; have hcz72_0 : w70.cell? ⟨gb280, 0, none⟩ = some (.int .i64 a0_0) := (kC BK280.out 0).trans rfl; have hcz72_1 : w70.cell? ⟨gb280, 1, none⟩ = some (.int .i64 a0_1) := (kC BK280.out 1).trans rfl; have hfz72_0 := kZ BK280.out 0; have hfz72_1 := kZ BK280.out 1; have hcz73_0 : w70.cell? ⟨gb281, 0, none⟩ = some (.int .i64 a1_0) := (kC BK281.out 0).trans rfl; have hcz73_1 : w70.cell? ⟨gb281, 1, none⟩ = some (.int .i64 a1_1) := (kC BK281.out 1).trans rfl; have hfz73_0 := kZ BK281.out 0; have hfz73_1 := kZ BK281.out 1) | ((with_reducible refine gate_callee (f := 47) rfl ?_); have q_ := tk2_1_; clear q_ tk2_1_; refine goesL_ (some 29) rfl rfl Try.func47 (by kernel_rfl) rfl #[.agg #[.int .i64 a2_0, .int .i64 a2_1], .agg #[.int .i64 a0_0, .int .i64 a0_1], .agg #[.int .i64 a1_0, .int .i64 a1_1]] rfl (by (try simp only [sD, sE, sF]); first | done | rfl | (simp only [sG, sH]; rfl)) ?_; (with_reducible refine (point_On.calls k a2_0 a2_1 a0_0 a0_1 a1_0 a1_1 false _ A44.out).mono ?_); rintro e w74 ⟨rfl, hb⟩; refine ⟨_, rfl, ?_⟩; have n0_ := Aside0.mk (Kd.R_below (by (with_reducible repeat (first | apply Kd.R_alloc | apply Kd.R_drewN | apply Kd.R_drew)); exact HO286.out) hb); have n1_ := Aside0.mk (kB (g := gb280) (o := .cells #[.int .i64 a0_0, .int .i64 a0_1] 41 (0, 0)) (by (with_reducible repeat (first | refine kN ?_ _ | refine kD ?_ | refine kA ?_ _)); exact BK280.out) hb); have n2_ := Aside0.mk (kB (g := gb281) (o := .cells #[.int .i64 a1_0, .int .i64 a1_1] 41 (0, 0)) (by (with_reducible repeat (first | refine kN ?_ _ | refine kD ?_ | refine kA ?_ _)); exact BK281.out) hb); have n3_ := Aside0.mk (kB (g := gb282) (o := .cells #[.int .i64 a2_0, .int .i64 a2_1] 41 (0, 0)) (by (with_reducible repeat (first | refine kN ?_ _ | refine kD ?_ | refine kA ?_ _)); exact BK282.out) hb); have n4_ := Aside0.mk (kB (g := gb283) (o := .cells #[.int .i64 a3_0, .int .i64 a3_1] 41 (0, 0)) (by (with_reducible repeat (first | refine kN ?_ _ | refine kD ?_ | refine kA ?_ _)); exact BK283.out) hb); have n5_ := Aside0.mk (bS (by repeat (first | (with_reducible first | exact HB.out | apply bA | apply bN | apply bD | refine bE ?_ GE280.out | refine bE ?_ GE281.out | refine bE ?_ GE282.out | refine bE ?_ GE283.out) | exact HB.out)) hb); clear HO286; clear BK280; clear BK281; clear BK282; clear BK283; clear HB; have HO286 := n0_; have BK280 := n1_; have BK281 := n2_; have BK282 := n3_; have BK283 := n4_; have HB := n5_; clear n0_ n1_ n2_ n3_ n4_ n5_; (try clear hb); (try clear hb2); (try clear hk); (try clear hi); have hcz75_0 : w74.cell? ⟨gb283, 0, none⟩ = some (.int .i64 a3_0) := (kC BK283.out 0).trans rfl; have hcz75_1 : w74.cell? ⟨gb283, 1, none⟩ = some (.int .i64 a3_1) := (kC BK283.out 1).trans rfl; have hfz75_0 := kZ BK283.out 0; have hfz75_1 := kZ BK283.out 1; have hcz76_0 : w74.cell? ⟨gb280, 0, none⟩ = some (.int .i64 a0_0) := (kC BK280.out 0).trans rfl; have hcz76_1 : w74.cell? ⟨gb280, 1, none⟩ = some (.int .i64 a0_1) := (kC BK280.out 1).trans rfl; have hfz76_0 := kZ BK280.out 0; have hfz76_1 := kZ BK280.out 1; have hcz77_0 : w74.cell? ⟨gb281, 0, none⟩ = some (.int .i64 a1_0) := (kC BK281.out 0).trans rfl; have hcz77_1 : w74.cell? ⟨gb281, 1, none⟩ = some (.int .i64 a1_1) := (kC BK281.out 1).trans rfl; have hfz77_0 := kZ BK281.out 0; have hfz77_1 := kZ BK281.out 1) | ((with_reducible refine gate_callee (f := 47) rfl ?_); have q_ := tk2_2_; clear q_ tk2_2_; refine goesL_ (some 33) rfl rfl Try.func47 (by kernel_rfl) rfl #[.agg #[.int .i64 a3_0, .int .i64 a3_1], .agg #[.int .i64 a0_0, .int .i64 a0_1], .agg #[.int .i64 a1_0, .int .i64 a1_1]] rfl (by (try simp only [sD, sE, sF]); first | done | rfl | (simp only [sG, sH]; rfl)) ?_; (with_reducible refine (point_On.calls k a3_0 a3_1 a0_0 a0_1 a1_0 a1_1 t291 _ A60.out).mono ?_); rintro e w78 ⟨rfl, hb⟩; refine ⟨_, rfl, ?_⟩; have n0_ := Aside0.mk (Kd.R_below (by (with_reducible repeat (first | apply Kd.R_alloc | apply Kd.R_drewN | apply Kd.R_drew)); exact HO286.out) hb); have n1_ := Aside0.mk (kB (g := gb280) (o := .cells #[.int .i64 a0_0, .int .i64 a0_1] 41 (0, 0)) (by (with_reducible repeat (first | refine kN ?_ _ | refine kD ?_ | refine kA ?_ _)); exact BK280.out) hb); have n2_ := Aside0.mk (kB (g := gb281) (o := .cells #[.int .i64 a1_0, .int .i64 a1_1] 41 (0, 0)) (by (with_reducible repeat (first | refine kN ?_ _ | refine kD ?_ | refine kA ?_ _)); exact BK281.out) hb); have n3_ := Aside0.mk (kB (g := gb282) (o := .cells #[.int .i64 a2_0, .int .i64 a2_1] 41 (0, 0)) (by (with_reducible repeat (first | refine kN ?_ _ | refine kD ?_ | refine kA ?_ _)); exact BK282.out) hb); have n4_ := Aside0.mk (kB (g := gb283) (o := .cells #[.int .i64 a3_0, .int .i64 a3_1] 41 (0, 0)) (by (with_reducible repeat (first | refine kN ?_ _ | refine kD ?_ | refine kA ?_ _)); exact BK283.out) hb); have n5_ := Aside0.mk (bS (by repeat (first | (with_reducible first | exact HB.out | apply bA | apply bN | apply bD | refine bE ?_ GE280.out | refine bE ?_ GE281.out | refine bE ?_ GE282.out | refine bE ?_ GE283.out) | exact HB.out)) hb); clear HO286; clear BK280; clear BK281; clear BK282; clear BK283; clear HB; have HO286 := n0_; have BK280 := n1_; have BK281 := n2_; have BK282 := n3_; have BK283 := n4_; have HB := n5_; clear n0_ n1_ n2_ n3_ n4_ n5_; (try clear hb); (try clear hb2); (try clear hk); (try clear hi)))
      go_meet
      case rel => exact ⟨_, (t291), (by first | rfl | (simp; done) | (simp [*]; done)), H', ⟨by first | omega | exact Nat.le_refl _⟩, ⟨by (with_reducible repeat (first | refine kN ?_ _ | refine kD ?_ | refine kA ?_ _)); exact BK280.out⟩, ⟨by (with_reducible repeat (first | refine kN ?_ _ | refine kD ?_ | refine kA ?_ _)); exact BK281.out⟩, ⟨by (with_reducible repeat (first | refine kN ?_ _ | refine kD ?_ | refine kA ?_ _)); exact BK282.out⟩, ⟨by (with_reducible repeat (first | refine kN ?_ _ | refine kD ?_ | refine kA ?_ _)); exact BK283.out⟩, ⟨by repeat (first | (with_reducible first | exact HB.out | apply bA | apply bN | apply bD | refine bE ?_ GE280.out | refine bE ?_ GE281.out | refine bE ?_ GE282.out | refine bE ?_ GE283.out) | exact HB.out)⟩⟩
  case rest =>
   clear HC8
   try clear c1
   try clear c2
   try clear p2
   try clear c3
   try clear c4
   try clear c5
   try clear c6
   try clear c13
   try clear c14
   try clear c15
   try clear c17
   try clear c18
   try clear c20
   try clear c31
   try clear c33
   try clear c34
   try clear c35
   try clear c36
   try clear c38
   try clear c39
   try clear c41
   try clear c45
   try clear c46
   try clear c47
   try clear c48
   try clear c50
   try clear c51
   try clear c53
   try clear c58
   try clear c61
   try clear c62
   try clear c63
   try clear c65
   try clear c66
   try clear c68
   try clear hcz16_0
   try clear hcz16_1
   try clear hcz19_0
   try clear hcz19_1
   try clear hcz21_0
   try clear hcz21_1
   try clear hcz22_0
   try clear hcz22_1
   try clear hcz27_0
   try clear hcz27_1
   try clear hcz28_0
   try clear hcz28_1
   try clear hcz29_0
   try clear hcz29_1
   try clear hcz37_0
   try clear hcz37_1
   try clear hcz40_0
   try clear hcz40_1
   try clear hcz42_0
   try clear hcz42_1
   try clear hcz49_0
   try clear hcz49_1
   try clear hcz52_0
   try clear hcz52_1
   try clear hcz54_0
   try clear hcz54_1
   try clear hcz56_0
   try clear hcz56_1
   try clear hcz57_0
   try clear hcz57_1
   try clear hcz58_0
   try clear hcz58_1
   try clear hcz64_0
   try clear hcz64_1
   try clear hcz67_0
   try clear hcz67_1
   try clear hcz69_0
   try clear hcz69_1
   try clear hcz71_0
   try clear hcz71_1
   try clear hcz72_0
   try clear hcz72_1
   try clear hcz73_0
   try clear hcz73_1
   try clear hcz75_0
   try clear hcz75_1
   try clear hcz76_0
   try clear hcz76_1
   try clear hcz77_0
   try clear hcz77_1
   try clear hfz16_0
   try clear hfz16_1
   try clear hfz19_0
   try clear hfz19_1
   try clear hfz21_0
   try clear hfz21_1
   try clear hfz22_0
   try clear hfz22_1
   try clear hfz27_0
   try clear hfz27_1
   try clear hfz28_0
   try clear hfz28_1
   try clear hfz29_0
   try clear hfz29_1
   try clear hfz37_0
   try clear hfz37_1
   try clear hfz40_0
   try clear hfz40_1
   try clear hfz42_0
   try clear hfz42_1
   try clear hfz49_0
   try clear hfz49_1
   try clear hfz52_0
   try clear hfz52_1
   try clear hfz54_0
   try clear hfz54_1
   try clear hfz56_0
   try clear hfz56_1
   try clear hfz57_0
   try clear hfz57_1
   try clear hfz58_0
   try clear hfz58_1
   try clear hfz64_0
   try clear hfz64_1
   try clear hfz67_0
   try clear hfz67_1
   try clear hfz69_0
   try clear hfz69_1
   try clear hfz71_0
   try clear hfz71_1
   try clear hfz72_0
   try clear hfz72_1
   try clear hfz73_0
   try clear hfz73_1
   try clear hfz75_0
   try clear hfz75_1
   try clear hfz76_0
   try clear hfz76_1
   try clear hfz77_0
   try clear hfz77_1
   obtain ⟨kq, x17_7, rfl, HA, HJ7, BK280, BK281, BK282, BK283, HB⟩ := hcut
   cases kq with
   | zero => exact absurd HA.out (by simp [point_Meet.j0])
   | succ kj7 =>
    have H := HA.out
    clear HA
    simp only [point_Meet.j0] at H
    by_cases c79 : x17_7 = true
    ·subst c79
     have H1 : (some true) = some r := by rw [if_pos rfl] at H; exact H
     clear H
     have H := H1
     clear H1
     obtain rfl := Option.some.inj H
     go_wp2
     go_ret
     exact ⟨by first | rfl | (simp [errW_none, errW_some] <;> rfl) | (simp [*, errW_none, errW_some] <;> rfl), by repeat (first | (with_reducible first | exact HB.out | apply bA | apply bN | apply bD | refine bE ?_ GE280.out | refine bE ?_ GE281.out | refine bE ?_ GE282.out | refine bE ?_ GE283.out) | exact HB.out)⟩
    ·replace c79 := Bool.eq_false_iff.mpr c79
     subst c79
     have H1 : ((point_Turn.f kj7 a0_0 a0_1 a1_0 a1_1 a2_0 a2_1).bind fun t292 => ((point_Turn.f kj7 a0_0 a0_1 a1_0 a1_1 a3_0 a3_1).bind fun t293 => (if (wrap64 (t292 * t293)) < 0 then ((point_Turn.f kj7 a2_0 a2_1 a3_0 a3_1 a0_0 a0_1).bind fun t294 => ((point_Turn.f kj7 a2_0 a2_1 a3_0 a3_1 a1_0 a1_1).bind fun t295 => (some (decide ((wrap64 (t294 * t295)) < 0))))) else (some false)))) = some r := by rw [if_neg (show ¬ (false = true) by decide)] at H; exact H
     clear H
     have H := H1
     clear H1
     replace H := Option.bind_eq_some_iff.mp H
     obtain ⟨t292, A800, H⟩ := H
     replace H : ((point_Turn.f kj7 a0_0 a0_1 a1_0 a1_1 a3_0 a3_1).bind fun t293 => (if (wrap64 (t292 * t293)) < 0 then ((point_Turn.f kj7 a2_0 a2_1 a3_0 a3_1 a0_0 a0_1).bind fun t294 => ((point_Turn.f kj7 a2_0 a2_1 a3_0 a3_1 a1_0 a1_1).bind fun t295 => (some (decide ((wrap64 (t294 * t295)) < 0))))) else (some false))) = some r := H
     have A80 := Aside0.mk A800
     clear A800
     replace H := Option.bind_eq_some_iff.mp H
     obtain ⟨t293, A810, H⟩ := H
     replace H : (if (wrap64 (t292 * t293)) < 0 then ((point_Turn.f kj7 a2_0 a2_1 a3_0 a3_1 a0_0 a0_1).bind fun t294 => ((point_Turn.f kj7 a2_0 a2_1 a3_0 a3_1 a1_0 a1_1).bind fun t295 => (some (decide ((wrap64 (t294 * t295)) < 0))))) else (some false)) = some r := H
     have A81 := Aside0.mk A810
     clear A810
     by_cases c82 : (wrap64 (t292 * t293)) < 0
     ·rw [if_pos c82] at H
      have c82b0 : decide ((wrap64 (t292 * t293)) < 0) = true := decide_eq_true c82
      clear c82
      replace H := Option.bind_eq_some_iff.mp H
      obtain ⟨t294, A830, H⟩ := H
      replace H : ((point_Turn.f kj7 a2_0 a2_1 a3_0 a3_1 a1_0 a1_1).bind fun t295 => (some (decide ((wrap64 (t294 * t295)) < 0)))) = some r := H
      have A83 := Aside0.mk A830
      clear A830
      replace H := Option.bind_eq_some_iff.mp H
      obtain ⟨t295, A840, H⟩ := H
      replace H : (some (decide ((wrap64 (t294 * t295)) < 0))) = some r := H
      have A84 := Aside0.mk A840
      clear A840
      obtain rfl := Option.some.inj H
      try go_wp2
      have n0_ := Aside0.mk (kD BK280.out)
      have n1_ := Aside0.mk (kD BK281.out)
      have n2_ := Aside0.mk (kD BK282.out)
      have n3_ := Aside0.mk (kD BK283.out)
      have n4_ := Aside0.mk (bD HB.out)
      clear BK280
      clear BK281
      clear BK282
      clear BK283
      clear HB
      have BK280 := n0_
      have BK281 := n1_
      have BK282 := n2_
      have BK283 := n3_
      have HB := n4_
      clear n0_ n1_ n2_ n3_ n4_
      refine start_ (n := 23) (S := fun w' => w'.cell? ⟨gb280, 0, none⟩ = some (.int .i64 a0_0) ∧ w'.cell? ⟨gb280, 1, none⟩ = some (.int .i64 a0_1) ∧ w'.cell? ⟨gb281, 0, none⟩ = some (.int .i64 a1_0) ∧ w'.cell? ⟨gb281, 1, none⟩ = some (.int .i64 a1_1) ∧ w'.cell? ⟨gb282, 0, none⟩ = some (.int .i64 a2_0) ∧ w'.cell? ⟨gb282, 1, none⟩ = some (.int .i64 a2_1) ∧ w'.cell? ⟨gb283, 0, none⟩ = some (.int .i64 a3_0) ∧ w'.cell? ⟨gb283, 1, none⟩ = some (.int .i64 a3_1)) (ds := []) #[false, false, false, false, false, false, false, false, false, false, false, false, false, false, false, false, false, false, false, false, false, false, false] (by kernel_rfl) rfl rfl ⟨(kC BK280.out 0).trans rfl, (kC BK280.out 1).trans rfl, (kC BK281.out 0).trans rfl, (kC BK281.out 1).trans rfl, (kC BK282.out 0).trans rfl, (kC BK282.out 1).trans rfl, (kC BK283.out 0).trans rfl, (kC BK283.out 1).trans rfl⟩ (fun hHeld => ?_); refine with_tabW point_Meet.tab8 point_Meet.bits8 (fun HT_ HW_ => ?_)
      generalize wc.drew = w85 at BK280 BK281 BK282 BK283 HB hHeld ⊢
      refine take_ (i := 0) (N := some 34) (v := ?_) (a' := ?_) #[true, false, false, false, false, false, false, false, false, false, false, false, false, false, false, false, false, false, false, false, false, false, false] rfl rfl (take_ofW HT_.out HW_.out (by kernel_rfl)) (fun _ _ _ h => h) (Or.inl ⟨by rfl, ?_⟩) hHeld ?_ ?_
      rotate_left
      ·rintro w' ⟨s0, s1, s2, s3, s4, s5, s6, s7⟩
       go_simp
       with_reducible rfl
      rotate_left
      ·simp only [Act.put, sA, sB, sC, i64_w, i32_w]
       rfl
      refine take_ (i := 1) (N := some 35) (v := ?_) (a' := ?_) #[true, true, false, false, false, false, false, false, false, false, false, false, false, false, false, false, false, false, false, false, false, false, false] rfl rfl (take_ofW HT_.out HW_.out (by kernel_rfl)) (fun _ _ _ h => h) (Or.inl ⟨by rfl, ?_⟩) hHeld ?_ ?_
      rotate_left
      ·rintro w' ⟨s0, s1, s2, s3, s4, s5, s6, s7⟩
       go_simp
       with_reducible rfl
      rotate_left
      ·simp only [Act.put, sA, sB, sC, i64_w, i32_w]
       rfl
      refine take_ (i := 2) (N := some 36) (v := ?_) (a' := ?_) #[true, true, true, false, false, false, false, false, false, false, false, false, false, false, false, false, false, false, false, false, false, false, false] rfl rfl (take_ofW HT_.out HW_.out (by kernel_rfl)) (fun _ _ _ h => h) (Or.inl ⟨by rfl, ?_⟩) hHeld ?_ ?_
      rotate_left
      ·rintro w' ⟨s0, s1, s2, s3, s4, s5, s6, s7⟩
       go_simp
       with_reducible rfl
      rotate_left
      ·simp only [Act.put, sA, sB, sC, i64_w, i32_w]
       rfl
      refine take_ (i := 4) (N := some 38) (v := ?_) (a' := ?_) #[true, true, true, false, true, false, false, false, false, false, false, false, false, false, false, false, false, false, false, false, false, false, false] rfl rfl (take_ofW HT_.out HW_.out (by kernel_rfl)) (fun _ _ _ h => h) (Or.inl ⟨by rfl, ?_⟩) hHeld ?_ ?_
      rotate_left
      ·rintro w' ⟨s0, s1, s2, s3, s4, s5, s6, s7⟩
       go_simp
       with_reducible rfl
      rotate_left
      ·simp only [Act.put, sA, sB, sC, i64_w, i32_w]
       rfl
      refine take_ (i := 5) (N := some 39) (v := ?_) (a' := ?_) #[true, true, true, false, true, true, false, false, false, false, false, false, false, false, false, false, false, false, false, false, false, false, false] rfl rfl (take_ofW HT_.out HW_.out (by kernel_rfl)) (fun _ _ _ h => h) (Or.inl ⟨by rfl, ?_⟩) hHeld ?_ ?_
      rotate_left
      ·rintro w' ⟨s0, s1, s2, s3, s4, s5, s6, s7⟩
       go_simp
       with_reducible rfl
      rotate_left
      ·simp only [Act.put, sA, sB, sC, i64_w, i32_w]
       rfl
      refine take_ (i := 6) (N := some 40) (v := ?_) (a' := ?_) #[true, true, true, false, true, true, true, false, false, false, false, false, false, false, false, false, false, false, false, false, false, false, false] rfl rfl (take_ofW HT_.out HW_.out (by kernel_rfl)) (fun _ _ _ h => h) (Or.inl ⟨by rfl, ?_⟩) hHeld ?_ ?_
      rotate_left
      ·rintro w' ⟨s0, s1, s2, s3, s4, s5, s6, s7⟩
       go_simp
       with_reducible rfl
      rotate_left
      ·simp only [Act.put, sA, sB, sC, i64_w, i32_w]
       rfl
      refine one_ (i := 3) (N := some 37) #[true, true, true, true, true, true, true, false, false, false, false, false, false, false, false, false, false, false, false, false, false, false, false] rfl rfl (one_of HT_.out (by kernel_rfl)) (by decide) (fun K hK => ?_)
      refine goes_ Try.func43 (by kernel_rfl) rfl #[.agg #[.int .i64 a0_0, .int .i64 a0_1], .agg #[.int .i64 a1_0, .int .i64 a1_1], .agg #[.int .i64 a2_0, .int .i64 a2_1]] (by rfl) rfl rfl (by (try simp only [sD, sE, sF]); first | done | rfl | (simp only [sG, sH]; rfl)) ?_
      with_reducible refine (point_Turn.calls kj7 a0_0 a0_1 a1_0 a1_1 a2_0 a2_1 t292 _ A80.out).mono ?_
      rintro e w86 ⟨rfl, hb⟩
      refine ⟨_, rfl, ?_⟩
      have n0_ := Aside0.mk (kB (g := gb280) (o := .cells #[.int .i64 a0_0, .int .i64 a0_1] 41 (0, 0)) (by (with_reducible repeat (first | refine kN ?_ _ | refine kD ?_ | refine kA ?_ _)); exact BK280.out) hb)
      have n1_ := Aside0.mk (kB (g := gb281) (o := .cells #[.int .i64 a1_0, .int .i64 a1_1] 41 (0, 0)) (by (with_reducible repeat (first | refine kN ?_ _ | refine kD ?_ | refine kA ?_ _)); exact BK281.out) hb)
      have n2_ := Aside0.mk (kB (g := gb282) (o := .cells #[.int .i64 a2_0, .int .i64 a2_1] 41 (0, 0)) (by (with_reducible repeat (first | refine kN ?_ _ | refine kD ?_ | refine kA ?_ _)); exact BK282.out) hb)
      have n3_ := Aside0.mk (kB (g := gb283) (o := .cells #[.int .i64 a3_0, .int .i64 a3_1] 41 (0, 0)) (by (with_reducible repeat (first | refine kN ?_ _ | refine kD ?_ | refine kA ?_ _)); exact BK283.out) hb)
      have n4_ := Aside0.mk (bS (by repeat (first | (with_reducible first | exact HB.out | apply bA | apply bN | apply bD | refine bE ?_ GE280.out | refine bE ?_ GE281.out | refine bE ?_ GE282.out | refine bE ?_ GE283.out) | exact HB.out)) hb)
      clear BK280
      clear BK281
      clear BK282
      clear BK283
      clear HB
      have BK280 := n0_
      have BK281 := n1_
      have BK282 := n2_
      have BK283 := n3_
      have HB := n4_
      clear n0_ n1_ n2_ n3_ n4_
      (try clear hb)
      (try clear hb2)
      (try clear hk)
      (try clear hi)
      refine hK.out _ _ ⟨(kC BK280.out 0).trans rfl, (kC BK280.out 1).trans rfl, (kC BK281.out 0).trans rfl, (kC BK281.out 1).trans rfl, (kC BK282.out 0).trans rfl, (kC BK282.out 1).trans rfl, (kC BK283.out 0).trans rfl, (kC BK283.out 1).trans rfl⟩ (fun hHeld => ?_)
      clear hK K
      refine norm_ (a' := ?_) ?_ ?_
      rotate_left
      ·show Act.put _ (some 37) _ = _
       simp only [Act.put, sA, sB, sC, i64_w, i32_w]
       rfl
      refine one_ (i := 7) (N := some 41) #[true, true, true, true, true, true, true, true, false, false, false, false, false, false, false, false, false, false, false, false, false, false, false] rfl rfl (one_of HT_.out (by kernel_rfl)) (by decide) (fun K hK => ?_)
      refine goes_ Try.func43 (by kernel_rfl) rfl #[.agg #[.int .i64 a0_0, .int .i64 a0_1], .agg #[.int .i64 a1_0, .int .i64 a1_1], .agg #[.int .i64 a3_0, .int .i64 a3_1]] (by rfl) rfl rfl (by (try simp only [sD, sE, sF]); first | done | rfl | (simp only [sG, sH]; rfl)) ?_
      with_reducible refine (point_Turn.calls kj7 a0_0 a0_1 a1_0 a1_1 a3_0 a3_1 t293 _ A81.out).mono ?_
      rintro e w87 ⟨rfl, hb⟩
      refine ⟨_, rfl, ?_⟩
      have n0_ := Aside0.mk (kB (g := gb280) (o := .cells #[.int .i64 a0_0, .int .i64 a0_1] 41 (0, 0)) (by (with_reducible repeat (first | refine kN ?_ _ | refine kD ?_ | refine kA ?_ _)); exact BK280.out) hb)
      have n1_ := Aside0.mk (kB (g := gb281) (o := .cells #[.int .i64 a1_0, .int .i64 a1_1] 41 (0, 0)) (by (with_reducible repeat (first | refine kN ?_ _ | refine kD ?_ | refine kA ?_ _)); exact BK281.out) hb)
      have n2_ := Aside0.mk (kB (g := gb282) (o := .cells #[.int .i64 a2_0, .int .i64 a2_1] 41 (0, 0)) (by (with_reducible repeat (first | refine kN ?_ _ | refine kD ?_ | refine kA ?_ _)); exact BK282.out) hb)
      have n3_ := Aside0.mk (kB (g := gb283) (o := .cells #[.int .i64 a3_0, .int .i64 a3_1] 41 (0, 0)) (by (with_reducible repeat (first | refine kN ?_ _ | refine kD ?_ | refine kA ?_ _)); exact BK283.out) hb)
      have n4_ := Aside0.mk (bS (by repeat (first | (with_reducible first | exact HB.out | apply bA | apply bN | apply bD | refine bE ?_ GE280.out | refine bE ?_ GE281.out | refine bE ?_ GE282.out | refine bE ?_ GE283.out) | exact HB.out)) hb)
      clear BK280
      clear BK281
      clear BK282
      clear BK283
      clear HB
      have BK280 := n0_
      have BK281 := n1_
      have BK282 := n2_
      have BK283 := n3_
      have HB := n4_
      clear n0_ n1_ n2_ n3_ n4_
      (try clear hb)
      (try clear hb2)
      (try clear hk)
      (try clear hi)
      refine hK.out _ _ ⟨(kC BK280.out 0).trans rfl, (kC BK280.out 1).trans rfl, (kC BK281.out 0).trans rfl, (kC BK281.out 1).trans rfl, (kC BK282.out 0).trans rfl, (kC BK282.out 1).trans rfl, (kC BK283.out 0).trans rfl, (kC BK283.out 1).trans rfl⟩ (fun hHeld => ?_)
      clear hK K
      refine norm_ (a' := ?_) ?_ ?_
      rotate_left
      ·show Act.put _ (some 41) _ = _
       simp only [Act.put, sA, sB, sC, i64_w, i32_w]
       rfl
      refine pure_ (i := 8) (N := some 42) (v := ?_) (a' := ?_) #[true, true, true, true, true, true, true, true, true, false, false, false, false, false, false, false, false, false, false, false, false, false, false] rfl rfl (any_of HT_.out (by kernel_rfl)) (fun _ _ _ h => h) (Or.inl ⟨by rfl, ?_⟩) ?_ ?_
      rotate_left
      ·intro w'
       go_simp
       with_reducible rfl
      rotate_left
      ·simp only [Act.put, sA, sB, sC, i64_w, i32_w]
       rfl
      refine pure_ (i := 9) (N := some 43) (v := ?_) (a' := ?_) #[true, true, true, true, true, true, true, true, true, true, false, false, false, false, false, false, false, false, false, false, false, false, false] rfl rfl (any_of HT_.out (by kernel_rfl)) (fun _ _ _ h => h) (Or.inl ⟨by rfl, ?_⟩) ?_ ?_
      rotate_left
      ·intro w'
       go_simp
       with_reducible rfl
      rotate_left
      ·simp only [Act.put, sA, sB, sC, i64_w, i32_w]
       rfl
      refine pure_ (i := 10) (N := some 44) (v := ?_) (a' := ?_) #[true, true, true, true, true, true, true, true, true, true, true, false, false, false, false, false, false, false, false, false, false, false, false] rfl rfl (any_of HT_.out (by kernel_rfl)) (fun _ _ _ h => h) (Or.inl ⟨by rfl, ?_⟩) ?_ ?_
      rotate_left
      ·intro w'
       go_simp
       with_reducible rfl
      rotate_left
      ·simp only [Act.put, sA, sB, sC, i64_w, i32_w]
       rfl
      refine take_ (i := 11) (N := some 45) (v := ?_) (a' := ?_) #[true, true, true, true, true, true, true, true, true, true, true, true, false, false, false, false, false, false, false, false, false, false, false] rfl rfl (take_ofW HT_.out HW_.out (by kernel_rfl)) (fun _ _ _ h => h) (Or.inl ⟨by rfl, ?_⟩) hHeld ?_ ?_
      rotate_left
      ·rintro w' ⟨s0, s1, s2, s3, s4, s5, s6, s7⟩
       go_simp
       with_reducible rfl
      rotate_left
      ·simp only [Act.put, sA, sB, sC, i64_w, i32_w]
       rfl
      refine take_ (i := 12) (N := some 46) (v := ?_) (a' := ?_) #[true, true, true, true, true, true, true, true, true, true, true, true, true, false, false, false, false, false, false, false, false, false, false] rfl rfl (take_ofW HT_.out HW_.out (by kernel_rfl)) (fun _ _ _ h => h) (Or.inl ⟨by rfl, ?_⟩) hHeld ?_ ?_
      rotate_left
      ·rintro w' ⟨s0, s1, s2, s3, s4, s5, s6, s7⟩
       go_simp
       with_reducible rfl
      rotate_left
      ·simp only [Act.put, sA, sB, sC, i64_w, i32_w]
       rfl
      refine take_ (i := 13) (N := some 47) (v := ?_) (a' := ?_) #[true, true, true, true, true, true, true, true, true, true, true, true, true, true, false, false, false, false, false, false, false, false, false] rfl rfl (take_ofW HT_.out HW_.out (by kernel_rfl)) (fun _ _ _ h => h) (Or.inl ⟨by rfl, ?_⟩) hHeld ?_ ?_
      rotate_left
      ·rintro w' ⟨s0, s1, s2, s3, s4, s5, s6, s7⟩
       go_simp
       with_reducible rfl
      rotate_left
      ·simp only [Act.put, sA, sB, sC, i64_w, i32_w]
       rfl
      refine take_ (i := 15) (N := some 49) (v := ?_) (a' := ?_) #[true, true, true, true, true, true, true, true, true, true, true, true, true, true, false, true, false, false, false, false, false, false, false] rfl rfl (take_ofW HT_.out HW_.out (by kernel_rfl)) (fun _ _ _ h => h) (Or.inl ⟨by rfl, ?_⟩) hHeld ?_ ?_
      rotate_left
      ·rintro w' ⟨s0, s1, s2, s3, s4, s5, s6, s7⟩
       go_simp
       with_reducible rfl
      rotate_left
      ·simp only [Act.put, sA, sB, sC, i64_w, i32_w]
       rfl
      refine take_ (i := 16) (N := some 50) (v := ?_) (a' := ?_) #[true, true, true, true, true, true, true, true, true, true, true, true, true, true, false, true, true, false, false, false, false, false, false] rfl rfl (take_ofW HT_.out HW_.out (by kernel_rfl)) (fun _ _ _ h => h) (Or.inl ⟨by rfl, ?_⟩) hHeld ?_ ?_
      rotate_left
      ·rintro w' ⟨s0, s1, s2, s3, s4, s5, s6, s7⟩
       go_simp
       with_reducible rfl
      rotate_left
      ·simp only [Act.put, sA, sB, sC, i64_w, i32_w]
       rfl
      refine take_ (i := 17) (N := some 51) (v := ?_) (a' := ?_) #[true, true, true, true, true, true, true, true, true, true, true, true, true, true, false, true, true, true, false, false, false, false, false] rfl rfl (take_ofW HT_.out HW_.out (by kernel_rfl)) (fun _ _ _ h => h) (Or.inl ⟨by rfl, ?_⟩) hHeld ?_ ?_
      rotate_left
      ·rintro w' ⟨s0, s1, s2, s3, s4, s5, s6, s7⟩
       go_simp
       with_reducible rfl
      rotate_left
      ·simp only [Act.put, sA, sB, sC, i64_w, i32_w]
       rfl
      refine one_ (i := 14) (N := some 48) #[true, true, true, true, true, true, true, true, true, true, true, true, true, true, true, true, true, true, false, false, false, false, false] rfl rfl (one_of HT_.out (by kernel_rfl)) (by decide) (fun K hK => ?_)
      refine goes_ Try.func43 (by kernel_rfl) rfl #[.agg #[.int .i64 a2_0, .int .i64 a2_1], .agg #[.int .i64 a3_0, .int .i64 a3_1], .agg #[.int .i64 a0_0, .int .i64 a0_1]] (by rfl) rfl rfl (by (try simp only [sD, sE, sF]); first | done | rfl | (simp only [sG, sH]; rfl)) ?_
      with_reducible refine (point_Turn.calls kj7 a2_0 a2_1 a3_0 a3_1 a0_0 a0_1 t294 _ A83.out).mono ?_
      rintro e w88 ⟨rfl, hb⟩
      refine ⟨_, rfl, ?_⟩
      have n0_ := Aside0.mk (kB (g := gb280) (o := .cells #[.int .i64 a0_0, .int .i64 a0_1] 41 (0, 0)) (by (with_reducible repeat (first | refine kN ?_ _ | refine kD ?_ | refine kA ?_ _)); exact BK280.out) hb)
      have n1_ := Aside0.mk (kB (g := gb281) (o := .cells #[.int .i64 a1_0, .int .i64 a1_1] 41 (0, 0)) (by (with_reducible repeat (first | refine kN ?_ _ | refine kD ?_ | refine kA ?_ _)); exact BK281.out) hb)
      have n2_ := Aside0.mk (kB (g := gb282) (o := .cells #[.int .i64 a2_0, .int .i64 a2_1] 41 (0, 0)) (by (with_reducible repeat (first | refine kN ?_ _ | refine kD ?_ | refine kA ?_ _)); exact BK282.out) hb)
      have n3_ := Aside0.mk (kB (g := gb283) (o := .cells #[.int .i64 a3_0, .int .i64 a3_1] 41 (0, 0)) (by (with_reducible repeat (first | refine kN ?_ _ | refine kD ?_ | refine kA ?_ _)); exact BK283.out) hb)
      have n4_ := Aside0.mk (bS (by repeat (first | (with_reducible first | exact HB.out | apply bA | apply bN | apply bD | refine bE ?_ GE280.out | refine bE ?_ GE281.out | refine bE ?_ GE282.out | refine bE ?_ GE283.out) | exact HB.out)) hb)
      clear BK280
      clear BK281
      clear BK282
      clear BK283
      clear HB
      have BK280 := n0_
      have BK281 := n1_
      have BK282 := n2_
      have BK283 := n3_
      have HB := n4_
      clear n0_ n1_ n2_ n3_ n4_
      (try clear hb)
      (try clear hb2)
      (try clear hk)
      (try clear hi)
      refine hK.out _ _ ⟨(kC BK280.out 0).trans rfl, (kC BK280.out 1).trans rfl, (kC BK281.out 0).trans rfl, (kC BK281.out 1).trans rfl, (kC BK282.out 0).trans rfl, (kC BK282.out 1).trans rfl, (kC BK283.out 0).trans rfl, (kC BK283.out 1).trans rfl⟩ (fun hHeld => ?_)
      clear hK K
      refine norm_ (a' := ?_) ?_ ?_
      rotate_left
      ·show Act.put _ (some 48) _ = _
       simp only [Act.put, sA, sB, sC, i64_w, i32_w]
       rfl
      refine one_ (i := 18) (N := some 52) #[true, true, true, true, true, true, true, true, true, true, true, true, true, true, true, true, true, true, true, false, false, false, false] rfl rfl (one_of HT_.out (by kernel_rfl)) (by decide) (fun K hK => ?_)
      refine goes_ Try.func43 (by kernel_rfl) rfl #[.agg #[.int .i64 a2_0, .int .i64 a2_1], .agg #[.int .i64 a3_0, .int .i64 a3_1], .agg #[.int .i64 a1_0, .int .i64 a1_1]] (by rfl) rfl rfl (by (try simp only [sD, sE, sF]); first | done | rfl | (simp only [sG, sH]; rfl)) ?_
      with_reducible refine (point_Turn.calls kj7 a2_0 a2_1 a3_0 a3_1 a1_0 a1_1 t295 _ A84.out).mono ?_
      rintro e w89 ⟨rfl, hb⟩
      refine ⟨_, rfl, ?_⟩
      have n0_ := Aside0.mk (kB (g := gb280) (o := .cells #[.int .i64 a0_0, .int .i64 a0_1] 41 (0, 0)) (by (with_reducible repeat (first | refine kN ?_ _ | refine kD ?_ | refine kA ?_ _)); exact BK280.out) hb)
      have n1_ := Aside0.mk (kB (g := gb281) (o := .cells #[.int .i64 a1_0, .int .i64 a1_1] 41 (0, 0)) (by (with_reducible repeat (first | refine kN ?_ _ | refine kD ?_ | refine kA ?_ _)); exact BK281.out) hb)
      have n2_ := Aside0.mk (kB (g := gb282) (o := .cells #[.int .i64 a2_0, .int .i64 a2_1] 41 (0, 0)) (by (with_reducible repeat (first | refine kN ?_ _ | refine kD ?_ | refine kA ?_ _)); exact BK282.out) hb)
      have n3_ := Aside0.mk (kB (g := gb283) (o := .cells #[.int .i64 a3_0, .int .i64 a3_1] 41 (0, 0)) (by (with_reducible repeat (first | refine kN ?_ _ | refine kD ?_ | refine kA ?_ _)); exact BK283.out) hb)
      have n4_ := Aside0.mk (bS (by repeat (first | (with_reducible first | exact HB.out | apply bA | apply bN | apply bD | refine bE ?_ GE280.out | refine bE ?_ GE281.out | refine bE ?_ GE282.out | refine bE ?_ GE283.out) | exact HB.out)) hb)
      clear BK280
      clear BK281
      clear BK282
      clear BK283
      clear HB
      have BK280 := n0_
      have BK281 := n1_
      have BK282 := n2_
      have BK283 := n3_
      have HB := n4_
      clear n0_ n1_ n2_ n3_ n4_
      (try clear hb)
      (try clear hb2)
      (try clear hk)
      (try clear hi)
      refine hK.out _ _ ⟨(kC BK280.out 0).trans rfl, (kC BK280.out 1).trans rfl, (kC BK281.out 0).trans rfl, (kC BK281.out 1).trans rfl, (kC BK282.out 0).trans rfl, (kC BK282.out 1).trans rfl, (kC BK283.out 0).trans rfl, (kC BK283.out 1).trans rfl⟩ (fun hHeld => ?_)
      clear hK K
      refine norm_ (a' := ?_) ?_ ?_
      rotate_left
      ·show Act.put _ (some 52) _ = _
       simp only [Act.put, sA, sB, sC, i64_w, i32_w]
       rfl
      refine pure_ (i := 19) (N := some 53) (v := ?_) (a' := ?_) #[true, true, true, true, true, true, true, true, true, true, true, true, true, true, true, true, true, true, true, true, false, false, false] rfl rfl (any_of HT_.out (by kernel_rfl)) (fun _ _ _ h => h) (Or.inl ⟨by rfl, ?_⟩) ?_ ?_
      rotate_left
      ·intro w'
       go_simp
       with_reducible rfl
      rotate_left
      ·simp only [Act.put, sA, sB, sC, i64_w, i32_w]
       rfl
      refine pure_ (i := 20) (N := some 54) (v := ?_) (a' := ?_) #[true, true, true, true, true, true, true, true, true, true, true, true, true, true, true, true, true, true, true, true, true, false, false] rfl rfl (any_of HT_.out (by kernel_rfl)) (fun _ _ _ h => h) (Or.inl ⟨by rfl, ?_⟩) ?_ ?_
      rotate_left
      ·intro w'
       go_simp
       with_reducible rfl
      rotate_left
      ·simp only [Act.put, sA, sB, sC, i64_w, i32_w]
       rfl
      refine pure_ (i := 21) (N := some 55) (v := ?_) (a' := ?_) #[true, true, true, true, true, true, true, true, true, true, true, true, true, true, true, true, true, true, true, true, true, true, false] rfl rfl (any_of HT_.out (by kernel_rfl)) (fun _ _ _ h => h) (Or.inl ⟨by rfl, ?_⟩) ?_ ?_
      rotate_left
      ·intro w'
       go_simp
       with_reducible rfl
      rotate_left
      ·simp only [Act.put, sA, sB, sC, i64_w, i32_w]
       rfl
      refine pure_ (i := 22) (N := some 8) (v := ?_) (a' := ?_) #[true, true, true, true, true, true, true, true, true, true, true, true, true, true, true, true, true, true, true, true, true, true, true] rfl rfl (any_of HT_.out (by kernel_rfl)) (fun _ _ _ h => h) (Or.inl ⟨by rfl, ?_⟩) ?_ ?_
      rotate_left
      ·intro w'
       go_simp
       with_reducible rfl
      rotate_left
      ·simp only [Act.put, sA, sB, sC, i64_w, i32_w]
       rfl
      refine done_ (done_of HT_.out (by kernel_rfl)) ?_
      try go_wp2
      go_ret
      exact ⟨by first | rfl | (simp [errW_none, errW_some] <;> rfl) | (simp [*, errW_none, errW_some] <;> rfl), by repeat (first | (with_reducible first | exact HB.out | apply bA | apply bN | apply bD | refine bE ?_ GE280.out | refine bE ?_ GE281.out | refine bE ?_ GE282.out | refine bE ?_ GE283.out) | exact HB.out)⟩
     ·rw [if_neg c82] at H
      have c82b0 : decide ((wrap64 (t292 * t293)) < 0) = false := decide_eq_false c82
      clear c82
      obtain rfl := Option.some.inj H
      try go_wp2
      have n0_ := Aside0.mk (kD BK280.out)
      have n1_ := Aside0.mk (kD BK281.out)
      have n2_ := Aside0.mk (kD BK282.out)
      have n3_ := Aside0.mk (kD BK283.out)
      have n4_ := Aside0.mk (bD HB.out)
      clear BK280
      clear BK281
      clear BK282
      clear BK283
      clear HB
      have BK280 := n0_
      have BK281 := n1_
      have BK282 := n2_
      have BK283 := n3_
      have HB := n4_
      clear n0_ n1_ n2_ n3_ n4_
      refine start_ (n := 23) (S := fun w' => w'.cell? ⟨gb280, 0, none⟩ = some (.int .i64 a0_0) ∧ w'.cell? ⟨gb280, 1, none⟩ = some (.int .i64 a0_1) ∧ w'.cell? ⟨gb281, 0, none⟩ = some (.int .i64 a1_0) ∧ w'.cell? ⟨gb281, 1, none⟩ = some (.int .i64 a1_1) ∧ w'.cell? ⟨gb282, 0, none⟩ = some (.int .i64 a2_0) ∧ w'.cell? ⟨gb282, 1, none⟩ = some (.int .i64 a2_1) ∧ w'.cell? ⟨gb283, 0, none⟩ = some (.int .i64 a3_0) ∧ w'.cell? ⟨gb283, 1, none⟩ = some (.int .i64 a3_1)) (ds := []) #[false, false, false, false, false, false, false, false, false, false, false, false, false, false, false, false, false, false, false, false, false, false, false] (by kernel_rfl) rfl rfl ⟨(kC BK280.out 0).trans rfl, (kC BK280.out 1).trans rfl, (kC BK281.out 0).trans rfl, (kC BK281.out 1).trans rfl, (kC BK282.out 0).trans rfl, (kC BK282.out 1).trans rfl, (kC BK283.out 0).trans rfl, (kC BK283.out 1).trans rfl⟩ (fun hHeld => ?_); refine with_tabW point_Meet.tab8 point_Meet.bits8 (fun HT_ HW_ => ?_)
      generalize wc.drew = w90 at BK280 BK281 BK282 BK283 HB hHeld ⊢
      refine take_ (i := 0) (N := some 34) (v := ?_) (a' := ?_) #[true, false, false, false, false, false, false, false, false, false, false, false, false, false, false, false, false, false, false, false, false, false, false] rfl rfl (take_ofW HT_.out HW_.out (by kernel_rfl)) (fun _ _ _ h => h) (Or.inl ⟨by rfl, ?_⟩) hHeld ?_ ?_
      rotate_left
      ·rintro w' ⟨s0, s1, s2, s3, s4, s5, s6, s7⟩
       go_simp
       with_reducible rfl
      rotate_left
      ·simp only [Act.put, sA, sB, sC, i64_w, i32_w]
       rfl
      refine take_ (i := 1) (N := some 35) (v := ?_) (a' := ?_) #[true, true, false, false, false, false, false, false, false, false, false, false, false, false, false, false, false, false, false, false, false, false, false] rfl rfl (take_ofW HT_.out HW_.out (by kernel_rfl)) (fun _ _ _ h => h) (Or.inl ⟨by rfl, ?_⟩) hHeld ?_ ?_
      rotate_left
      ·rintro w' ⟨s0, s1, s2, s3, s4, s5, s6, s7⟩
       go_simp
       with_reducible rfl
      rotate_left
      ·simp only [Act.put, sA, sB, sC, i64_w, i32_w]
       rfl
      refine take_ (i := 2) (N := some 36) (v := ?_) (a' := ?_) #[true, true, true, false, false, false, false, false, false, false, false, false, false, false, false, false, false, false, false, false, false, false, false] rfl rfl (take_ofW HT_.out HW_.out (by kernel_rfl)) (fun _ _ _ h => h) (Or.inl ⟨by rfl, ?_⟩) hHeld ?_ ?_
      rotate_left
      ·rintro w' ⟨s0, s1, s2, s3, s4, s5, s6, s7⟩
       go_simp
       with_reducible rfl
      rotate_left
      ·simp only [Act.put, sA, sB, sC, i64_w, i32_w]
       rfl
      refine take_ (i := 4) (N := some 38) (v := ?_) (a' := ?_) #[true, true, true, false, true, false, false, false, false, false, false, false, false, false, false, false, false, false, false, false, false, false, false] rfl rfl (take_ofW HT_.out HW_.out (by kernel_rfl)) (fun _ _ _ h => h) (Or.inl ⟨by rfl, ?_⟩) hHeld ?_ ?_
      rotate_left
      ·rintro w' ⟨s0, s1, s2, s3, s4, s5, s6, s7⟩
       go_simp
       with_reducible rfl
      rotate_left
      ·simp only [Act.put, sA, sB, sC, i64_w, i32_w]
       rfl
      refine take_ (i := 5) (N := some 39) (v := ?_) (a' := ?_) #[true, true, true, false, true, true, false, false, false, false, false, false, false, false, false, false, false, false, false, false, false, false, false] rfl rfl (take_ofW HT_.out HW_.out (by kernel_rfl)) (fun _ _ _ h => h) (Or.inl ⟨by rfl, ?_⟩) hHeld ?_ ?_
      rotate_left
      ·rintro w' ⟨s0, s1, s2, s3, s4, s5, s6, s7⟩
       go_simp
       with_reducible rfl
      rotate_left
      ·simp only [Act.put, sA, sB, sC, i64_w, i32_w]
       rfl
      refine take_ (i := 6) (N := some 40) (v := ?_) (a' := ?_) #[true, true, true, false, true, true, true, false, false, false, false, false, false, false, false, false, false, false, false, false, false, false, false] rfl rfl (take_ofW HT_.out HW_.out (by kernel_rfl)) (fun _ _ _ h => h) (Or.inl ⟨by rfl, ?_⟩) hHeld ?_ ?_
      rotate_left
      ·rintro w' ⟨s0, s1, s2, s3, s4, s5, s6, s7⟩
       go_simp
       with_reducible rfl
      rotate_left
      ·simp only [Act.put, sA, sB, sC, i64_w, i32_w]
       rfl
      refine one_ (i := 3) (N := some 37) #[true, true, true, true, true, true, true, false, false, false, false, false, false, false, false, false, false, false, false, false, false, false, false] rfl rfl (one_of HT_.out (by kernel_rfl)) (by decide) (fun K hK => ?_)
      refine goes_ Try.func43 (by kernel_rfl) rfl #[.agg #[.int .i64 a0_0, .int .i64 a0_1], .agg #[.int .i64 a1_0, .int .i64 a1_1], .agg #[.int .i64 a2_0, .int .i64 a2_1]] (by rfl) rfl rfl (by (try simp only [sD, sE, sF]); first | done | rfl | (simp only [sG, sH]; rfl)) ?_
      with_reducible refine (point_Turn.calls kj7 a0_0 a0_1 a1_0 a1_1 a2_0 a2_1 t292 _ A80.out).mono ?_
      rintro e w91 ⟨rfl, hb⟩
      refine ⟨_, rfl, ?_⟩
      have n0_ := Aside0.mk (kB (g := gb280) (o := .cells #[.int .i64 a0_0, .int .i64 a0_1] 41 (0, 0)) (by (with_reducible repeat (first | refine kN ?_ _ | refine kD ?_ | refine kA ?_ _)); exact BK280.out) hb)
      have n1_ := Aside0.mk (kB (g := gb281) (o := .cells #[.int .i64 a1_0, .int .i64 a1_1] 41 (0, 0)) (by (with_reducible repeat (first | refine kN ?_ _ | refine kD ?_ | refine kA ?_ _)); exact BK281.out) hb)
      have n2_ := Aside0.mk (kB (g := gb282) (o := .cells #[.int .i64 a2_0, .int .i64 a2_1] 41 (0, 0)) (by (with_reducible repeat (first | refine kN ?_ _ | refine kD ?_ | refine kA ?_ _)); exact BK282.out) hb)
      have n3_ := Aside0.mk (kB (g := gb283) (o := .cells #[.int .i64 a3_0, .int .i64 a3_1] 41 (0, 0)) (by (with_reducible repeat (first | refine kN ?_ _ | refine kD ?_ | refine kA ?_ _)); exact BK283.out) hb)
      have n4_ := Aside0.mk (bS (by repeat (first | (with_reducible first | exact HB.out | apply bA | apply bN | apply bD | refine bE ?_ GE280.out | refine bE ?_ GE281.out | refine bE ?_ GE282.out | refine bE ?_ GE283.out) | exact HB.out)) hb)
      clear BK280
      clear BK281
      clear BK282
      clear BK283
      clear HB
      have BK280 := n0_
      have BK281 := n1_
      have BK282 := n2_
      have BK283 := n3_
      have HB := n4_
      clear n0_ n1_ n2_ n3_ n4_
      (try clear hb)
      (try clear hb2)
      (try clear hk)
      (try clear hi)
      refine hK.out _ _ ⟨(kC BK280.out 0).trans rfl, (kC BK280.out 1).trans rfl, (kC BK281.out 0).trans rfl, (kC BK281.out 1).trans rfl, (kC BK282.out 0).trans rfl, (kC BK282.out 1).trans rfl, (kC BK283.out 0).trans rfl, (kC BK283.out 1).trans rfl⟩ (fun hHeld => ?_)
      clear hK K
      refine norm_ (a' := ?_) ?_ ?_
      rotate_left
      ·show Act.put _ (some 37) _ = _
       simp only [Act.put, sA, sB, sC, i64_w, i32_w]
       rfl
      refine one_ (i := 7) (N := some 41) #[true, true, true, true, true, true, true, true, false, false, false, false, false, false, false, false, false, false, false, false, false, false, false] rfl rfl (one_of HT_.out (by kernel_rfl)) (by decide) (fun K hK => ?_)
      refine goes_ Try.func43 (by kernel_rfl) rfl #[.agg #[.int .i64 a0_0, .int .i64 a0_1], .agg #[.int .i64 a1_0, .int .i64 a1_1], .agg #[.int .i64 a3_0, .int .i64 a3_1]] (by rfl) rfl rfl (by (try simp only [sD, sE, sF]); first | done | rfl | (simp only [sG, sH]; rfl)) ?_
      with_reducible refine (point_Turn.calls kj7 a0_0 a0_1 a1_0 a1_1 a3_0 a3_1 t293 _ A81.out).mono ?_
      rintro e w92 ⟨rfl, hb⟩
      refine ⟨_, rfl, ?_⟩
      have n0_ := Aside0.mk (kB (g := gb280) (o := .cells #[.int .i64 a0_0, .int .i64 a0_1] 41 (0, 0)) (by (with_reducible repeat (first | refine kN ?_ _ | refine kD ?_ | refine kA ?_ _)); exact BK280.out) hb)
      have n1_ := Aside0.mk (kB (g := gb281) (o := .cells #[.int .i64 a1_0, .int .i64 a1_1] 41 (0, 0)) (by (with_reducible repeat (first | refine kN ?_ _ | refine kD ?_ | refine kA ?_ _)); exact BK281.out) hb)
      have n2_ := Aside0.mk (kB (g := gb282) (o := .cells #[.int .i64 a2_0, .int .i64 a2_1] 41 (0, 0)) (by (with_reducible repeat (first | refine kN ?_ _ | refine kD ?_ | refine kA ?_ _)); exact BK282.out) hb)
      have n3_ := Aside0.mk (kB (g := gb283) (o := .cells #[.int .i64 a3_0, .int .i64 a3_1] 41 (0, 0)) (by (with_reducible repeat (first | refine kN ?_ _ | refine kD ?_ | refine kA ?_ _)); exact BK283.out) hb)
      have n4_ := Aside0.mk (bS (by repeat (first | (with_reducible first | exact HB.out | apply bA | apply bN | apply bD | refine bE ?_ GE280.out | refine bE ?_ GE281.out | refine bE ?_ GE282.out | refine bE ?_ GE283.out) | exact HB.out)) hb)
      clear BK280
      clear BK281
      clear BK282
      clear BK283
      clear HB
      have BK280 := n0_
      have BK281 := n1_
      have BK282 := n2_
      have BK283 := n3_
      have HB := n4_
      clear n0_ n1_ n2_ n3_ n4_
      (try clear hb)
      (try clear hb2)
      (try clear hk)
      (try clear hi)
      refine hK.out _ _ ⟨(kC BK280.out 0).trans rfl, (kC BK280.out 1).trans rfl, (kC BK281.out 0).trans rfl, (kC BK281.out 1).trans rfl, (kC BK282.out 0).trans rfl, (kC BK282.out 1).trans rfl, (kC BK283.out 0).trans rfl, (kC BK283.out 1).trans rfl⟩ (fun hHeld => ?_)
      clear hK K
      refine norm_ (a' := ?_) ?_ ?_
      rotate_left
      ·show Act.put _ (some 41) _ = _
       simp only [Act.put, sA, sB, sC, i64_w, i32_w]
       rfl
      refine pure_ (i := 8) (N := some 42) (v := ?_) (a' := ?_) #[true, true, true, true, true, true, true, true, true, false, false, false, false, false, false, false, false, false, false, false, false, false, false] rfl rfl (any_of HT_.out (by kernel_rfl)) (fun _ _ _ h => h) (Or.inl ⟨by rfl, ?_⟩) ?_ ?_
      rotate_left
      ·intro w'
       go_simp
       with_reducible rfl
      rotate_left
      ·simp only [Act.put, sA, sB, sC, i64_w, i32_w]
       rfl
      refine pure_ (i := 9) (N := some 43) (v := ?_) (a' := ?_) #[true, true, true, true, true, true, true, true, true, true, false, false, false, false, false, false, false, false, false, false, false, false, false] rfl rfl (any_of HT_.out (by kernel_rfl)) (fun _ _ _ h => h) (Or.inl ⟨by rfl, ?_⟩) ?_ ?_
      rotate_left
      ·intro w'
       go_simp
       with_reducible rfl
      rotate_left
      ·simp only [Act.put, sA, sB, sC, i64_w, i32_w]
       rfl
      refine pure_ (i := 10) (N := some 44) (v := ?_) (a' := ?_) #[true, true, true, true, true, true, true, true, true, true, true, false, false, false, false, false, false, false, false, false, false, false, false] rfl rfl (any_of HT_.out (by kernel_rfl)) (fun _ _ _ h => h) (Or.inl ⟨by rfl, ?_⟩) ?_ ?_
      rotate_left
      ·intro w'
       go_simp
       with_reducible rfl
      rotate_left
      ·simp only [Act.put, sA, sB, sC, i64_w, i32_w]
       rfl
      refine pure_ (i := 11) (N := some 45) (v := undef) (a' := ?_) #[true, true, true, true, true, true, true, true, true, true, true, true, false, false, false, false, false, false, false, false, false, false, false] rfl rfl (any_of HT_.out (by kernel_rfl)) (fun _ _ _ h => h) (Or.inr ⟨by rfl, rfl⟩) ?_ ?_
      rotate_left
      ·simp only [Act.put, sA, sB, sC, i64_w, i32_w]
       rfl
      refine pure_ (i := 12) (N := some 46) (v := undef) (a' := ?_) #[true, true, true, true, true, true, true, true, true, true, true, true, true, false, false, false, false, false, false, false, false, false, false] rfl rfl (any_of HT_.out (by kernel_rfl)) (fun _ _ _ h => h) (Or.inr ⟨by rfl, rfl⟩) ?_ ?_
      rotate_left
      ·simp only [Act.put, sA, sB, sC, i64_w, i32_w]
       rfl
      refine pure_ (i := 13) (N := some 47) (v := undef) (a' := ?_) #[true, true, true, true, true, true, true, true, true, true, true, true, true, true, false, false, false, false, false, false, false, false, false] rfl rfl (any_of HT_.out (by kernel_rfl)) (fun _ _ _ h => h) (Or.inr ⟨by rfl, rfl⟩) ?_ ?_
      rotate_left
      ·simp only [Act.put, sA, sB, sC, i64_w, i32_w]
       rfl
      refine pure_ (i := 14) (N := some 48) (v := undef) (a' := ?_) #[true, true, true, true, true, true, true, true, true, true, true, true, true, true, true, false, false, false, false, false, false, false, false] rfl rfl (any_of HT_.out (by kernel_rfl)) (fun _ _ _ h => h) (Or.inr ⟨by rfl, rfl⟩) ?_ ?_
      rotate_left
      ·simp only [Act.put, sA, sB, sC, i64_w, i32_w]
       rfl
      refine pure_ (i := 15) (N := some 49) (v := undef) (a' := ?_) #[true, true, true, true, true, true, true, true, true, true, true, true, true, true, true, true, false, false, false, false, false, false, false] rfl rfl (any_of HT_.out (by kernel_rfl)) (fun _ _ _ h => h) (Or.inr ⟨by rfl, rfl⟩) ?_ ?_
      rotate_left
      ·simp only [Act.put, sA, sB, sC, i64_w, i32_w]
       rfl
      refine pure_ (i := 16) (N := some 50) (v := undef) (a' := ?_) #[true, true, true, true, true, true, true, true, true, true, true, true, true, true, true, true, true, false, false, false, false, false, false] rfl rfl (any_of HT_.out (by kernel_rfl)) (fun _ _ _ h => h) (Or.inr ⟨by rfl, rfl⟩) ?_ ?_
      rotate_left
      ·simp only [Act.put, sA, sB, sC, i64_w, i32_w]
       rfl
      refine pure_ (i := 17) (N := some 51) (v := undef) (a' := ?_) #[true, true, true, true, true, true, true, true, true, true, true, true, true, true, true, true, true, true, false, false, false, false, false] rfl rfl (any_of HT_.out (by kernel_rfl)) (fun _ _ _ h => h) (Or.inr ⟨by rfl, rfl⟩) ?_ ?_
      rotate_left
      ·simp only [Act.put, sA, sB, sC, i64_w, i32_w]
       rfl
      refine pure_ (i := 18) (N := some 52) (v := undef) (a' := ?_) #[true, true, true, true, true, true, true, true, true, true, true, true, true, true, true, true, true, true, true, false, false, false, false] rfl rfl (any_of HT_.out (by kernel_rfl)) (fun _ _ _ h => h) (Or.inr ⟨by rfl, rfl⟩) ?_ ?_
      rotate_left
      ·simp only [Act.put, sA, sB, sC, i64_w, i32_w]
       rfl
      refine pure_ (i := 19) (N := some 53) (v := undef) (a' := ?_) #[true, true, true, true, true, true, true, true, true, true, true, true, true, true, true, true, true, true, true, true, false, false, false] rfl rfl (any_of HT_.out (by kernel_rfl)) (fun _ _ _ h => h) (Or.inr ⟨by rfl, rfl⟩) ?_ ?_
      rotate_left
      ·simp only [Act.put, sA, sB, sC, i64_w, i32_w]
       rfl
      refine pure_ (i := 20) (N := some 54) (v := undef) (a' := ?_) #[true, true, true, true, true, true, true, true, true, true, true, true, true, true, true, true, true, true, true, true, true, false, false] rfl rfl (any_of HT_.out (by kernel_rfl)) (fun _ _ _ h => h) (Or.inr ⟨by rfl, rfl⟩) ?_ ?_
      rotate_left
      ·simp only [Act.put, sA, sB, sC, i64_w, i32_w]
       rfl
      refine pure_ (i := 21) (N := some 55) (v := ?_) (a' := ?_) #[true, true, true, true, true, true, true, true, true, true, true, true, true, true, true, true, true, true, true, true, true, true, false] rfl rfl (any_of HT_.out (by kernel_rfl)) (fun _ _ _ h => h) (Or.inl ⟨by rfl, ?_⟩) ?_ ?_
      rotate_left
      ·intro w'
       go_simp
       with_reducible rfl
      rotate_left
      ·simp only [Act.put, sA, sB, sC, i64_w, i32_w]
       rfl
      refine pure_ (i := 22) (N := some 8) (v := ?_) (a' := ?_) #[true, true, true, true, true, true, true, true, true, true, true, true, true, true, true, true, true, true, true, true, true, true, true] rfl rfl (any_of HT_.out (by kernel_rfl)) (fun _ _ _ h => h) (Or.inl ⟨by rfl, ?_⟩) ?_ ?_
      rotate_left
      ·intro w'
       go_simp
       with_reducible rfl
      rotate_left
      ·simp only [Act.put, sA, sB, sC, i64_w, i32_w]
       rfl
      refine done_ (done_of HT_.out (by kernel_rfl)) ?_
      try go_wp2
      go_ret
      exact ⟨by first | rfl | (simp [errW_none, errW_some] <;> rfl) | (simp [*, errW_none, errW_some] <;> rfl), by repeat (first | (with_reducible first | exact HB.out | apply bA | apply bN | apply bD | refine bE ?_ GE280.out | refine bE ?_ GE281.out | refine bE ?_ GE282.out | refine bE ?_ GE283.out) | exact HB.out)⟩
 ·replace c6 := Bool.eq_false_iff.mpr c6
  subst c6
  have H1 : (some false) = some r := by rw [if_neg (show ¬ (false = true) by decide)] at H; exact H
  clear H
  have H := H1
  clear H1
  obtain rfl := Option.some.inj H
  go_enter Try.func58, Try.ntmps58
  go_wp2_with (first | ((with_reducible refine gate_dst (N := 4) rfl ?_); refine box_event ?hg (N := 4) ?hd (cs := #[.int .i64 a0_0, .int .i64 a0_1]) (t := 41) ?hr ?_; (case hd => rfl); (case hg => rfl); (case hr => first | (go_simp; done) | (go_simp; rfl)); intro gb280 hg w93 hbox hb; have n0_ := Aside0.mk (bS (by repeat (first | (with_reducible first | exact HB.out | apply bA | apply bN | apply bD) | exact HB.out)) hb); have n1_ := Aside0.mk (hbox); have n2_ := Aside0.mk ((by rw [hg]; exact (bZ (by repeat (first | (with_reducible first | exact HB.out | apply bA | apply bN | apply bD) | exact HB.out))) : w.heap.size ≤ gb280)); have n3_ := Aside0.mk ((by rw [hg]; exact (bZ (by repeat (first | (with_reducible first | exact HB.out | apply bA | apply bN | apply bD) | exact HB.out))) : w.heap.size ≤ gb280)); clear HB; have HB := n0_; have BK280 := n1_; have GW280 := n2_; have GE280 := n3_; clear n0_ n1_ n2_ n3_; clear hb hbox hg) | ((with_reducible refine gate_dst (N := 5) rfl ?_); refine box_event ?hg (N := 5) ?hd (cs := #[.int .i64 a1_0, .int .i64 a1_1]) (t := 41) ?hr ?_; (case hd => rfl); (case hg => rfl); (case hr => first | (go_simp; done) | (go_simp; rfl)); intro gb281 hg w94 hbox hb; have n0_ := Aside0.mk (kB (g := gb280) (o := .cells #[.int .i64 a0_0, .int .i64 a0_1] 41 (0, 0)) (by (with_reducible repeat (first | refine kN ?_ _ | refine kD ?_ | refine kA ?_ _)); exact BK280.out) hb); have n1_ := Aside0.mk (bS (by repeat (first | (with_reducible first | exact HB.out | apply bA | apply bN | apply bD | refine bE ?_ GE280.out) | exact HB.out)) hb); have n2_ := Aside0.mk (hbox); have n3_ := Aside0.mk ((by rw [hg]; exact (bZ (by repeat (first | (with_reducible first | exact HB.out | apply bA | apply bN | apply bD | refine bE ?_ GE280.out) | exact HB.out))) : w.heap.size ≤ gb281)); have n4_ := Aside0.mk ((by rw [hg]; exact (bZ (by repeat (first | (with_reducible first | exact HB.out | apply bA | apply bN | apply bD | refine bE ?_ GE280.out) | exact HB.out))) : w.heap.size ≤ gb281)); have n5_ := Aside0.mk ((by rw [hg]; exact Nat.ne_of_lt (blk_lt (g := gb280) (o := .cells #[.int .i64 a0_0, .int .i64 a0_1] 41 (0, 0)) (by (with_reducible repeat (first | refine kN ?_ _ | refine kD ?_ | refine kA ?_ _)); exact BK280.out)) : gb280 ≠ gb281)); have n6_ := Aside0.mk ((by rw [hg]; exact Nat.ne_of_gt (blk_lt (g := gb280) (o := .cells #[.int .i64 a0_0, .int .i64 a0_1] 41 (0, 0)) (by (with_reducible repeat (first | refine kN ?_ _ | refine kD ?_ | refine kA ?_ _)); exact BK280.out)) : gb281 ≠ gb280)); clear BK280; clear HB; have BK280 := n0_; have HB := n1_; have BK281 := n2_; have GW281 := n3_; have GE281 := n4_; have NB280_281 := n5_; have NB281_280 := n6_; clear n0_ n1_ n2_ n3_ n4_ n5_ n6_; clear hb hbox hg) | ((with_reducible refine gate_dst (N := 6) rfl ?_); refine box_event ?hg (N := 6) ?hd (cs := #[.int .i64 a2_0, .int .i64 a2_1]) (t := 41) ?hr ?_; (case hd => rfl); (case hg => rfl); (case hr => first | (go_simp; done) | (go_simp; rfl)); intro gb282 hg w95 hbox hb; have n0_ := Aside0.mk (kB (g := gb280) (o := .cells #[.int .i64 a0_0, .int .i64 a0_1] 41 (0, 0)) (by (with_reducible repeat (first | refine kN ?_ _ | refine kD ?_ | refine kA ?_ _)); exact BK280.out) hb); have n1_ := Aside0.mk (kB (g := gb281) (o := .cells #[.int .i64 a1_0, .int .i64 a1_1] 41 (0, 0)) (by (with_reducible repeat (first | refine kN ?_ _ | refine kD ?_ | refine kA ?_ _)); exact BK281.out) hb); have n2_ := Aside0.mk (bS (by repeat (first | (with_reducible first | exact HB.out | apply bA | apply bN | apply bD | refine bE ?_ GE280.out | refine bE ?_ GE281.out) | exact HB.out)) hb); have n3_ := Aside0.mk (hbox); have n4_ := Aside0.mk ((by rw [hg]; exact (bZ (by repeat (first | (with_reducible first | exact HB.out | apply bA | apply bN | apply bD | refine bE ?_ GE280.out | refine bE ?_ GE281.out) | exact HB.out))) : w.heap.size ≤ gb282)); have n5_ := Aside0.mk ((by rw [hg]; exact (bZ (by repeat (first | (with_reducible first | exact HB.out | apply bA | apply bN | apply bD | refine bE ?_ GE280.out | refine bE ?_ GE281.out) | exact HB.out))) : w.heap.size ≤ gb282)); have n6_ := Aside0.mk ((by rw [hg]; exact Nat.ne_of_lt (blk_lt (g := gb280) (o := .cells #[.int .i64 a0_0, .int .i64 a0_1] 41 (0, 0)) (by (with_reducible repeat (first | refine kN ?_ _ | refine kD ?_ | refine kA ?_ _)); exact BK280.out)) : gb280 ≠ gb282)); have n7_ := Aside0.mk ((by rw [hg]; exact Nat.ne_of_gt (blk_lt (g := gb280) (o := .cells #[.int .i64 a0_0, .int .i64 a0_1] 41 (0, 0)) (by (with_reducible repeat (first | refine kN ?_ _ | refine kD ?_ | refine kA ?_ _)); exact BK280.out)) : gb282 ≠ gb280)); have n8_ := Aside0.mk ((by rw [hg]; exact Nat.ne_of_lt (blk_lt (g := gb281) (o := .cells #[.int .i64 a1_0, .int .i64 a1_1] 41 (0, 0)) (by (with_reducible repeat (first | refine kN ?_ _ | refine kD ?_ | refine kA ?_ _)); exact BK281.out)) : gb281 ≠ gb282)); have n9_ := Aside0.mk ((by rw [hg]; exact Nat.ne_of_gt (blk_lt (g := gb281) (o := .cells #[.int .i64 a1_0, .int .i64 a1_1] 41 (0, 0)) (by (with_reducible repeat (first | refine kN ?_ _ | refine kD ?_ | refine kA ?_ _)); exact BK281.out)) : gb282 ≠ gb281)); clear BK280; clear BK281; clear HB; have BK280 := n0_; have BK281 := n1_; have HB := n2_; have BK282 := n3_; have GW282 := n4_; have GE282 := n5_; have NB280_282 := n6_; have NB282_280 := n7_; have NB281_282 := n8_; have NB282_281 := n9_; clear n0_ n1_ n2_ n3_ n4_ n5_ n6_ n7_ n8_ n9_; clear hb hbox hg) | ((with_reducible refine gate_dst (N := 7) rfl ?_); refine box_event ?hg (N := 7) ?hd (cs := #[.int .i64 a3_0, .int .i64 a3_1]) (t := 41) ?hr ?_; (case hd => rfl); (case hg => rfl); (case hr => first | (go_simp; done) | (go_simp; rfl)); intro gb283 hg w96 hbox hb; have n0_ := Aside0.mk (kB (g := gb280) (o := .cells #[.int .i64 a0_0, .int .i64 a0_1] 41 (0, 0)) (by (with_reducible repeat (first | refine kN ?_ _ | refine kD ?_ | refine kA ?_ _)); exact BK280.out) hb); have n1_ := Aside0.mk (kB (g := gb281) (o := .cells #[.int .i64 a1_0, .int .i64 a1_1] 41 (0, 0)) (by (with_reducible repeat (first | refine kN ?_ _ | refine kD ?_ | refine kA ?_ _)); exact BK281.out) hb); have n2_ := Aside0.mk (kB (g := gb282) (o := .cells #[.int .i64 a2_0, .int .i64 a2_1] 41 (0, 0)) (by (with_reducible repeat (first | refine kN ?_ _ | refine kD ?_ | refine kA ?_ _)); exact BK282.out) hb); have n3_ := Aside0.mk (bS (by repeat (first | (with_reducible first | exact HB.out | apply bA | apply bN | apply bD | refine bE ?_ GE280.out | refine bE ?_ GE281.out | refine bE ?_ GE282.out) | exact HB.out)) hb); have n4_ := Aside0.mk (hbox); have n5_ := Aside0.mk ((by rw [hg]; exact (bZ (by repeat (first | (with_reducible first | exact HB.out | apply bA | apply bN | apply bD | refine bE ?_ GE280.out | refine bE ?_ GE281.out | refine bE ?_ GE282.out) | exact HB.out))) : w.heap.size ≤ gb283)); have n6_ := Aside0.mk ((by rw [hg]; exact (bZ (by repeat (first | (with_reducible first | exact HB.out | apply bA | apply bN | apply bD | refine bE ?_ GE280.out | refine bE ?_ GE281.out | refine bE ?_ GE282.out) | exact HB.out))) : w.heap.size ≤ gb283)); have n7_ := Aside0.mk ((by rw [hg]; exact Nat.ne_of_lt (blk_lt (g := gb280) (o := .cells #[.int .i64 a0_0, .int .i64 a0_1] 41 (0, 0)) (by (with_reducible repeat (first | refine kN ?_ _ | refine kD ?_ | refine kA ?_ _)); exact BK280.out)) : gb280 ≠ gb283)); have n8_ := Aside0.mk ((by rw [hg]; exact Nat.ne_of_gt (blk_lt (g := gb280) (o := .cells #[.int .i64 a0_0, .int .i64 a0_1] 41 (0, 0)) (by (with_reducible repeat (first | refine kN ?_ _ | refine kD ?_ | refine kA ?_ _)); exact BK280.out)) : gb283 ≠ gb280)); have n9_ := Aside0.mk ((by rw [hg]; exact Nat.ne_of_lt (blk_lt (g := gb281) (o := .cells #[.int .i64 a1_0, .int .i64 a1_1] 41 (0, 0)) (by (with_reducible repeat (first | refine kN ?_ _ | refine kD ?_ | refine kA ?_ _)); exact BK281.out)) : gb281 ≠ gb283)); have n10_ := Aside0.mk ((by rw [hg]; exact Nat.ne_of_gt (blk_lt (g := gb281) (o := .cells #[.int .i64 a1_0, .int .i64 a1_1] 41 (0, 0)) (by (with_reducible repeat (first | refine kN ?_ _ | refine kD ?_ | refine kA ?_ _)); exact BK281.out)) : gb283 ≠ gb281)); have n11_ := Aside0.mk ((by rw [hg]; exact Nat.ne_of_lt (blk_lt (g := gb282) (o := .cells #[.int .i64 a2_0, .int .i64 a2_1] 41 (0, 0)) (by (with_reducible repeat (first | refine kN ?_ _ | refine kD ?_ | refine kA ?_ _)); exact BK282.out)) : gb282 ≠ gb283)); have n12_ := Aside0.mk ((by rw [hg]; exact Nat.ne_of_gt (blk_lt (g := gb282) (o := .cells #[.int .i64 a2_0, .int .i64 a2_1] 41 (0, 0)) (by (with_reducible repeat (first | refine kN ?_ _ | refine kD ?_ | refine kA ?_ _)); exact BK282.out)) : gb283 ≠ gb282)); clear BK280; clear BK281; clear BK282; clear HB; have BK280 := n0_; have BK281 := n1_; have BK282 := n2_; have HB := n3_; have BK283 := n4_; have GW283 := n5_; have GE283 := n6_; have NB280_283 := n7_; have NB283_280 := n8_; have NB281_283 := n9_; have NB283_281 := n10_; have NB282_283 := n11_; have NB283_282 := n12_; clear n0_ n1_ n2_ n3_ n4_ n5_ n6_ n7_ n8_ n9_ n10_ n11_ n12_; clear hb hbox hg; have hnb97 := NB280_281.out; have hnc97 := NB281_280.out; have hnb98 := NB280_282.out; have hnc98 := NB282_280.out; have hnb99 := NB280_283.out; have hnc99 := NB283_280.out; have hcz100_0 : w96.cell? ⟨gb280, 0, none⟩ = some (.int .i64 a0_0) := (kC BK280.out 0).trans rfl; have hcz100_1 : w96.cell? ⟨gb280, 1, none⟩ = some (.int .i64 a0_1) := (kC BK280.out 1).trans rfl; have hfz100_0 := kZ BK280.out 0; have hfz100_1 := kZ BK280.out 1; have hnb101 := NB281_282.out; have hnc101 := NB282_281.out; have hnb102 := NB281_283.out; have hnc102 := NB283_281.out; have hcz103_0 : w96.cell? ⟨gb281, 0, none⟩ = some (.int .i64 a1_0) := (kC BK281.out 0).trans rfl; have hcz103_1 : w96.cell? ⟨gb281, 1, none⟩ = some (.int .i64 a1_1) := (kC BK281.out 1).trans rfl; have hfz103_0 := kZ BK281.out 0; have hfz103_1 := kZ BK281.out 1; have hnb104 := NB282_283.out; have hnc104 := NB283_282.out; have hcz105_0 : w96.cell? ⟨gb282, 0, none⟩ = some (.int .i64 a2_0) := (kC BK282.out 0).trans rfl; have hcz105_1 : w96.cell? ⟨gb282, 1, none⟩ = some (.int .i64 a2_1) := (kC BK282.out 1).trans rfl; have hfz105_0 := kZ BK282.out 0; have hfz105_1 := kZ BK282.out 1; have hcz106_0 : w96.cell? ⟨gb283, 0, none⟩ = some (.int .i64 a3_0) := (kC BK283.out 0).trans rfl; have hcz106_1 : w96.cell? ⟨gb283, 1, none⟩ = some (.int .i64 a3_1) := (kC BK283.out 1).trans rfl; have hfz106_0 := kZ BK283.out 0; have hfz106_1 := kZ BK283.out 1) | ((with_reducible refine gate_dst (N := 14) rfl ?_); refine Kd.R_lit k41 _ 41 ?hg (N := 14) ?hd (xs := ([(⟨a0_0, a0_1⟩ : S41), (⟨a1_0, a1_1⟩ : S41), (⟨a2_0, a2_1⟩ : S41), (⟨a3_0, a3_1⟩ : S41)] : List (S41))) (inner := [.int .i64 a0_0, .int .i64 a0_1, .int .i64 a1_0, .int .i64 a1_1, .int .i64 a2_0, .int .i64 a2_1, .int .i64 a3_0, .int .i64 a3_1]) (ok := fun _ => True) (okp := fun _ => True) ?hr ?hp (fun _ hk => hk) trivial (Below.refl _ _) (Nat.le_refl _) (by simp) ?_; (case hd => rfl); (case hg => rfl); (case hr => first | (go_simp; done) | (go_simp; rfl)); (case hp => exact (Reps.c2 (show Kd.M k41 _ _ _ (⟨a0_0, a0_1⟩ : S41) [.int .i64 a0_0, .int .i64 a0_1] from (k41_mkM _ _ _ (⟨a0_0, a0_1⟩ : S41) )) (Reps.c2 (show Kd.M k41 _ _ _ (⟨a1_0, a1_1⟩ : S41) [.int .i64 a1_0, .int .i64 a1_1] from (k41_mkM _ _ _ (⟨a1_0, a1_1⟩ : S41) )) (Reps.c2 (show Kd.M k41 _ _ _ (⟨a2_0, a2_1⟩ : S41) [.int .i64 a2_0, .int .i64 a2_1] from (k41_mkM _ _ _ (⟨a2_0, a2_1⟩ : S41) )) (Reps.c2 (show Kd.M k41 _ _ _ (⟨a3_0, a3_1⟩ : S41) [.int .i64 a3_0, .int .i64 a3_1] from (k41_mkM _ _ _ (⟨a3_0, a3_1⟩ : S41) )) (Reps.none _ _)))))); intro v285 w107 ho108 hb hg_ hnew_; clear hg_ hnew_; (first | rw [← Ny284.out] at ho108 | (simp only [Int.reduceToNat] at ho108; rw [← Ny284.out] at ho108)); have n0_ := Aside0.mk (Kd.R_lower (Kd.R_newB (Kd.R_newB (Kd.R_newB (Kd.R_newB ho108 (g := gb280) (o := .cells #[.int .i64 a0_0, .int .i64 a0_1] 41 (0, 0)) (by (with_reducible repeat (first | refine kN ?_ _ | refine kD ?_ | refine kA ?_ _)); exact BK280.out)) (g := gb281) (o := .cells #[.int .i64 a1_0, .int .i64 a1_1] 41 (0, 0)) (by (with_reducible repeat (first | refine kN ?_ _ | refine kD ?_ | refine kA ?_ _)); exact BK281.out)) (g := gb282) (o := .cells #[.int .i64 a2_0, .int .i64 a2_1] 41 (0, 0)) (by (with_reducible repeat (first | refine kN ?_ _ | refine kD ?_ | refine kA ?_ _)); exact BK282.out)) (g := gb283) (o := .cells #[.int .i64 a3_0, .int .i64 a3_1] 41 (0, 0)) (by (with_reducible repeat (first | refine kN ?_ _ | refine kD ?_ | refine kA ?_ _)); exact BK283.out)) (bZ (by repeat (first | (with_reducible first | exact HB.out | apply bA | apply bN | apply bD | refine bE ?_ GE280.out | refine bE ?_ GE281.out | refine bE ?_ GE282.out | refine bE ?_ GE283.out) | exact HB.out)))); have n1_ := Aside0.mk (kB (g := gb280) (o := .cells #[.int .i64 a0_0, .int .i64 a0_1] 41 (0, 0)) (by (with_reducible repeat (first | refine kN ?_ _ | refine kD ?_ | refine kA ?_ _)); exact BK280.out) hb); have n2_ := Aside0.mk (kB (g := gb281) (o := .cells #[.int .i64 a1_0, .int .i64 a1_1] 41 (0, 0)) (by (with_reducible repeat (first | refine kN ?_ _ | refine kD ?_ | refine kA ?_ _)); exact BK281.out) hb); have n3_ := Aside0.mk (kB (g := gb282) (o := .cells #[.int .i64 a2_0, .int .i64 a2_1] 41 (0, 0)) (by (with_reducible repeat (first | refine kN ?_ _ | refine kD ?_ | refine kA ?_ _)); exact BK282.out) hb); have n4_ := Aside0.mk (kB (g := gb283) (o := .cells #[.int .i64 a3_0, .int .i64 a3_1] 41 (0, 0)) (by (with_reducible repeat (first | refine kN ?_ _ | refine kD ?_ | refine kA ?_ _)); exact BK283.out) hb); have n5_ := Aside0.mk (bS (by repeat (first | (with_reducible first | exact HB.out | apply bA | apply bN | apply bD | refine bE ?_ GE280.out | refine bE ?_ GE281.out | refine bE ?_ GE282.out | refine bE ?_ GE283.out) | exact HB.out)) hb); clear BK280; clear BK281; clear BK282; clear BK283; clear HB; have HO286 := n0_; have BK280 := n1_; have BK281 := n2_; have BK282 := n3_; have BK283 := n4_; have HB := n5_; clear n0_ n1_ n2_ n3_ n4_ n5_; clear hb ho108; obtain ⟨Ao109, co109, eo109⟩ := Kd.R_slice HO286.out; subst eo109) | ((with_reducible refine gate_callee (f := 53) rfl ?_); refine goesL_ (some 15) rfl rfl Try.func53 (by kernel_rfl) rfl #[.slice Ao109 y284.length co109] rfl (by (try simp only [sD, sE, sF]); first | done | rfl | (simp only [sG, sH]; rfl)) ?_; (with_reducible refine (point_right.calls k _ _ y284 false _ ?side1 ?side2 A5.out).mono ?_); (case side1 => repeat (first | exact (Kd.R_reads' HO286.out).2.2 | (with_reducible refine Kd.C_alloc ?_ _) | (with_reducible refine Kd.C_drewN ?_ _) | (with_reducible refine Kd.C_drew ?_))); (case side2 => exact (Kd.R_reads' HO286.out).2.1); rintro e w110 ⟨rfl, hb⟩; refine ⟨_, rfl, ?_⟩; have n0_ := Aside0.mk (Kd.R_below (by (with_reducible repeat (first | apply Kd.R_alloc | apply Kd.R_drewN | apply Kd.R_drew)); exact HO286.out) hb); have n1_ := Aside0.mk (kB (g := gb280) (o := .cells #[.int .i64 a0_0, .int .i64 a0_1] 41 (0, 0)) (by (with_reducible repeat (first | refine kN ?_ _ | refine kD ?_ | refine kA ?_ _)); exact BK280.out) hb); have n2_ := Aside0.mk (kB (g := gb281) (o := .cells #[.int .i64 a1_0, .int .i64 a1_1] 41 (0, 0)) (by (with_reducible repeat (first | refine kN ?_ _ | refine kD ?_ | refine kA ?_ _)); exact BK281.out) hb); have n3_ := Aside0.mk (kB (g := gb282) (o := .cells #[.int .i64 a2_0, .int .i64 a2_1] 41 (0, 0)) (by (with_reducible repeat (first | refine kN ?_ _ | refine kD ?_ | refine kA ?_ _)); exact BK282.out) hb); have n4_ := Aside0.mk (kB (g := gb283) (o := .cells #[.int .i64 a3_0, .int .i64 a3_1] 41 (0, 0)) (by (with_reducible repeat (first | refine kN ?_ _ | refine kD ?_ | refine kA ?_ _)); exact BK283.out) hb); have n5_ := Aside0.mk (bS (by repeat (first | (with_reducible first | exact HB.out | apply bA | apply bN | apply bD | refine bE ?_ GE280.out | refine bE ?_ GE281.out | refine bE ?_ GE282.out | refine bE ?_ GE283.out) | exact HB.out)) hb); clear HO286; clear BK280; clear BK281; clear BK282; clear BK283; clear HB; have HO286 := n0_; have BK280 := n1_; have BK281 := n2_; have BK282 := n3_; have BK283 := n4_; have HB := n5_; clear n0_ n1_ n2_ n3_ n4_ n5_; (try clear hb); (try clear hb2); (try clear hk); (try clear hi)))
  go_ret
  exact ⟨by first | rfl | (simp [errW_none, errW_some] <;> rfl) | (simp [*, errW_none, errW_some] <;> rfl), by repeat (first | (with_reducible first | exact HB.out | apply bA | apply bN | apply bD | refine bE ?_ GE280.out | refine bE ?_ GE281.out | refine bE ?_ GE282.out | refine bE ?_ GE283.out) | exact HB.out)⟩

end Go.Proofs.Ytamlcbmkdfikeaa.PVerdict

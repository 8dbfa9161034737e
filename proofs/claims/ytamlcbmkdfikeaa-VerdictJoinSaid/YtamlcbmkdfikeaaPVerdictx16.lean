-- written by handprint.py, a program of this session's, over the seat Ytamlcbmkdfikeaa
import Derived.Test.YtamlcbmkdfikeaaPVerdictx0
import Derived.Test.YtamlcbmkdfikeaaPVerdictx3
import Derived.Test.YtamlcbmkdfikeaaPVerdictx4
import Derived.Test.YtamlcbmkdfikeaaPVerdictx7
import Derived.Test.YtamlcbmkdfikeaaPVerdictx15
namespace Go.Proofs.Ytamlcbmkdfikeaa.PVerdict
open Go.RowKit Go.Proofs.YtamlcbmkdfikeaaW.PrintWords Go.Proofs.YtamlcbmkdfikeaaW.PrintLast Go.Proofs.YtamlcbmkdfikeaaW.PrintMore
open Go.Proofs.YtamlcbmkdfikeaaW.PrintWords renaming blk_drewN → kN, blk_drew → kD, blk_alloc → kA, blk_put → kP, blk_far → kF, blk_cell → kC, blk_below → kB, blk_frozen → kZ, below_alloc → bA, pw_below_drewN → bN, below_drew1 → bD, below_step → bS, below_size → bZ, below_set → bE
open List renaming setIfInBounds_toArray → sA, set_cons_zero → sB, set_cons_succ → sC, map_toArray → sD, map_cons → sE, map_nil → sF, length_drop → sG, length_take → sH
attribute [local go_sem] max2_int min2_int max_two min_two max_three min_three max_four min_four   -- for this text's walks alone
set_option linter.unusedVariables false
set_option linter.unusedSimpArgs false

/-! ### verdict_Of: function 10 -/
mutual
def verdict_Of.j0 : Nat → Int → Int → Bool → Option (Int)
 | 0, _, _, _ => none
 | k + 1, x9, x10, x30 => if x30 = true then (some 3) else (if x9 > 0 then (verdict_Of.j1 k (decide (x10 > 0))) else (verdict_Of.j1 k false))
def verdict_Of.j1 : Nat → Bool → Option (Int)
 | 0, _ => none
 | k + 1, x37 => if x37 = true then (some 1) else (some 2)
end
def verdict_Of.f (k : Nat) (a0_0 : Int) (a0_1 : Int) (a0_2 : Int) (a0_3 : Int) (a0_4 : Int) (a0_5 : Int) (a0_6 : Int) (a0_7 : Int) (l1_0 : List (S41)) (a1_1 : Int) (a1_2 : Int) (a1_3 : Int) (a1_4 : Int) (a2 : Int) : Option (Int) := (impact_Box.f k a0_0 a0_1 a0_2 a0_3 a0_4 a0_5 a0_6 a0_7 a1_1 a2).bind fun bt363 => (if bt363.2.2.2.2 = true then ((verdict_Speed.f k a0_0 a0_1 a0_2 a0_3 a0_4 a0_5 a0_6 a0_7 a1_2 a2).bind fun t369 => ((verdict_Place.f k a0_0 a0_1 a0_2 a0_3 a0_4 a0_5 a0_6 a0_7 l1_0 a1_1 a1_2 a1_3 a1_4 a2).bind fun t370 => (if t369 < 0 then (verdict_Of.j0 k t369 t370 true) else (verdict_Of.j0 k t369 t370 (decide (t370 < 0)))))) else (some 4))
theorem verdict_Of.mono_l : ∀ k, (∀ y0 y1 y2, LeO (verdict_Of.j0 k y0 y1 y2) (verdict_Of.j0 (k + 1) y0 y1 y2)) ∧ (∀ y0, LeO (verdict_Of.j1 k y0) (verdict_Of.j1 (k + 1) y0))
 | 0 => ⟨fun _ _ _ r h => by simp [verdict_Of.j0] at h, fun _ r h => by simp [verdict_Of.j1] at h⟩
 | k + 1 => by
  obtain ⟨ih0, ih1⟩ := verdict_Of.mono_l k
  refine ⟨?_, ?_⟩
  ·intro y0 y1 y2
   unfold verdict_Of.j0
   repeat' first
   | (with_reducible exact ih0 _ _ _)
   | (with_reducible exact ih1 _)
   | (with_reducible exact impact_Box.mono _ _ _ _ _ _ _ _ _ _ _)
   | (with_reducible exact verdict_Place.mono _ _ _ _ _ _ _ _ _ _ _ _ _ _ _)
   | (with_reducible exact verdict_Speed.mono _ _ _ _ _ _ _ _ _ _ _)
   | (with_reducible exact LeO.refl _)
   | (with_reducible exact LeO.none _)
   | (with_reducible refine LeO.ite ?_ ?_)
   | (with_reducible refine LeO.bind ?_ (fun _ => ?_))
   | exact ih0 _ _ _
   | exact ih1 _
   | exact impact_Box.mono _ _ _ _ _ _ _ _ _ _ _
   | exact verdict_Place.mono _ _ _ _ _ _ _ _ _ _ _ _ _ _ _
   | exact verdict_Speed.mono _ _ _ _ _ _ _ _ _ _ _
   | exact LeO.none _
   | refine LeO.ite ?_ ?_
   | refine LeO.bind ?_ (fun _ => ?_)
  ·intro y0
   unfold verdict_Of.j1
   repeat' first
   | (with_reducible exact ih0 _ _ _)
   | (with_reducible exact ih1 _)
   | (with_reducible exact impact_Box.mono _ _ _ _ _ _ _ _ _ _ _)
   | (with_reducible exact verdict_Place.mono _ _ _ _ _ _ _ _ _ _ _ _ _ _ _)
   | (with_reducible exact verdict_Speed.mono _ _ _ _ _ _ _ _ _ _ _)
   | (with_reducible exact LeO.refl _)
   | (with_reducible exact LeO.none _)
   | (with_reducible refine LeO.ite ?_ ?_)
   | (with_reducible refine LeO.bind ?_ (fun _ => ?_))
   | exact ih0 _ _ _
   | exact ih1 _
   | exact impact_Box.mono _ _ _ _ _ _ _ _ _ _ _
   | exact verdict_Place.mono _ _ _ _ _ _ _ _ _ _ _ _ _ _ _
   | exact verdict_Speed.mono _ _ _ _ _ _ _ _ _ _ _
   | exact LeO.none _
   | refine LeO.ite ?_ ?_
   | refine LeO.bind ?_ (fun _ => ?_)
theorem verdict_Of.mono : ∀ a0 a1 a2 a3 a4 a5 a6 a7 a8 a9 a10 a11 a12 a13 k, LeO (verdict_Of.f k a0 a1 a2 a3 a4 a5 a6 a7 a8 a9 a10 a11 a12 a13) (verdict_Of.f (k + 1) a0 a1 a2 a3 a4 a5 a6 a7 a8 a9 a10 a11 a12 a13) := by
 intro a0 a1 a2 a3 a4 a5 a6 a7 a8 a9 a10 a11 a12 a13 k
 obtain ⟨ih0, ih1⟩ := verdict_Of.mono_l k
 unfold verdict_Of.f
 repeat' first
   | (with_reducible exact ih0 _ _ _)
   | (with_reducible exact ih1 _)
   | (with_reducible exact impact_Box.mono _ _ _ _ _ _ _ _ _ _ _)
   | (with_reducible exact verdict_Place.mono _ _ _ _ _ _ _ _ _ _ _ _ _ _ _)
   | (with_reducible exact verdict_Speed.mono _ _ _ _ _ _ _ _ _ _ _)
   | (with_reducible exact LeO.refl _)
   | (with_reducible exact LeO.none _)
   | (with_reducible refine LeO.ite ?_ ?_)
   | (with_reducible refine LeO.bind ?_ (fun _ => ?_))
   | exact ih0 _ _ _
   | exact ih1 _
   | exact impact_Box.mono _ _ _ _ _ _ _ _ _ _ _
   | exact verdict_Place.mono _ _ _ _ _ _ _ _ _ _ _ _ _ _ _
   | exact verdict_Speed.mono _ _ _ _ _ _ _ _ _ _ _
   | exact LeO.none _
   | refine LeO.ite ?_ ?_
   | refine LeO.bind ?_ (fun _ => ?_)
def verdict_Of.T4 : Bool × List (List Nat × List Nat) := (true, [([], []), ([], []), ([1], [1]), ([], []), ([0, 2, 3], [0, 2, 3]), ([], []), ([], []), ([], []), ([5, 6, 7, 4], [5, 6, 7]), ([4, 8, 0, 1, 2, 3, 4], [4]), ([8, 9, 0, 1, 2, 3, 4, 5, 6, 7, 8, 9], [8])])
def verdict_Of.B4 : List Nat := [0, 0, 2, 0, 15, 0, 0, 0, 255, 511, 1023]
theorem verdict_Of.tab4 : rtab .any (opsOf Try.f10 4) = verdict_Of.T4 := by kernel_rfl
theorem verdict_Of.bits4 : waitsOk verdict_Of.T4.2 verdict_Of.B4 = true := by kernel_rfl
set_option maxHeartbeats 8000000 in
set_option maxRecDepth 100000 in
theorem verdict_Of.calls (k : Nat) (a0_0 : Int) (a0_1 : Int) (a0_2 : Int) (a0_3 : Int) (a0_4 : Int) (a0_5 : Int) (a0_6 : Int) (a0_7 : Int) (A1_0 : Option Addr) (c1_0 : Nat) (l1_0 : List (S41)) (a1_1 : Int) (a1_2 : Int) (a1_3 : Int) (a1_4 : Int) (a2 : Int) (r : Int) (w : World) (hr1_0 : Kd.C k41 w A1_0 l1_0.length l1_0) (hc1_0 : l1_0.length ≤ c1_0) (h : verdict_Of.f k a0_0 a0_1 a0_2 a0_3 a0_4 a0_5 a0_6 a0_7 l1_0 a1_1 a1_2 a1_3 a1_4 a2 = some r) :
  Calls Try.prog 10 #[.agg #[.int .i64 a0_0, .int .i64 a0_1, .int .i64 a0_2, .int .i64 a0_3, .int .i64 a0_4, .int .i64 a0_5, .int .i64 a0_6, .int .i64 a0_7], .agg #[.slice A1_0 l1_0.length c1_0, .int .i64 a1_1, .int .i64 a1_2, .int .i64 a1_3, .int .i64 a1_4], .int .i64 a2] w fun e w' => e = .returned (.int .i64 r) ∧ Below w.heap.size w w' := by
 have hu34 := Try.underlying34
 have hu30 := Try.underlying30
 have hu43 := Try.underlying43
 have HR1_0 := Aside0.mk hr1_0
 have HC1_0 := Aside0.mk hc1_0
 clear hr1_0 hc1_0
 have HB := Aside0.mk (Below.refl w.heap.size w)
 have H : ((impact_Box.f k a0_0 a0_1 a0_2 a0_3 a0_4 a0_5 a0_6 a0_7 a1_1 a2).bind fun bt363 => (if bt363.2.2.2.2 = true then ((verdict_Speed.f k a0_0 a0_1 a0_2 a0_3 a0_4 a0_5 a0_6 a0_7 a1_2 a2).bind fun t369 => ((verdict_Place.f k a0_0 a0_1 a0_2 a0_3 a0_4 a0_5 a0_6 a0_7 l1_0 a1_1 a1_2 a1_3 a1_4 a2).bind fun t370 => (if t369 < 0 then (verdict_Of.j0 k t369 t370 true) else (verdict_Of.j0 k t369 t370 (decide (t370 < 0)))))) else (some 4))) = some r := h
 clear h
 replace H := Option.bind_eq_some_iff.mp H
 obtain ⟨⟨t363, t364, t365, t366, t367⟩, A40, H⟩ := H
 replace H : (if t367 = true then ((verdict_Speed.f k a0_0 a0_1 a0_2 a0_3 a0_4 a0_5 a0_6 a0_7 a1_2 a2).bind fun t369 => ((verdict_Place.f k a0_0 a0_1 a0_2 a0_3 a0_4 a0_5 a0_6 a0_7 l1_0 a1_1 a1_2 a1_3 a1_4 a2).bind fun t370 => (if t369 < 0 then (verdict_Of.j0 k t369 t370 true) else (verdict_Of.j0 k t369 t370 (decide (t370 < 0)))))) else (some 4)) = some r := H
 have A4 := Aside0.mk A40
 clear A40
 by_cases c5 : t367 = true
 ·subst c5
  have H1 : ((verdict_Speed.f k a0_0 a0_1 a0_2 a0_3 a0_4 a0_5 a0_6 a0_7 a1_2 a2).bind fun t369 => ((verdict_Place.f k a0_0 a0_1 a0_2 a0_3 a0_4 a0_5 a0_6 a0_7 l1_0 a1_1 a1_2 a1_3 a1_4 a2).bind fun t370 => (if t369 < 0 then (verdict_Of.j0 k t369 t370 true) else (verdict_Of.j0 k t369 t370 (decide (t370 < 0)))))) = some r := by rw [if_pos rfl] at H; exact H
  clear H
  have H := H1
  clear H1
  replace H := Option.bind_eq_some_iff.mp H
  obtain ⟨t369, A60, H⟩ := H
  replace H : ((verdict_Place.f k a0_0 a0_1 a0_2 a0_3 a0_4 a0_5 a0_6 a0_7 l1_0 a1_1 a1_2 a1_3 a1_4 a2).bind fun t370 => (if t369 < 0 then (verdict_Of.j0 k t369 t370 true) else (verdict_Of.j0 k t369 t370 (decide (t370 < 0))))) = some r := H
  have A6 := Aside0.mk A60
  clear A60
  replace H := Option.bind_eq_some_iff.mp H
  obtain ⟨t370, A70, H⟩ := H
  replace H : (if t369 < 0 then (verdict_Of.j0 k t369 t370 true) else (verdict_Of.j0 k t369 t370 (decide (t370 < 0)))) = some r := H
  have A7 := Aside0.mk A70
  clear A70
  have HC8 := Aside0.mk H
  clear H
  go_enter Try.func10, Try.ntmps10
  try go_wp2_with (first | ((with_reducible refine gate_dst (N := 3) rfl ?_); refine box_event ?hg (N := 3) ?hd (cs := #[.int .i64 a0_0, .int .i64 a0_1, .int .i64 a0_2, .int .i64 a0_3, .int .i64 a0_4, .int .i64 a0_5, .int .i64 a0_6, .int .i64 a0_7]) (t := 34) ?hr ?_; (case hd => rfl); (case hg => rfl); (case hr => first | (go_simp; done) | (go_simp; rfl)); intro gb361 hg w9 hbox hb; have n0_ := Aside0.mk (bS (by repeat (first | (with_reducible first | exact HB.out | apply bA | apply bN | apply bD) | exact HB.out)) hb); have n1_ := Aside0.mk (hbox); have n2_ := Aside0.mk ((by rw [hg]; exact (bZ (by repeat (first | (with_reducible first | exact HB.out | apply bA | apply bN | apply bD) | exact HB.out))) : w.heap.size ≤ gb361)); have n3_ := Aside0.mk ((by rw [hg]; exact (bZ (by repeat (first | (with_reducible first | exact HB.out | apply bA | apply bN | apply bD) | exact HB.out))) : w.heap.size ≤ gb361)); clear HB; have HB := n0_; have BK361 := n1_; have GW361 := n2_; have GE361 := n3_; clear n0_ n1_ n2_ n3_; clear hb hbox hg) | ((with_reducible refine gate_dst (N := 4) rfl ?_); refine box_event ?hg (N := 4) ?hd (cs := #[.slice A1_0 l1_0.length c1_0, .int .i64 a1_1, .int .i64 a1_2, .int .i64 a1_3, .int .i64 a1_4]) (t := 30) ?hr ?_; (case hd => rfl); (case hg => rfl); (case hr => first | (go_simp; done) | (go_simp; rfl)); intro gb362 hg w10 hbox hb; have n0_ := Aside0.mk (kB (g := gb361) (o := .cells #[.int .i64 a0_0, .int .i64 a0_1, .int .i64 a0_2, .int .i64 a0_3, .int .i64 a0_4, .int .i64 a0_5, .int .i64 a0_6, .int .i64 a0_7] 34 (0, 0)) (by (with_reducible repeat (first | refine kN ?_ _ | refine kD ?_ | refine kA ?_ _)); exact BK361.out) hb); have n1_ := Aside0.mk (bS (by repeat (first | (with_reducible first | exact HB.out | apply bA | apply bN | apply bD | refine bE ?_ GE361.out) | exact HB.out)) hb); have n2_ := Aside0.mk (hbox); have n3_ := Aside0.mk ((by rw [hg]; exact (bZ (by repeat (first | (with_reducible first | exact HB.out | apply bA | apply bN | apply bD | refine bE ?_ GE361.out) | exact HB.out))) : w.heap.size ≤ gb362)); have n4_ := Aside0.mk ((by rw [hg]; exact (bZ (by repeat (first | (with_reducible first | exact HB.out | apply bA | apply bN | apply bD | refine bE ?_ GE361.out) | exact HB.out))) : w.heap.size ≤ gb362)); have n5_ := Aside0.mk ((by rw [hg]; exact Nat.ne_of_lt (blk_lt (g := gb361) (o := .cells #[.int .i64 a0_0, .int .i64 a0_1, .int .i64 a0_2, .int .i64 a0_3, .int .i64 a0_4, .int .i64 a0_5, .int .i64 a0_6, .int .i64 a0_7] 34 (0, 0)) (by (with_reducible repeat (first | refine kN ?_ _ | refine kD ?_ | refine kA ?_ _)); exact BK361.out)) : gb361 ≠ gb362)); have n6_ := Aside0.mk ((by rw [hg]; exact Nat.ne_of_gt (blk_lt (g := gb361) (o := .cells #[.int .i64 a0_0, .int .i64 a0_1, .int .i64 a0_2, .int .i64 a0_3, .int .i64 a0_4, .int .i64 a0_5, .int .i64 a0_6, .int .i64 a0_7] 34 (0, 0)) (by (with_reducible repeat (first | refine kN ?_ _ | refine kD ?_ | refine kA ?_ _)); exact BK361.out)) : gb362 ≠ gb361)); clear BK361; clear HB; have BK361 := n0_; have HB := n1_; have BK362 := n2_; have GW362 := n3_; have GE362 := n4_; have NB361_362 := n5_; have NB362_361 := n6_; clear n0_ n1_ n2_ n3_ n4_ n5_ n6_; clear hb hbox hg; have hnb11 := NB361_362.out; have hnc11 := NB362_361.out; have hcz12_0 : w10.cell? ⟨gb361, 0, none⟩ = some (.int .i64 a0_0) := (kC BK361.out 0).trans rfl; have hcz12_1 : w10.cell? ⟨gb361, 1, none⟩ = some (.int .i64 a0_1) := (kC BK361.out 1).trans rfl; have hcz12_2 : w10.cell? ⟨gb361, 2, none⟩ = some (.int .i64 a0_2) := (kC BK361.out 2).trans rfl; have hcz12_3 : w10.cell? ⟨gb361, 3, none⟩ = some (.int .i64 a0_3) := (kC BK361.out 3).trans rfl; have hcz12_4 : w10.cell? ⟨gb361, 4, none⟩ = some (.int .i64 a0_4) := (kC BK361.out 4).trans rfl; have hcz12_5 : w10.cell? ⟨gb361, 5, none⟩ = some (.int .i64 a0_5) := (kC BK361.out 5).trans rfl; have hcz12_6 : w10.cell? ⟨gb361, 6, none⟩ = some (.int .i64 a0_6) := (kC BK361.out 6).trans rfl; have hcz12_7 : w10.cell? ⟨gb361, 7, none⟩ = some (.int .i64 a0_7) := (kC BK361.out 7).trans rfl; have hfz12_0 := kZ BK361.out 0; have hfz12_1 := kZ BK361.out 1; have hfz12_2 := kZ BK361.out 2; have hfz12_3 := kZ BK361.out 3; have hfz12_4 := kZ BK361.out 4; have hfz12_5 := kZ BK361.out 5; have hfz12_6 := kZ BK361.out 6; have hfz12_7 := kZ BK361.out 7; have hcz13_0 : w10.cell? ⟨gb362, 0, none⟩ = some (.slice A1_0 l1_0.length c1_0) := (kC BK362.out 0).trans rfl; have hcz13_1 : w10.cell? ⟨gb362, 1, none⟩ = some (.int .i64 a1_1) := (kC BK362.out 1).trans rfl; have hcz13_2 : w10.cell? ⟨gb362, 2, none⟩ = some (.int .i64 a1_2) := (kC BK362.out 2).trans rfl; have hcz13_3 : w10.cell? ⟨gb362, 3, none⟩ = some (.int .i64 a1_3) := (kC BK362.out 3).trans rfl; have hcz13_4 : w10.cell? ⟨gb362, 4, none⟩ = some (.int .i64 a1_4) := (kC BK362.out 4).trans rfl; have hfz13_0 := kZ BK362.out 0; have hfz13_1 := kZ BK362.out 1; have hfz13_2 := kZ BK362.out 2; have hfz13_3 := kZ BK362.out 3; have hfz13_4 := kZ BK362.out 4) | ((with_reducible refine gate_callee (f := 14) rfl ?_); refine goesL_ (some 16) rfl rfl Try.func14 (by kernel_rfl) rfl #[.agg #[.int .i64 a0_0, .int .i64 a0_1, .int .i64 a0_2, .int .i64 a0_3, .int .i64 a0_4, .int .i64 a0_5, .int .i64 a0_6, .int .i64 a0_7], .int .i64 a1_1, .int .i64 a2] rfl (by (try simp only [sD, sE, sF]); first | done | rfl | (simp only [sG, sH]; rfl)) ?_; (with_reducible refine (impact_Box.calls k a0_0 a0_1 a0_2 a0_3 a0_4 a0_5 a0_6 a0_7 a1_1 a2 t363 t364 t365 t366 true _ A4.out).mono ?_); rintro e w14 ⟨rfl, hb⟩; refine ⟨_, rfl, ?_⟩; have n0_ := Aside0.mk (kB (g := gb361) (o := .cells #[.int .i64 a0_0, .int .i64 a0_1, .int .i64 a0_2, .int .i64 a0_3, .int .i64 a0_4, .int .i64 a0_5, .int .i64 a0_6, .int .i64 a0_7] 34 (0, 0)) (by (with_reducible repeat (first | refine kN ?_ _ | refine kD ?_ | refine kA ?_ _)); exact BK361.out) hb); have n1_ := Aside0.mk (kB (g := gb362) (o := .cells #[.slice A1_0 l1_0.length c1_0, .int .i64 a1_1, .int .i64 a1_2, .int .i64 a1_3, .int .i64 a1_4] 30 (0, 0)) (by (with_reducible repeat (first | refine kN ?_ _ | refine kD ?_ | refine kA ?_ _)); exact BK362.out) hb); have n2_ := Aside0.mk (bS (by repeat (first | (with_reducible first | exact HB.out | apply bA | apply bN | apply bD | refine bE ?_ GE361.out | refine bE ?_ GE362.out) | exact HB.out)) hb); clear BK361; clear BK362; clear HB; have BK361 := n0_; have BK362 := n1_; have HB := n2_; clear n0_ n1_ n2_; (try clear hb); (try clear hb2); (try clear hk); (try clear hi)) | ((with_reducible refine gate_dst (N := 7) rfl ?_); refine box_event ?hg (N := 7) ?hd (cs := #[.int .i64 0, .int .i64 0, .int .i64 0, .int .i64 0]) (t := 43) ?hr ?_; (case hd => rfl); (case hg => rfl); (case hr => first | (go_simp; done) | (go_simp; rfl)); intro gb368 hg w15 hbox hb; have n0_ := Aside0.mk (kB (g := gb361) (o := .cells #[.int .i64 a0_0, .int .i64 a0_1, .int .i64 a0_2, .int .i64 a0_3, .int .i64 a0_4, .int .i64 a0_5, .int .i64 a0_6, .int .i64 a0_7] 34 (0, 0)) (by (with_reducible repeat (first | refine kN ?_ _ | refine kD ?_ | refine kA ?_ _)); exact BK361.out) hb); have n1_ := Aside0.mk (kB (g := gb362) (o := .cells #[.slice A1_0 l1_0.length c1_0, .int .i64 a1_1, .int .i64 a1_2, .int .i64 a1_3, .int .i64 a1_4] 30 (0, 0)) (by (with_reducible repeat (first | refine kN ?_ _ | refine kD ?_ | refine kA ?_ _)); exact BK362.out) hb); have n2_ := Aside0.mk (bS (by repeat (first | (with_reducible first | exact HB.out | apply bA | apply bN | apply bD | refine bE ?_ GE361.out | refine bE ?_ GE362.out) | exact HB.out)) hb); have n3_ := Aside0.mk (hbox); have n4_ := Aside0.mk ((by rw [hg]; exact (bZ (by repeat (first | (with_reducible first | exact HB.out | apply bA | apply bN | apply bD | refine bE ?_ GE361.out | refine bE ?_ GE362.out) | exact HB.out))) : w.heap.size ≤ gb368)); have n5_ := Aside0.mk ((by rw [hg]; exact (bZ (by repeat (first | (with_reducible first | exact HB.out | apply bA | apply bN | apply bD | refine bE ?_ GE361.out | refine bE ?_ GE362.out) | exact HB.out))) : w.heap.size ≤ gb368)); have n6_ := Aside0.mk ((by rw [hg]; exact Nat.ne_of_lt (blk_lt (g := gb361) (o := .cells #[.int .i64 a0_0, .int .i64 a0_1, .int .i64 a0_2, .int .i64 a0_3, .int .i64 a0_4, .int .i64 a0_5, .int .i64 a0_6, .int .i64 a0_7] 34 (0, 0)) (by (with_reducible repeat (first | refine kN ?_ _ | refine kD ?_ | refine kA ?_ _)); exact BK361.out)) : gb361 ≠ gb368)); have n7_ := Aside0.mk ((by rw [hg]; exact Nat.ne_of_gt (blk_lt (g := gb361) (o := .cells #[.int .i64 a0_0, .int .i64 a0_1, .int .i64 a0_2, .int .i64 a0_3, .int .i64 a0_4, .int .i64 a0_5, .int .i64 a0_6, .int .i64 a0_7] 34 (0, 0)) (by (with_reducible repeat (first | refine kN ?_ _ | refine kD ?_ | refine kA ?_ _)); exact BK361.out)) : gb368 ≠ gb361)); have n8_ := Aside0.mk ((by rw [hg]; exact Nat.ne_of_lt (blk_lt (g := gb362) (o := .cells #[.slice A1_0 l1_0.length c1_0, .int .i64 a1_1, .int .i64 a1_2, .int .i64 a1_3, .int .i64 a1_4] 30 (0, 0)) (by (with_reducible repeat (first | refine kN ?_ _ | refine kD ?_ | refine kA ?_ _)); exact BK362.out)) : gb362 ≠ gb368)); have n9_ := Aside0.mk ((by rw [hg]; exact Nat.ne_of_gt (blk_lt (g := gb362) (o := .cells #[.slice A1_0 l1_0.length c1_0, .int .i64 a1_1, .int .i64 a1_2, .int .i64 a1_3, .int .i64 a1_4] 30 (0, 0)) (by (with_reducible repeat (first | refine kN ?_ _ | refine kD ?_ | refine kA ?_ _)); exact BK362.out)) : gb368 ≠ gb362)); clear BK361; clear BK362; clear HB; have BK361 := n0_; have BK362 := n1_; have HB := n2_; have BK368 := n3_; have GW368 := n4_; have GE368 := n5_; have NB361_368 := n6_; have NB368_361 := n7_; have NB362_368 := n8_; have NB368_362 := n9_; clear n0_ n1_ n2_ n3_ n4_ n5_ n6_ n7_ n8_ n9_; clear hb hbox hg; have hnb16 := NB368_361.out; have hnc16 := NB361_368.out; have hnb17 := NB368_362.out; have hnc17 := NB362_368.out; have hcz18_0 : w15.cell? ⟨gb368, 0, none⟩ = some (.int .i64 0) := (kC BK368.out 0).trans rfl; have hcz18_1 : w15.cell? ⟨gb368, 1, none⟩ = some (.int .i64 0) := (kC BK368.out 1).trans rfl; have hcz18_2 : w15.cell? ⟨gb368, 2, none⟩ = some (.int .i64 0) := (kC BK368.out 2).trans rfl; have hcz18_3 : w15.cell? ⟨gb368, 3, none⟩ = some (.int .i64 0) := (kC BK368.out 3).trans rfl; have hfz18_0 := kZ BK368.out 0; have hfz18_1 := kZ BK368.out 1; have hfz18_2 := kZ BK368.out 2; have hfz18_3 := kZ BK368.out 3))
  have n0_ : Aside0 (((((w15.setCell ⟨gb368, 0, none⟩ (.int .i64 t363)).setCell ⟨gb368, 1, none⟩ (.int .i64 t364)).setCell ⟨gb368, 2, none⟩ (.int .i64 t365)).setCell ⟨gb368, 3, none⟩ (.int .i64 t366)).heap[gb361]? = some (.cells #[.int .i64 a0_0, .int .i64 a0_1, .int .i64 a0_2, .int .i64 a0_3, .int .i64 a0_4, .int .i64 a0_5, .int .i64 a0_6, .int .i64 a0_7] 34 (0, 0))) := ⟨by (with_reducible repeat (first | refine kN ?_ _ | refine kD ?_ | refine kA ?_ _)); refine kF ?_ NB361_368.out _; (with_reducible repeat (first | refine kN ?_ _ | refine kD ?_ | refine kA ?_ _)); refine kF ?_ NB361_368.out _; (with_reducible repeat (first | refine kN ?_ _ | refine kD ?_ | refine kA ?_ _)); refine kF ?_ NB361_368.out _; (with_reducible repeat (first | refine kN ?_ _ | refine kD ?_ | refine kA ?_ _)); refine kF ?_ NB361_368.out _; (with_reducible repeat (first | refine kN ?_ _ | refine kD ?_ | refine kA ?_ _)); exact BK361.out⟩
  have n1_ : Aside0 (((((w15.setCell ⟨gb368, 0, none⟩ (.int .i64 t363)).setCell ⟨gb368, 1, none⟩ (.int .i64 t364)).setCell ⟨gb368, 2, none⟩ (.int .i64 t365)).setCell ⟨gb368, 3, none⟩ (.int .i64 t366)).heap[gb362]? = some (.cells #[.slice A1_0 l1_0.length c1_0, .int .i64 a1_1, .int .i64 a1_2, .int .i64 a1_3, .int .i64 a1_4] 30 (0, 0))) := ⟨by (with_reducible repeat (first | refine kN ?_ _ | refine kD ?_ | refine kA ?_ _)); refine kF ?_ NB362_368.out _; (with_reducible repeat (first | refine kN ?_ _ | refine kD ?_ | refine kA ?_ _)); refine kF ?_ NB362_368.out _; (with_reducible repeat (first | refine kN ?_ _ | refine kD ?_ | refine kA ?_ _)); refine kF ?_ NB362_368.out _; (with_reducible repeat (first | refine kN ?_ _ | refine kD ?_ | refine kA ?_ _)); refine kF ?_ NB362_368.out _; (with_reducible repeat (first | refine kN ?_ _ | refine kD ?_ | refine kA ?_ _)); exact BK362.out⟩
  have n2_ : Aside0 (((((w15.setCell ⟨gb368, 0, none⟩ (.int .i64 t363)).setCell ⟨gb368, 1, none⟩ (.int .i64 t364)).setCell ⟨gb368, 2, none⟩ (.int .i64 t365)).setCell ⟨gb368, 3, none⟩ (.int .i64 t366)).heap[gb368]? = some (.cells #[.int .i64 t363, .int .i64 t364, .int .i64 t365, .int .i64 t366] 43 (0, 0))) := ⟨by (with_reducible repeat (first | refine kN ?_ _ | refine kD ?_ | refine kA ?_ _)); refine kP (cs := #[.int .i64 t363, .int .i64 t364, .int .i64 t365, .int .i64 0]) ?_ 3 _ rfl; (with_reducible repeat (first | refine kN ?_ _ | refine kD ?_ | refine kA ?_ _)); refine kP (cs := #[.int .i64 t363, .int .i64 t364, .int .i64 0, .int .i64 0]) ?_ 2 _ rfl; (with_reducible repeat (first | refine kN ?_ _ | refine kD ?_ | refine kA ?_ _)); refine kP (cs := #[.int .i64 t363, .int .i64 0, .int .i64 0, .int .i64 0]) ?_ 1 _ rfl; (with_reducible repeat (first | refine kN ?_ _ | refine kD ?_ | refine kA ?_ _)); refine kP (cs := #[.int .i64 0, .int .i64 0, .int .i64 0, .int .i64 0]) ?_ 0 _ rfl; (with_reducible repeat (first | refine kN ?_ _ | refine kD ?_ | refine kA ?_ _)); exact BK368.out⟩
  have n3_ : Aside0 (Below w.heap.size w ((((w15.setCell ⟨gb368, 0, none⟩ (.int .i64 t363)).setCell ⟨gb368, 1, none⟩ (.int .i64 t364)).setCell ⟨gb368, 2, none⟩ (.int .i64 t365)).setCell ⟨gb368, 3, none⟩ (.int .i64 t366))) := ⟨by repeat (first | (with_reducible first | exact HB.out | apply bA | apply bN | apply bD | refine bE ?_ GE361.out | refine bE ?_ GE362.out | refine bE ?_ GE368.out) | exact HB.out)⟩
  (try clear BK361)
  (try clear BK362)
  (try clear BK368)
  (try clear HB)
  generalize ((((w15.setCell ⟨gb368, 0, none⟩ (.int .i64 t363)).setCell ⟨gb368, 1, none⟩ (.int .i64 t364)).setCell ⟨gb368, 2, none⟩ (.int .i64 t365)).setCell ⟨gb368, 3, none⟩ (.int .i64 t366)) = w19 at n0_ n1_ n2_ n3_ ⊢
  have BK361 := n0_
  have BK362 := n1_
  have BK368 := n2_
  have HB := n3_
  clear n0_ n1_ n2_ n3_
  have n0_ := Aside0.mk (kD BK361.out)
  have n1_ := Aside0.mk (kD BK362.out)
  have n2_ := Aside0.mk (kD BK368.out)
  have n3_ := Aside0.mk (bD HB.out)
  clear BK361
  clear BK362
  clear BK368
  clear HB
  have BK361 := n0_
  have BK362 := n1_
  have BK368 := n2_
  have HB := n3_
  clear n0_ n1_ n2_ n3_
  refine start_ (n := 11) (S := fun w' => w'.cell? ⟨gb361, 0, none⟩ = some (.int .i64 a0_0) ∧ w'.cell? ⟨gb361, 1, none⟩ = some (.int .i64 a0_1) ∧ w'.cell? ⟨gb361, 2, none⟩ = some (.int .i64 a0_2) ∧ w'.cell? ⟨gb361, 3, none⟩ = some (.int .i64 a0_3) ∧ w'.cell? ⟨gb361, 4, none⟩ = some (.int .i64 a0_4) ∧ w'.cell? ⟨gb361, 5, none⟩ = some (.int .i64 a0_5) ∧ w'.cell? ⟨gb361, 6, none⟩ = some (.int .i64 a0_6) ∧ w'.cell? ⟨gb361, 7, none⟩ = some (.int .i64 a0_7) ∧ w'.cell? ⟨gb362, 0, none⟩ = some (.slice A1_0 l1_0.length c1_0) ∧ w'.cell? ⟨gb362, 1, none⟩ = some (.int .i64 a1_1) ∧ w'.cell? ⟨gb362, 2, none⟩ = some (.int .i64 a1_2) ∧ w'.cell? ⟨gb362, 3, none⟩ = some (.int .i64 a1_3) ∧ w'.cell? ⟨gb362, 4, none⟩ = some (.int .i64 a1_4)) (ds := []) #[false, false, false, false, false, false, false, false, false, false, false] (by kernel_rfl) rfl rfl ⟨(kC BK361.out 0).trans rfl, (kC BK361.out 1).trans rfl, (kC BK361.out 2).trans rfl, (kC BK361.out 3).trans rfl, (kC BK361.out 4).trans rfl, (kC BK361.out 5).trans rfl, (kC BK361.out 6).trans rfl, (kC BK361.out 7).trans rfl, (kC BK362.out 0).trans rfl, (kC BK362.out 1).trans rfl, (kC BK362.out 2).trans rfl, (kC BK362.out 3).trans rfl, (kC BK362.out 4).trans rfl⟩ (fun hHeld => ?_); refine with_tabW verdict_Of.tab4 verdict_Of.bits4 (fun HT_ HW_ => ?_)
  generalize w19.drew = w20 at BK361 BK362 BK368 HB hHeld ⊢
  refine pure_ (i := 1) (N := some 22) (v := ?_) (a' := ?_) #[false, true, false, false, false, false, false, false, false, false, false] rfl rfl (any_of HT_.out (by kernel_rfl)) (fun _ _ _ h => h) (Or.inl ⟨by rfl, ?_⟩) ?_ ?_
  rotate_left
  ·intro w'
   go_simp
   with_reducible rfl
  rotate_left
  ·simp only [Act.put, sA, sB, sC, i64_w, i32_w]
   rfl
  refine pure_ (i := 3) (N := some 24) (v := ?_) (a' := ?_) #[false, true, false, true, false, false, false, false, false, false, false] rfl rfl (any_of HT_.out (by kernel_rfl)) (fun _ _ _ h => h) (Or.inl ⟨by rfl, ?_⟩) ?_ ?_
  rotate_left
  ·intro w'
   go_simp
   with_reducible rfl
  rotate_left
  ·simp only [Act.put, sA, sB, sC, i64_w, i32_w]
   rfl
  refine pure_ (i := 7) (N := some 28) (v := ?_) (a' := ?_) #[false, true, false, true, false, false, false, true, false, false, false] rfl rfl (any_of HT_.out (by kernel_rfl)) (fun _ _ _ h => h) (Or.inl ⟨by rfl, ?_⟩) ?_ ?_
  rotate_left
  ·intro w'
   go_simp
   with_reducible rfl
  rotate_left
  ·simp only [Act.put, sA, sB, sC, i64_w, i32_w]
   rfl
  refine take_ (i := 0) (N := some 21) (v := ?_) (a' := ?_) #[true, true, false, true, false, false, false, true, false, false, false] rfl rfl (take_ofW HT_.out HW_.out (by kernel_rfl)) (fun _ _ _ h => h) (Or.inl ⟨by rfl, ?_⟩) hHeld ?_ ?_
  rotate_left
  ·rintro w' ⟨s0, s1, s2, s3, s4, s5, s6, s7, s8, s9, s10, s11, s12⟩
   go_simp
   with_reducible rfl
  rotate_left
  ·simp only [Act.put, sA, sB, sC, i64_w, i32_w]
   rfl
  refine take_ (i := 2) (N := some 23) (v := ?_) (a' := ?_) #[true, true, true, true, false, false, false, true, false, false, false] rfl rfl (take_ofW HT_.out HW_.out (by kernel_rfl)) (fun _ _ _ h => h) (Or.inl ⟨by rfl, ?_⟩) hHeld ?_ ?_
  rotate_left
  ·rintro w' ⟨s0, s1, s2, s3, s4, s5, s6, s7, s8, s9, s10, s11, s12⟩
   go_simp
   with_reducible rfl
  rotate_left
  ·simp only [Act.put, sA, sB, sC, i64_w, i32_w]
   rfl
  refine take_ (i := 5) (N := some 26) (v := ?_) (a' := ?_) #[true, true, true, true, false, true, false, true, false, false, false] rfl rfl (take_ofW HT_.out HW_.out (by kernel_rfl)) (fun _ _ _ h => h) (Or.inl ⟨by rfl, ?_⟩) hHeld ?_ ?_
  rotate_left
  ·rintro w' ⟨s0, s1, s2, s3, s4, s5, s6, s7, s8, s9, s10, s11, s12⟩
   go_simp
   with_reducible rfl
  rotate_left
  ·simp only [Act.put, sA, sB, sC, i64_w, i32_w]
   rfl
  refine take_ (i := 6) (N := some 27) (v := ?_) (a' := ?_) #[true, true, true, true, false, true, true, true, false, false, false] rfl rfl (take_ofW HT_.out HW_.out (by kernel_rfl)) (fun _ _ _ h => h) (Or.inl ⟨by rfl, ?_⟩) hHeld ?_ ?_
  rotate_left
  ·rintro w' ⟨s0, s1, s2, s3, s4, s5, s6, s7, s8, s9, s10, s11, s12⟩
   go_simp
   with_reducible rfl
  rotate_left
  ·simp only [Act.put, sA, sB, sC, i64_w, i32_w]
   rfl
  refine one_ (i := 4) (N := some 25) #[true, true, true, true, true, true, true, true, false, false, false] rfl rfl (one_of HT_.out (by kernel_rfl)) (by decide) (fun K hK => ?_)
  refine goes_ Try.func11 (by kernel_rfl) rfl #[.agg #[.int .i64 a0_0, .int .i64 a0_1, .int .i64 a0_2, .int .i64 a0_3, .int .i64 a0_4, .int .i64 a0_5, .int .i64 a0_6, .int .i64 a0_7], .int .i64 a1_2, .int .i64 a2] (by rfl) rfl rfl (by (try simp only [sD, sE, sF]); first | done | rfl | (simp only [sG, sH]; rfl)) ?_
  with_reducible refine (verdict_Speed.calls k a0_0 a0_1 a0_2 a0_3 a0_4 a0_5 a0_6 a0_7 a1_2 a2 t369 _ A6.out).mono ?_
  rintro e w21 ⟨rfl, hb⟩
  refine ⟨_, rfl, ?_⟩
  have n0_ := Aside0.mk (kB (g := gb361) (o := .cells #[.int .i64 a0_0, .int .i64 a0_1, .int .i64 a0_2, .int .i64 a0_3, .int .i64 a0_4, .int .i64 a0_5, .int .i64 a0_6, .int .i64 a0_7] 34 (0, 0)) (by (with_reducible repeat (first | refine kN ?_ _ | refine kD ?_ | refine kA ?_ _)); exact BK361.out) hb)
  have n1_ := Aside0.mk (kB (g := gb362) (o := .cells #[.slice A1_0 l1_0.length c1_0, .int .i64 a1_1, .int .i64 a1_2, .int .i64 a1_3, .int .i64 a1_4] 30 (0, 0)) (by (with_reducible repeat (first | refine kN ?_ _ | refine kD ?_ | refine kA ?_ _)); exact BK362.out) hb)
  have n2_ := Aside0.mk (kB (g := gb368) (o := .cells #[.int .i64 t363, .int .i64 t364, .int .i64 t365, .int .i64 t366] 43 (0, 0)) (by (with_reducible repeat (first | refine kN ?_ _ | refine kD ?_ | refine kA ?_ _)); exact BK368.out) hb)
  have n3_ := Aside0.mk (bS (by repeat (first | (with_reducible first | exact HB.out | apply bA | apply bN | apply bD | refine bE ?_ GE361.out | refine bE ?_ GE362.out | refine bE ?_ GE368.out) | exact HB.out)) hb)
  clear BK361
  clear BK362
  clear BK368
  clear HB
  have BK361 := n0_
  have BK362 := n1_
  have BK368 := n2_
  have HB := n3_
  clear n0_ n1_ n2_ n3_
  (try clear hb)
  (try clear hb2)
  (try clear hk)
  (try clear hi)
  refine hK.out _ _ ⟨(kC BK361.out 0).trans rfl, (kC BK361.out 1).trans rfl, (kC BK361.out 2).trans rfl, (kC BK361.out 3).trans rfl, (kC BK361.out 4).trans rfl, (kC BK361.out 5).trans rfl, (kC BK361.out 6).trans rfl, (kC BK361.out 7).trans rfl, (kC BK362.out 0).trans rfl, (kC BK362.out 1).trans rfl, (kC BK362.out 2).trans rfl, (kC BK362.out 3).trans rfl, (kC BK362.out 4).trans rfl⟩ (fun hHeld => ?_)
  clear hK K
  refine norm_ (a' := ?_) ?_ ?_
  rotate_left
  ·show Act.put _ (some 25) _ = _
   simp only [Act.put, sA, sB, sC, i64_w, i32_w]
   rfl
  refine one_ (i := 8) (N := some 29) #[true, true, true, true, true, true, true, true, true, false, false] rfl rfl (one_of HT_.out (by kernel_rfl)) (by decide) (fun K hK => ?_)
  refine goes_ Try.func12 (by kernel_rfl) rfl #[.agg #[.int .i64 a0_0, .int .i64 a0_1, .int .i64 a0_2, .int .i64 a0_3, .int .i64 a0_4, .int .i64 a0_5, .int .i64 a0_6, .int .i64 a0_7], .agg #[.slice A1_0 l1_0.length c1_0, .int .i64 a1_1, .int .i64 a1_2, .int .i64 a1_3, .int .i64 a1_4], .int .i64 a2] (by rfl) rfl rfl (by (try simp only [sD, sE, sF]); first | done | rfl | (simp only [sG, sH]; rfl)) ?_
  with_reducible refine (verdict_Place.calls k a0_0 a0_1 a0_2 a0_3 a0_4 a0_5 a0_6 a0_7 _ _ l1_0 a1_1 a1_2 a1_3 a1_4 a2 t370 _ ?side1 ?side2 A7.out).mono ?_
  (case side1 => repeat (first | exact (Kd.C_below HR1_0.out HB.out) | (with_reducible refine Kd.C_alloc ?_ _) | (with_reducible refine Kd.C_drewN ?_ _) | (with_reducible refine Kd.C_drew ?_)))
  (case side2 => exact HC1_0.out)
  rintro e w22 ⟨rfl, hb⟩
  refine ⟨_, rfl, ?_⟩
  have n0_ := Aside0.mk (kB (g := gb361) (o := .cells #[.int .i64 a0_0, .int .i64 a0_1, .int .i64 a0_2, .int .i64 a0_3, .int .i64 a0_4, .int .i64 a0_5, .int .i64 a0_6, .int .i64 a0_7] 34 (0, 0)) (by (with_reducible repeat (first | refine kN ?_ _ | refine kD ?_ | refine kA ?_ _)); exact BK361.out) hb)
  have n1_ := Aside0.mk (kB (g := gb362) (o := .cells #[.slice A1_0 l1_0.length c1_0, .int .i64 a1_1, .int .i64 a1_2, .int .i64 a1_3, .int .i64 a1_4] 30 (0, 0)) (by (with_reducible repeat (first | refine kN ?_ _ | refine kD ?_ | refine kA ?_ _)); exact BK362.out) hb)
  have n2_ := Aside0.mk (kB (g := gb368) (o := .cells #[.int .i64 t363, .int .i64 t364, .int .i64 t365, .int .i64 t366] 43 (0, 0)) (by (with_reducible repeat (first | refine kN ?_ _ | refine kD ?_ | refine kA ?_ _)); exact BK368.out) hb)
  have n3_ := Aside0.mk (bS (by repeat (first | (with_reducible first | exact HB.out | apply bA | apply bN | apply bD | refine bE ?_ GE361.out | refine bE ?_ GE362.out | refine bE ?_ GE368.out) | exact HB.out)) hb)
  clear BK361
  clear BK362
  clear BK368
  clear HB
  have BK361 := n0_
  have BK362 := n1_
  have BK368 := n2_
  have HB := n3_
  clear n0_ n1_ n2_ n3_
  (try clear hb)
  (try clear hb2)
  (try clear hk)
  (try clear hi)
  refine hK.out _ _ ⟨(kC BK361.out 0).trans rfl, (kC BK361.out 1).trans rfl, (kC BK361.out 2).trans rfl, (kC BK361.out 3).trans rfl, (kC BK361.out 4).trans rfl, (kC BK361.out 5).trans rfl, (kC BK361.out 6).trans rfl, (kC BK361.out 7).trans rfl, (kC BK362.out 0).trans rfl, (kC BK362.out 1).trans rfl, (kC BK362.out 2).trans rfl, (kC BK362.out 3).trans rfl, (kC BK362.out 4).trans rfl⟩ (fun hHeld => ?_)
  clear hK K
  refine norm_ (a' := ?_) ?_ ?_
  rotate_left
  ·show Act.put _ (some 29) _ = _
   simp only [Act.put, sA, sB, sC, i64_w, i32_w]
   rfl
  refine pure_ (i := 9) (N := some 9) (v := ?_) (a' := ?_) #[true, true, true, true, true, true, true, true, true, true, false] rfl rfl (any_of HT_.out (by kernel_rfl)) (fun _ _ _ h => h) (Or.inl ⟨by rfl, ?_⟩) ?_ ?_
  rotate_left
  ·intro w'
   go_simp
   with_reducible rfl
  rotate_left
  ·simp only [Act.put, sA, sB, sC, i64_w, i32_w]
   rfl
  refine pure_ (i := 10) (N := some 10) (v := ?_) (a' := ?_) #[true, true, true, true, true, true, true, true, true, true, true] rfl rfl (any_of HT_.out (by kernel_rfl)) (fun _ _ _ h => h) (Or.inl ⟨by rfl, ?_⟩) ?_ ?_
  rotate_left
  ·intro w'
   go_simp
   with_reducible rfl
  rotate_left
  ·simp only [Act.put, sA, sB, sC, i64_w, i32_w]
   rfl
  refine done_ (done_of HT_.out (by kernel_rfl)) ?_
  go_upto_region 5 with (fail)
  go_cut [30] (fun v30 wc => ∃ (kq : Nat) (x30_7 : Bool), v30 = .bool x30_7 ∧ Aside0 (verdict_Of.j0 kq t369 t370 x30_7 = some r) ∧ Aside0 (kq ≤ k) ∧ Aside0 (wc.heap[gb361]? = some (.cells #[.int .i64 a0_0, .int .i64 a0_1, .int .i64 a0_2, .int .i64 a0_3, .int .i64 a0_4, .int .i64 a0_5, .int .i64 a0_6, .int .i64 a0_7] 34 (0, 0))) ∧ Aside0 (wc.heap[gb362]? = some (.cells #[(.slice A1_0 l1_0.length c1_0), .int .i64 a1_1, .int .i64 a1_2, .int .i64 a1_3, .int .i64 a1_4] 30 (0, 0))) ∧ Aside0 (wc.heap[gb368]? = some (.cells #[.int .i64 t363, .int .i64 t364, .int .i64 t365, .int .i64 t366] 43 (0, 0))) ∧ Aside0 (Below w.heap.size w wc))
  case first =>
   have H := HC8.out
   clear HC8
   by_cases c23 : t369 < 0
   ·rw [if_pos c23] at H
    have c23b0 : decide (t369 < 0) = true := decide_eq_true c23
    clear c23
    (first | rw [c23b0] | (simp only [i64_w, i32_w]; rw [c23b0]) | skip)
    have H' := Aside0.mk H
    clear H
    go_wp2
    go_meet
    case rel => exact ⟨_, (true), (by first | rfl | (simp; done) | (simp [*]; done)), H', ⟨by first | omega | exact Nat.le_refl _⟩, ⟨by (with_reducible repeat (first | refine kN ?_ _ | refine kD ?_ | refine kA ?_ _)); exact BK361.out⟩, ⟨by (with_reducible repeat (first | refine kN ?_ _ | refine kD ?_ | refine kA ?_ _)); exact BK362.out⟩, ⟨by (with_reducible repeat (first | refine kN ?_ _ | refine kD ?_ | refine kA ?_ _)); exact BK368.out⟩, ⟨by repeat (first | (with_reducible first | exact HB.out | apply bA | apply bN | apply bD | refine bE ?_ GE361.out | refine bE ?_ GE362.out | refine bE ?_ GE368.out) | exact HB.out)⟩⟩
   ·rw [if_neg c23] at H
    have c23b0 : decide (t369 < 0) = false := decide_eq_false c23
    clear c23
    (first | rw [c23b0] | (simp only [i64_w, i32_w]; rw [c23b0]) | skip)
    have H' := Aside0.mk H
    clear H
    go_wp2
    go_meet
    case rel => exact ⟨_, (decide (t370 < 0)), (by first | rfl | (simp; done) | (simp [*]; done)), H', ⟨by first | omega | exact Nat.le_refl _⟩, ⟨by (with_reducible repeat (first | refine kN ?_ _ | refine kD ?_ | refine kA ?_ _)); exact BK361.out⟩, ⟨by (with_reducible repeat (first | refine kN ?_ _ | refine kD ?_ | refine kA ?_ _)); exact BK362.out⟩, ⟨by (with_reducible repeat (first | refine kN ?_ _ | refine kD ?_ | refine kA ?_ _)); exact BK368.out⟩, ⟨by repeat (first | (with_reducible first | exact HB.out | apply bA | apply bN | apply bD | refine bE ?_ GE361.out | refine bE ?_ GE362.out | refine bE ?_ GE368.out) | exact HB.out)⟩⟩
  case rest =>
   clear HC8
   try clear c1
   try clear c2
   try clear p2
   try clear c5
   try clear c10
   try clear c11
   try clear c12
   try clear c14
   try clear c16
   try clear c17
   try clear c23
   try clear c23b0
   try clear hcz12_0
   try clear hcz12_1
   try clear hcz12_2
   try clear hcz12_3
   try clear hcz12_4
   try clear hcz12_5
   try clear hcz12_6
   try clear hcz12_7
   try clear hcz13_0
   try clear hcz13_1
   try clear hcz13_2
   try clear hcz13_3
   try clear hcz13_4
   try clear hcz18_0
   try clear hcz18_1
   try clear hcz18_2
   try clear hcz18_3
   try clear hfz12_0
   try clear hfz12_1
   try clear hfz12_2
   try clear hfz12_3
   try clear hfz12_4
   try clear hfz12_5
   try clear hfz12_6
   try clear hfz12_7
   try clear hfz13_0
   try clear hfz13_1
   try clear hfz13_2
   try clear hfz13_3
   try clear hfz13_4
   try clear hfz18_0
   try clear hfz18_1
   try clear hfz18_2
   try clear hfz18_3
   obtain ⟨kq, x30_7, rfl, HA, HJ7, BK361, BK362, BK368, HB⟩ := hcut
   cases kq with
   | zero => exact absurd HA.out (by simp [verdict_Of.j0])
   | succ kj7 =>
    have H := HA.out
    clear HA
    simp only [verdict_Of.j0] at H
    by_cases c24 : x30_7 = true
    ·subst c24
     have H1 : (some 3) = some r := by rw [if_pos rfl] at H; exact H
     clear H
     have H := H1
     clear H1
     obtain rfl := Option.some.inj H
     go_wp2
     go_ret
     exact ⟨by first | rfl | (simp [errW_none, errW_some] <;> rfl) | (simp [*, errW_none, errW_some] <;> rfl), by repeat (first | (with_reducible first | exact HB.out | apply bA | apply bN | apply bD | refine bE ?_ GE361.out | refine bE ?_ GE362.out | refine bE ?_ GE368.out) | exact HB.out)⟩
    ·replace c24 := Bool.eq_false_iff.mpr c24
     subst c24
     have H1 : (if t369 > 0 then (verdict_Of.j1 kj7 (decide (t370 > 0))) else (verdict_Of.j1 kj7 false)) = some r := by rw [if_neg (show ¬ (false = true) by decide)] at H; exact H
     clear H
     have H := H1
     clear H1
     have HC25 := Aside0.mk H
     clear H
     go_upto_region 7 with (fail)
     go_cut [37] (fun v37 wc => ∃ (kq : Nat) (x37_24 : Bool), v37 = .bool x37_24 ∧ Aside0 (verdict_Of.j1 kq x37_24 = some r) ∧ Aside0 (kq ≤ kj7) ∧ Aside0 (wc.heap[gb361]? = some (.cells #[.int .i64 a0_0, .int .i64 a0_1, .int .i64 a0_2, .int .i64 a0_3, .int .i64 a0_4, .int .i64 a0_5, .int .i64 a0_6, .int .i64 a0_7] 34 (0, 0))) ∧ Aside0 (wc.heap[gb362]? = some (.cells #[(.slice A1_0 l1_0.length c1_0), .int .i64 a1_1, .int .i64 a1_2, .int .i64 a1_3, .int .i64 a1_4] 30 (0, 0))) ∧ Aside0 (wc.heap[gb368]? = some (.cells #[.int .i64 t363, .int .i64 t364, .int .i64 t365, .int .i64 t366] 43 (0, 0))) ∧ Aside0 (Below w.heap.size w wc))
     case first =>
      have H := HC25.out
      clear HC25
      by_cases c26 : t369 > 0
      ·rw [if_pos c26] at H
       have c26b0 : decide (0 < t369) = true := decide_eq_true c26
       clear c26
       (first | rw [c26b0] | (simp only [i64_w, i32_w]; rw [c26b0]) | skip)
       have H' := Aside0.mk H
       clear H
       go_wp2
       go_meet
       case rel => exact ⟨_, (decide (t370 > 0)), (by first | rfl | (simp; done) | (simp [*]; done)), H', ⟨by have := HJ7.out; first | omega | exact Nat.le_refl _⟩, ⟨by (with_reducible repeat (first | refine kN ?_ _ | refine kD ?_ | refine kA ?_ _)); exact BK361.out⟩, ⟨by (with_reducible repeat (first | refine kN ?_ _ | refine kD ?_ | refine kA ?_ _)); exact BK362.out⟩, ⟨by (with_reducible repeat (first | refine kN ?_ _ | refine kD ?_ | refine kA ?_ _)); exact BK368.out⟩, ⟨by repeat (first | (with_reducible first | exact HB.out | apply bA | apply bN | apply bD | refine bE ?_ GE361.out | refine bE ?_ GE362.out | refine bE ?_ GE368.out) | exact HB.out)⟩⟩
      ·rw [if_neg c26] at H
       have c26b0 : decide (0 < t369) = false := decide_eq_false c26
       clear c26
       (first | rw [c26b0] | (simp only [i64_w, i32_w]; rw [c26b0]) | skip)
       have H' := Aside0.mk H
       clear H
       go_wp2
       go_meet
       case rel => exact ⟨_, (false), (by first | rfl | (simp; done) | (simp [*]; done)), H', ⟨by have := HJ7.out; first | omega | exact Nat.le_refl _⟩, ⟨by (with_reducible repeat (first | refine kN ?_ _ | refine kD ?_ | refine kA ?_ _)); exact BK361.out⟩, ⟨by (with_reducible repeat (first | refine kN ?_ _ | refine kD ?_ | refine kA ?_ _)); exact BK362.out⟩, ⟨by (with_reducible repeat (first | refine kN ?_ _ | refine kD ?_ | refine kA ?_ _)); exact BK368.out⟩, ⟨by repeat (first | (with_reducible first | exact HB.out | apply bA | apply bN | apply bD | refine bE ?_ GE361.out | refine bE ?_ GE362.out | refine bE ?_ GE368.out) | exact HB.out)⟩⟩
     case rest =>
      clear HC25
      try clear c1
      try clear c2
      try clear p2
      try clear c5
      try clear c10
      try clear c11
      try clear c12
      try clear c14
      try clear c16
      try clear c17
      try clear c23
      try clear c23b0
      try clear c24
      try clear c26
      try clear c26b0
      try clear hcz12_0
      try clear hcz12_1
      try clear hcz12_2
      try clear hcz12_3
      try clear hcz12_4
      try clear hcz12_5
      try clear hcz12_6
      try clear hcz12_7
      try clear hcz13_0
      try clear hcz13_1
      try clear hcz13_2
      try clear hcz13_3
      try clear hcz13_4
      try clear hcz18_0
      try clear hcz18_1
      try clear hcz18_2
      try clear hcz18_3
      try clear hfz12_0
      try clear hfz12_1
      try clear hfz12_2
      try clear hfz12_3
      try clear hfz12_4
      try clear hfz12_5
      try clear hfz12_6
      try clear hfz12_7
      try clear hfz13_0
      try clear hfz13_1
      try clear hfz13_2
      try clear hfz13_3
      try clear hfz13_4
      try clear hfz18_0
      try clear hfz18_1
      try clear hfz18_2
      try clear hfz18_3
      try clear p2
      obtain ⟨kq, x37_24, rfl, HA, HJ24, BK361, BK362, BK368, HB⟩ := hcut
      cases kq with
      | zero => exact absurd HA.out (by simp [verdict_Of.j1])
      | succ kj24 =>
       have H := HA.out
       clear HA
       simp only [verdict_Of.j1] at H
       by_cases c27 : x37_24 = true
       ·subst c27
        have H1 : (some 1) = some r := by rw [if_pos rfl] at H; exact H
        clear H
        have H := H1
        clear H1
        obtain rfl := Option.some.inj H
        go_wp2
        go_ret
        exact ⟨by first | rfl | (simp [errW_none, errW_some] <;> rfl) | (simp [*, errW_none, errW_some] <;> rfl), by repeat (first | (with_reducible first | exact HB.out | apply bA | apply bN | apply bD | refine bE ?_ GE361.out | refine bE ?_ GE362.out | refine bE ?_ GE368.out) | exact HB.out)⟩
       ·replace c27 := Bool.eq_false_iff.mpr c27
        subst c27
        have H1 : (some 2) = some r := by rw [if_neg (show ¬ (false = true) by decide)] at H; exact H
        clear H
        have H := H1
        clear H1
        obtain rfl := Option.some.inj H
        go_wp2
        go_ret
        exact ⟨by first | rfl | (simp [errW_none, errW_some] <;> rfl) | (simp [*, errW_none, errW_some] <;> rfl), by repeat (first | (with_reducible first | exact HB.out | apply bA | apply bN | apply bD | refine bE ?_ GE361.out | refine bE ?_ GE362.out | refine bE ?_ GE368.out) | exact HB.out)⟩
 ·replace c5 := Bool.eq_false_iff.mpr c5
  subst c5
  have H1 : (some 4) = some r := by rw [if_neg (show ¬ (false = true) by decide)] at H; exact H
  clear H
  have H := H1
  clear H1
  obtain rfl := Option.some.inj H
  go_enter Try.func10, Try.ntmps10
  go_wp2_with (first | ((with_reducible refine gate_dst (N := 3) rfl ?_); refine box_event ?hg (N := 3) ?hd (cs := #[.int .i64 a0_0, .int .i64 a0_1, .int .i64 a0_2, .int .i64 a0_3, .int .i64 a0_4, .int .i64 a0_5, .int .i64 a0_6, .int .i64 a0_7]) (t := 34) ?hr ?_; (case hd => rfl); (case hg => rfl); (case hr => first | (go_simp; done) | (go_simp; rfl)); intro gb361 hg w28 hbox hb; have n0_ := Aside0.mk (bS (by repeat (first | (with_reducible first | exact HB.out | apply bA | apply bN | apply bD) | exact HB.out)) hb); have n1_ := Aside0.mk (hbox); have n2_ := Aside0.mk ((by rw [hg]; exact (bZ (by repeat (first | (with_reducible first | exact HB.out | apply bA | apply bN | apply bD) | exact HB.out))) : w.heap.size ≤ gb361)); have n3_ := Aside0.mk ((by rw [hg]; exact (bZ (by repeat (first | (with_reducible first | exact HB.out | apply bA | apply bN | apply bD) | exact HB.out))) : w.heap.size ≤ gb361)); clear HB; have HB := n0_; have BK361 := n1_; have GW361 := n2_; have GE361 := n3_; clear n0_ n1_ n2_ n3_; clear hb hbox hg) | ((with_reducible refine gate_dst (N := 4) rfl ?_); refine box_event ?hg (N := 4) ?hd (cs := #[.slice A1_0 l1_0.length c1_0, .int .i64 a1_1, .int .i64 a1_2, .int .i64 a1_3, .int .i64 a1_4]) (t := 30) ?hr ?_; (case hd => rfl); (case hg => rfl); (case hr => first | (go_simp; done) | (go_simp; rfl)); intro gb362 hg w29 hbox hb; have n0_ := Aside0.mk (kB (g := gb361) (o := .cells #[.int .i64 a0_0, .int .i64 a0_1, .int .i64 a0_2, .int .i64 a0_3, .int .i64 a0_4, .int .i64 a0_5, .int .i64 a0_6, .int .i64 a0_7] 34 (0, 0)) (by (with_reducible repeat (first | refine kN ?_ _ | refine kD ?_ | refine kA ?_ _)); exact BK361.out) hb); have n1_ := Aside0.mk (bS (by repeat (first | (with_reducible first | exact HB.out | apply bA | apply bN | apply bD | refine bE ?_ GE361.out) | exact HB.out)) hb); have n2_ := Aside0.mk (hbox); have n3_ := Aside0.mk ((by rw [hg]; exact (bZ (by repeat (first | (with_reducible first | exact HB.out | apply bA | apply bN | apply bD | refine bE ?_ GE361.out) | exact HB.out))) : w.heap.size ≤ gb362)); have n4_ := Aside0.mk ((by rw [hg]; exact (bZ (by repeat (first | (with_reducible first | exact HB.out | apply bA | apply bN | apply bD | refine bE ?_ GE361.out) | exact HB.out))) : w.heap.size ≤ gb362)); have n5_ := Aside0.mk ((by rw [hg]; exact Nat.ne_of_lt (blk_lt (g := gb361) (o := .cells #[.int .i64 a0_0, .int .i64 a0_1, .int .i64 a0_2, .int .i64 a0_3, .int .i64 a0_4, .int .i64 a0_5, .int .i64 a0_6, .int .i64 a0_7] 34 (0, 0)) (by (with_reducible repeat (first | refine kN ?_ _ | refine kD ?_ | refine kA ?_ _)); exact BK361.out)) : gb361 ≠ gb362)); have n6_ := Aside0.mk ((by rw [hg]; exact Nat.ne_of_gt (blk_lt (g := gb361) (o := .cells #[.int .i64 a0_0, .int .i64 a0_1, .int .i64 a0_2, .int .i64 a0_3, .int .i64 a0_4, .int .i64 a0_5, .int .i64 a0_6, .int .i64 a0_7] 34 (0, 0)) (by (with_reducible repeat (first | refine kN ?_ _ | refine kD ?_ | refine kA ?_ _)); exact BK361.out)) : gb362 ≠ gb361)); clear BK361; clear HB; have BK361 := n0_; have HB := n1_; have BK362 := n2_; have GW362 := n3_; have GE362 := n4_; have NB361_362 := n5_; have NB362_361 := n6_; clear n0_ n1_ n2_ n3_ n4_ n5_ n6_; clear hb hbox hg; have hnb30 := NB361_362.out; have hnc30 := NB362_361.out; have hcz31_0 : w29.cell? ⟨gb361, 0, none⟩ = some (.int .i64 a0_0) := (kC BK361.out 0).trans rfl; have hcz31_1 : w29.cell? ⟨gb361, 1, none⟩ = some (.int .i64 a0_1) := (kC BK361.out 1).trans rfl; have hcz31_2 : w29.cell? ⟨gb361, 2, none⟩ = some (.int .i64 a0_2) := (kC BK361.out 2).trans rfl; have hcz31_3 : w29.cell? ⟨gb361, 3, none⟩ = some (.int .i64 a0_3) := (kC BK361.out 3).trans rfl; have hcz31_4 : w29.cell? ⟨gb361, 4, none⟩ = some (.int .i64 a0_4) := (kC BK361.out 4).trans rfl; have hcz31_5 : w29.cell? ⟨gb361, 5, none⟩ = some (.int .i64 a0_5) := (kC BK361.out 5).trans rfl; have hcz31_6 : w29.cell? ⟨gb361, 6, none⟩ = some (.int .i64 a0_6) := (kC BK361.out 6).trans rfl; have hcz31_7 : w29.cell? ⟨gb361, 7, none⟩ = some (.int .i64 a0_7) := (kC BK361.out 7).trans rfl; have hfz31_0 := kZ BK361.out 0; have hfz31_1 := kZ BK361.out 1; have hfz31_2 := kZ BK361.out 2; have hfz31_3 := kZ BK361.out 3; have hfz31_4 := kZ BK361.out 4; have hfz31_5 := kZ BK361.out 5; have hfz31_6 := kZ BK361.out 6; have hfz31_7 := kZ BK361.out 7; have hcz32_0 : w29.cell? ⟨gb362, 0, none⟩ = some (.slice A1_0 l1_0.length c1_0) := (kC BK362.out 0).trans rfl; have hcz32_1 : w29.cell? ⟨gb362, 1, none⟩ = some (.int .i64 a1_1) := (kC BK362.out 1).trans rfl; have hcz32_2 : w29.cell? ⟨gb362, 2, none⟩ = some (.int .i64 a1_2) := (kC BK362.out 2).trans rfl; have hcz32_3 : w29.cell? ⟨gb362, 3, none⟩ = some (.int .i64 a1_3) := (kC BK362.out 3).trans rfl; have hcz32_4 : w29.cell? ⟨gb362, 4, none⟩ = some (.int .i64 a1_4) := (kC BK362.out 4).trans rfl; have hfz32_0 := kZ BK362.out 0; have hfz32_1 := kZ BK362.out 1; have hfz32_2 := kZ BK362.out 2; have hfz32_3 := kZ BK362.out 3; have hfz32_4 := kZ BK362.out 4) | ((with_reducible refine gate_callee (f := 14) rfl ?_); refine goesL_ (some 16) rfl rfl Try.func14 (by kernel_rfl) rfl #[.agg #[.int .i64 a0_0, .int .i64 a0_1, .int .i64 a0_2, .int .i64 a0_3, .int .i64 a0_4, .int .i64 a0_5, .int .i64 a0_6, .int .i64 a0_7], .int .i64 a1_1, .int .i64 a2] rfl (by (try simp only [sD, sE, sF]); first | done | rfl | (simp only [sG, sH]; rfl)) ?_; (with_reducible refine (impact_Box.calls k a0_0 a0_1 a0_2 a0_3 a0_4 a0_5 a0_6 a0_7 a1_1 a2 t363 t364 t365 t366 false _ A4.out).mono ?_); rintro e w33 ⟨rfl, hb⟩; refine ⟨_, rfl, ?_⟩; have n0_ := Aside0.mk (kB (g := gb361) (o := .cells #[.int .i64 a0_0, .int .i64 a0_1, .int .i64 a0_2, .int .i64 a0_3, .int .i64 a0_4, .int .i64 a0_5, .int .i64 a0_6, .int .i64 a0_7] 34 (0, 0)) (by (with_reducible repeat (first | refine kN ?_ _ | refine kD ?_ | refine kA ?_ _)); exact BK361.out) hb); have n1_ := Aside0.mk (kB (g := gb362) (o := .cells #[.slice A1_0 l1_0.length c1_0, .int .i64 a1_1, .int .i64 a1_2, .int .i64 a1_3, .int .i64 a1_4] 30 (0, 0)) (by (with_reducible repeat (first | refine kN ?_ _ | refine kD ?_ | refine kA ?_ _)); exact BK362.out) hb); have n2_ := Aside0.mk (bS (by repeat (first | (with_reducible first | exact HB.out | apply bA | apply bN | apply bD | refine bE ?_ GE361.out | refine bE ?_ GE362.out) | exact HB.out)) hb); clear BK361; clear BK362; clear HB; have BK361 := n0_; have BK362 := n1_; have HB := n2_; clear n0_ n1_ n2_; (try clear hb); (try clear hb2); (try clear hk); (try clear hi)) | ((with_reducible refine gate_dst (N := 7) rfl ?_); refine box_event ?hg (N := 7) ?hd (cs := #[.int .i64 0, .int .i64 0, .int .i64 0, .int .i64 0]) (t := 43) ?hr ?_; (case hd => rfl); (case hg => rfl); (case hr => first | (go_simp; done) | (go_simp; rfl)); intro gb368 hg w34 hbox hb; have n0_ := Aside0.mk (kB (g := gb361) (o := .cells #[.int .i64 a0_0, .int .i64 a0_1, .int .i64 a0_2, .int .i64 a0_3, .int .i64 a0_4, .int .i64 a0_5, .int .i64 a0_6, .int .i64 a0_7] 34 (0, 0)) (by (with_reducible repeat (first | refine kN ?_ _ | refine kD ?_ | refine kA ?_ _)); exact BK361.out) hb); have n1_ := Aside0.mk (kB (g := gb362) (o := .cells #[.slice A1_0 l1_0.length c1_0, .int .i64 a1_1, .int .i64 a1_2, .int .i64 a1_3, .int .i64 a1_4] 30 (0, 0)) (by (with_reducible repeat (first | refine kN ?_ _ | refine kD ?_ | refine kA ?_ _)); exact BK362.out) hb); have n2_ := Aside0.mk (bS (by repeat (first | (with_reducible first | exact HB.out | apply bA | apply bN | apply bD | refine bE ?_ GE361.out | refine bE ?_ GE362.out) | exact HB.out)) hb); have n3_ := Aside0.mk (hbox); have n4_ := Aside0.mk ((by rw [hg]; exact (bZ (by repeat (first | (with_reducible first | exact HB.out | apply bA | apply bN | apply bD | refine bE ?_ GE361.out | refine bE ?_ GE362.out) | exact HB.out))) : w.heap.size ≤ gb368)); have n5_ := Aside0.mk ((by rw [hg]; exact (bZ (by repeat (first | (with_reducible first | exact HB.out | apply bA | apply bN | apply bD | refine bE ?_ GE361.out | refine bE ?_ GE362.out) | exact HB.out))) : w.heap.size ≤ gb368)); have n6_ := Aside0.mk ((by rw [hg]; exact Nat.ne_of_lt (blk_lt (g := gb361) (o := .cells #[.int .i64 a0_0, .int .i64 a0_1, .int .i64 a0_2, .int .i64 a0_3, .int .i64 a0_4, .int .i64 a0_5, .int .i64 a0_6, .int .i64 a0_7] 34 (0, 0)) (by (with_reducible repeat (first | refine kN ?_ _ | refine kD ?_ | refine kA ?_ _)); exact BK361.out)) : gb361 ≠ gb368)); have n7_ := Aside0.mk ((by rw [hg]; exact Nat.ne_of_gt (blk_lt (g := gb361) (o := .cells #[.int .i64 a0_0, .int .i64 a0_1, .int .i64 a0_2, .int .i64 a0_3, .int .i64 a0_4, .int .i64 a0_5, .int .i64 a0_6, .int .i64 a0_7] 34 (0, 0)) (by (with_reducible repeat (first | refine kN ?_ _ | refine kD ?_ | refine kA ?_ _)); exact BK361.out)) : gb368 ≠ gb361)); have n8_ := Aside0.mk ((by rw [hg]; exact Nat.ne_of_lt (blk_lt (g := gb362) (o := .cells #[.slice A1_0 l1_0.length c1_0, .int .i64 a1_1, .int .i64 a1_2, .int .i64 a1_3, .int .i64 a1_4] 30 (0, 0)) (by (with_reducible repeat (first | refine kN ?_ _ | refine kD ?_ | refine kA ?_ _)); exact BK362.out)) : gb362 ≠ gb368)); have n9_ := Aside0.mk ((by rw [hg]; exact Nat.ne_of_gt (blk_lt (g := gb362) (o := .cells #[.slice A1_0 l1_0.length c1_0, .int .i64 a1_1, .int .i64 a1_2, .int .i64 a1_3, .int .i64 a1_4] 30 (0, 0)) (by (with_reducible repeat (first | refine kN ?_ _ | refine kD ?_ | refine kA ?_ _)); exact BK362.out)) : gb368 ≠ gb362)); clear BK361; clear BK362; clear HB; have BK361 := n0_; have BK362 := n1_; have HB := n2_; have BK368 := n3_; have GW368 := n4_; have GE368 := n5_; have NB361_368 := n6_; have NB368_361 := n7_; have NB362_368 := n8_; have NB368_362 := n9_; clear n0_ n1_ n2_ n3_ n4_ n5_ n6_ n7_ n8_ n9_; clear hb hbox hg; have hnb35 := NB368_361.out; have hnc35 := NB361_368.out; have hnb36 := NB368_362.out; have hnc36 := NB362_368.out; have hcz37_0 : w34.cell? ⟨gb368, 0, none⟩ = some (.int .i64 0) := (kC BK368.out 0).trans rfl; have hcz37_1 : w34.cell? ⟨gb368, 1, none⟩ = some (.int .i64 0) := (kC BK368.out 1).trans rfl; have hcz37_2 : w34.cell? ⟨gb368, 2, none⟩ = some (.int .i64 0) := (kC BK368.out 2).trans rfl; have hcz37_3 : w34.cell? ⟨gb368, 3, none⟩ = some (.int .i64 0) := (kC BK368.out 3).trans rfl; have hfz37_0 := kZ BK368.out 0; have hfz37_1 := kZ BK368.out 1; have hfz37_2 := kZ BK368.out 2; have hfz37_3 := kZ BK368.out 3))
  go_ret
  exact ⟨by first | rfl | (simp [errW_none, errW_some] <;> rfl) | (simp [*, errW_none, errW_some] <;> rfl), by repeat (first | (with_reducible first | exact HB.out | apply bA | apply bN | apply bD | refine bE ?_ GE361.out | refine bE ?_ GE362.out | refine bE ?_ GE368.out) | exact HB.out)⟩

/-! ### apogeelaw19_awake: function 5 -/
def apogeelaw19_awake.f (k : Nat)  : Option (Bool) := (apogeelaw19_phase.f k).bind fun bt371 => ((verdict_Of.f k 0 0 0 0 100 3 0 0 bt371.1 bt371.2.1 bt371.2.2.1 bt371.2.2.2.1 bt371.2.2.2.2 2).bind fun t379 => (if t379 = 1 then ((verdict_Of.f k 0 0 0 0 100 250 0 0 bt371.1 bt371.2.1 bt371.2.2.1 bt371.2.2.2.1 bt371.2.2.2.2 2).bind fun t380 => (if t380 = 3 then ((verdict_Of.f k 0 0 5000 0 0 0 0 0 bt371.1 bt371.2.1 bt371.2.2.1 bt371.2.2.2.1 bt371.2.2.2.2 2).bind fun t381 => (if t381 = 3 then ((verdict_Of.f k 0 0 1000 0 0 0 0 0 bt371.1 bt371.2.1 bt371.2.2.1 bt371.2.2.2.1 bt371.2.2.2.2 2).bind fun t382 => (if t382 = 2 then ((verdict_Of.f k 0 0 0 0 0 200 0 0 bt371.1 bt371.2.1 bt371.2.2.1 bt371.2.2.2.1 bt371.2.2.2.2 2).bind fun t383 => (if t383 = 2 then ((verdict_Of.f k 0 0 1099511627776 0 0 0 0 0 bt371.1 bt371.2.1 bt371.2.2.1 bt371.2.2.2.1 bt371.2.2.2.2 2).bind fun t384 => (if t384 = 4 then ((verdict_Speed.f k 0 0 0 0 0 0 0 (-203) 200 2).bind fun t385 => (if t385 = (-1) then ((verdict_Place.f k 0 0 0 0 0 0 0 0 bt371.1 bt371.2.1 bt371.2.2.1 bt371.2.2.2.1 bt371.2.2.2.2 0).bind fun t386 => (if t386 = 1 then ((verdict_Join.f k 1 4).bind fun t387 => (if t387 = 1 then ((verdict_Join.f k 2 3).bind fun t388 => (if t388 = 3 then ((verdict_Sure.f 1).bind fun t389 => (if t389 = true then ((verdict_Sure.f 2).bind fun t390 => (some (!t390))) else (none))) else (none))) else (none))) else (none))) else (none))) else (none))) else (none))) else (none))) else (none))) else (none))) else (none)))
theorem apogeelaw19_awake.mono : ∀ k, LeO (apogeelaw19_awake.f k ) (apogeelaw19_awake.f (k + 1) ) := by
 intro  k
 unfold apogeelaw19_awake.f
 repeat' first
   | (with_reducible exact apogeelaw19_phase.mono _)
   | (with_reducible exact verdict_Join.mono _ _ _)
   | (with_reducible exact verdict_Of.mono _ _ _ _ _ _ _ _ _ _ _ _ _ _ _)
   | (with_reducible exact verdict_Place.mono _ _ _ _ _ _ _ _ _ _ _ _ _ _ _)
   | (with_reducible exact verdict_Speed.mono _ _ _ _ _ _ _ _ _ _ _)
   | (with_reducible exact LeO.refl _)
   | (with_reducible exact LeO.none _)
   | (with_reducible refine LeO.ite ?_ ?_)
   | (with_reducible refine LeO.bind ?_ (fun _ => ?_))
   | exact apogeelaw19_phase.mono _
   | exact verdict_Join.mono _ _ _
   | exact verdict_Of.mono _ _ _ _ _ _ _ _ _ _ _ _ _ _ _
   | exact verdict_Place.mono _ _ _ _ _ _ _ _ _ _ _ _ _ _ _
   | exact verdict_Speed.mono _ _ _ _ _ _ _ _ _ _ _
   | exact LeO.none _
   | refine LeO.ite ?_ ?_
   | refine LeO.bind ?_ (fun _ => ?_)
set_option maxHeartbeats 8000000 in
set_option maxRecDepth 100000 in
theorem apogeelaw19_awake.calls (k : Nat)  (r : Bool) (w : World) (h : apogeelaw19_awake.f k  = some r) :
  Calls Try.prog 5 #[] w fun e w' => e = .returned (.bool r) ∧ Below w.heap.size w w' := by
 have hu30 := Try.underlying30
 have hu34 := Try.underlying34
 have HB := Aside0.mk (Below.refl w.heap.size w)
 have H : ((apogeelaw19_phase.f k).bind fun bt371 => ((verdict_Of.f k 0 0 0 0 100 3 0 0 bt371.1 bt371.2.1 bt371.2.2.1 bt371.2.2.2.1 bt371.2.2.2.2 2).bind fun t379 => (if t379 = 1 then ((verdict_Of.f k 0 0 0 0 100 250 0 0 bt371.1 bt371.2.1 bt371.2.2.1 bt371.2.2.2.1 bt371.2.2.2.2 2).bind fun t380 => (if t380 = 3 then ((verdict_Of.f k 0 0 5000 0 0 0 0 0 bt371.1 bt371.2.1 bt371.2.2.1 bt371.2.2.2.1 bt371.2.2.2.2 2).bind fun t381 => (if t381 = 3 then ((verdict_Of.f k 0 0 1000 0 0 0 0 0 bt371.1 bt371.2.1 bt371.2.2.1 bt371.2.2.2.1 bt371.2.2.2.2 2).bind fun t382 => (if t382 = 2 then ((verdict_Of.f k 0 0 0 0 0 200 0 0 bt371.1 bt371.2.1 bt371.2.2.1 bt371.2.2.2.1 bt371.2.2.2.2 2).bind fun t383 => (if t383 = 2 then ((verdict_Of.f k 0 0 1099511627776 0 0 0 0 0 bt371.1 bt371.2.1 bt371.2.2.1 bt371.2.2.2.1 bt371.2.2.2.2 2).bind fun t384 => (if t384 = 4 then ((verdict_Speed.f k 0 0 0 0 0 0 0 (-203) 200 2).bind fun t385 => (if t385 = (-1) then ((verdict_Place.f k 0 0 0 0 0 0 0 0 bt371.1 bt371.2.1 bt371.2.2.1 bt371.2.2.2.1 bt371.2.2.2.2 0).bind fun t386 => (if t386 = 1 then ((verdict_Join.f k 1 4).bind fun t387 => (if t387 = 1 then ((verdict_Join.f k 2 3).bind fun t388 => (if t388 = 3 then ((verdict_Sure.f 1).bind fun t389 => (if t389 = true then ((verdict_Sure.f 2).bind fun t390 => (some (!t390))) else (none))) else (none))) else (none))) else (none))) else (none))) else (none))) else (none))) else (none))) else (none))) else (none))) else (none)))) = some r := h
 clear h
 replace H := Option.bind_eq_some_iff.mp H
 obtain ⟨⟨t371, t374, t375, t376, t377⟩, A10, H⟩ := H
 replace H : ((verdict_Of.f k 0 0 0 0 100 3 0 0 t371 t374 t375 t376 t377 2).bind fun t379 => (if t379 = 1 then ((verdict_Of.f k 0 0 0 0 100 250 0 0 t371 t374 t375 t376 t377 2).bind fun t380 => (if t380 = 3 then ((verdict_Of.f k 0 0 5000 0 0 0 0 0 t371 t374 t375 t376 t377 2).bind fun t381 => (if t381 = 3 then ((verdict_Of.f k 0 0 1000 0 0 0 0 0 t371 t374 t375 t376 t377 2).bind fun t382 => (if t382 = 2 then ((verdict_Of.f k 0 0 0 0 0 200 0 0 t371 t374 t375 t376 t377 2).bind fun t383 => (if t383 = 2 then ((verdict_Of.f k 0 0 1099511627776 0 0 0 0 0 t371 t374 t375 t376 t377 2).bind fun t384 => (if t384 = 4 then ((verdict_Speed.f k 0 0 0 0 0 0 0 (-203) 200 2).bind fun t385 => (if t385 = (-1) then ((verdict_Place.f k 0 0 0 0 0 0 0 0 t371 t374 t375 t376 t377 0).bind fun t386 => (if t386 = 1 then ((verdict_Join.f k 1 4).bind fun t387 => (if t387 = 1 then ((verdict_Join.f k 2 3).bind fun t388 => (if t388 = 3 then ((verdict_Sure.f 1).bind fun t389 => (if t389 = true then ((verdict_Sure.f 2).bind fun t390 => (some (!t390))) else (none))) else (none))) else (none))) else (none))) else (none))) else (none))) else (none))) else (none))) else (none))) else (none))) else (none))) = some r := H
 have A1 := Aside0.mk A10
 clear A10
 replace H := Option.bind_eq_some_iff.mp H
 obtain ⟨t379, A20, H⟩ := H
 replace H : (if t379 = 1 then ((verdict_Of.f k 0 0 0 0 100 250 0 0 t371 t374 t375 t376 t377 2).bind fun t380 => (if t380 = 3 then ((verdict_Of.f k 0 0 5000 0 0 0 0 0 t371 t374 t375 t376 t377 2).bind fun t381 => (if t381 = 3 then ((verdict_Of.f k 0 0 1000 0 0 0 0 0 t371 t374 t375 t376 t377 2).bind fun t382 => (if t382 = 2 then ((verdict_Of.f k 0 0 0 0 0 200 0 0 t371 t374 t375 t376 t377 2).bind fun t383 => (if t383 = 2 then ((verdict_Of.f k 0 0 1099511627776 0 0 0 0 0 t371 t374 t375 t376 t377 2).bind fun t384 => (if t384 = 4 then ((verdict_Speed.f k 0 0 0 0 0 0 0 (-203) 200 2).bind fun t385 => (if t385 = (-1) then ((verdict_Place.f k 0 0 0 0 0 0 0 0 t371 t374 t375 t376 t377 0).bind fun t386 => (if t386 = 1 then ((verdict_Join.f k 1 4).bind fun t387 => (if t387 = 1 then ((verdict_Join.f k 2 3).bind fun t388 => (if t388 = 3 then ((verdict_Sure.f 1).bind fun t389 => (if t389 = true then ((verdict_Sure.f 2).bind fun t390 => (some (!t390))) else (none))) else (none))) else (none))) else (none))) else (none))) else (none))) else (none))) else (none))) else (none))) else (none))) else (none)) = some r := H
 have A2 := Aside0.mk A20
 clear A20
 by_cases c3 : t379 = 1
 ·rw [if_pos c3] at H
  have c3b0 : (t379 == 1) = true := beq_iff_eq.mpr c3
  have c3b1 : (t379 != 1) = false := bne_eq_false_iff_eq.mpr c3
  clear c3
  replace H := Option.bind_eq_some_iff.mp H
  obtain ⟨t380, A40, H⟩ := H
  replace H : (if t380 = 3 then ((verdict_Of.f k 0 0 5000 0 0 0 0 0 t371 t374 t375 t376 t377 2).bind fun t381 => (if t381 = 3 then ((verdict_Of.f k 0 0 1000 0 0 0 0 0 t371 t374 t375 t376 t377 2).bind fun t382 => (if t382 = 2 then ((verdict_Of.f k 0 0 0 0 0 200 0 0 t371 t374 t375 t376 t377 2).bind fun t383 => (if t383 = 2 then ((verdict_Of.f k 0 0 1099511627776 0 0 0 0 0 t371 t374 t375 t376 t377 2).bind fun t384 => (if t384 = 4 then ((verdict_Speed.f k 0 0 0 0 0 0 0 (-203) 200 2).bind fun t385 => (if t385 = (-1) then ((verdict_Place.f k 0 0 0 0 0 0 0 0 t371 t374 t375 t376 t377 0).bind fun t386 => (if t386 = 1 then ((verdict_Join.f k 1 4).bind fun t387 => (if t387 = 1 then ((verdict_Join.f k 2 3).bind fun t388 => (if t388 = 3 then ((verdict_Sure.f 1).bind fun t389 => (if t389 = true then ((verdict_Sure.f 2).bind fun t390 => (some (!t390))) else (none))) else (none))) else (none))) else (none))) else (none))) else (none))) else (none))) else (none))) else (none))) else (none)) = some r := H
  have A4 := Aside0.mk A40
  clear A40
  by_cases c5 : t380 = 3
  ·rw [if_pos c5] at H
   have c5b0 : (t380 == 3) = true := beq_iff_eq.mpr c5
   have c5b1 : (t380 != 3) = false := bne_eq_false_iff_eq.mpr c5
   clear c5
   replace H := Option.bind_eq_some_iff.mp H
   obtain ⟨t381, A60, H⟩ := H
   replace H : (if t381 = 3 then ((verdict_Of.f k 0 0 1000 0 0 0 0 0 t371 t374 t375 t376 t377 2).bind fun t382 => (if t382 = 2 then ((verdict_Of.f k 0 0 0 0 0 200 0 0 t371 t374 t375 t376 t377 2).bind fun t383 => (if t383 = 2 then ((verdict_Of.f k 0 0 1099511627776 0 0 0 0 0 t371 t374 t375 t376 t377 2).bind fun t384 => (if t384 = 4 then ((verdict_Speed.f k 0 0 0 0 0 0 0 (-203) 200 2).bind fun t385 => (if t385 = (-1) then ((verdict_Place.f k 0 0 0 0 0 0 0 0 t371 t374 t375 t376 t377 0).bind fun t386 => (if t386 = 1 then ((verdict_Join.f k 1 4).bind fun t387 => (if t387 = 1 then ((verdict_Join.f k 2 3).bind fun t388 => (if t388 = 3 then ((verdict_Sure.f 1).bind fun t389 => (if t389 = true then ((verdict_Sure.f 2).bind fun t390 => (some (!t390))) else (none))) else (none))) else (none))) else (none))) else (none))) else (none))) else (none))) else (none))) else (none)) = some r := H
   have A6 := Aside0.mk A60
   clear A60
   by_cases c7 : t381 = 3
   ·rw [if_pos c7] at H
    have c7b0 : (t381 == 3) = true := beq_iff_eq.mpr c7
    have c7b1 : (t381 != 3) = false := bne_eq_false_iff_eq.mpr c7
    clear c7
    replace H := Option.bind_eq_some_iff.mp H
    obtain ⟨t382, A80, H⟩ := H
    replace H : (if t382 = 2 then ((verdict_Of.f k 0 0 0 0 0 200 0 0 t371 t374 t375 t376 t377 2).bind fun t383 => (if t383 = 2 then ((verdict_Of.f k 0 0 1099511627776 0 0 0 0 0 t371 t374 t375 t376 t377 2).bind fun t384 => (if t384 = 4 then ((verdict_Speed.f k 0 0 0 0 0 0 0 (-203) 200 2).bind fun t385 => (if t385 = (-1) then ((verdict_Place.f k 0 0 0 0 0 0 0 0 t371 t374 t375 t376 t377 0).bind fun t386 => (if t386 = 1 then ((verdict_Join.f k 1 4).bind fun t387 => (if t387 = 1 then ((verdict_Join.f k 2 3).bind fun t388 => (if t388 = 3 then ((verdict_Sure.f 1).bind fun t389 => (if t389 = true then ((verdict_Sure.f 2).bind fun t390 => (some (!t390))) else (none))) else (none))) else (none))) else (none))) else (none))) else (none))) else (none))) else (none)) = some r := H
    have A8 := Aside0.mk A80
    clear A80
    by_cases c9 : t382 = 2
    ·rw [if_pos c9] at H
     have c9b0 : (t382 == 2) = true := beq_iff_eq.mpr c9
     have c9b1 : (t382 != 2) = false := bne_eq_false_iff_eq.mpr c9
     clear c9
     replace H := Option.bind_eq_some_iff.mp H
     obtain ⟨t383, A100, H⟩ := H
     replace H : (if t383 = 2 then ((verdict_Of.f k 0 0 1099511627776 0 0 0 0 0 t371 t374 t375 t376 t377 2).bind fun t384 => (if t384 = 4 then ((verdict_Speed.f k 0 0 0 0 0 0 0 (-203) 200 2).bind fun t385 => (if t385 = (-1) then ((verdict_Place.f k 0 0 0 0 0 0 0 0 t371 t374 t375 t376 t377 0).bind fun t386 => (if t386 = 1 then ((verdict_Join.f k 1 4).bind fun t387 => (if t387 = 1 then ((verdict_Join.f k 2 3).bind fun t388 => (if t388 = 3 then ((verdict_Sure.f 1).bind fun t389 => (if t389 = true then ((verdict_Sure.f 2).bind fun t390 => (some (!t390))) else (none))) else (none))) else (none))) else (none))) else (none))) else (none))) else (none)) = some r := H
     have A10 := Aside0.mk A100
     clear A100
     by_cases c11 : t383 = 2
     ·rw [if_pos c11] at H
      have c11b0 : (t383 == 2) = true := beq_iff_eq.mpr c11
      have c11b1 : (t383 != 2) = false := bne_eq_false_iff_eq.mpr c11
      clear c11
      replace H := Option.bind_eq_some_iff.mp H
      obtain ⟨t384, A120, H⟩ := H
      replace H : (if t384 = 4 then ((verdict_Speed.f k 0 0 0 0 0 0 0 (-203) 200 2).bind fun t385 => (if t385 = (-1) then ((verdict_Place.f k 0 0 0 0 0 0 0 0 t371 t374 t375 t376 t377 0).bind fun t386 => (if t386 = 1 then ((verdict_Join.f k 1 4).bind fun t387 => (if t387 = 1 then ((verdict_Join.f k 2 3).bind fun t388 => (if t388 = 3 then ((verdict_Sure.f 1).bind fun t389 => (if t389 = true then ((verdict_Sure.f 2).bind fun t390 => (some (!t390))) else (none))) else (none))) else (none))) else (none))) else (none))) else (none)) = some r := H
      have A12 := Aside0.mk A120
      clear A120
      by_cases c13 : t384 = 4
      ·rw [if_pos c13] at H
       have c13b0 : (t384 == 4) = true := beq_iff_eq.mpr c13
       have c13b1 : (t384 != 4) = false := bne_eq_false_iff_eq.mpr c13
       clear c13
       replace H := Option.bind_eq_some_iff.mp H
       obtain ⟨t385, A140, H⟩ := H
       replace H : (if t385 = (-1) then ((verdict_Place.f k 0 0 0 0 0 0 0 0 t371 t374 t375 t376 t377 0).bind fun t386 => (if t386 = 1 then ((verdict_Join.f k 1 4).bind fun t387 => (if t387 = 1 then ((verdict_Join.f k 2 3).bind fun t388 => (if t388 = 3 then ((verdict_Sure.f 1).bind fun t389 => (if t389 = true then ((verdict_Sure.f 2).bind fun t390 => (some (!t390))) else (none))) else (none))) else (none))) else (none))) else (none)) = some r := H
       have A14 := Aside0.mk A140
       clear A140
       by_cases c15 : t385 = (-1)
       ·rw [if_pos c15] at H
        have c15b0 : (t385 == (-1)) = true := beq_iff_eq.mpr c15
        have c15b1 : (t385 != (-1)) = false := bne_eq_false_iff_eq.mpr c15
        clear c15
        replace H := Option.bind_eq_some_iff.mp H
        obtain ⟨t386, A160, H⟩ := H
        replace H : (if t386 = 1 then ((verdict_Join.f k 1 4).bind fun t387 => (if t387 = 1 then ((verdict_Join.f k 2 3).bind fun t388 => (if t388 = 3 then ((verdict_Sure.f 1).bind fun t389 => (if t389 = true then ((verdict_Sure.f 2).bind fun t390 => (some (!t390))) else (none))) else (none))) else (none))) else (none)) = some r := H
        have A16 := Aside0.mk A160
        clear A160
        by_cases c17 : t386 = 1
        ·rw [if_pos c17] at H
         have c17b0 : (t386 == 1) = true := beq_iff_eq.mpr c17
         have c17b1 : (t386 != 1) = false := bne_eq_false_iff_eq.mpr c17
         clear c17
         replace H := Option.bind_eq_some_iff.mp H
         obtain ⟨t387, A180, H⟩ := H
         replace H : (if t387 = 1 then ((verdict_Join.f k 2 3).bind fun t388 => (if t388 = 3 then ((verdict_Sure.f 1).bind fun t389 => (if t389 = true then ((verdict_Sure.f 2).bind fun t390 => (some (!t390))) else (none))) else (none))) else (none)) = some r := H
         have A18 := Aside0.mk A180
         clear A180
         by_cases c19 : t387 = 1
         ·rw [if_pos c19] at H
          have c19b0 : (t387 == 1) = true := beq_iff_eq.mpr c19
          have c19b1 : (t387 != 1) = false := bne_eq_false_iff_eq.mpr c19
          clear c19
          replace H := Option.bind_eq_some_iff.mp H
          obtain ⟨t388, A200, H⟩ := H
          replace H : (if t388 = 3 then ((verdict_Sure.f 1).bind fun t389 => (if t389 = true then ((verdict_Sure.f 2).bind fun t390 => (some (!t390))) else (none))) else (none)) = some r := H
          have A20 := Aside0.mk A200
          clear A200
          by_cases c21 : t388 = 3
          ·rw [if_pos c21] at H
           have c21b0 : (t388 == 3) = true := beq_iff_eq.mpr c21
           have c21b1 : (t388 != 3) = false := bne_eq_false_iff_eq.mpr c21
           clear c21
           replace H := Option.bind_eq_some_iff.mp H
           obtain ⟨t389, A220, H⟩ := H
           replace H : (if t389 = true then ((verdict_Sure.f 2).bind fun t390 => (some (!t390))) else (none)) = some r := H
           have A22 := Aside0.mk A220
           clear A220
           by_cases c23 : t389 = true
           ·subst c23
            have H1 : ((verdict_Sure.f 2).bind fun t390 => (some (!t390))) = some r := by rw [if_pos rfl] at H; exact H
            clear H
            have H := H1
            clear H1
            replace H := Option.bind_eq_some_iff.mp H
            obtain ⟨t390, A240, H⟩ := H
            replace H : (some (!t390)) = some r := H
            have A24 := Aside0.mk A240
            clear A240
            obtain rfl := Option.some.inj H
            go_enter Try.func5, Try.ntmps5
            have tk1_2_ : True := trivial
            have tk1_3_ : True := trivial
            have tk1_4_ : True := trivial
            have tk1_5_ : True := trivial
            have tk1_6_ : True := trivial
            have tk1_7_ : True := trivial
            have tk1_10_ : True := trivial
            have tk1_11_ : True := trivial
            have tk1_12_ : True := trivial
            have tk1_13_ : True := trivial
            go_wp2_with (first | ((with_reducible refine gate_callee (f := 9) rfl ?_); refine goesL_ (some 2) rfl rfl Try.func9 (by kernel_rfl) rfl #[] rfl (by (try simp only [sD, sE, sF]); first | done | rfl | (simp only [sG, sH]; rfl)) ?_; (with_reducible refine (apogeelaw19_phase.calls k  t371 t374 t375 t376 t377 _ A1.out).mono ?_); rintro e w25 ⟨v372, rfl, ho0, hb⟩; refine ⟨_, rfl, ?_⟩; have n0_ := Aside0.mk (Kd.R_lower ho0 (bZ (by repeat (first | (with_reducible first | exact HB.out | apply bA | apply bN | apply bD) | exact HB.out)))); have n1_ := Aside0.mk (bS (by repeat (first | (with_reducible first | exact HB.out | apply bA | apply bN | apply bD) | exact HB.out)) hb); clear HB; have HO373 := n0_; have HB := n1_; clear n0_ n1_; (try clear hb); (try clear hb2); (try clear hk); (try clear hi); (try clear ho0)) | ((with_reducible refine gate_dst (N := 1) rfl ?_); refine box_event ?hg (N := 1) ?hd (cs := #[.slice none 0 0, .int .i64 0, .int .i64 0, .int .i64 0, .int .i64 0]) (t := 30) ?hr ?_; (case hd => rfl); (case hg => rfl); (case hr => first | (go_simp; done) | (go_simp; rfl)); intro gb378 hg w26 hbox hb; have n0_ := Aside0.mk (Kd.R_below (by (with_reducible repeat (first | apply Kd.R_alloc | apply Kd.R_drewN | apply Kd.R_drew)); exact HO373.out) hb); have n1_ := Aside0.mk (bS (by repeat (first | (with_reducible first | exact HB.out | apply bA | apply bN | apply bD) | exact HB.out)) hb); have n2_ := Aside0.mk (hbox); have n3_ := Aside0.mk ((by rw [hg]; exact (bZ (by repeat (first | (with_reducible first | exact HB.out | apply bA | apply bN | apply bD) | exact HB.out))) : w.heap.size ≤ gb378)); have n4_ := Aside0.mk ((by rw [hg]; exact (bZ (by repeat (first | (with_reducible first | exact HB.out | apply bA | apply bN | apply bD) | exact HB.out))) : w.heap.size ≤ gb378)); clear HO373; clear HB; have HO373 := n0_; have HB := n1_; have BK378 := n2_; have GW378 := n3_; have GE378 := n4_; clear n0_ n1_ n2_ n3_ n4_; clear hb hbox hg; obtain ⟨Ao27, co27, eo27⟩ := Kd.R_slice HO373.out; subst eo27; have hcz28_0 : w26.cell? ⟨gb378, 0, none⟩ = some (.slice none 0 0) := (kC BK378.out 0).trans rfl; have hcz28_1 : w26.cell? ⟨gb378, 1, none⟩ = some (.int .i64 0) := (kC BK378.out 1).trans rfl; have hcz28_2 : w26.cell? ⟨gb378, 2, none⟩ = some (.int .i64 0) := (kC BK378.out 2).trans rfl; have hcz28_3 : w26.cell? ⟨gb378, 3, none⟩ = some (.int .i64 0) := (kC BK378.out 3).trans rfl; have hcz28_4 : w26.cell? ⟨gb378, 4, none⟩ = some (.int .i64 0) := (kC BK378.out 4).trans rfl; have hfz28_0 := kZ BK378.out 0; have hfz28_1 := kZ BK378.out 1; have hfz28_2 := kZ BK378.out 2; have hfz28_3 := kZ BK378.out 3; have hfz28_4 := kZ BK378.out 4) | ((with_reducible refine gate_callee (f := 10) rfl ?_); have q_ := tk1_2_; clear q_ tk1_2_; refine goesL_ (some 5) rfl rfl Try.func10 (by kernel_rfl) rfl #[.agg #[.int .i64 0, .int .i64 0, .int .i64 0, .int .i64 0, .int .i64 100, .int .i64 3, .int .i64 0, .int .i64 0], .agg #[.slice Ao27 t371.length co27, .int .i64 t374, .int .i64 t375, .int .i64 t376, .int .i64 t377], .int .i64 2] rfl (by (try simp only [sD, sE, sF]); first | done | rfl | (simp only [sG, sH]; rfl)) ?_; (with_reducible refine (verdict_Of.calls k 0 0 0 0 100 3 0 0 _ _ t371 t374 t375 t376 t377 2 t379 _ ?side1 ?side2 A2.out).mono ?_); (case side1 => refine (Kd.R_reads' (e := 41) (base := w.heap.size) (ok := fun k_ => True) (n := t371.length) (c := co27) ?_).2.2; exact (by (with_reducible repeat (first | apply Kd.R_alloc | apply Kd.R_drewN | apply Kd.R_drew)); exact (Kd.R_mono (Kd.R_far (p := ⟨gb378, 4, none⟩) (Kd.R_far (p := ⟨gb378, 3, none⟩) (Kd.R_far (p := ⟨gb378, 2, none⟩) (Kd.R_far (p := ⟨gb378, 1, none⟩) (Kd.R_far (p := ⟨gb378, 0, none⟩) (Kd.R_types HO373.out BK378.out (by decide)) (fun _ hk => hk.2) (.slice Ao27 t371.length co27)) (fun _ hk => hk.2) (.int .i64 t374)) (fun _ hk => hk.2) (.int .i64 t375)) (fun _ hk => hk.2) (.int .i64 t376)) (fun _ hk => hk.2) (.int .i64 t377)) (fun _ h_ => h_.1)))); (case side2 => exact (Kd.R_reads' HO373.out).2.1); rintro e w29 ⟨rfl, hb⟩; refine ⟨_, rfl, ?_⟩; have n0_ := Aside0.mk (Kd.R_below (by (with_reducible repeat (first | apply Kd.R_alloc | apply Kd.R_drewN | apply Kd.R_drew)); exact (Kd.R_mono (Kd.R_far (p := ⟨gb378, 4, none⟩) (Kd.R_far (p := ⟨gb378, 3, none⟩) (Kd.R_far (p := ⟨gb378, 2, none⟩) (Kd.R_far (p := ⟨gb378, 1, none⟩) (Kd.R_far (p := ⟨gb378, 0, none⟩) (Kd.R_types HO373.out BK378.out (by decide)) (fun _ hk => hk.2) (.slice Ao27 t371.length co27)) (fun _ hk => hk.2) (.int .i64 t374)) (fun _ hk => hk.2) (.int .i64 t375)) (fun _ hk => hk.2) (.int .i64 t376)) (fun _ hk => hk.2) (.int .i64 t377)) (fun _ h_ => h_.1))) hb); have n1_ := Aside0.mk (kB (g := gb378) (o := .cells #[.slice Ao27 t371.length co27, .int .i64 t374, .int .i64 t375, .int .i64 t376, .int .i64 t377] 30 (0, 0)) (by (with_reducible repeat (first | refine kN ?_ _ | refine kD ?_ | refine kA ?_ _)); refine kP (cs := #[.slice Ao27 t371.length co27, .int .i64 t374, .int .i64 t375, .int .i64 t376, .int .i64 0]) ?_ 4 _ rfl; (with_reducible repeat (first | refine kN ?_ _ | refine kD ?_ | refine kA ?_ _)); refine kP (cs := #[.slice Ao27 t371.length co27, .int .i64 t374, .int .i64 t375, .int .i64 0, .int .i64 0]) ?_ 3 _ rfl; (with_reducible repeat (first | refine kN ?_ _ | refine kD ?_ | refine kA ?_ _)); refine kP (cs := #[.slice Ao27 t371.length co27, .int .i64 t374, .int .i64 0, .int .i64 0, .int .i64 0]) ?_ 2 _ rfl; (with_reducible repeat (first | refine kN ?_ _ | refine kD ?_ | refine kA ?_ _)); refine kP (cs := #[.slice Ao27 t371.length co27, .int .i64 0, .int .i64 0, .int .i64 0, .int .i64 0]) ?_ 1 _ rfl; (with_reducible repeat (first | refine kN ?_ _ | refine kD ?_ | refine kA ?_ _)); refine kP (cs := #[.slice none 0 0, .int .i64 0, .int .i64 0, .int .i64 0, .int .i64 0]) ?_ 0 _ rfl; (with_reducible repeat (first | refine kN ?_ _ | refine kD ?_ | refine kA ?_ _)); exact BK378.out) hb); have n2_ := Aside0.mk (bS (by repeat (first | (with_reducible first | exact HB.out | apply bA | apply bN | apply bD | refine bE ?_ GE378.out) | exact HB.out)) hb); clear HO373; clear BK378; clear HB; have HO373 := n0_; have BK378 := n1_; have HB := n2_; clear n0_ n1_ n2_; (try clear hb); (try clear hb2); (try clear hk); (try clear hi); have hcz30_0 : w29.cell? ⟨gb378, 0, none⟩ = some (.slice Ao27 t371.length co27) := (kC BK378.out 0).trans rfl; have hcz30_1 : w29.cell? ⟨gb378, 1, none⟩ = some (.int .i64 t374) := (kC BK378.out 1).trans rfl; have hcz30_2 : w29.cell? ⟨gb378, 2, none⟩ = some (.int .i64 t375) := (kC BK378.out 2).trans rfl; have hcz30_3 : w29.cell? ⟨gb378, 3, none⟩ = some (.int .i64 t376) := (kC BK378.out 3).trans rfl; have hcz30_4 : w29.cell? ⟨gb378, 4, none⟩ = some (.int .i64 t377) := (kC BK378.out 4).trans rfl; have hfz30_0 := kZ BK378.out 0; have hfz30_1 := kZ BK378.out 1; have hfz30_2 := kZ BK378.out 2; have hfz30_3 := kZ BK378.out 3; have hfz30_4 := kZ BK378.out 4) | (go_at_call 10; have q_ := tk1_3_; clear q_ tk1_3_; (with_reducible refine (verdict_Of.calls k 0 0 0 0 100 250 0 0 _ _ t371 t374 t375 t376 t377 2 t380 _ ?side1 ?side2 A4.out).mono ?_); (case side1 => repeat (first | exact (Kd.R_reads' HO373.out).2.2 | (with_reducible refine Kd.C_alloc ?_ _) | (with_reducible refine Kd.C_drewN ?_ _) | (with_reducible refine Kd.C_drew ?_))); (case side2 => exact (Kd.R_reads' HO373.out).2.1); rintro e w31 ⟨rfl, hb⟩; have n0_ := Aside0.mk (Kd.R_below (by (with_reducible repeat (first | apply Kd.R_alloc | apply Kd.R_drewN | apply Kd.R_drew)); exact HO373.out) hb); have n1_ := Aside0.mk (kB (g := gb378) (o := .cells #[.slice Ao27 t371.length co27, .int .i64 t374, .int .i64 t375, .int .i64 t376, .int .i64 t377] 30 (0, 0)) (by (with_reducible repeat (first | refine kN ?_ _ | refine kD ?_ | refine kA ?_ _)); exact BK378.out) hb); have n2_ := Aside0.mk (bS (by repeat (first | (with_reducible first | exact HB.out | apply bA | apply bN | apply bD | refine bE ?_ GE378.out) | exact HB.out)) hb); clear HO373; clear BK378; clear HB; have HO373 := n0_; have BK378 := n1_; have HB := n2_; clear n0_ n1_ n2_; (try clear hb); (try clear hb2); (try clear hk); (try clear hi); have hcz32_0 : w31.cell? ⟨gb378, 0, none⟩ = some (.slice Ao27 t371.length co27) := (kC BK378.out 0).trans rfl; have hcz32_1 : w31.cell? ⟨gb378, 1, none⟩ = some (.int .i64 t374) := (kC BK378.out 1).trans rfl; have hcz32_2 : w31.cell? ⟨gb378, 2, none⟩ = some (.int .i64 t375) := (kC BK378.out 2).trans rfl; have hcz32_3 : w31.cell? ⟨gb378, 3, none⟩ = some (.int .i64 t376) := (kC BK378.out 3).trans rfl; have hcz32_4 : w31.cell? ⟨gb378, 4, none⟩ = some (.int .i64 t377) := (kC BK378.out 4).trans rfl; have hfz32_0 := kZ BK378.out 0; have hfz32_1 := kZ BK378.out 1; have hfz32_2 := kZ BK378.out 2; have hfz32_3 := kZ BK378.out 3; have hfz32_4 := kZ BK378.out 4) | (go_at_call 10; have q_ := tk1_4_; clear q_ tk1_4_; (with_reducible refine (verdict_Of.calls k 0 0 5000 0 0 0 0 0 _ _ t371 t374 t375 t376 t377 2 t381 _ ?side1 ?side2 A6.out).mono ?_); (case side1 => repeat (first | exact (Kd.R_reads' HO373.out).2.2 | (with_reducible refine Kd.C_alloc ?_ _) | (with_reducible refine Kd.C_drewN ?_ _) | (with_reducible refine Kd.C_drew ?_))); (case side2 => exact (Kd.R_reads' HO373.out).2.1); rintro e w33 ⟨rfl, hb⟩; have n0_ := Aside0.mk (Kd.R_below (by (with_reducible repeat (first | apply Kd.R_alloc | apply Kd.R_drewN | apply Kd.R_drew)); exact HO373.out) hb); have n1_ := Aside0.mk (kB (g := gb378) (o := .cells #[.slice Ao27 t371.length co27, .int .i64 t374, .int .i64 t375, .int .i64 t376, .int .i64 t377] 30 (0, 0)) (by (with_reducible repeat (first | refine kN ?_ _ | refine kD ?_ | refine kA ?_ _)); exact BK378.out) hb); have n2_ := Aside0.mk (bS (by repeat (first | (with_reducible first | exact HB.out | apply bA | apply bN | apply bD | refine bE ?_ GE378.out) | exact HB.out)) hb); clear HO373; clear BK378; clear HB; have HO373 := n0_; have BK378 := n1_; have HB := n2_; clear n0_ n1_ n2_; (try clear hb); (try clear hb2); (try clear hk); (try clear hi); have hcz34_0 : w33.cell? ⟨gb378, 0, none⟩ = some (.slice Ao27 t371.length co27) := (kC BK378.out 0).trans rfl; have hcz34_1 : w33.cell? ⟨gb378, 1, none⟩ = some (.int .i64 t374) := (kC BK378.out 1).trans rfl; have hcz34_2 : w33.cell? ⟨gb378, 2, none⟩ = some (.int .i64 t375) := (kC BK378.out 2).trans rfl; have hcz34_3 : w33.cell? ⟨gb378, 3, none⟩ = some (.int .i64 t376) := (kC BK378.out 3).trans rfl; have hcz34_4 : w33.cell? ⟨gb378, 4, none⟩ = some (.int .i64 t377) := (kC BK378.out 4).trans rfl; have hfz34_0 := kZ BK378.out 0; have hfz34_1 := kZ BK378.out 1; have hfz34_2 := kZ BK378.out 2; have hfz34_3 := kZ BK378.out 3; have hfz34_4 := kZ BK378.out 4) | (go_at_call 10; have q_ := tk1_5_; clear q_ tk1_5_; (with_reducible refine (verdict_Of.calls k 0 0 1000 0 0 0 0 0 _ _ t371 t374 t375 t376 t377 2 t382 _ ?side1 ?side2 A8.out).mono ?_); (case side1 => repeat (first | exact (Kd.R_reads' HO373.out).2.2 | (with_reducible refine Kd.C_alloc ?_ _) | (with_reducible refine Kd.C_drewN ?_ _) | (with_reducible refine Kd.C_drew ?_))); (case side2 => exact (Kd.R_reads' HO373.out).2.1); rintro e w35 ⟨rfl, hb⟩; have n0_ := Aside0.mk (Kd.R_below (by (with_reducible repeat (first | apply Kd.R_alloc | apply Kd.R_drewN | apply Kd.R_drew)); exact HO373.out) hb); have n1_ := Aside0.mk (kB (g := gb378) (o := .cells #[.slice Ao27 t371.length co27, .int .i64 t374, .int .i64 t375, .int .i64 t376, .int .i64 t377] 30 (0, 0)) (by (with_reducible repeat (first | refine kN ?_ _ | refine kD ?_ | refine kA ?_ _)); exact BK378.out) hb); have n2_ := Aside0.mk (bS (by repeat (first | (with_reducible first | exact HB.out | apply bA | apply bN | apply bD | refine bE ?_ GE378.out) | exact HB.out)) hb); clear HO373; clear BK378; clear HB; have HO373 := n0_; have BK378 := n1_; have HB := n2_; clear n0_ n1_ n2_; (try clear hb); (try clear hb2); (try clear hk); (try clear hi); have hcz36_0 : w35.cell? ⟨gb378, 0, none⟩ = some (.slice Ao27 t371.length co27) := (kC BK378.out 0).trans rfl; have hcz36_1 : w35.cell? ⟨gb378, 1, none⟩ = some (.int .i64 t374) := (kC BK378.out 1).trans rfl; have hcz36_2 : w35.cell? ⟨gb378, 2, none⟩ = some (.int .i64 t375) := (kC BK378.out 2).trans rfl; have hcz36_3 : w35.cell? ⟨gb378, 3, none⟩ = some (.int .i64 t376) := (kC BK378.out 3).trans rfl; have hcz36_4 : w35.cell? ⟨gb378, 4, none⟩ = some (.int .i64 t377) := (kC BK378.out 4).trans rfl; have hfz36_0 := kZ BK378.out 0; have hfz36_1 := kZ BK378.out 1; have hfz36_2 := kZ BK378.out 2; have hfz36_3 := kZ BK378.out 3; have hfz36_4 := kZ BK378.out 4) | (go_at_call 10; have q_ := tk1_6_; clear q_ tk1_6_; (with_reducible refine (verdict_Of.calls k 0 0 0 0 0 200 0 0 _ _ t371 t374 t375 t376 t377 2 t383 _ ?side1 ?side2 A10.out).mono ?_); (case side1 => repeat (first | exact (Kd.R_reads' HO373.out).2.2 | (with_reducible refine Kd.C_alloc ?_ _) | (with_reducible refine Kd.C_drewN ?_ _) | (with_reducible refine Kd.C_drew ?_))); (case side2 => exact (Kd.R_reads' HO373.out).2.1); rintro e w37 ⟨rfl, hb⟩; have n0_ := Aside0.mk (Kd.R_below (by (with_reducible repeat (first | apply Kd.R_alloc | apply Kd.R_drewN | apply Kd.R_drew)); exact HO373.out) hb); have n1_ := Aside0.mk (kB (g := gb378) (o := .cells #[.slice Ao27 t371.length co27, .int .i64 t374, .int .i64 t375, .int .i64 t376, .int .i64 t377] 30 (0, 0)) (by (with_reducible repeat (first | refine kN ?_ _ | refine kD ?_ | refine kA ?_ _)); exact BK378.out) hb); have n2_ := Aside0.mk (bS (by repeat (first | (with_reducible first | exact HB.out | apply bA | apply bN | apply bD | refine bE ?_ GE378.out) | exact HB.out)) hb); clear HO373; clear BK378; clear HB; have HO373 := n0_; have BK378 := n1_; have HB := n2_; clear n0_ n1_ n2_; (try clear hb); (try clear hb2); (try clear hk); (try clear hi); have hcz38_0 : w37.cell? ⟨gb378, 0, none⟩ = some (.slice Ao27 t371.length co27) := (kC BK378.out 0).trans rfl; have hcz38_1 : w37.cell? ⟨gb378, 1, none⟩ = some (.int .i64 t374) := (kC BK378.out 1).trans rfl; have hcz38_2 : w37.cell? ⟨gb378, 2, none⟩ = some (.int .i64 t375) := (kC BK378.out 2).trans rfl; have hcz38_3 : w37.cell? ⟨gb378, 3, none⟩ = some (.int .i64 t376) := (kC BK378.out 3).trans rfl; have hcz38_4 : w37.cell? ⟨gb378, 4, none⟩ = some (.int .i64 t377) := (kC BK378.out 4).trans rfl; have hfz38_0 := kZ BK378.out 0; have hfz38_1 := kZ BK378.out 1; have hfz38_2 := kZ BK378.out 2; have hfz38_3 := kZ BK378.out 3; have hfz38_4 := kZ BK378.out 4) | (go_at_call 10; have q_ := tk1_7_; clear q_ tk1_7_; (with_reducible refine (verdict_Of.calls k 0 0 1099511627776 0 0 0 0 0 _ _ t371 t374 t375 t376 t377 2 t384 _ ?side1 ?side2 A12.out).mono ?_); (case side1 => repeat (first | exact (Kd.R_reads' HO373.out).2.2 | (with_reducible refine Kd.C_alloc ?_ _) | (with_reducible refine Kd.C_drewN ?_ _) | (with_reducible refine Kd.C_drew ?_))); (case side2 => exact (Kd.R_reads' HO373.out).2.1); rintro e w39 ⟨rfl, hb⟩; have n0_ := Aside0.mk (Kd.R_below (by (with_reducible repeat (first | apply Kd.R_alloc | apply Kd.R_drewN | apply Kd.R_drew)); exact HO373.out) hb); have n1_ := Aside0.mk (kB (g := gb378) (o := .cells #[.slice Ao27 t371.length co27, .int .i64 t374, .int .i64 t375, .int .i64 t376, .int .i64 t377] 30 (0, 0)) (by (with_reducible repeat (first | refine kN ?_ _ | refine kD ?_ | refine kA ?_ _)); exact BK378.out) hb); have n2_ := Aside0.mk (bS (by repeat (first | (with_reducible first | exact HB.out | apply bA | apply bN | apply bD | refine bE ?_ GE378.out) | exact HB.out)) hb); clear HO373; clear BK378; clear HB; have HO373 := n0_; have BK378 := n1_; have HB := n2_; clear n0_ n1_ n2_; (try clear hb); (try clear hb2); (try clear hk); (try clear hi)) | (go_at_call 11; (with_reducible refine (verdict_Speed.calls k 0 0 0 0 0 0 0 (-203) 200 2 t385 _ A14.out).mono ?_); rintro e w40 ⟨rfl, hb⟩; have n0_ := Aside0.mk (Kd.R_below (by (with_reducible repeat (first | apply Kd.R_alloc | apply Kd.R_drewN | apply Kd.R_drew)); exact HO373.out) hb); have n1_ := Aside0.mk (kB (g := gb378) (o := .cells #[.slice Ao27 t371.length co27, .int .i64 t374, .int .i64 t375, .int .i64 t376, .int .i64 t377] 30 (0, 0)) (by (with_reducible repeat (first | refine kN ?_ _ | refine kD ?_ | refine kA ?_ _)); exact BK378.out) hb); have n2_ := Aside0.mk (bS (by repeat (first | (with_reducible first | exact HB.out | apply bA | apply bN | apply bD | refine bE ?_ GE378.out) | exact HB.out)) hb); clear HO373; clear BK378; clear HB; have HO373 := n0_; have BK378 := n1_; have HB := n2_; clear n0_ n1_ n2_; (try clear hb); (try clear hb2); (try clear hk); (try clear hi); have hcz41_0 : w40.cell? ⟨gb378, 0, none⟩ = some (.slice Ao27 t371.length co27) := (kC BK378.out 0).trans rfl; have hcz41_1 : w40.cell? ⟨gb378, 1, none⟩ = some (.int .i64 t374) := (kC BK378.out 1).trans rfl; have hcz41_2 : w40.cell? ⟨gb378, 2, none⟩ = some (.int .i64 t375) := (kC BK378.out 2).trans rfl; have hcz41_3 : w40.cell? ⟨gb378, 3, none⟩ = some (.int .i64 t376) := (kC BK378.out 3).trans rfl; have hcz41_4 : w40.cell? ⟨gb378, 4, none⟩ = some (.int .i64 t377) := (kC BK378.out 4).trans rfl; have hfz41_0 := kZ BK378.out 0; have hfz41_1 := kZ BK378.out 1; have hfz41_2 := kZ BK378.out 2; have hfz41_3 := kZ BK378.out 3; have hfz41_4 := kZ BK378.out 4) | (go_at_call 12; (with_reducible refine (verdict_Place.calls k 0 0 0 0 0 0 0 0 _ _ t371 t374 t375 t376 t377 0 t386 _ ?side1 ?side2 A16.out).mono ?_); (case side1 => repeat (first | exact (Kd.R_reads' HO373.out).2.2 | (with_reducible refine Kd.C_alloc ?_ _) | (with_reducible refine Kd.C_drewN ?_ _) | (with_reducible refine Kd.C_drew ?_))); (case side2 => exact (Kd.R_reads' HO373.out).2.1); rintro e w42 ⟨rfl, hb⟩; have n0_ := Aside0.mk (Kd.R_below (by (with_reducible repeat (first | apply Kd.R_alloc | apply Kd.R_drewN | apply Kd.R_drew)); exact HO373.out) hb); have n1_ := Aside0.mk (kB (g := gb378) (o := .cells #[.slice Ao27 t371.length co27, .int .i64 t374, .int .i64 t375, .int .i64 t376, .int .i64 t377] 30 (0, 0)) (by (with_reducible repeat (first | refine kN ?_ _ | refine kD ?_ | refine kA ?_ _)); exact BK378.out) hb); have n2_ := Aside0.mk (bS (by repeat (first | (with_reducible first | exact HB.out | apply bA | apply bN | apply bD | refine bE ?_ GE378.out) | exact HB.out)) hb); clear HO373; clear BK378; clear HB; have HO373 := n0_; have BK378 := n1_; have HB := n2_; clear n0_ n1_ n2_; (try clear hb); (try clear hb2); (try clear hk); (try clear hi)) | (go_at_call 4; have q_ := tk1_10_; clear q_ tk1_10_; (with_reducible refine (verdict_Join.calls k 1 4 t387 _ A18.out).mono ?_); rintro e w' ⟨rfl, ⟨nd, rfl⟩⟩) | (go_at_call 4; have q_ := tk1_11_; clear q_ tk1_11_; (with_reducible refine (verdict_Join.calls k 2 3 t388 _ A20.out).mono ?_); rintro e w' ⟨rfl, ⟨nd, rfl⟩⟩) | (go_at_call 7; have q_ := tk1_12_; clear q_ tk1_12_; (with_reducible refine (verdict_Sure.calls 1 true _ A22.out).mono ?_); rintro e w' ⟨rfl, ⟨nd, rfl⟩⟩) | (go_at_call 7; have q_ := tk1_13_; clear q_ tk1_13_; (with_reducible refine (verdict_Sure.calls 2 t390 _ A24.out).mono ?_); rintro e w' ⟨rfl, ⟨nd, rfl⟩⟩) | (go_at_call 9; (with_reducible refine (apogeelaw19_phase.calls k  t371 t374 t375 t376 t377 _ A1.out).mono ?_); rintro e w25 ⟨v372, rfl, ho0, hb⟩; have n0_ := Aside0.mk (Kd.R_lower ho0 (bZ (by repeat (first | (with_reducible first | exact HB.out | apply bA | apply bN | apply bD) | exact HB.out)))); have n1_ := Aside0.mk (bS (by repeat (first | (with_reducible first | exact HB.out | apply bA | apply bN | apply bD) | exact HB.out)) hb); clear HB; have HO373 := n0_; have HB := n1_; clear n0_ n1_; (try clear hb); (try clear hb2); (try clear hk); (try clear hi); (try clear ho0)) | (go_at_call 10; have q_ := tk1_2_; clear q_ tk1_2_; (with_reducible refine (verdict_Of.calls k 0 0 0 0 100 3 0 0 _ _ t371 t374 t375 t376 t377 2 t379 _ ?side1 ?side2 A2.out).mono ?_); (case side1 => refine (Kd.R_reads' (e := 41) (base := w.heap.size) (ok := fun k_ => True) (n := t371.length) (c := co27) ?_).2.2; exact (by (with_reducible repeat (first | apply Kd.R_alloc | apply Kd.R_drewN | apply Kd.R_drew)); exact (Kd.R_mono (Kd.R_far (p := ⟨gb378, 4, none⟩) (Kd.R_far (p := ⟨gb378, 3, none⟩) (Kd.R_far (p := ⟨gb378, 2, none⟩) (Kd.R_far (p := ⟨gb378, 1, none⟩) (Kd.R_far (p := ⟨gb378, 0, none⟩) (Kd.R_types HO373.out BK378.out (by decide)) (fun _ hk => hk.2) (.slice Ao27 t371.length co27)) (fun _ hk => hk.2) (.int .i64 t374)) (fun _ hk => hk.2) (.int .i64 t375)) (fun _ hk => hk.2) (.int .i64 t376)) (fun _ hk => hk.2) (.int .i64 t377)) (fun _ h_ => h_.1)))); (case side2 => exact (Kd.R_reads' HO373.out).2.1); rintro e w29 ⟨rfl, hb⟩; have n0_ := Aside0.mk (Kd.R_below (by (with_reducible repeat (first | apply Kd.R_alloc | apply Kd.R_drewN | apply Kd.R_drew)); exact (Kd.R_mono (Kd.R_far (p := ⟨gb378, 4, none⟩) (Kd.R_far (p := ⟨gb378, 3, none⟩) (Kd.R_far (p := ⟨gb378, 2, none⟩) (Kd.R_far (p := ⟨gb378, 1, none⟩) (Kd.R_far (p := ⟨gb378, 0, none⟩) (Kd.R_types HO373.out BK378.out (by decide)) (fun _ hk => hk.2) (.slice Ao27 t371.length co27)) (fun _ hk => hk.2) (.int .i64 t374)) (fun _ hk => hk.2) (.int .i64 t375)) (fun _ hk => hk.2) (.int .i64 t376)) (fun _ hk => hk.2) (.int .i64 t377)) (fun _ h_ => h_.1))) hb); have n1_ := Aside0.mk (kB (g := gb378) (o := .cells #[.slice Ao27 t371.length co27, .int .i64 t374, .int .i64 t375, .int .i64 t376, .int .i64 t377] 30 (0, 0)) (by (with_reducible repeat (first | refine kN ?_ _ | refine kD ?_ | refine kA ?_ _)); refine kP (cs := #[.slice Ao27 t371.length co27, .int .i64 t374, .int .i64 t375, .int .i64 t376, .int .i64 0]) ?_ 4 _ rfl; (with_reducible repeat (first | refine kN ?_ _ | refine kD ?_ | refine kA ?_ _)); refine kP (cs := #[.slice Ao27 t371.length co27, .int .i64 t374, .int .i64 t375, .int .i64 0, .int .i64 0]) ?_ 3 _ rfl; (with_reducible repeat (first | refine kN ?_ _ | refine kD ?_ | refine kA ?_ _)); refine kP (cs := #[.slice Ao27 t371.length co27, .int .i64 t374, .int .i64 0, .int .i64 0, .int .i64 0]) ?_ 2 _ rfl; (with_reducible repeat (first | refine kN ?_ _ | refine kD ?_ | refine kA ?_ _)); refine kP (cs := #[.slice Ao27 t371.length co27, .int .i64 0, .int .i64 0, .int .i64 0, .int .i64 0]) ?_ 1 _ rfl; (with_reducible repeat (first | refine kN ?_ _ | refine kD ?_ | refine kA ?_ _)); refine kP (cs := #[.slice none 0 0, .int .i64 0, .int .i64 0, .int .i64 0, .int .i64 0]) ?_ 0 _ rfl; (with_reducible repeat (first | refine kN ?_ _ | refine kD ?_ | refine kA ?_ _)); exact BK378.out) hb); have n2_ := Aside0.mk (bS (by repeat (first | (with_reducible first | exact HB.out | apply bA | apply bN | apply bD | refine bE ?_ GE378.out) | exact HB.out)) hb); clear HO373; clear BK378; clear HB; have HO373 := n0_; have BK378 := n1_; have HB := n2_; clear n0_ n1_ n2_; (try clear hb); (try clear hb2); (try clear hk); (try clear hi); have hcz30_0 : w29.cell? ⟨gb378, 0, none⟩ = some (.slice Ao27 t371.length co27) := (kC BK378.out 0).trans rfl; have hcz30_1 : w29.cell? ⟨gb378, 1, none⟩ = some (.int .i64 t374) := (kC BK378.out 1).trans rfl; have hcz30_2 : w29.cell? ⟨gb378, 2, none⟩ = some (.int .i64 t375) := (kC BK378.out 2).trans rfl; have hcz30_3 : w29.cell? ⟨gb378, 3, none⟩ = some (.int .i64 t376) := (kC BK378.out 3).trans rfl; have hcz30_4 : w29.cell? ⟨gb378, 4, none⟩ = some (.int .i64 t377) := (kC BK378.out 4).trans rfl; have hfz30_0 := kZ BK378.out 0; have hfz30_1 := kZ BK378.out 1; have hfz30_2 := kZ BK378.out 2; have hfz30_3 := kZ BK378.out 3; have hfz30_4 := kZ BK378.out 4))
            go_ret
            exact ⟨by first | rfl | (simp [errW_none, errW_some] <;> rfl) | (simp [*, errW_none, errW_some] <;> rfl), by repeat (first | (with_reducible first | exact HB.out | apply bA | apply bN | apply bD | refine bE ?_ GE378.out) | exact HB.out)⟩
           ·replace c23 := Bool.eq_false_iff.mpr c23
            subst c23
            have H1 : (none) = some r := by rw [if_neg (show ¬ (false = true) by decide)] at H; exact H
            clear H
            have H := H1
            clear H1
            exact absurd H (by simp)
          ·rw [if_neg c21] at H
           exact absurd H (by simp)
         ·rw [if_neg c19] at H
          exact absurd H (by simp)
        ·rw [if_neg c17] at H
         exact absurd H (by simp)
       ·rw [if_neg c15] at H
        exact absurd H (by simp)
      ·rw [if_neg c13] at H
       exact absurd H (by simp)
     ·rw [if_neg c11] at H
      exact absurd H (by simp)
    ·rw [if_neg c9] at H
     exact absurd H (by simp)
   ·rw [if_neg c7] at H
    exact absurd H (by simp)
  ·rw [if_neg c5] at H
   exact absurd H (by simp)
 ·rw [if_neg c3] at H
  exact absurd H (by simp)

end Go.Proofs.Ytamlcbmkdfikeaa.PVerdict

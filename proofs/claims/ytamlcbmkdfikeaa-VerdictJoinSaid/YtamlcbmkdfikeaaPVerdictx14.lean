-- written by handprint.py, a program of this session's, over the seat Ytamlcbmkdfikeaa
import Derived.Test.YtamlcbmkdfikeaaPVerdictx0
import Derived.Test.YtamlcbmkdfikeaaPVerdictx6
import Derived.Test.YtamlcbmkdfikeaaPVerdictx7
import Derived.Test.YtamlcbmkdfikeaaPVerdictx8
import Derived.Test.YtamlcbmkdfikeaaPVerdictx9
import Derived.Test.YtamlcbmkdfikeaaPVerdictx13
namespace Go.Proofs.Ytamlcbmkdfikeaa.PVerdict
open Go.RowKit Go.Proofs.YtamlcbmkdfikeaaW.PrintWords Go.Proofs.YtamlcbmkdfikeaaW.PrintLast Go.Proofs.YtamlcbmkdfikeaaW.PrintMore
open Go.Proofs.YtamlcbmkdfikeaaW.PrintWords renaming blk_drewN → kN, blk_drew → kD, blk_alloc → kA, blk_put → kP, blk_far → kF, blk_cell → kC, blk_below → kB, blk_frozen → kZ, below_alloc → bA, pw_below_drewN → bN, below_drew1 → bD, below_step → bS, below_size → bZ, below_set → bE
open List renaming setIfInBounds_toArray → sA, set_cons_zero → sB, set_cons_succ → sC, map_toArray → sD, map_cons → sE, map_nil → sF, length_drop → sG, length_take → sH
attribute [local go_sem] max2_int min2_int max_two min_two max_three min_three max_four min_four   -- for this text's walks alone
set_option linter.unusedVariables false
set_option linter.unusedSimpArgs false

/-! ### poly_Side: function 30 -/
mutual
def poly_Side.j0 : Nat → List (S41) → Bool → Int → Int → Option (Int)
 | 0, _, _, _, _ => none
 | k + 1, x0, x16, x334000, x334001 => if x16 = true then (some (-1)) else (poly_Side.l0 k x0 (-1) (x0.length : Int) 0 x334000 x334001)
def poly_Side.l0 : Nat → List (S41) → Int → Int → Int → Int → Int → Option (Int)
 | 0, _, _, _, _, _, _ => none
 | k + 1, x0, x5, x18, x19, x334000, x334001 => if x19 < x18 then ((poly_edge.f x0 x19).bind fun bt336 => ((point_On.f k x334000 x334001 bt336.1 bt336.2.1 bt336.2.2.1 bt336.2.2.2).bind fun t342 => (if t342 = true then (some 0) else (if bt336.2.1 > bt336.2.2.2 then (poly_Side.j2 k x0 x5 x18 x19 x334000 x334001 bt336.2.2.1 bt336.2.2.2 bt336.1 bt336.2.1) else (poly_Side.j2 k x0 x5 x18 x19 x334000 x334001 bt336.1 bt336.2.1 bt336.2.2.1 bt336.2.2.2))))) else (some x5)
def poly_Side.j2 : Nat → List (S41) → Int → Int → Int → Int → Int → Int → Int → Int → Int → Option (Int)
 | 0, _, _, _, _, _, _, _, _, _, _ => none
 | k + 1, x0, x5, x18, x19, x334000, x334001, x341000, x341001, x342000, x342001 => if x341001 ≤ x334001 then (if x334001 < x342001 then ((point_Turn.f k x341000 x341001 x342000 x342001 x334000 x334001).bind fun t343 => (poly_Side.j3 k x0 x5 x18 x19 (decide (t343 > 0)) x334000 x334001)) else (poly_Side.j3 k x0 x5 x18 x19 false x334000 x334001)) else (poly_Side.j3 k x0 x5 x18 x19 false x334000 x334001)
def poly_Side.j3 : Nat → List (S41) → Int → Int → Int → Bool → Int → Int → Option (Int)
 | 0, _, _, _, _, _, _, _ => none
 | k + 1, x0, x5, x18, x19, x57, x334000, x334001 => if x57 = true then (poly_Side.l0 k x0 (wrap64 (-x5)) x18 (wrap64 (x19 + 1)) x334000 x334001) else (poly_Side.l0 k x0 x5 x18 (wrap64 (x19 + 1)) x334000 x334001)
end
def poly_Side.f (k : Nat) (l0 : List (S41)) (a1_0 : Int) (a1_1 : Int) : Option (Int) := (poly_Right.f k l0).bind fun t334 => (if t334 = true then ((point_Right.f a1_0 a1_1).bind fun t335 => (poly_Side.j0 k l0 (!t335) a1_0 a1_1)) else (poly_Side.j0 k l0 true a1_0 a1_1))
theorem poly_Side.mono_l : ∀ k, (∀ y0 y1 y2 y3, LeO (poly_Side.j0 k y0 y1 y2 y3) (poly_Side.j0 (k + 1) y0 y1 y2 y3)) ∧ (∀ y0 y1 y2 y3 y4 y5, LeO (poly_Side.l0 k y0 y1 y2 y3 y4 y5) (poly_Side.l0 (k + 1) y0 y1 y2 y3 y4 y5)) ∧ (∀ y0 y1 y2 y3 y4 y5 y6 y7 y8 y9, LeO (poly_Side.j2 k y0 y1 y2 y3 y4 y5 y6 y7 y8 y9) (poly_Side.j2 (k + 1) y0 y1 y2 y3 y4 y5 y6 y7 y8 y9)) ∧ (∀ y0 y1 y2 y3 y4 y5 y6, LeO (poly_Side.j3 k y0 y1 y2 y3 y4 y5 y6) (poly_Side.j3 (k + 1) y0 y1 y2 y3 y4 y5 y6))
 | 0 => ⟨fun _ _ _ _ r h => by simp [poly_Side.j0] at h, fun _ _ _ _ _ _ r h => by simp [poly_Side.l0] at h, fun _ _ _ _ _ _ _ _ _ _ r h => by simp [poly_Side.j2] at h, fun _ _ _ _ _ _ _ r h => by simp [poly_Side.j3] at h⟩
 | k + 1 => by
  obtain ⟨ih0, ih1, ih2, ih3⟩ := poly_Side.mono_l k
  refine ⟨?_, ?_, ?_, ?_⟩
  ·intro y0 y1 y2 y3
   unfold poly_Side.j0
   repeat' first
   | (with_reducible exact ih0 _ _ _ _)
   | (with_reducible exact ih1 _ _ _ _ _ _)
   | (with_reducible exact ih2 _ _ _ _ _ _ _ _ _ _)
   | (with_reducible exact ih3 _ _ _ _ _ _ _)
   | (with_reducible exact point_On.mono _ _ _ _ _ _ _)
   | (with_reducible exact point_Turn.mono _ _ _ _ _ _ _)
   | (with_reducible exact poly_Right.mono _ _)
   | (with_reducible exact LeO.refl _)
   | (with_reducible exact LeO.none _)
   | (with_reducible refine LeO.ite ?_ ?_)
   | (with_reducible refine LeO.bind ?_ (fun _ => ?_))
   | exact ih0 _ _ _ _
   | exact ih1 _ _ _ _ _ _
   | exact ih2 _ _ _ _ _ _ _ _ _ _
   | exact ih3 _ _ _ _ _ _ _
   | exact point_On.mono _ _ _ _ _ _ _
   | exact point_Turn.mono _ _ _ _ _ _ _
   | exact poly_Right.mono _ _
   | exact LeO.none _
   | refine LeO.ite ?_ ?_
   | refine LeO.bind ?_ (fun _ => ?_)
  ·intro y0 y1 y2 y3 y4 y5
   unfold poly_Side.l0
   repeat' first
   | (with_reducible exact ih0 _ _ _ _)
   | (with_reducible exact ih1 _ _ _ _ _ _)
   | (with_reducible exact ih2 _ _ _ _ _ _ _ _ _ _)
   | (with_reducible exact ih3 _ _ _ _ _ _ _)
   | (with_reducible exact point_On.mono _ _ _ _ _ _ _)
   | (with_reducible exact point_Turn.mono _ _ _ _ _ _ _)
   | (with_reducible exact poly_Right.mono _ _)
   | (with_reducible exact LeO.refl _)
   | (with_reducible exact LeO.none _)
   | (with_reducible refine LeO.ite ?_ ?_)
   | (with_reducible refine LeO.bind ?_ (fun _ => ?_))
   | exact ih0 _ _ _ _
   | exact ih1 _ _ _ _ _ _
   | exact ih2 _ _ _ _ _ _ _ _ _ _
   | exact ih3 _ _ _ _ _ _ _
   | exact point_On.mono _ _ _ _ _ _ _
   | exact point_Turn.mono _ _ _ _ _ _ _
   | exact poly_Right.mono _ _
   | exact LeO.none _
   | refine LeO.ite ?_ ?_
   | refine LeO.bind ?_ (fun _ => ?_)
  ·intro y0 y1 y2 y3 y4 y5 y6 y7 y8 y9
   unfold poly_Side.j2
   repeat' first
   | (with_reducible exact ih0 _ _ _ _)
   | (with_reducible exact ih1 _ _ _ _ _ _)
   | (with_reducible exact ih2 _ _ _ _ _ _ _ _ _ _)
   | (with_reducible exact ih3 _ _ _ _ _ _ _)
   | (with_reducible exact point_On.mono _ _ _ _ _ _ _)
   | (with_reducible exact point_Turn.mono _ _ _ _ _ _ _)
   | (with_reducible exact poly_Right.mono _ _)
   | (with_reducible exact LeO.refl _)
   | (with_reducible exact LeO.none _)
   | (with_reducible refine LeO.ite ?_ ?_)
   | (with_reducible refine LeO.bind ?_ (fun _ => ?_))
   | exact ih0 _ _ _ _
   | exact ih1 _ _ _ _ _ _
   | exact ih2 _ _ _ _ _ _ _ _ _ _
   | exact ih3 _ _ _ _ _ _ _
   | exact point_On.mono _ _ _ _ _ _ _
   | exact point_Turn.mono _ _ _ _ _ _ _
   | exact poly_Right.mono _ _
   | exact LeO.none _
   | refine LeO.ite ?_ ?_
   | refine LeO.bind ?_ (fun _ => ?_)
  ·intro y0 y1 y2 y3 y4 y5 y6
   unfold poly_Side.j3
   repeat' first
   | (with_reducible exact ih0 _ _ _ _)
   | (with_reducible exact ih1 _ _ _ _ _ _)
   | (with_reducible exact ih2 _ _ _ _ _ _ _ _ _ _)
   | (with_reducible exact ih3 _ _ _ _ _ _ _)
   | (with_reducible exact point_On.mono _ _ _ _ _ _ _)
   | (with_reducible exact point_Turn.mono _ _ _ _ _ _ _)
   | (with_reducible exact poly_Right.mono _ _)
   | (with_reducible exact LeO.refl _)
   | (with_reducible exact LeO.none _)
   | (with_reducible refine LeO.ite ?_ ?_)
   | (with_reducible refine LeO.bind ?_ (fun _ => ?_))
   | exact ih0 _ _ _ _
   | exact ih1 _ _ _ _ _ _
   | exact ih2 _ _ _ _ _ _ _ _ _ _
   | exact ih3 _ _ _ _ _ _ _
   | exact point_On.mono _ _ _ _ _ _ _
   | exact point_Turn.mono _ _ _ _ _ _ _
   | exact poly_Right.mono _ _
   | exact LeO.none _
   | refine LeO.ite ?_ ?_
   | refine LeO.bind ?_ (fun _ => ?_)
theorem poly_Side.mono : ∀ a0 a1 a2 k, LeO (poly_Side.f k a0 a1 a2) (poly_Side.f (k + 1) a0 a1 a2) := by
 intro a0 a1 a2 k
 obtain ⟨ih0, ih1, ih2, ih3⟩ := poly_Side.mono_l k
 unfold poly_Side.f
 repeat' first
   | (with_reducible exact ih0 _ _ _ _)
   | (with_reducible exact ih1 _ _ _ _ _ _)
   | (with_reducible exact ih2 _ _ _ _ _ _ _ _ _ _)
   | (with_reducible exact ih3 _ _ _ _ _ _ _)
   | (with_reducible exact point_On.mono _ _ _ _ _ _ _)
   | (with_reducible exact point_Turn.mono _ _ _ _ _ _ _)
   | (with_reducible exact poly_Right.mono _ _)
   | (with_reducible exact LeO.refl _)
   | (with_reducible exact LeO.none _)
   | (with_reducible refine LeO.ite ?_ ?_)
   | (with_reducible refine LeO.bind ?_ (fun _ => ?_))
   | exact ih0 _ _ _ _
   | exact ih1 _ _ _ _ _ _
   | exact ih2 _ _ _ _ _ _ _ _ _ _
   | exact ih3 _ _ _ _ _ _ _
   | exact point_On.mono _ _ _ _ _ _ _
   | exact point_Turn.mono _ _ _ _ _ _ _
   | exact poly_Right.mono _ _
   | exact LeO.none _
   | refine LeO.ite ?_ ?_
   | refine LeO.bind ?_ (fun _ => ?_)
set_option maxHeartbeats 8000000 in
set_option maxRecDepth 100000 in
theorem poly_Side.calls (k : Nat) (A0 : Option Addr) (c0 : Nat) (l0 : List (S41)) (a1_0 : Int) (a1_1 : Int) (r : Int) (w : World) (hr0 : Kd.C k41 w A0 l0.length l0) (hc0 : l0.length ≤ c0) (h : poly_Side.f k l0 a1_0 a1_1 = some r) :
  Calls Try.prog 30 #[.slice A0 l0.length c0, .agg #[.int .i64 a1_0, .int .i64 a1_1]] w fun e w' => e = .returned (.int .i64 r) ∧ Below w.heap.size w w' := by
 have hu41 := Try.underlying41
 have HR0 := Aside0.mk hr0
 have HC0 := Aside0.mk hc0
 clear hr0 hc0
 have HB := Aside0.mk (Below.refl w.heap.size w)
 have H : ((poly_Right.f k l0).bind fun t334 => (if t334 = true then ((point_Right.f a1_0 a1_1).bind fun t335 => (poly_Side.j0 k l0 (!t335) a1_0 a1_1)) else (poly_Side.j0 k l0 true a1_0 a1_1))) = some r := h
 clear h
 have HC3 := Aside0.mk H
 clear H
 go_enter Try.func30, Try.ntmps30
 go_upto_region 1 with (first | ((with_reducible refine gate_dst (N := 3) rfl ?_); refine box_event ?hg (N := 3) ?hd (cs := #[.int .i64 a1_0, .int .i64 a1_1]) (t := 41) ?hr ?_; (case hd => rfl); (case hg => rfl); (case hr => first | (go_simp; done) | (go_simp; rfl)); intro gb333 hg w4 hbox hb; have n0_ := Aside0.mk (bS (by repeat (first | (with_reducible first | exact HB.out | apply bA | apply bN | apply bD) | exact HB.out)) hb); have n1_ := Aside0.mk (hbox); have n2_ := Aside0.mk ((by rw [hg]; exact (bZ (by repeat (first | (with_reducible first | exact HB.out | apply bA | apply bN | apply bD) | exact HB.out))) : w.heap.size ≤ gb333)); have n3_ := Aside0.mk ((by rw [hg]; exact (bZ (by repeat (first | (with_reducible first | exact HB.out | apply bA | apply bN | apply bD) | exact HB.out))) : w.heap.size ≤ gb333)); clear HB; have HB := n0_; have BK333 := n1_; have GW333 := n2_; have GE333 := n3_; clear n0_ n1_ n2_ n3_; clear hb hbox hg))
 (try simp only [Act.put, sA, sB, sC])
 go_cut [16] (fun v16 wc => ∃ (kq : Nat) (x16_2 : Bool), v16 = .bool x16_2 ∧ Aside0 (poly_Side.j0 kq l0 x16_2 a1_0 a1_1 = some r) ∧ Aside0 (kq ≤ k) ∧ Aside0 (wc.heap[gb333]? = some (.cells #[.int .i64 a1_0, .int .i64 a1_1] 41 (0, 0))) ∧ Aside0 (Below w.heap.size w wc))
 case first =>
  have H := HC3.out
  clear HC3
  replace H := Option.bind_eq_some_iff.mp H
  obtain ⟨t334, A50, H⟩ := H
  replace H : (if t334 = true then ((point_Right.f a1_0 a1_1).bind fun t335 => (poly_Side.j0 k l0 (!t335) a1_0 a1_1)) else (poly_Side.j0 k l0 true a1_0 a1_1)) = some r := H
  have A5 := Aside0.mk A50
  clear A50
  by_cases c6 : t334 = true
  ·subst c6
   have H1 : ((point_Right.f a1_0 a1_1).bind fun t335 => (poly_Side.j0 k l0 (!t335) a1_0 a1_1)) = some r := by rw [if_pos rfl] at H; exact H
   clear H
   have H := H1
   clear H1
   replace H := Option.bind_eq_some_iff.mp H
   obtain ⟨t335, A70, H⟩ := H
   replace H : (poly_Side.j0 k l0 (!t335) a1_0 a1_1) = some r := H
   have A7 := Aside0.mk A70
   clear A70
   have H' := Aside0.mk H
   clear H
   go_wp2_with (first | ((with_reducible refine gate_callee (f := 28) rfl ?_); refine goesL_ (some 10) rfl rfl Try.func28 (by kernel_rfl) rfl #[.slice A0 l0.length c0] rfl (by (try simp only [sD, sE, sF]); first | done | rfl | (simp only [sG, sH]; rfl)) ?_; (with_reducible refine (poly_Right.calls k _ _ l0 true _ ?side1 ?side2 A5.out).mono ?_); (case side1 => repeat (first | exact (Kd.C_below HR0.out HB.out) | (with_reducible refine Kd.C_alloc ?_ _) | (with_reducible refine Kd.C_drewN ?_ _) | (with_reducible refine Kd.C_drew ?_))); (case side2 => exact HC0.out); rintro e w8 ⟨rfl, hb⟩; refine ⟨_, rfl, ?_⟩; have n0_ := Aside0.mk (kB (g := gb333) (o := .cells #[.int .i64 a1_0, .int .i64 a1_1] 41 (0, 0)) (by (with_reducible repeat (first | refine kN ?_ _ | refine kD ?_ | refine kA ?_ _)); exact BK333.out) hb); have n1_ := Aside0.mk (bS (by repeat (first | (with_reducible first | exact HB.out | apply bA | apply bN | apply bD | refine bE ?_ GE333.out) | exact HB.out)) hb); clear BK333; clear HB; have BK333 := n0_; have HB := n1_; clear n0_ n1_; (try clear hb); (try clear hb2); (try clear hk); (try clear hi); have hcz9_0 : w8.cell? ⟨gb333, 0, none⟩ = some (.int .i64 a1_0) := (kC BK333.out 0).trans rfl; have hcz9_1 : w8.cell? ⟨gb333, 1, none⟩ = some (.int .i64 a1_1) := (kC BK333.out 1).trans rfl; have hfz9_0 := kZ BK333.out 0; have hfz9_1 := kZ BK333.out 1) | (go_at_call 35; (with_reducible refine (point_Right.calls a1_0 a1_1 t335 _ A7.out).mono ?_); rintro e w10 ⟨rfl, hb⟩; have n0_ := Aside0.mk (kB (g := gb333) (o := .cells #[.int .i64 a1_0, .int .i64 a1_1] 41 (0, 0)) (by (with_reducible repeat (first | refine kN ?_ _ | refine kD ?_ | refine kA ?_ _)); exact BK333.out) hb); have n1_ := Aside0.mk (bS (by repeat (first | (with_reducible first | exact HB.out | apply bA | apply bN | apply bD | refine bE ?_ GE333.out) | exact HB.out)) hb); clear BK333; clear HB; have BK333 := n0_; have HB := n1_; clear n0_ n1_; (try clear hb); (try clear hb2); (try clear hk); (try clear hi)))
   go_meet
   case rel => exact ⟨_, (!t335), (by first | rfl | (simp; done) | (simp [*]; done)), H', ⟨by first | omega | exact Nat.le_refl _⟩, ⟨by (with_reducible repeat (first | refine kN ?_ _ | refine kD ?_ | refine kA ?_ _)); exact BK333.out⟩, ⟨by repeat (first | (with_reducible first | exact HB.out | apply bA | apply bN | apply bD | refine bE ?_ GE333.out) | exact HB.out)⟩⟩
  ·replace c6 := Bool.eq_false_iff.mpr c6
   subst c6
   have H1 : (poly_Side.j0 k l0 true a1_0 a1_1) = some r := by rw [if_neg (show ¬ (false = true) by decide)] at H; exact H
   clear H
   have H := H1
   clear H1
   have H' := Aside0.mk H
   clear H
   go_wp2_with (first | ((with_reducible refine gate_callee (f := 28) rfl ?_); refine goesL_ (some 10) rfl rfl Try.func28 (by kernel_rfl) rfl #[.slice A0 l0.length c0] rfl (by (try simp only [sD, sE, sF]); first | done | rfl | (simp only [sG, sH]; rfl)) ?_; (with_reducible refine (poly_Right.calls k _ _ l0 false _ ?side1 ?side2 A5.out).mono ?_); (case side1 => repeat (first | exact (Kd.C_below HR0.out HB.out) | (with_reducible refine Kd.C_alloc ?_ _) | (with_reducible refine Kd.C_drewN ?_ _) | (with_reducible refine Kd.C_drew ?_))); (case side2 => exact HC0.out); rintro e w11 ⟨rfl, hb⟩; refine ⟨_, rfl, ?_⟩; have n0_ := Aside0.mk (kB (g := gb333) (o := .cells #[.int .i64 a1_0, .int .i64 a1_1] 41 (0, 0)) (by (with_reducible repeat (first | refine kN ?_ _ | refine kD ?_ | refine kA ?_ _)); exact BK333.out) hb); have n1_ := Aside0.mk (bS (by repeat (first | (with_reducible first | exact HB.out | apply bA | apply bN | apply bD | refine bE ?_ GE333.out) | exact HB.out)) hb); clear BK333; clear HB; have BK333 := n0_; have HB := n1_; clear n0_ n1_; (try clear hb); (try clear hb2); (try clear hk); (try clear hi)))
   go_meet
   case rel => exact ⟨_, (true), (by first | rfl | (simp; done) | (simp [*]; done)), H', ⟨by first | omega | exact Nat.le_refl _⟩, ⟨by (with_reducible repeat (first | refine kN ?_ _ | refine kD ?_ | refine kA ?_ _)); exact BK333.out⟩, ⟨by repeat (first | (with_reducible first | exact HB.out | apply bA | apply bN | apply bD | refine bE ?_ GE333.out) | exact HB.out)⟩⟩
 case rest =>
  clear HC3
  try clear c2
  try clear p2
  try clear c3
  try clear c6
  try clear hcz9_0
  try clear hcz9_1
  try clear hfz9_0
  try clear hfz9_1
  obtain ⟨kq, x16_2, rfl, HA, HJ2, BK333, HB⟩ := hcut
  cases kq with
  | zero => exact absurd HA.out (by simp [poly_Side.j0])
  | succ kj2 =>
   have H := HA.out
   clear HA
   simp only [poly_Side.j0] at H
   by_cases c12 : x16_2 = true
   ·subst c12
    have H1 : (some (-1)) = some r := by rw [if_pos rfl] at H; exact H
    clear H
    have H := H1
    clear H1
    obtain rfl := Option.some.inj H
    go_wp2
    go_ret
    exact ⟨by first | rfl | (simp [errW_none, errW_some] <;> rfl) | (simp [*, errW_none, errW_some] <;> rfl), by repeat (first | (with_reducible first | exact HB.out | apply bA | apply bN | apply bD | refine bE ?_ GE333.out) | exact HB.out)⟩
   ·replace c12 := Bool.eq_false_iff.mpr c12
    subst c12
    have H1 : (poly_Side.l0 kj2 l0 (-1) (l0.length : Int) 0 a1_0 a1_1) = some r := by rw [if_neg (show ¬ (false = true) by decide)] at H; exact H
    clear H
    have H := H1
    clear H1
    have H' := Aside0.mk H
    clear H
    go_wp2
    go_loopg [5, 19] kj2 (fun kq v5 v19 w' => ∃ (x5_2 : Int) (x19_2 : Int), v5 = .int .i64 x5_2 ∧ v19 = .int .i64 x19_2 ∧ Aside0 (poly_Side.l0 kq l0 x5_2 (l0.length : Int) x19_2 a1_0 a1_1 = some r) ∧ Aside0 (kq ≤ kj2) ∧ Aside0 (w'.heap[gb333]? = some (.cells #[.int .i64 a1_0, .int .i64 a1_1] 41 (0, 0))) ∧ Aside0 (Below w.heap.size w w'))
    case atStart => exact ⟨((-1)), (0), (by first | rfl | (simp; done) | (simp [*]; done)), (by first | rfl | (simp; done) | (simp [*]; done)), H', ⟨Nat.le_refl _⟩, ⟨by (with_reducible repeat (first | refine kN ?_ _ | refine kD ?_ | refine kA ?_ _)); exact BK333.out⟩, ⟨by repeat (first | (with_reducible first | exact HB.out | apply bA | apply bN | apply bD | refine bE ?_ GE333.out) | exact HB.out)⟩⟩
    case round =>
     clear H'
     try clear c1
     try clear c2
     try clear p2
     try clear c3
     try clear c6
     try clear c12
     try clear hcz9_0
     try clear hcz9_1
     try clear hfz9_0
     try clear hfz9_1
     try clear p2
     obtain ⟨x5_2, x19_2, rfl, rfl, HA, HK2, BK333, HB⟩ := hrel
     cases gk with
     | zero => exact absurd HA.out (by simp [poly_Side.l0])
     | succ k2 =>
      have H := HA.out
      clear HA
      simp only [poly_Side.l0] at H
      by_cases c13 : x19_2 < (l0.length : Int)
      ·rw [if_pos c13] at H
       have c13b0 : decide (x19_2 < (l0.length : Int)) = true := decide_eq_true c13
       clear c13
       replace H := Option.bind_eq_some_iff.mp H
       obtain ⟨⟨t336, t337, t338, t339⟩, A140, H⟩ := H
       replace H : ((point_On.f k2 a1_0 a1_1 t336 t337 t338 t339).bind fun t342 => (if t342 = true then (some 0) else (if t337 > t339 then (poly_Side.j2 k2 l0 x5_2 (l0.length : Int) x19_2 a1_0 a1_1 t338 t339 t336 t337) else (poly_Side.j2 k2 l0 x5_2 (l0.length : Int) x19_2 a1_0 a1_1 t336 t337 t338 t339)))) = some r := H
       have A14 := Aside0.mk A140
       clear A140
       replace H := Option.bind_eq_some_iff.mp H
       obtain ⟨t342, A150, H⟩ := H
       replace H : (if t342 = true then (some 0) else (if t337 > t339 then (poly_Side.j2 k2 l0 x5_2 (l0.length : Int) x19_2 a1_0 a1_1 t338 t339 t336 t337) else (poly_Side.j2 k2 l0 x5_2 (l0.length : Int) x19_2 a1_0 a1_1 t336 t337 t338 t339))) = some r := H
       have A15 := Aside0.mk A150
       clear A150
       by_cases c16 : t342 = true
       ·subst c16
        have H1 : (some 0) = some r := by rw [if_pos rfl] at H; exact H
        clear H
        have H := H1
        clear H1
        obtain rfl := Option.some.inj H
        go_wp2_with (first | ((with_reducible refine gate_callee (f := 46) rfl ?_); refine goesL_ (some 25) rfl rfl Try.func46 (by kernel_rfl) rfl #[.slice A0 l0.length c0, .int .i64 x19_2] rfl (by (try simp only [sD, sE, sF]); first | done | rfl | (simp only [sG, sH]; rfl)) ?_; (with_reducible refine (poly_edge.calls _ _ l0 x19_2 t336 t337 t338 t339 _ ?side1 ?side2 A14.out).mono ?_); (case side1 => repeat (first | exact (Kd.C_below HR0.out HB.out) | (with_reducible refine Kd.C_alloc ?_ _) | (with_reducible refine Kd.C_drewN ?_ _) | (with_reducible refine Kd.C_drew ?_))); (case side2 => exact HC0.out); rintro e w17 ⟨rfl, hb⟩; refine ⟨_, rfl, ?_⟩; have n0_ := Aside0.mk (kB (g := gb333) (o := .cells #[.int .i64 a1_0, .int .i64 a1_1] 41 (0, 0)) (by (with_reducible repeat (first | refine kN ?_ _ | refine kD ?_ | refine kA ?_ _)); exact BK333.out) hb); have n1_ := Aside0.mk (bS (by repeat (first | (with_reducible first | exact HB.out | apply bA | apply bN | apply bD | refine bE ?_ GE333.out) | exact HB.out)) hb); clear BK333; clear HB; have BK333 := n0_; have HB := n1_; clear n0_ n1_; (try clear hb); (try clear hb2); (try clear hk); (try clear hi)) | ((with_reducible refine gate_dst (N := 7) rfl ?_); refine box_event ?hg (N := 7) ?hd (cs := #[.int .i64 0, .int .i64 0]) (t := 41) ?hr ?_; (case hd => rfl); (case hg => rfl); (case hr => first | (go_simp; done) | (go_simp; rfl)); intro gb340 hg w18 hbox hb; have n0_ := Aside0.mk (kB (g := gb333) (o := .cells #[.int .i64 a1_0, .int .i64 a1_1] 41 (0, 0)) (by (with_reducible repeat (first | refine kN ?_ _ | refine kD ?_ | refine kA ?_ _)); exact BK333.out) hb); have n1_ := Aside0.mk (bS (by repeat (first | (with_reducible first | exact HB.out | apply bA | apply bN | apply bD | refine bE ?_ GE333.out) | exact HB.out)) hb); have n2_ := Aside0.mk (hbox); have n3_ := Aside0.mk ((by rw [hg]; exact (bZ (by repeat (first | (with_reducible first | exact HB.out | apply bA | apply bN | apply bD | refine bE ?_ GE333.out) | exact HB.out))) : w.heap.size ≤ gb340)); have n4_ := Aside0.mk ((by rw [hg]; exact (bZ (by repeat (first | (with_reducible first | exact HB.out | apply bA | apply bN | apply bD | refine bE ?_ GE333.out) | exact HB.out))) : w.heap.size ≤ gb340)); have n5_ := Aside0.mk ((by rw [hg]; exact Nat.ne_of_lt (blk_lt (g := gb333) (o := .cells #[.int .i64 a1_0, .int .i64 a1_1] 41 (0, 0)) (by (with_reducible repeat (first | refine kN ?_ _ | refine kD ?_ | refine kA ?_ _)); exact BK333.out)) : gb333 ≠ gb340)); have n6_ := Aside0.mk ((by rw [hg]; exact Nat.ne_of_gt (blk_lt (g := gb333) (o := .cells #[.int .i64 a1_0, .int .i64 a1_1] 41 (0, 0)) (by (with_reducible repeat (first | refine kN ?_ _ | refine kD ?_ | refine kA ?_ _)); exact BK333.out)) : gb340 ≠ gb333)); clear BK333; clear HB; have BK333 := n0_; have HB := n1_; have BK340 := n2_; have GW340 := n3_; have GE340 := n4_; have NB333_340 := n5_; have NB340_333 := n6_; clear n0_ n1_ n2_ n3_ n4_ n5_ n6_; clear hb hbox hg) | ((with_reducible refine gate_dst (N := 8) rfl ?_); refine box_event ?hg (N := 8) ?hd (cs := #[.int .i64 0, .int .i64 0]) (t := 41) ?hr ?_; (case hd => rfl); (case hg => rfl); (case hr => first | (go_simp; done) | (go_simp; rfl)); intro gb341 hg w19 hbox hb; have n0_ := Aside0.mk (kB (g := gb333) (o := .cells #[.int .i64 a1_0, .int .i64 a1_1] 41 (0, 0)) (by (with_reducible repeat (first | refine kN ?_ _ | refine kD ?_ | refine kA ?_ _)); exact BK333.out) hb); have n1_ := Aside0.mk (kB (g := gb340) (o := .cells #[.int .i64 0, .int .i64 0] 41 (0, 0)) (by (with_reducible repeat (first | refine kN ?_ _ | refine kD ?_ | refine kA ?_ _)); exact BK340.out) hb); have n2_ := Aside0.mk (bS (by repeat (first | (with_reducible first | exact HB.out | apply bA | apply bN | apply bD | refine bE ?_ GE333.out | refine bE ?_ GE340.out) | exact HB.out)) hb); have n3_ := Aside0.mk (hbox); have n4_ := Aside0.mk ((by rw [hg]; exact (bZ (by repeat (first | (with_reducible first | exact HB.out | apply bA | apply bN | apply bD | refine bE ?_ GE333.out | refine bE ?_ GE340.out) | exact HB.out))) : w.heap.size ≤ gb341)); have n5_ := Aside0.mk ((by rw [hg]; exact (bZ (by repeat (first | (with_reducible first | exact HB.out | apply bA | apply bN | apply bD | refine bE ?_ GE333.out | refine bE ?_ GE340.out) | exact HB.out))) : w.heap.size ≤ gb341)); have n6_ := Aside0.mk ((by rw [hg]; exact Nat.ne_of_lt (blk_lt (g := gb333) (o := .cells #[.int .i64 a1_0, .int .i64 a1_1] 41 (0, 0)) (by (with_reducible repeat (first | refine kN ?_ _ | refine kD ?_ | refine kA ?_ _)); exact BK333.out)) : gb333 ≠ gb341)); have n7_ := Aside0.mk ((by rw [hg]; exact Nat.ne_of_gt (blk_lt (g := gb333) (o := .cells #[.int .i64 a1_0, .int .i64 a1_1] 41 (0, 0)) (by (with_reducible repeat (first | refine kN ?_ _ | refine kD ?_ | refine kA ?_ _)); exact BK333.out)) : gb341 ≠ gb333)); have n8_ := Aside0.mk ((by rw [hg]; exact Nat.ne_of_lt (blk_lt (g := gb340) (o := .cells #[.int .i64 0, .int .i64 0] 41 (0, 0)) (by (with_reducible repeat (first | refine kN ?_ _ | refine kD ?_ | refine kA ?_ _)); exact BK340.out)) : gb340 ≠ gb341)); have n9_ := Aside0.mk ((by rw [hg]; exact Nat.ne_of_gt (blk_lt (g := gb340) (o := .cells #[.int .i64 0, .int .i64 0] 41 (0, 0)) (by (with_reducible repeat (first | refine kN ?_ _ | refine kD ?_ | refine kA ?_ _)); exact BK340.out)) : gb341 ≠ gb340)); clear BK333; clear BK340; clear HB; have BK333 := n0_; have BK340 := n1_; have HB := n2_; have BK341 := n3_; have GW341 := n4_; have GE341 := n5_; have NB333_341 := n6_; have NB341_333 := n7_; have NB340_341 := n8_; have NB341_340 := n9_; clear n0_ n1_ n2_ n3_ n4_ n5_ n6_ n7_ n8_ n9_; clear hb hbox hg; have hnb20 := NB340_333.out; have hnc20 := NB333_340.out; have hnb21 := NB340_341.out; have hnc21 := NB341_340.out; have hcz22_0 : w19.cell? ⟨gb340, 0, none⟩ = some (.int .i64 0) := (kC BK340.out 0).trans rfl; have hcz22_1 : w19.cell? ⟨gb340, 1, none⟩ = some (.int .i64 0) := (kC BK340.out 1).trans rfl; have hfz22_0 := kZ BK340.out 0; have hfz22_1 := kZ BK340.out 1; have hnb23 := NB341_333.out; have hnc23 := NB333_341.out; have hcz24_0 : w19.cell? ⟨gb341, 0, none⟩ = some (.int .i64 0) := (kC BK341.out 0).trans rfl; have hcz24_1 : w19.cell? ⟨gb341, 1, none⟩ = some (.int .i64 0) := (kC BK341.out 1).trans rfl; have hfz24_0 := kZ BK341.out 0; have hfz24_1 := kZ BK341.out 1; have hcz25_0 : w19.cell? ⟨gb333, 0, none⟩ = some (.int .i64 a1_0) := (kC BK333.out 0).trans rfl; have hcz25_1 : w19.cell? ⟨gb333, 1, none⟩ = some (.int .i64 a1_1) := (kC BK333.out 1).trans rfl; have hfz25_0 := kZ BK333.out 0; have hfz25_1 := kZ BK333.out 1) | ((with_reducible refine gate_callee (f := 47) rfl ?_); refine goesL_ (some 31) rfl rfl Try.func47 (by kernel_rfl) rfl #[.agg #[.int .i64 a1_0, .int .i64 a1_1], .agg #[.int .i64 t336, .int .i64 t337], .agg #[.int .i64 t338, .int .i64 t339]] rfl (by (try simp only [sD, sE, sF]); first | done | rfl | (simp only [sG, sH]; rfl)) ?_; (with_reducible refine (point_On.calls k2 a1_0 a1_1 t336 t337 t338 t339 true _ A15.out).mono ?_); rintro e w26 ⟨rfl, hb⟩; refine ⟨_, rfl, ?_⟩; have n0_ := Aside0.mk (kB (g := gb333) (o := .cells #[.int .i64 a1_0, .int .i64 a1_1] 41 (0, 0)) (by (with_reducible repeat (first | refine kN ?_ _ | refine kD ?_ | refine kA ?_ _)); refine kF ?_ NB333_341.out _; (with_reducible repeat (first | refine kN ?_ _ | refine kD ?_ | refine kA ?_ _)); refine kF ?_ NB333_341.out _; (with_reducible repeat (first | refine kN ?_ _ | refine kD ?_ | refine kA ?_ _)); refine kF ?_ NB333_340.out _; (with_reducible repeat (first | refine kN ?_ _ | refine kD ?_ | refine kA ?_ _)); refine kF ?_ NB333_340.out _; (with_reducible repeat (first | refine kN ?_ _ | refine kD ?_ | refine kA ?_ _)); exact BK333.out) hb); have n1_ := Aside0.mk (kB (g := gb340) (o := .cells #[.int .i64 t336, .int .i64 t337] 41 (0, 0)) (by (with_reducible repeat (first | refine kN ?_ _ | refine kD ?_ | refine kA ?_ _)); refine kF ?_ NB340_341.out _; (with_reducible repeat (first | refine kN ?_ _ | refine kD ?_ | refine kA ?_ _)); refine kF ?_ NB340_341.out _; (with_reducible repeat (first | refine kN ?_ _ | refine kD ?_ | refine kA ?_ _)); refine kP (cs := #[.int .i64 t336, .int .i64 0]) ?_ 1 _ rfl; (with_reducible repeat (first | refine kN ?_ _ | refine kD ?_ | refine kA ?_ _)); refine kP (cs := #[.int .i64 0, .int .i64 0]) ?_ 0 _ rfl; (with_reducible repeat (first | refine kN ?_ _ | refine kD ?_ | refine kA ?_ _)); exact BK340.out) hb); have n2_ := Aside0.mk (kB (g := gb341) (o := .cells #[.int .i64 t338, .int .i64 t339] 41 (0, 0)) (by (with_reducible repeat (first | refine kN ?_ _ | refine kD ?_ | refine kA ?_ _)); refine kP (cs := #[.int .i64 t338, .int .i64 0]) ?_ 1 _ rfl; (with_reducible repeat (first | refine kN ?_ _ | refine kD ?_ | refine kA ?_ _)); refine kP (cs := #[.int .i64 0, .int .i64 0]) ?_ 0 _ rfl; (with_reducible repeat (first | refine kN ?_ _ | refine kD ?_ | refine kA ?_ _)); refine kF ?_ NB341_340.out _; (with_reducible repeat (first | refine kN ?_ _ | refine kD ?_ | refine kA ?_ _)); refine kF ?_ NB341_340.out _; (with_reducible repeat (first | refine kN ?_ _ | refine kD ?_ | refine kA ?_ _)); exact BK341.out) hb); have n3_ := Aside0.mk (bS (by repeat (first | (with_reducible first | exact HB.out | apply bA | apply bN | apply bD | refine bE ?_ GE333.out | refine bE ?_ GE340.out | refine bE ?_ GE341.out) | exact HB.out)) hb); clear BK333; clear BK340; clear BK341; clear HB; have BK333 := n0_; have BK340 := n1_; have BK341 := n2_; have HB := n3_; clear n0_ n1_ n2_ n3_; (try clear hb); (try clear hb2); (try clear hk); (try clear hi)))
        go_ret
        exact ⟨by first | rfl | (simp [errW_none, errW_some] <;> rfl) | (simp [*, errW_none, errW_some] <;> rfl), by repeat (first | (with_reducible first | exact HB.out | apply bA | apply bN | apply bD | refine bE ?_ GE333.out | refine bE ?_ GE340.out | refine bE ?_ GE341.out) | exact HB.out)⟩
       ·replace c16 := Bool.eq_false_iff.mpr c16
        subst c16
        have H1 : (if t337 > t339 then (poly_Side.j2 k2 l0 x5_2 (l0.length : Int) x19_2 a1_0 a1_1 t338 t339 t336 t337) else (poly_Side.j2 k2 l0 x5_2 (l0.length : Int) x19_2 a1_0 a1_1 t336 t337 t338 t339)) = some r := by rw [if_neg (show ¬ (false = true) by decide)] at H; exact H
        clear H
        have H := H1
        clear H1
        have HC27 := Aside0.mk H
        clear H
        go_upto_if 36 with (first | ((with_reducible refine gate_callee (f := 46) rfl ?_); refine goesL_ (some 25) rfl rfl Try.func46 (by kernel_rfl) rfl #[.slice A0 l0.length c0, .int .i64 x19_2] rfl (by (try simp only [sD, sE, sF]); first | done | rfl | (simp only [sG, sH]; rfl)) ?_; (with_reducible refine (poly_edge.calls _ _ l0 x19_2 t336 t337 t338 t339 _ ?side1 ?side2 A14.out).mono ?_); (case side1 => repeat (first | exact (Kd.C_below HR0.out HB.out) | (with_reducible refine Kd.C_alloc ?_ _) | (with_reducible refine Kd.C_drewN ?_ _) | (with_reducible refine Kd.C_drew ?_))); (case side2 => exact HC0.out); rintro e w28 ⟨rfl, hb⟩; refine ⟨_, rfl, ?_⟩; have n0_ := Aside0.mk (kB (g := gb333) (o := .cells #[.int .i64 a1_0, .int .i64 a1_1] 41 (0, 0)) (by (with_reducible repeat (first | refine kN ?_ _ | refine kD ?_ | refine kA ?_ _)); exact BK333.out) hb); have n1_ := Aside0.mk (bS (by repeat (first | (with_reducible first | exact HB.out | apply bA | apply bN | apply bD | refine bE ?_ GE333.out) | exact HB.out)) hb); clear BK333; clear HB; have BK333 := n0_; have HB := n1_; clear n0_ n1_; (try clear hb); (try clear hb2); (try clear hk); (try clear hi)) | ((with_reducible refine gate_dst (N := 7) rfl ?_); refine box_event ?hg (N := 7) ?hd (cs := #[.int .i64 0, .int .i64 0]) (t := 41) ?hr ?_; (case hd => rfl); (case hg => rfl); (case hr => first | (go_simp; done) | (go_simp; rfl)); intro gb340 hg w29 hbox hb; have n0_ := Aside0.mk (kB (g := gb333) (o := .cells #[.int .i64 a1_0, .int .i64 a1_1] 41 (0, 0)) (by (with_reducible repeat (first | refine kN ?_ _ | refine kD ?_ | refine kA ?_ _)); exact BK333.out) hb); have n1_ := Aside0.mk (bS (by repeat (first | (with_reducible first | exact HB.out | apply bA | apply bN | apply bD | refine bE ?_ GE333.out) | exact HB.out)) hb); have n2_ := Aside0.mk (hbox); have n3_ := Aside0.mk ((by rw [hg]; exact (bZ (by repeat (first | (with_reducible first | exact HB.out | apply bA | apply bN | apply bD | refine bE ?_ GE333.out) | exact HB.out))) : w.heap.size ≤ gb340)); have n4_ := Aside0.mk ((by rw [hg]; exact (bZ (by repeat (first | (with_reducible first | exact HB.out | apply bA | apply bN | apply bD | refine bE ?_ GE333.out) | exact HB.out))) : w.heap.size ≤ gb340)); have n5_ := Aside0.mk ((by rw [hg]; exact Nat.ne_of_lt (blk_lt (g := gb333) (o := .cells #[.int .i64 a1_0, .int .i64 a1_1] 41 (0, 0)) (by (with_reducible repeat (first | refine kN ?_ _ | refine kD ?_ | refine kA ?_ _)); exact BK333.out)) : gb333 ≠ gb340)); have n6_ := Aside0.mk ((by rw [hg]; exact Nat.ne_of_gt (blk_lt (g := gb333) (o := .cells #[.int .i64 a1_0, .int .i64 a1_1] 41 (0, 0)) (by (with_reducible repeat (first | refine kN ?_ _ | refine kD ?_ | refine kA ?_ _)); exact BK333.out)) : gb340 ≠ gb333)); clear BK333; clear HB; have BK333 := n0_; have HB := n1_; have BK340 := n2_; have GW340 := n3_; have GE340 := n4_; have NB333_340 := n5_; have NB340_333 := n6_; clear n0_ n1_ n2_ n3_ n4_ n5_ n6_; clear hb hbox hg) | ((with_reducible refine gate_dst (N := 8) rfl ?_); refine box_event ?hg (N := 8) ?hd (cs := #[.int .i64 0, .int .i64 0]) (t := 41) ?hr ?_; (case hd => rfl); (case hg => rfl); (case hr => first | (go_simp; done) | (go_simp; rfl)); intro gb341 hg w30 hbox hb; have n0_ := Aside0.mk (kB (g := gb333) (o := .cells #[.int .i64 a1_0, .int .i64 a1_1] 41 (0, 0)) (by (with_reducible repeat (first | refine kN ?_ _ | refine kD ?_ | refine kA ?_ _)); exact BK333.out) hb); have n1_ := Aside0.mk (kB (g := gb340) (o := .cells #[.int .i64 0, .int .i64 0] 41 (0, 0)) (by (with_reducible repeat (first | refine kN ?_ _ | refine kD ?_ | refine kA ?_ _)); exact BK340.out) hb); have n2_ := Aside0.mk (bS (by repeat (first | (with_reducible first | exact HB.out | apply bA | apply bN | apply bD | refine bE ?_ GE333.out | refine bE ?_ GE340.out) | exact HB.out)) hb); have n3_ := Aside0.mk (hbox); have n4_ := Aside0.mk ((by rw [hg]; exact (bZ (by repeat (first | (with_reducible first | exact HB.out | apply bA | apply bN | apply bD | refine bE ?_ GE333.out | refine bE ?_ GE340.out) | exact HB.out))) : w.heap.size ≤ gb341)); have n5_ := Aside0.mk ((by rw [hg]; exact (bZ (by repeat (first | (with_reducible first | exact HB.out | apply bA | apply bN | apply bD | refine bE ?_ GE333.out | refine bE ?_ GE340.out) | exact HB.out))) : w.heap.size ≤ gb341)); have n6_ := Aside0.mk ((by rw [hg]; exact Nat.ne_of_lt (blk_lt (g := gb333) (o := .cells #[.int .i64 a1_0, .int .i64 a1_1] 41 (0, 0)) (by (with_reducible repeat (first | refine kN ?_ _ | refine kD ?_ | refine kA ?_ _)); exact BK333.out)) : gb333 ≠ gb341)); have n7_ := Aside0.mk ((by rw [hg]; exact Nat.ne_of_gt (blk_lt (g := gb333) (o := .cells #[.int .i64 a1_0, .int .i64 a1_1] 41 (0, 0)) (by (with_reducible repeat (first | refine kN ?_ _ | refine kD ?_ | refine kA ?_ _)); exact BK333.out)) : gb341 ≠ gb333)); have n8_ := Aside0.mk ((by rw [hg]; exact Nat.ne_of_lt (blk_lt (g := gb340) (o := .cells #[.int .i64 0, .int .i64 0] 41 (0, 0)) (by (with_reducible repeat (first | refine kN ?_ _ | refine kD ?_ | refine kA ?_ _)); exact BK340.out)) : gb340 ≠ gb341)); have n9_ := Aside0.mk ((by rw [hg]; exact Nat.ne_of_gt (blk_lt (g := gb340) (o := .cells #[.int .i64 0, .int .i64 0] 41 (0, 0)) (by (with_reducible repeat (first | refine kN ?_ _ | refine kD ?_ | refine kA ?_ _)); exact BK340.out)) : gb341 ≠ gb340)); clear BK333; clear BK340; clear HB; have BK333 := n0_; have BK340 := n1_; have HB := n2_; have BK341 := n3_; have GW341 := n4_; have GE341 := n5_; have NB333_341 := n6_; have NB341_333 := n7_; have NB340_341 := n8_; have NB341_340 := n9_; clear n0_ n1_ n2_ n3_ n4_ n5_ n6_ n7_ n8_ n9_; clear hb hbox hg; have hnb31 := NB340_333.out; have hnc31 := NB333_340.out; have hnb32 := NB340_341.out; have hnc32 := NB341_340.out; have hcz33_0 : w30.cell? ⟨gb340, 0, none⟩ = some (.int .i64 0) := (kC BK340.out 0).trans rfl; have hcz33_1 : w30.cell? ⟨gb340, 1, none⟩ = some (.int .i64 0) := (kC BK340.out 1).trans rfl; have hfz33_0 := kZ BK340.out 0; have hfz33_1 := kZ BK340.out 1; have hnb34 := NB341_333.out; have hnc34 := NB333_341.out; have hcz35_0 : w30.cell? ⟨gb341, 0, none⟩ = some (.int .i64 0) := (kC BK341.out 0).trans rfl; have hcz35_1 : w30.cell? ⟨gb341, 1, none⟩ = some (.int .i64 0) := (kC BK341.out 1).trans rfl; have hfz35_0 := kZ BK341.out 0; have hfz35_1 := kZ BK341.out 1; have hcz36_0 : w30.cell? ⟨gb333, 0, none⟩ = some (.int .i64 a1_0) := (kC BK333.out 0).trans rfl; have hcz36_1 : w30.cell? ⟨gb333, 1, none⟩ = some (.int .i64 a1_1) := (kC BK333.out 1).trans rfl; have hfz36_0 := kZ BK333.out 0; have hfz36_1 := kZ BK333.out 1) | ((with_reducible refine gate_callee (f := 47) rfl ?_); refine goesL_ (some 31) rfl rfl Try.func47 (by kernel_rfl) rfl #[.agg #[.int .i64 a1_0, .int .i64 a1_1], .agg #[.int .i64 t336, .int .i64 t337], .agg #[.int .i64 t338, .int .i64 t339]] rfl (by (try simp only [sD, sE, sF]); first | done | rfl | (simp only [sG, sH]; rfl)) ?_; (with_reducible refine (point_On.calls k2 a1_0 a1_1 t336 t337 t338 t339 false _ A15.out).mono ?_); rintro e w37 ⟨rfl, hb⟩; refine ⟨_, rfl, ?_⟩; have n0_ := Aside0.mk (kB (g := gb333) (o := .cells #[.int .i64 a1_0, .int .i64 a1_1] 41 (0, 0)) (by (with_reducible repeat (first | refine kN ?_ _ | refine kD ?_ | refine kA ?_ _)); refine kF ?_ NB333_341.out _; (with_reducible repeat (first | refine kN ?_ _ | refine kD ?_ | refine kA ?_ _)); refine kF ?_ NB333_341.out _; (with_reducible repeat (first | refine kN ?_ _ | refine kD ?_ | refine kA ?_ _)); refine kF ?_ NB333_340.out _; (with_reducible repeat (first | refine kN ?_ _ | refine kD ?_ | refine kA ?_ _)); refine kF ?_ NB333_340.out _; (with_reducible repeat (first | refine kN ?_ _ | refine kD ?_ | refine kA ?_ _)); exact BK333.out) hb); have n1_ := Aside0.mk (kB (g := gb340) (o := .cells #[.int .i64 t336, .int .i64 t337] 41 (0, 0)) (by (with_reducible repeat (first | refine kN ?_ _ | refine kD ?_ | refine kA ?_ _)); refine kF ?_ NB340_341.out _; (with_reducible repeat (first | refine kN ?_ _ | refine kD ?_ | refine kA ?_ _)); refine kF ?_ NB340_341.out _; (with_reducible repeat (first | refine kN ?_ _ | refine kD ?_ | refine kA ?_ _)); refine kP (cs := #[.int .i64 t336, .int .i64 0]) ?_ 1 _ rfl; (with_reducible repeat (first | refine kN ?_ _ | refine kD ?_ | refine kA ?_ _)); refine kP (cs := #[.int .i64 0, .int .i64 0]) ?_ 0 _ rfl; (with_reducible repeat (first | refine kN ?_ _ | refine kD ?_ | refine kA ?_ _)); exact BK340.out) hb); have n2_ := Aside0.mk (kB (g := gb341) (o := .cells #[.int .i64 t338, .int .i64 t339] 41 (0, 0)) (by (with_reducible repeat (first | refine kN ?_ _ | refine kD ?_ | refine kA ?_ _)); refine kP (cs := #[.int .i64 t338, .int .i64 0]) ?_ 1 _ rfl; (with_reducible repeat (first | refine kN ?_ _ | refine kD ?_ | refine kA ?_ _)); refine kP (cs := #[.int .i64 0, .int .i64 0]) ?_ 0 _ rfl; (with_reducible repeat (first | refine kN ?_ _ | refine kD ?_ | refine kA ?_ _)); refine kF ?_ NB341_340.out _; (with_reducible repeat (first | refine kN ?_ _ | refine kD ?_ | refine kA ?_ _)); refine kF ?_ NB341_340.out _; (with_reducible repeat (first | refine kN ?_ _ | refine kD ?_ | refine kA ?_ _)); exact BK341.out) hb); have n3_ := Aside0.mk (bS (by repeat (first | (with_reducible first | exact HB.out | apply bA | apply bN | apply bD | refine bE ?_ GE333.out | refine bE ?_ GE340.out | refine bE ?_ GE341.out) | exact HB.out)) hb); clear BK333; clear BK340; clear BK341; clear HB; have BK333 := n0_; have BK340 := n1_; have BK341 := n2_; have HB := n3_; clear n0_ n1_ n2_ n3_; (try clear hb); (try clear hb2); (try clear hk); (try clear hi); have hcz38_0 : w37.cell? ⟨gb340, 0, none⟩ = some (.int .i64 t336) := (kC BK340.out 0).trans rfl; have hcz38_1 : w37.cell? ⟨gb340, 1, none⟩ = some (.int .i64 t337) := (kC BK340.out 1).trans rfl; have hfz38_0 := kZ BK340.out 0; have hfz38_1 := kZ BK340.out 1; have hcz39_0 : w37.cell? ⟨gb341, 0, none⟩ = some (.int .i64 t338) := (kC BK341.out 0).trans rfl; have hcz39_1 : w37.cell? ⟨gb341, 1, none⟩ = some (.int .i64 t339) := (kC BK341.out 1).trans rfl; have hfz39_0 := kZ BK341.out 0; have hfz39_1 := kZ BK341.out 1))
        (try simp only [Act.put, sA, sB, sC])
        go_cut [] (fun wc => ∃ (kq : Nat) (x341000_26 : Int) (x341001_26 : Int) (x342000_26 : Int) (x342001_26 : Int), Aside0 (poly_Side.j2 kq l0 x5_2 (l0.length : Int) x19_2 a1_0 a1_1 x341000_26 x341001_26 x342000_26 x342001_26 = some r) ∧ Aside0 (kq ≤ k2) ∧ Aside0 (wc.heap[gb333]? = some (.cells #[.int .i64 a1_0, .int .i64 a1_1] 41 (0, 0))) ∧ Aside0 (wc.heap[gb340]? = some (.cells #[.int .i64 x341000_26, .int .i64 x341001_26] 41 (0, 0))) ∧ Aside0 (wc.heap[gb341]? = some (.cells #[.int .i64 x342000_26, .int .i64 x342001_26] 41 (0, 0))) ∧ Aside0 (Below w.heap.size w wc))
        case first =>
         have H := HC27.out
         clear HC27
         by_cases c40 : t337 > t339
         ·rw [if_pos c40] at H
          have c40b0 : decide (t339 < t337) = true := decide_eq_true c40
          clear c40
          (first | rw [c40b0] | (simp only [i64_w, i32_w]; rw [c40b0]) | skip)
          have H' := Aside0.mk H
          clear H
          have hnb41 := NB341_333.out
          have hnc41 := NB333_341.out
          have hnb42 := NB341_340.out
          have hnc42 := NB340_341.out
          have hcz43_0 : w37.cell? ⟨gb341, 0, none⟩ = some (.int .i64 t338) := (kC BK341.out 0).trans rfl
          have hcz43_1 : w37.cell? ⟨gb341, 1, none⟩ = some (.int .i64 t339) := (kC BK341.out 1).trans rfl
          have hfz43_0 := kZ BK341.out 0
          have hfz43_1 := kZ BK341.out 1
          have hnb44 := NB340_333.out
          have hnc44 := NB333_340.out
          have hcz45_0 : w37.cell? ⟨gb340, 0, none⟩ = some (.int .i64 t336) := (kC BK340.out 0).trans rfl
          have hcz45_1 : w37.cell? ⟨gb340, 1, none⟩ = some (.int .i64 t337) := (kC BK340.out 1).trans rfl
          have hfz45_0 := kZ BK340.out 0
          have hfz45_1 := kZ BK340.out 1
          go_wp2
          go_meet
          case rel => exact ⟨_, (t338), (t339), (t336), (t337), H', ⟨by have := HJ2.out; have := HK2.out; first | omega | exact Nat.le_refl _⟩, ⟨by (with_reducible repeat (first | refine kN ?_ _ | refine kD ?_ | refine kA ?_ _)); refine kF ?_ NB333_341.out _; (with_reducible repeat (first | refine kN ?_ _ | refine kD ?_ | refine kA ?_ _)); refine kF ?_ NB333_341.out _; (with_reducible repeat (first | refine kN ?_ _ | refine kD ?_ | refine kA ?_ _)); refine kF ?_ NB333_340.out _; (with_reducible repeat (first | refine kN ?_ _ | refine kD ?_ | refine kA ?_ _)); refine kF ?_ NB333_340.out _; (with_reducible repeat (first | refine kN ?_ _ | refine kD ?_ | refine kA ?_ _)); exact BK333.out⟩, ⟨by (with_reducible repeat (first | refine kN ?_ _ | refine kD ?_ | refine kA ?_ _)); refine kF ?_ NB340_341.out _; (with_reducible repeat (first | refine kN ?_ _ | refine kD ?_ | refine kA ?_ _)); refine kF ?_ NB340_341.out _; (with_reducible repeat (first | refine kN ?_ _ | refine kD ?_ | refine kA ?_ _)); refine kP (cs := #[.int .i64 t338, .int .i64 t337]) ?_ 1 _ rfl; (with_reducible repeat (first | refine kN ?_ _ | refine kD ?_ | refine kA ?_ _)); refine kP (cs := #[.int .i64 t336, .int .i64 t337]) ?_ 0 _ rfl; (with_reducible repeat (first | refine kN ?_ _ | refine kD ?_ | refine kA ?_ _)); exact BK340.out⟩, ⟨by (with_reducible repeat (first | refine kN ?_ _ | refine kD ?_ | refine kA ?_ _)); refine kP (cs := #[.int .i64 t336, .int .i64 t339]) ?_ 1 _ rfl; (with_reducible repeat (first | refine kN ?_ _ | refine kD ?_ | refine kA ?_ _)); refine kP (cs := #[.int .i64 t338, .int .i64 t339]) ?_ 0 _ rfl; (with_reducible repeat (first | refine kN ?_ _ | refine kD ?_ | refine kA ?_ _)); refine kF ?_ NB341_340.out _; (with_reducible repeat (first | refine kN ?_ _ | refine kD ?_ | refine kA ?_ _)); refine kF ?_ NB341_340.out _; (with_reducible repeat (first | refine kN ?_ _ | refine kD ?_ | refine kA ?_ _)); exact BK341.out⟩, ⟨by repeat (first | (with_reducible first | exact HB.out | apply bA | apply bN | apply bD | refine bE ?_ GE333.out | refine bE ?_ GE340.out | refine bE ?_ GE341.out) | exact HB.out)⟩⟩
         ·rw [if_neg c40] at H
          have c40b0 : decide (t339 < t337) = false := decide_eq_false c40
          clear c40
          (first | rw [c40b0] | (simp only [i64_w, i32_w]; rw [c40b0]) | skip)
          have H' := Aside0.mk H
          clear H
          go_wp2
          go_meet
          case rel => exact ⟨_, (t336), (t337), (t338), (t339), H', ⟨by have := HJ2.out; have := HK2.out; first | omega | exact Nat.le_refl _⟩, ⟨by (with_reducible repeat (first | refine kN ?_ _ | refine kD ?_ | refine kA ?_ _)); exact BK333.out⟩, ⟨by (with_reducible repeat (first | refine kN ?_ _ | refine kD ?_ | refine kA ?_ _)); exact BK340.out⟩, ⟨by (with_reducible repeat (first | refine kN ?_ _ | refine kD ?_ | refine kA ?_ _)); exact BK341.out⟩, ⟨by repeat (first | (with_reducible first | exact HB.out | apply bA | apply bN | apply bD | refine bE ?_ GE333.out | refine bE ?_ GE340.out | refine bE ?_ GE341.out) | exact HB.out)⟩⟩
        case rest =>
         clear HC27
         try clear c1
         try clear c2
         try clear p2
         try clear c3
         try clear c4
         try clear c6
         try clear c12
         try clear c13
         try clear c13b0
         try clear c16
         try clear c20
         try clear c21
         try clear c23
         try clear c28
         try clear c30
         try clear c31
         try clear c32
         try clear c34
         try clear c40
         try clear c40b0
         try clear c41
         try clear c42
         try clear c44
         try clear hcz22_0
         try clear hcz22_1
         try clear hcz24_0
         try clear hcz24_1
         try clear hcz25_0
         try clear hcz25_1
         try clear hcz33_0
         try clear hcz33_1
         try clear hcz35_0
         try clear hcz35_1
         try clear hcz36_0
         try clear hcz36_1
         try clear hcz38_0
         try clear hcz38_1
         try clear hcz39_0
         try clear hcz39_1
         try clear hcz43_0
         try clear hcz43_1
         try clear hcz45_0
         try clear hcz45_1
         try clear hcz9_0
         try clear hcz9_1
         try clear hfz22_0
         try clear hfz22_1
         try clear hfz24_0
         try clear hfz24_1
         try clear hfz25_0
         try clear hfz25_1
         try clear hfz33_0
         try clear hfz33_1
         try clear hfz35_0
         try clear hfz35_1
         try clear hfz36_0
         try clear hfz36_1
         try clear hfz38_0
         try clear hfz38_1
         try clear hfz39_0
         try clear hfz39_1
         try clear hfz43_0
         try clear hfz43_1
         try clear hfz45_0
         try clear hfz45_1
         try clear hfz9_0
         try clear hfz9_1
         try clear p2
         obtain ⟨kq, x341000_26, x341001_26, x342000_26, x342001_26, HA, HJ26, BK333, BK340, BK341, HB⟩ := hcut
         cases kq with
         | zero => exact absurd HA.out (by simp [poly_Side.j2])
         | succ kj26 =>
          have H := HA.out
          clear HA
          simp only [poly_Side.j2] at H
          have HC46 := Aside0.mk H
          clear H
          go_upto_region 12 with (fail)
          go_cut [57] (fun v57 wc => ∃ (kq : Nat) (x57_45 : Bool), v57 = .bool x57_45 ∧ Aside0 (poly_Side.j3 kq l0 x5_2 (l0.length : Int) x19_2 x57_45 a1_0 a1_1 = some r) ∧ Aside0 (kq ≤ kj26) ∧ Aside0 (wc.heap[gb333]? = some (.cells #[.int .i64 a1_0, .int .i64 a1_1] 41 (0, 0))) ∧ Aside0 (wc.heap[gb340]? = some (.cells #[.int .i64 x341000_26, .int .i64 x341001_26] 41 (0, 0))) ∧ Aside0 (wc.heap[gb341]? = some (.cells #[.int .i64 x342000_26, .int .i64 x342001_26] 41 (0, 0))) ∧ Aside0 (Below w.heap.size w wc))
          case first =>
           have H := HC46.out
           clear HC46
           by_cases c47 : x341001_26 ≤ a1_1
           ·rw [if_pos c47] at H
            have c47b0 : decide (x341001_26 ≤ a1_1) = true := decide_eq_true c47
            clear c47
            (first | rw [c47b0] | (simp only [i64_w, i32_w]; rw [c47b0]) | skip)
            by_cases c48 : a1_1 < x342001_26
            ·rw [if_pos c48] at H
             have c48b0 : decide (a1_1 < x342001_26) = true := decide_eq_true c48
             clear c48
             replace H := Option.bind_eq_some_iff.mp H
             obtain ⟨t343, A490, H⟩ := H
             replace H : (poly_Side.j3 kj26 l0 x5_2 (l0.length : Int) x19_2 (decide (t343 > 0)) a1_0 a1_1) = some r := H
             have A49 := Aside0.mk A490
             clear A490
             have H' := Aside0.mk H
             clear H
             have hnb50 := NB340_333.out
             have hnc50 := NB333_340.out
             have hnb51 := NB340_341.out
             have hnc51 := NB341_340.out
             have hcz52_0 : wc.cell? ⟨gb340, 0, none⟩ = some (.int .i64 x341000_26) := (kC BK340.out 0).trans rfl
             have hcz52_1 : wc.cell? ⟨gb340, 1, none⟩ = some (.int .i64 x341001_26) := (kC BK340.out 1).trans rfl
             have hfz52_0 := kZ BK340.out 0
             have hfz52_1 := kZ BK340.out 1
             have hnb53 := NB333_341.out
             have hnc53 := NB341_333.out
             have hcz54_0 : wc.cell? ⟨gb333, 0, none⟩ = some (.int .i64 a1_0) := (kC BK333.out 0).trans rfl
             have hcz54_1 : wc.cell? ⟨gb333, 1, none⟩ = some (.int .i64 a1_1) := (kC BK333.out 1).trans rfl
             have hfz54_0 := kZ BK333.out 0
             have hfz54_1 := kZ BK333.out 1
             have hcz55_0 : wc.cell? ⟨gb341, 0, none⟩ = some (.int .i64 x342000_26) := (kC BK341.out 0).trans rfl
             have hcz55_1 : wc.cell? ⟨gb341, 1, none⟩ = some (.int .i64 x342001_26) := (kC BK341.out 1).trans rfl
             have hfz55_0 := kZ BK341.out 0
             have hfz55_1 := kZ BK341.out 1
             go_wp2_with (first | (go_at_call 43; (with_reducible refine (point_Turn.calls kj26 x341000_26 x341001_26 x342000_26 x342001_26 a1_0 a1_1 t343 _ A49.out).mono ?_); rintro e w56 ⟨rfl, hb⟩; have n0_ := Aside0.mk (kB (g := gb333) (o := .cells #[.int .i64 a1_0, .int .i64 a1_1] 41 (0, 0)) (by (with_reducible repeat (first | refine kN ?_ _ | refine kD ?_ | refine kA ?_ _)); exact BK333.out) hb); have n1_ := Aside0.mk (kB (g := gb340) (o := .cells #[.int .i64 x341000_26, .int .i64 x341001_26] 41 (0, 0)) (by (with_reducible repeat (first | refine kN ?_ _ | refine kD ?_ | refine kA ?_ _)); exact BK340.out) hb); have n2_ := Aside0.mk (kB (g := gb341) (o := .cells #[.int .i64 x342000_26, .int .i64 x342001_26] 41 (0, 0)) (by (with_reducible repeat (first | refine kN ?_ _ | refine kD ?_ | refine kA ?_ _)); exact BK341.out) hb); have n3_ := Aside0.mk (bS (by repeat (first | (with_reducible first | exact HB.out | apply bA | apply bN | apply bD | refine bE ?_ GE333.out | refine bE ?_ GE340.out | refine bE ?_ GE341.out) | exact HB.out)) hb); clear BK333; clear BK340; clear BK341; clear HB; have BK333 := n0_; have BK340 := n1_; have BK341 := n2_; have HB := n3_; clear n0_ n1_ n2_ n3_; (try clear hb); (try clear hb2); (try clear hk); (try clear hi)))
             go_meet
             case rel => exact ⟨_, (decide (t343 > 0)), (by first | rfl | (simp; done) | (simp [*]; done)), H', ⟨by have := HJ2.out; have := HK2.out; have := HJ26.out; first | omega | exact Nat.le_refl _⟩, ⟨by (with_reducible repeat (first | refine kN ?_ _ | refine kD ?_ | refine kA ?_ _)); exact BK333.out⟩, ⟨by (with_reducible repeat (first | refine kN ?_ _ | refine kD ?_ | refine kA ?_ _)); exact BK340.out⟩, ⟨by (with_reducible repeat (first | refine kN ?_ _ | refine kD ?_ | refine kA ?_ _)); exact BK341.out⟩, ⟨by repeat (first | (with_reducible first | exact HB.out | apply bA | apply bN | apply bD | refine bE ?_ GE333.out | refine bE ?_ GE340.out | refine bE ?_ GE341.out) | exact HB.out)⟩⟩
            ·rw [if_neg c48] at H
             have c48b0 : decide (a1_1 < x342001_26) = false := decide_eq_false c48
             clear c48
             have H' := Aside0.mk H
             clear H
             have hnb57 := NB340_333.out
             have hnc57 := NB333_340.out
             have hnb58 := NB340_341.out
             have hnc58 := NB341_340.out
             have hcz59_0 : wc.cell? ⟨gb340, 0, none⟩ = some (.int .i64 x341000_26) := (kC BK340.out 0).trans rfl
             have hcz59_1 : wc.cell? ⟨gb340, 1, none⟩ = some (.int .i64 x341001_26) := (kC BK340.out 1).trans rfl
             have hfz59_0 := kZ BK340.out 0
             have hfz59_1 := kZ BK340.out 1
             have hnb60 := NB333_341.out
             have hnc60 := NB341_333.out
             have hcz61_0 : wc.cell? ⟨gb333, 0, none⟩ = some (.int .i64 a1_0) := (kC BK333.out 0).trans rfl
             have hcz61_1 : wc.cell? ⟨gb333, 1, none⟩ = some (.int .i64 a1_1) := (kC BK333.out 1).trans rfl
             have hfz61_0 := kZ BK333.out 0
             have hfz61_1 := kZ BK333.out 1
             have hcz62_0 : wc.cell? ⟨gb341, 0, none⟩ = some (.int .i64 x342000_26) := (kC BK341.out 0).trans rfl
             have hcz62_1 : wc.cell? ⟨gb341, 1, none⟩ = some (.int .i64 x342001_26) := (kC BK341.out 1).trans rfl
             have hfz62_0 := kZ BK341.out 0
             have hfz62_1 := kZ BK341.out 1
             go_wp2
             go_meet
             case rel => exact ⟨_, (false), (by first | rfl | (simp; done) | (simp [*]; done)), H', ⟨by have := HJ2.out; have := HK2.out; have := HJ26.out; first | omega | exact Nat.le_refl _⟩, ⟨by (with_reducible repeat (first | refine kN ?_ _ | refine kD ?_ | refine kA ?_ _)); exact BK333.out⟩, ⟨by (with_reducible repeat (first | refine kN ?_ _ | refine kD ?_ | refine kA ?_ _)); exact BK340.out⟩, ⟨by (with_reducible repeat (first | refine kN ?_ _ | refine kD ?_ | refine kA ?_ _)); exact BK341.out⟩, ⟨by repeat (first | (with_reducible first | exact HB.out | apply bA | apply bN | apply bD | refine bE ?_ GE333.out | refine bE ?_ GE340.out | refine bE ?_ GE341.out) | exact HB.out)⟩⟩
           ·rw [if_neg c47] at H
            have c47b0 : decide (x341001_26 ≤ a1_1) = false := decide_eq_false c47
            clear c47
            (first | rw [c47b0] | (simp only [i64_w, i32_w]; rw [c47b0]) | skip)
            have H' := Aside0.mk H
            clear H
            have hnb63 := NB340_333.out
            have hnc63 := NB333_340.out
            have hnb64 := NB340_341.out
            have hnc64 := NB341_340.out
            have hcz65_0 : wc.cell? ⟨gb340, 0, none⟩ = some (.int .i64 x341000_26) := (kC BK340.out 0).trans rfl
            have hcz65_1 : wc.cell? ⟨gb340, 1, none⟩ = some (.int .i64 x341001_26) := (kC BK340.out 1).trans rfl
            have hfz65_0 := kZ BK340.out 0
            have hfz65_1 := kZ BK340.out 1
            have hnb66 := NB333_341.out
            have hnc66 := NB341_333.out
            have hcz67_0 : wc.cell? ⟨gb333, 0, none⟩ = some (.int .i64 a1_0) := (kC BK333.out 0).trans rfl
            have hcz67_1 : wc.cell? ⟨gb333, 1, none⟩ = some (.int .i64 a1_1) := (kC BK333.out 1).trans rfl
            have hfz67_0 := kZ BK333.out 0
            have hfz67_1 := kZ BK333.out 1
            go_wp2
            go_meet
            case rel => exact ⟨_, (false), (by first | rfl | (simp; done) | (simp [*]; done)), H', ⟨by have := HJ2.out; have := HK2.out; have := HJ26.out; first | omega | exact Nat.le_refl _⟩, ⟨by (with_reducible repeat (first | refine kN ?_ _ | refine kD ?_ | refine kA ?_ _)); exact BK333.out⟩, ⟨by (with_reducible repeat (first | refine kN ?_ _ | refine kD ?_ | refine kA ?_ _)); exact BK340.out⟩, ⟨by (with_reducible repeat (first | refine kN ?_ _ | refine kD ?_ | refine kA ?_ _)); exact BK341.out⟩, ⟨by repeat (first | (with_reducible first | exact HB.out | apply bA | apply bN | apply bD | refine bE ?_ GE333.out | refine bE ?_ GE340.out | refine bE ?_ GE341.out) | exact HB.out)⟩⟩
          case rest =>
           clear HC46
           try clear c1
           try clear c2
           try clear p2
           try clear c3
           try clear c4
           try clear c5
           try clear c6
           try clear c12
           try clear c13
           try clear c13b0
           try clear c16
           try clear c20
           try clear c21
           try clear c23
           try clear c28
           try clear c30
           try clear c31
           try clear c32
           try clear c34
           try clear c40
           try clear c40b0
           try clear c41
           try clear c42
           try clear c44
           try clear c46
           try clear c47
           try clear c47b0
           try clear c48
           try clear c48b0
           try clear c50
           try clear c51
           try clear c53
           try clear c57
           try clear c58
           try clear c60
           try clear c63
           try clear c64
           try clear c66
           try clear hcz22_0
           try clear hcz22_1
           try clear hcz24_0
           try clear hcz24_1
           try clear hcz25_0
           try clear hcz25_1
           try clear hcz33_0
           try clear hcz33_1
           try clear hcz35_0
           try clear hcz35_1
           try clear hcz36_0
           try clear hcz36_1
           try clear hcz38_0
           try clear hcz38_1
           try clear hcz39_0
           try clear hcz39_1
           try clear hcz43_0
           try clear hcz43_1
           try clear hcz45_0
           try clear hcz45_1
           try clear hcz52_0
           try clear hcz52_1
           try clear hcz54_0
           try clear hcz54_1
           try clear hcz55_0
           try clear hcz55_1
           try clear hcz59_0
           try clear hcz59_1
           try clear hcz61_0
           try clear hcz61_1
           try clear hcz62_0
           try clear hcz62_1
           try clear hcz65_0
           try clear hcz65_1
           try clear hcz67_0
           try clear hcz67_1
           try clear hcz9_0
           try clear hcz9_1
           try clear hfz22_0
           try clear hfz22_1
           try clear hfz24_0
           try clear hfz24_1
           try clear hfz25_0
           try clear hfz25_1
           try clear hfz33_0
           try clear hfz33_1
           try clear hfz35_0
           try clear hfz35_1
           try clear hfz36_0
           try clear hfz36_1
           try clear hfz38_0
           try clear hfz38_1
           try clear hfz39_0
           try clear hfz39_1
           try clear hfz43_0
           try clear hfz43_1
           try clear hfz45_0
           try clear hfz45_1
           try clear hfz52_0
           try clear hfz52_1
           try clear hfz54_0
           try clear hfz54_1
           try clear hfz55_0
           try clear hfz55_1
           try clear hfz59_0
           try clear hfz59_1
           try clear hfz61_0
           try clear hfz61_1
           try clear hfz62_0
           try clear hfz62_1
           try clear hfz65_0
           try clear hfz65_1
           try clear hfz67_0
           try clear hfz67_1
           try clear hfz9_0
           try clear hfz9_1
           try clear p2
           obtain ⟨kq, x57_45, rfl, HA, HJ45, BK333, BK340, BK341, HB⟩ := hcut
           cases kq with
           | zero => exact absurd HA.out (by simp [poly_Side.j3])
           | succ kj45 =>
            have H := HA.out
            clear HA
            simp only [poly_Side.j3] at H
            by_cases c68 : x57_45 = true
            ·subst c68
             have H1 : (poly_Side.l0 kj45 l0 (wrap64 (-x5_2)) (l0.length : Int) (wrap64 (x19_2 + 1)) a1_0 a1_1) = some r := by rw [if_pos rfl] at H; exact H
             clear H
             have H := H1
             clear H1
             have H' := Aside0.mk H
             clear H
             go_wp2
             go_roundg kj45
             case measure => have := HJ2.out; have := HK2.out; have := HJ26.out; have := HJ45.out; omega
             case rel => exact ⟨(wrap64 (-x5_2)), (wrap64 (x19_2 + 1)), (by first | rfl | (simp; done) | (simp [*]; done)), (by first | rfl | (simp; done) | (simp [*]; done)), H', ⟨by have := HJ2.out; have := HK2.out; have := HJ26.out; have := HJ45.out; omega⟩, ⟨by (with_reducible repeat (first | refine kN ?_ _ | refine kD ?_ | refine kA ?_ _)); exact BK333.out⟩, ⟨by repeat (first | (with_reducible first | exact HB.out | apply bA | apply bN | apply bD | refine bE ?_ GE333.out | refine bE ?_ GE340.out | refine bE ?_ GE341.out) | exact HB.out)⟩⟩
            ·replace c68 := Bool.eq_false_iff.mpr c68
             subst c68
             have H1 : (poly_Side.l0 kj45 l0 x5_2 (l0.length : Int) (wrap64 (x19_2 + 1)) a1_0 a1_1) = some r := by rw [if_neg (show ¬ (false = true) by decide)] at H; exact H
             clear H
             have H := H1
             clear H1
             have H' := Aside0.mk H
             clear H
             go_wp2
             go_roundg kj45
             case measure => have := HJ2.out; have := HK2.out; have := HJ26.out; have := HJ45.out; omega
             case rel => exact ⟨(x5_2), (wrap64 (x19_2 + 1)), (by first | rfl | (simp; done) | (simp [*]; done)), (by first | rfl | (simp; done) | (simp [*]; done)), H', ⟨by have := HJ2.out; have := HK2.out; have := HJ26.out; have := HJ45.out; omega⟩, ⟨by (with_reducible repeat (first | refine kN ?_ _ | refine kD ?_ | refine kA ?_ _)); exact BK333.out⟩, ⟨by repeat (first | (with_reducible first | exact HB.out | apply bA | apply bN | apply bD | refine bE ?_ GE333.out | refine bE ?_ GE340.out | refine bE ?_ GE341.out) | exact HB.out)⟩⟩
      ·rw [if_neg c13] at H
       have c13b0 : decide (x19_2 < (l0.length : Int)) = false := decide_eq_false c13
       clear c13
       obtain rfl := Option.some.inj H
       go_wp2
       go_ret
       exact ⟨by first | rfl | (simp [errW_none, errW_some] <;> rfl) | (simp [*, errW_none, errW_some] <;> rfl), by repeat (first | (with_reducible first | exact HB.out | apply bA | apply bN | apply bD | refine bE ?_ GE333.out) | exact HB.out)⟩

end Go.Proofs.Ytamlcbmkdfikeaa.PVerdict

-- written by handprint.py, a program of this session's, over the seat Ytamlcbmkdfikeaa
import Derived.Test.YtamlcbmkdfikeaaPVerdictx0
import Derived.Test.YtamlcbmkdfikeaaPVerdictx6
import Derived.Test.YtamlcbmkdfikeaaPVerdictx8
import Derived.Test.YtamlcbmkdfikeaaPVerdictx12
namespace Go.Proofs.Ytamlcbmkdfikeaa.PVerdict
open Go.RowKit Go.Proofs.YtamlcbmkdfikeaaW.PrintWords Go.Proofs.YtamlcbmkdfikeaaW.PrintLast Go.Proofs.YtamlcbmkdfikeaaW.PrintMore
open Go.Proofs.YtamlcbmkdfikeaaW.PrintWords renaming blk_drewN → kN, blk_drew → kD, blk_alloc → kA, blk_cell → kC, blk_below → kB, blk_frozen → kZ, below_alloc → bA, pw_below_drewN → bN, below_drew1 → bD, below_step → bS, below_size → bZ, below_set → bE
open List renaming map_toArray → sD, map_cons → sE, map_nil → sF, length_drop → sG, length_take → sH
attribute [local go_sem] max2_int min2_int max_two min_two max_three min_three max_four min_four   -- for this text's walks alone
set_option linter.unusedVariables false
set_option linter.unusedSimpArgs false

/-! ### slices_ContainsFunc_40_at_41: function 40 -/
def slices_ContainsFunc_40_at_41.f (k : Nat) (l0 : List (S41))  : Option (Bool) := (slices_IndexFunc_52_at_41.f k l0).bind fun t323 => (some (decide (t323 ≥ 0)))
theorem slices_ContainsFunc_40_at_41.mono : ∀ a0 k, LeO (slices_ContainsFunc_40_at_41.f k a0) (slices_ContainsFunc_40_at_41.f (k + 1) a0) := by
 intro a0 k
 unfold slices_ContainsFunc_40_at_41.f
 repeat' first
   | (with_reducible exact slices_IndexFunc_52_at_41.mono _ _)
   | (with_reducible exact LeO.refl _)
   | (with_reducible exact LeO.none _)
   | (with_reducible refine LeO.ite ?_ ?_)
   | (with_reducible refine LeO.bind ?_ (fun _ => ?_))
   | exact slices_IndexFunc_52_at_41.mono _ _
   | exact LeO.none _
   | refine LeO.ite ?_ ?_
   | refine LeO.bind ?_ (fun _ => ?_)
set_option maxHeartbeats 8000000 in
set_option maxRecDepth 100000 in
theorem slices_ContainsFunc_40_at_41.calls (k : Nat) (A0 : Option Addr) (c0 : Nat) (l0 : List (S41))  (r : Bool) (w : World) (hr0 : Kd.C k41 w A0 l0.length l0) (hc0 : l0.length ≤ c0) (h : slices_ContainsFunc_40_at_41.f k l0 = some r) :
  Calls Try.prog 40 #[.slice A0 l0.length c0, .func (.func 41) #[] #[]] w fun e w' => e = .returned (.bool r) ∧ Below w.heap.size w w' := by
 have HR0 := Aside0.mk hr0
 have HC0 := Aside0.mk hc0
 clear hr0 hc0
 have HB := Aside0.mk (Below.refl w.heap.size w)
 have H : ((slices_IndexFunc_52_at_41.f k l0).bind fun t323 => (some (decide (t323 ≥ 0)))) = some r := h
 clear h
 replace H := Option.bind_eq_some_iff.mp H
 obtain ⟨t323, A30, H⟩ := H
 replace H : (some (decide (t323 ≥ 0))) = some r := H
 have A3 := Aside0.mk A30
 clear A30
 obtain rfl := Option.some.inj H
 go_enter Try.func40, Try.ntmps40
 go_wp2_with (first | ((with_reducible refine gate_callee (f := 52) rfl ?_); refine goesL_ (some 7) rfl rfl Try.func52 (by kernel_rfl) rfl #[.slice A0 l0.length c0, .func (.func 41) #[] #[]] rfl (by (try simp only [sD, sE, sF]); first | done | rfl | (simp only [sG, sH]; rfl)) ?_; (with_reducible refine (slices_IndexFunc_52_at_41.calls k _ _ l0  t323 _ ?side1 ?side2 A3.out).mono ?_); (case side1 => repeat (first | exact HR0.out | (with_reducible refine Kd.C_alloc ?_ _) | (with_reducible refine Kd.C_drewN ?_ _) | (with_reducible refine Kd.C_drew ?_))); (case side2 => exact HC0.out); rintro e w4 ⟨rfl, hb⟩; refine ⟨_, rfl, ?_⟩; have n0_ := Aside0.mk (bS (by repeat (first | (with_reducible first | exact HB.out | apply bA | apply bN | apply bD) | exact HB.out)) hb); clear HB; have HB := n0_; clear n0_; (try clear hb); (try clear hb2); (try clear hk); (try clear hi)))
 go_ret
 exact ⟨by first | rfl | (simp [errW_none, errW_some] <;> rfl) | (simp [*, errW_none, errW_some] <;> rfl), by repeat (first | (with_reducible first | exact HB.out | apply bA | apply bN | apply bD) | exact HB.out)⟩

/-! ### poly_Right: function 28 -/
def poly_Right.f (k : Nat) (l0 : List (S41)) : Option (Bool) := (poly_Simple.f k l0).bind fun t324 => (if t324 = true then ((slices_ContainsFunc_40_at_41.f k l0).bind fun t325 => (some (!t325))) else (some false))
theorem poly_Right.mono : ∀ a0 k, LeO (poly_Right.f k a0) (poly_Right.f (k + 1) a0) := by
 intro a0 k
 unfold poly_Right.f
 repeat' first
   | (with_reducible exact poly_Simple.mono _ _)
   | (with_reducible exact slices_ContainsFunc_40_at_41.mono _ _)
   | (with_reducible exact LeO.refl _)
   | (with_reducible exact LeO.none _)
   | (with_reducible refine LeO.ite ?_ ?_)
   | (with_reducible refine LeO.bind ?_ (fun _ => ?_))
   | exact poly_Simple.mono _ _
   | exact slices_ContainsFunc_40_at_41.mono _ _
   | exact LeO.none _
   | refine LeO.ite ?_ ?_
   | refine LeO.bind ?_ (fun _ => ?_)
set_option maxHeartbeats 8000000 in
set_option maxRecDepth 100000 in
theorem poly_Right.calls (k : Nat) (A0 : Option Addr) (c0 : Nat) (l0 : List (S41)) (r : Bool) (w : World) (hr0 : Kd.C k41 w A0 l0.length l0) (hc0 : l0.length ≤ c0) (h : poly_Right.f k l0 = some r) :
  Calls Try.prog 28 #[.slice A0 l0.length c0] w fun e w' => e = .returned (.bool r) ∧ Below w.heap.size w w' := by
 have HR0 := Aside0.mk hr0
 have HC0 := Aside0.mk hc0
 clear hr0 hc0
 have HB := Aside0.mk (Below.refl w.heap.size w)
 have H : ((poly_Simple.f k l0).bind fun t324 => (if t324 = true then ((slices_ContainsFunc_40_at_41.f k l0).bind fun t325 => (some (!t325))) else (some false))) = some r := h
 clear h
 replace H := Option.bind_eq_some_iff.mp H
 obtain ⟨t324, A20, H⟩ := H
 replace H : (if t324 = true then ((slices_ContainsFunc_40_at_41.f k l0).bind fun t325 => (some (!t325))) else (some false)) = some r := H
 have A2 := Aside0.mk A20
 clear A20
 by_cases c3 : t324 = true
 ·subst c3
  have H1 : ((slices_ContainsFunc_40_at_41.f k l0).bind fun t325 => (some (!t325))) = some r := by rw [if_pos rfl] at H; exact H
  clear H
  have H := H1
  clear H1
  replace H := Option.bind_eq_some_iff.mp H
  obtain ⟨t325, A40, H⟩ := H
  replace H : (some (!t325)) = some r := H
  have A4 := Aside0.mk A40
  clear A40
  obtain rfl := Option.some.inj H
  go_enter Try.func28, Try.ntmps28
  go_wp2_with (first | ((with_reducible refine gate_callee (f := 39) rfl ?_); refine goesL_ (some 4) rfl rfl Try.func39 (by kernel_rfl) rfl #[.slice A0 l0.length c0] rfl (by (try simp only [sD, sE, sF]); first | done | rfl | (simp only [sG, sH]; rfl)) ?_; (with_reducible refine (poly_Simple.calls k _ _ l0 true _ ?side1 ?side2 A2.out).mono ?_); (case side1 => repeat (first | exact HR0.out | (with_reducible refine Kd.C_alloc ?_ _) | (with_reducible refine Kd.C_drewN ?_ _) | (with_reducible refine Kd.C_drew ?_))); (case side2 => exact HC0.out); rintro e w5 ⟨rfl, hb⟩; refine ⟨_, rfl, ?_⟩; have n0_ := Aside0.mk (bS (by repeat (first | (with_reducible first | exact HB.out | apply bA | apply bN | apply bD) | exact HB.out)) hb); clear HB; have HB := n0_; clear n0_; (try clear hb); (try clear hb2); (try clear hk); (try clear hi)) | (go_at_call 40; (with_reducible refine (slices_ContainsFunc_40_at_41.calls k _ _ l0  t325 _ ?side1 ?side2 A4.out).mono ?_); (case side1 => repeat (first | exact (Kd.C_below HR0.out HB.out) | (with_reducible refine Kd.C_alloc ?_ _) | (with_reducible refine Kd.C_drewN ?_ _) | (with_reducible refine Kd.C_drew ?_))); (case side2 => exact HC0.out); rintro e w6 ⟨rfl, hb⟩; have n0_ := Aside0.mk (bS (by repeat (first | (with_reducible first | exact HB.out | apply bA | apply bN | apply bD) | exact HB.out)) hb); clear HB; have HB := n0_; clear n0_; (try clear hb); (try clear hb2); (try clear hk); (try clear hi)))
  go_ret
  exact ⟨by first | rfl | (simp [errW_none, errW_some] <;> rfl) | (simp [*, errW_none, errW_some] <;> rfl), by repeat (first | (with_reducible first | exact HB.out | apply bA | apply bN | apply bD) | exact HB.out)⟩
 ·replace c3 := Bool.eq_false_iff.mpr c3
  subst c3
  have H1 : (some false) = some r := by rw [if_neg (show ¬ (false = true) by decide)] at H; exact H
  clear H
  have H := H1
  clear H1
  obtain rfl := Option.some.inj H
  go_enter Try.func28, Try.ntmps28
  go_wp2_with (first | ((with_reducible refine gate_callee (f := 39) rfl ?_); refine goesL_ (some 4) rfl rfl Try.func39 (by kernel_rfl) rfl #[.slice A0 l0.length c0] rfl (by (try simp only [sD, sE, sF]); first | done | rfl | (simp only [sG, sH]; rfl)) ?_; (with_reducible refine (poly_Simple.calls k _ _ l0 false _ ?side1 ?side2 A2.out).mono ?_); (case side1 => repeat (first | exact HR0.out | (with_reducible refine Kd.C_alloc ?_ _) | (with_reducible refine Kd.C_drewN ?_ _) | (with_reducible refine Kd.C_drew ?_))); (case side2 => exact HC0.out); rintro e w7 ⟨rfl, hb⟩; refine ⟨_, rfl, ?_⟩; have n0_ := Aside0.mk (bS (by repeat (first | (with_reducible first | exact HB.out | apply bA | apply bN | apply bD) | exact HB.out)) hb); clear HB; have HB := n0_; clear n0_; (try clear hb); (try clear hb2); (try clear hk); (try clear hi)))
  go_ret
  exact ⟨by first | rfl | (simp [errW_none, errW_some] <;> rfl) | (simp [*, errW_none, errW_some] <;> rfl), by repeat (first | (with_reducible first | exact HB.out | apply bA | apply bN | apply bD) | exact HB.out)⟩

-- NOT PRINTED: function 42 (box_Meets_1)

/-! ### box_Corners: function 44 -/
def box_Corners.f (a0_0 : Int) (a0_1 : Int) (a0_2 : Int) (a0_3 : Int) : Option ((List (S41))) := (box_Right.f a0_0 a0_1 a0_2 a0_3).bind fun t328 => (if t328 = true then (some (([(⟨a0_0, a0_1⟩ : S41), (⟨a0_2, a0_1⟩ : S41), (⟨a0_2, a0_3⟩ : S41), (⟨a0_0, a0_3⟩ : S41)] : List (S41)))) else (some ([] : List (S41))))
set_option maxHeartbeats 8000000 in
set_option maxRecDepth 100000 in
theorem box_Corners.calls (a0_0 : Int) (a0_1 : Int) (a0_2 : Int) (a0_3 : Int) (r : List (S41)) (w : World) (h : box_Corners.f a0_0 a0_1 a0_2 a0_3 = some r) :
  Calls Try.prog 44 #[.agg #[.int .i64 a0_0, .int .i64 a0_1, .int .i64 a0_2, .int .i64 a0_3]] w fun e w' => ∃ v0_ : Value, e = .returned (v0_) ∧ Kd.R k41 41 w' w.heap.size (fun _ => True) v0_ r ∧ Below w.heap.size w w' := by
 have hu43 := Try.underlying43
 have hu41 := Try.underlying41
 have HB := Aside0.mk (Below.refl w.heap.size w)
 have H : ((box_Right.f a0_0 a0_1 a0_2 a0_3).bind fun t328 => (if t328 = true then (some (([(⟨a0_0, a0_1⟩ : S41), (⟨a0_2, a0_1⟩ : S41), (⟨a0_2, a0_3⟩ : S41), (⟨a0_0, a0_3⟩ : S41)] : List (S41)))) else (some ([] : List (S41))))) = some r := h
 clear h
 replace H := Option.bind_eq_some_iff.mp H
 obtain ⟨t328, A20, H⟩ := H
 replace H : (if t328 = true then (some (([(⟨a0_0, a0_1⟩ : S41), (⟨a0_2, a0_1⟩ : S41), (⟨a0_2, a0_3⟩ : S41), (⟨a0_0, a0_3⟩ : S41)] : List (S41)))) else (some ([] : List (S41)))) = some r := H
 have A2 := Aside0.mk A20
 clear A20
 by_cases c3 : t328 = true
 ·subst c3
  have H1 : (some (([(⟨a0_0, a0_1⟩ : S41), (⟨a0_2, a0_1⟩ : S41), (⟨a0_2, a0_3⟩ : S41), (⟨a0_0, a0_3⟩ : S41)] : List (S41)))) = some r := by rw [if_pos rfl] at H; exact H
  clear H
  have H := H1
  clear H1
  obtain ⟨y329, hy329⟩ : ∃ y_ : List (S41), y_ = (([(⟨a0_0, a0_1⟩ : S41), (⟨a0_2, a0_1⟩ : S41), (⟨a0_2, a0_3⟩ : S41), (⟨a0_0, a0_3⟩ : S41)] : List (S41))) := ⟨_, rfl⟩
  replace H : (some y329) = some r := by first | (rw [hy329]; with_reducible exact H) | (have H2_ := (Option.bind_some _ _).symm.trans H; rw [hy329]; with_reducible exact H2_) | (have H2_ := (Option.bind_some _ _).symm.trans H; with_reducible exact H2_) | with_reducible exact H | (rw [hy329]; exact H) | exact H
  have Ny329 := Aside0.mk hy329
  clear hy329
  obtain rfl := Option.some.inj H
  go_enter Try.func44, Try.ntmps44
  go_wp2_with (first | ((with_reducible refine gate_dst (N := 1) rfl ?_); refine box_event ?hg (N := 1) ?hd (cs := #[.int .i64 a0_0, .int .i64 a0_1, .int .i64 a0_2, .int .i64 a0_3]) (t := 43) ?hr ?_; (case hd => rfl); (case hg => rfl); (case hr => first | (go_simp; done) | (go_simp; rfl)); intro gb327 hg w4 hbox hb; have n0_ := Aside0.mk (bS (by repeat (first | (with_reducible first | exact HB.out | apply bA | apply bN | apply bD) | exact HB.out)) hb); have n1_ := Aside0.mk (hbox); have n2_ := Aside0.mk ((by rw [hg]; exact (bZ (by repeat (first | (with_reducible first | exact HB.out | apply bA | apply bN | apply bD) | exact HB.out))) : w.heap.size ≤ gb327)); have n3_ := Aside0.mk ((by rw [hg]; exact (bZ (by repeat (first | (with_reducible first | exact HB.out | apply bA | apply bN | apply bD) | exact HB.out))) : w.heap.size ≤ gb327)); clear HB; have HB := n0_; have BK327 := n1_; have GW327 := n2_; have GE327 := n3_; clear n0_ n1_ n2_ n3_; clear hb hbox hg; have hcz5_0 : w4.cell? ⟨gb327, 0, none⟩ = some (.int .i64 a0_0) := (kC BK327.out 0).trans rfl; have hcz5_1 : w4.cell? ⟨gb327, 1, none⟩ = some (.int .i64 a0_1) := (kC BK327.out 1).trans rfl; have hcz5_2 : w4.cell? ⟨gb327, 2, none⟩ = some (.int .i64 a0_2) := (kC BK327.out 2).trans rfl; have hcz5_3 : w4.cell? ⟨gb327, 3, none⟩ = some (.int .i64 a0_3) := (kC BK327.out 3).trans rfl; have hfz5_0 := kZ BK327.out 0; have hfz5_1 := kZ BK327.out 1; have hfz5_2 := kZ BK327.out 2; have hfz5_3 := kZ BK327.out 3) | ((with_reducible refine gate_callee (f := 22) rfl ?_); refine goesL_ (some 4) rfl rfl Try.func22 (by kernel_rfl) rfl #[.agg #[.int .i64 a0_0, .int .i64 a0_1, .int .i64 a0_2, .int .i64 a0_3]] rfl (by (try simp only [sD, sE, sF]); first | done | rfl | (simp only [sG, sH]; rfl)) ?_; (with_reducible refine (box_Right.calls a0_0 a0_1 a0_2 a0_3 true _ A2.out).mono ?_); rintro e w6 ⟨rfl, hb⟩; refine ⟨_, rfl, ?_⟩; have n0_ := Aside0.mk (kB (g := gb327) (o := .cells #[.int .i64 a0_0, .int .i64 a0_1, .int .i64 a0_2, .int .i64 a0_3] 43 (0, 0)) (by (with_reducible repeat (first | refine kN ?_ _ | refine kD ?_ | refine kA ?_ _)); exact BK327.out) hb); have n1_ := Aside0.mk (bS (by repeat (first | (with_reducible first | exact HB.out | apply bA | apply bN | apply bD | refine bE ?_ GE327.out) | exact HB.out)) hb); clear BK327; clear HB; have BK327 := n0_; have HB := n1_; clear n0_ n1_; (try clear hb); (try clear hb2); (try clear hk); (try clear hi); have hcz7_0 : w6.cell? ⟨gb327, 0, none⟩ = some (.int .i64 a0_0) := (kC BK327.out 0).trans rfl; have hcz7_1 : w6.cell? ⟨gb327, 1, none⟩ = some (.int .i64 a0_1) := (kC BK327.out 1).trans rfl; have hcz7_2 : w6.cell? ⟨gb327, 2, none⟩ = some (.int .i64 a0_2) := (kC BK327.out 2).trans rfl; have hcz7_3 : w6.cell? ⟨gb327, 3, none⟩ = some (.int .i64 a0_3) := (kC BK327.out 3).trans rfl; have hfz7_0 := kZ BK327.out 0; have hfz7_1 := kZ BK327.out 1; have hfz7_2 := kZ BK327.out 2; have hfz7_3 := kZ BK327.out 3) | ((with_reducible refine gate_dst (N := 24) rfl ?_); refine Kd.R_lit k41 _ 41 ?hg (N := 24) ?hd (xs := ([(⟨a0_0, a0_1⟩ : S41), (⟨a0_2, a0_1⟩ : S41), (⟨a0_2, a0_3⟩ : S41), (⟨a0_0, a0_3⟩ : S41)] : List (S41))) (inner := [.int .i64 a0_0, .int .i64 a0_1, .int .i64 a0_2, .int .i64 a0_1, .int .i64 a0_2, .int .i64 a0_3, .int .i64 a0_0, .int .i64 a0_3]) (ok := fun _ => True) (okp := fun _ => True) ?hr ?hp (fun _ hk => hk) trivial (Below.refl _ _) (Nat.le_refl _) (by simp) ?_; (case hd => rfl); (case hg => rfl); (case hr => first | (go_simp; done) | (go_simp; rfl)); (case hp => exact (Reps.c2 (show Kd.M k41 _ _ _ (⟨a0_0, a0_1⟩ : S41) [.int .i64 a0_0, .int .i64 a0_1] from (k41_mkM _ _ _ (⟨a0_0, a0_1⟩ : S41) )) (Reps.c2 (show Kd.M k41 _ _ _ (⟨a0_2, a0_1⟩ : S41) [.int .i64 a0_2, .int .i64 a0_1] from (k41_mkM _ _ _ (⟨a0_2, a0_1⟩ : S41) )) (Reps.c2 (show Kd.M k41 _ _ _ (⟨a0_2, a0_3⟩ : S41) [.int .i64 a0_2, .int .i64 a0_3] from (k41_mkM _ _ _ (⟨a0_2, a0_3⟩ : S41) )) (Reps.c2 (show Kd.M k41 _ _ _ (⟨a0_0, a0_3⟩ : S41) [.int .i64 a0_0, .int .i64 a0_3] from (k41_mkM _ _ _ (⟨a0_0, a0_3⟩ : S41) )) (Reps.none _ _)))))); intro v330 w8 ho9 hb hg_ hnew_; clear hg_ hnew_; (first | rw [← Ny329.out] at ho9 | (simp only [Int.reduceToNat] at ho9; rw [← Ny329.out] at ho9)); have n0_ := Aside0.mk (Kd.R_lower ho9 (bZ (by repeat (first | (with_reducible first | exact HB.out | apply bA | apply bN | apply bD | refine bE ?_ GE327.out) | exact HB.out)))); have n1_ := Aside0.mk (kB (g := gb327) (o := .cells #[.int .i64 a0_0, .int .i64 a0_1, .int .i64 a0_2, .int .i64 a0_3] 43 (0, 0)) (by (with_reducible repeat (first | refine kN ?_ _ | refine kD ?_ | refine kA ?_ _)); exact BK327.out) hb); have n2_ := Aside0.mk (bS (by repeat (first | (with_reducible first | exact HB.out | apply bA | apply bN | apply bD | refine bE ?_ GE327.out) | exact HB.out)) hb); clear BK327; clear HB; have HO331 := n0_; have BK327 := n1_; have HB := n2_; clear n0_ n1_ n2_; clear hb ho9))
  go_ret
  exact ⟨_, by first | rfl | (simp [errW_none, errW_some] <;> rfl) | (simp [*, errW_none, errW_some] <;> rfl), by (with_reducible repeat (first | apply Kd.R_alloc | apply Kd.R_drewN | apply Kd.R_drew)); exact HO331.out, by repeat (first | (with_reducible first | exact HB.out | apply bA | apply bN | apply bD | refine bE ?_ GE327.out) | exact HB.out)⟩
 ·replace c3 := Bool.eq_false_iff.mpr c3
  subst c3
  have H1 : (some ([] : List (S41))) = some r := by rw [if_neg (show ¬ (false = true) by decide)] at H; exact H
  clear H
  have H := H1
  clear H1
  obtain rfl := Option.some.inj H
  go_enter Try.func44, Try.ntmps44
  go_wp2_with (first | ((with_reducible refine gate_dst (N := 1) rfl ?_); refine box_event ?hg (N := 1) ?hd (cs := #[.int .i64 a0_0, .int .i64 a0_1, .int .i64 a0_2, .int .i64 a0_3]) (t := 43) ?hr ?_; (case hd => rfl); (case hg => rfl); (case hr => first | (go_simp; done) | (go_simp; rfl)); intro gb327 hg w10 hbox hb; have n0_ := Aside0.mk (bS (by repeat (first | (with_reducible first | exact HB.out | apply bA | apply bN | apply bD) | exact HB.out)) hb); have n1_ := Aside0.mk (hbox); have n2_ := Aside0.mk ((by rw [hg]; exact (bZ (by repeat (first | (with_reducible first | exact HB.out | apply bA | apply bN | apply bD) | exact HB.out))) : w.heap.size ≤ gb327)); have n3_ := Aside0.mk ((by rw [hg]; exact (bZ (by repeat (first | (with_reducible first | exact HB.out | apply bA | apply bN | apply bD) | exact HB.out))) : w.heap.size ≤ gb327)); clear HB; have HB := n0_; have BK327 := n1_; have GW327 := n2_; have GE327 := n3_; clear n0_ n1_ n2_ n3_; clear hb hbox hg; have hcz11_0 : w10.cell? ⟨gb327, 0, none⟩ = some (.int .i64 a0_0) := (kC BK327.out 0).trans rfl; have hcz11_1 : w10.cell? ⟨gb327, 1, none⟩ = some (.int .i64 a0_1) := (kC BK327.out 1).trans rfl; have hcz11_2 : w10.cell? ⟨gb327, 2, none⟩ = some (.int .i64 a0_2) := (kC BK327.out 2).trans rfl; have hcz11_3 : w10.cell? ⟨gb327, 3, none⟩ = some (.int .i64 a0_3) := (kC BK327.out 3).trans rfl; have hfz11_0 := kZ BK327.out 0; have hfz11_1 := kZ BK327.out 1; have hfz11_2 := kZ BK327.out 2; have hfz11_3 := kZ BK327.out 3) | ((with_reducible refine gate_callee (f := 22) rfl ?_); refine goesL_ (some 4) rfl rfl Try.func22 (by kernel_rfl) rfl #[.agg #[.int .i64 a0_0, .int .i64 a0_1, .int .i64 a0_2, .int .i64 a0_3]] rfl (by (try simp only [sD, sE, sF]); first | done | rfl | (simp only [sG, sH]; rfl)) ?_; (with_reducible refine (box_Right.calls a0_0 a0_1 a0_2 a0_3 false _ A2.out).mono ?_); rintro e w12 ⟨rfl, hb⟩; refine ⟨_, rfl, ?_⟩; have n0_ := Aside0.mk (kB (g := gb327) (o := .cells #[.int .i64 a0_0, .int .i64 a0_1, .int .i64 a0_2, .int .i64 a0_3] 43 (0, 0)) (by (with_reducible repeat (first | refine kN ?_ _ | refine kD ?_ | refine kA ?_ _)); exact BK327.out) hb); have n1_ := Aside0.mk (bS (by repeat (first | (with_reducible first | exact HB.out | apply bA | apply bN | apply bD | refine bE ?_ GE327.out) | exact HB.out)) hb); clear BK327; clear HB; have BK327 := n0_; have HB := n1_; clear n0_ n1_; (try clear hb); (try clear hb2); (try clear hk); (try clear hi)))
  go_ret
  exact ⟨_, by first | rfl | (simp [errW_none, errW_some] <;> rfl) | (simp [*, errW_none, errW_some] <;> rfl), by first | exact Kd.R_nil _ _ _ _ _ | exact Kd.N_nil _ _ _ _ _ | exact Kd.V_nil _ _ _ _ _ | exact Kd.Q_nil _ _ _ _ _ | exact Kd.S_nil _ _ _ _ _, by repeat (first | (with_reducible first | exact HB.out | apply bA | apply bN | apply bD | refine bE ?_ GE327.out) | exact HB.out)⟩

-- NOT PRINTED: function 45 (box_Meets_2)

/-! ### box_Meets: function 29 -/
/-- The cells of a place. -/
def PtAt (w : World) (b : Nat) (x y : Int) : Prop := w.cell? ⟨b, 0, none⟩ = some (.int .i64 x) ∧ w.cell? ⟨b, 1, none⟩ = some (.int .i64 y) ∧ b < w.heap.size
theorem PtAt.below {w w' : World} {b : Nat} {x y : Int} (h : PtAt w b x y) (hb : Below w.heap.size w w') : PtAt w' b x y :=
 ⟨(hb.cell (p := ⟨b, 0, none⟩) h.2.2).trans h.1, (hb.cell (p := ⟨b, 1, none⟩) h.2.2).trans h.2.1, Nat.lt_of_lt_of_le h.2.2 hb.size⟩
theorem PtAt.alloc {w : World} {b : Nat} {x y : Int} (h : PtAt w b x y) (o : Obj) : PtAt (w.alloc o) b x y := h.below ((Below.refl _ _).alloc (Nat.le_refl _) o)

set_option maxHeartbeats 8000000 in
set_option maxRecDepth 100000 in
theorem side_calls (k : Nat) (bp bq : Nat) (p0 p1 q0 q1 c0 c1 r : Int) (w : World) (hp : Aside0 (PtAt w bp p0 p1)) (hq : Aside0 (PtAt w bq q0 q1)) (h : Aside0 (point_Turn.f k p0 p1 q0 q1 c0 c1 = some r)) :
  Calls Try.prog 42 #[.agg #[.int .i64 c0, .int .i64 c1], .pointer (some ⟨bp, 0, none⟩), .pointer (some ⟨bq, 0, none⟩)] w fun e w' => e = .returned (.int .i64 r) ∧ Below w.heap.size w w' := by
 have hu23 := Try.underlying41
 have hp2 := hp.out.alloc (.cells #[.int .i64 c0, .int .i64 c1] 41)
 have hq2 := hq.out.alloc (.cells #[.int .i64 c0, .int .i64 c1] 41)
 have x1 := hp2.1
 have x2 := hp2.2.1
 have x3 := hq2.1
 have x4 := hq2.2.1
 clear hp2 hq2
 go_enter Try.func42, Try.ntmps42
 go_wp2_with (go_at_call 43; (with_reducible refine (point_Turn.calls k _ _ _ _ _ _ _ _ h.out).mono ?_); rintro e w1 ⟨rfl, hb⟩)
 go_ret
 exact ⟨rfl, ((Below.refl w.heap.size w).alloc (Nat.le_refl _) _).trans (hb.mono (by simp))⟩
/-- A variable of one cell. -/
def VarAt (w : World) (b : Nat) (v : Value) : Prop := w.cell? ⟨b, 0, none⟩ = some v ∧ b < w.heap.size
theorem VarAt.below {w w' : World} {b : Nat} {v : Value} (h : VarAt w b v) (hb : Below w.heap.size w w') : VarAt w' b v :=
 ⟨(hb.cell (p := ⟨b, 0, none⟩) h.2).trans h.1, Nat.lt_of_lt_of_le h.2 hb.size⟩
theorem VarAt.alloc {w : World} {b : Nat} {v : Value} (h : VarAt w b v) (o : Obj) : VarAt (w.alloc o) b v := h.below ((Below.refl _ _).alloc (Nat.le_refl _) o)
/-- What the closures have caught. -/
structure Caught (w : World) (bp bq bs bf : Nat) (p0 p1 q0 q1 t : Int) : Prop where
 p : PtAt w bp p0 p1
 q : PtAt w bq q0 q1
 s : VarAt w bs (.func (.func 42) #[] #[.pointer (some ⟨bp, 0, none⟩), .pointer (some ⟨bq, 0, none⟩)])
 f : VarAt w bf (.int .i64 t)
theorem Caught.below {w w' : World} {bp bq bs bf : Nat} {p0 p1 q0 q1 t : Int} (h : Caught w bp bq bs bf p0 p1 q0 q1 t) (hb : Below w.heap.size w w') : Caught w' bp bq bs bf p0 p1 q0 q1 t :=
 ⟨h.p.below hb, h.q.below hb, h.s.below hb, h.f.below hb⟩

set_option maxHeartbeats 8000000 in
set_option maxRecDepth 100000 in
theorem pred_calls (k : Nat) (bp bq bs bf : Nat) (p0 p1 q0 q1 t c0 c1 r : Int) (w : World) (hc : Aside0 (Caught w bp bq bs bf p0 p1 q0 q1 t)) (h : Aside0 (point_Turn.f k p0 p1 q0 q1 c0 c1 = some r)) :
  Calls Try.prog 45 #[.agg #[.int .i64 c0, .int .i64 c1], .pointer (some ⟨bs, 0, none⟩), .pointer (some ⟨bf, 0, none⟩)] w fun e w' => e = .returned (.bool (r != t)) ∧ Below w.heap.size w w' := by
 have hu23 := Try.underlying41
 have HC := Aside0.mk (hc.out.below ((Below.refl _ _).alloc (Nat.le_refl _) (.cells #[.int .i64 c0, .int .i64 c1] 41)).drew)
 have x1 := HC.out.s.1
 have x2 := HC.out.f.1
 have HB := Aside0.mk ((Below.refl w.heap.size w).alloc (Nat.le_refl _) (.cells #[.int .i64 c0, .int .i64 c1] 41)).drew
 go_enter Try.func45, Try.ntmps45
 go_wp2
 go_region_with (first
  | (go_at_call 42; (with_reducible refine (side_calls k bp bq p0 p1 q0 q1 c0 c1 r _ ⟨HC.out.p⟩ ⟨HC.out.q⟩ h).mono ?_); rintro e w1 ⟨rfl, hb⟩; have x2 := (HC.out.f.below hb).1))
 all_goals
  go_wp2
  go_ret
  exact ⟨rfl, HB.out.trans (hb.mono HB.out.size)⟩

/-- Whether a corner lies on another side. -/
def box_Meets.any (k : Nat) (p0 p1 q0 q1 t : Int) : List S41 → Option Bool
 | [] => some false
 | c :: l => (point_Turn.f k p0 p1 q0 q1 c.f0 c.f1).bind fun u => if (u != t) = true then some true else box_Meets.any k p0 p1 q0 q1 t l
theorem box_Meets.any_mono (p0 p1 q0 q1 t : Int) : ∀ (l : List S41) (k : Nat), LeO (box_Meets.any k p0 p1 q0 q1 t l) (box_Meets.any (k + 1) p0 p1 q0 q1 t l)
 | [], k => LeO.refl _
 | c :: l, k => by
  unfold box_Meets.any
  exact LeO.bind (point_Turn.mono _ _ _ _ _ _ _) (fun _ => LeO.ite (LeO.refl _) (box_Meets.any_mono p0 p1 q0 q1 t l k))

set_option maxHeartbeats 8000000 in
set_option maxRecDepth 100000 in
theorem index_calls (k : Nat) (bp bq bs bf : Nat) (p0 p1 q0 q1 t : Int) (A0 : Option Addr) (c0 : Nat) (l0 : List S41) (r : Bool) (w : World) (hc : Aside0 (Caught w bp bq bs bf p0 p1 q0 q1 t)) (hr : Aside0 (Kd.C k41 w A0 l0.length l0)) (hl : l0.length ≤ 1000) (h : Aside0 (box_Meets.any k p0 p1 q0 q1 t l0 = some r)) :
  Calls Try.prog 52 #[.slice A0 l0.length c0, .func (.func 45) #[] #[.pointer (some ⟨bs, 0, none⟩), .pointer (some ⟨bf, 0, none⟩)]] w fun e w' => ∃ z : Int, e = .returned (.int .i64 z) ∧ decide (0 ≤ z) = r ∧ Below w.heap.size w w' := by
 have hu23 := Try.underlying41
 have HB := Aside0.mk (Below.refl w.heap.size w)
 have H0 : Aside0 (box_Meets.any k p0 p1 q0 q1 t (l0.drop 0) = some r) := ⟨h.out⟩
 go_enter Try.func52, Try.ntmps52
 go_wp2
 go_loopw [8] (fun v8 wr => ∃ i : Nat, i ≤ l0.length ∧ v8 = .int .i64 (i : Int) ∧ Aside0 (box_Meets.any k p0 p1 q0 q1 t (l0.drop i) = some r) ∧ Aside0 (Caught wr bp bq bs bf p0 p1 q0 q1 t) ∧ Aside0 (Kd.C k41 wr A0 l0.length l0) ∧ Aside0 (Below w.heap.size w wr)) (fun v _ => l0.length - (intOf v).toNat)
 case atStart => exact ⟨0, Nat.zero_le _, rfl, H0, hc, hr, HB⟩
 case round =>
  clear H0 HB hc hr h
  obtain ⟨i, hi, rfl, HA, HC, HR, HB⟩ := hrel
  by_cases hlt : i < l0.length
  ·have i0 : (0 : Int) ≤ (i : Int) := by omega
   have i1 : (i : Int) < (l0.length : Int) := by omega
   obtain ⟨ad, e, x1, x2⟩ := at_T41 HR.out (i : Int) i0 i1
   subst e
   rw [Int.toNat_natCast] at x1 x2
   have hd : l0.drop i = rd_T41 l0 (i : Int) :: l0.drop (i + 1) := by
    rw [List.drop_eq_getElem_cons hlt]
    congr 1
    show l0[i] = l0.getD (i : Int).toNat z41
    rw [Int.toNat_natCast, List.getD_eq_getElem?_getD, List.getElem?_eq_getElem hlt]
    rfl
   have HA2 := HA.out
   rw [hd, box_Meets.any] at HA2
   obtain ⟨u, hu, HA3⟩ := Option.bind_eq_some_iff.mp HA2
   have hu := Aside0.mk hu
   clear HA2 hd HA
   generalize (rd_T41 l0 (i : Int)).f0 = y0 at *
   generalize (rd_T41 l0 (i : Int)).f1 = y1 at *
   by_cases hut : (u != t) = true
   ·rw [if_pos hut] at HA3
    obtain rfl : r = true := by cases HA3; rfl
    clear HA3
    go_wp2_with (go_at_call 45; (with_reducible refine (pred_calls k bp bq bs bf p0 p1 q0 q1 t y0 y1 u _ HC hu).mono ?_); rintro e w1 ⟨rfl, hb⟩; rw [hut])
    go_ret
    exact ⟨_, rfl, by simp, HB.out.trans (hb.mono HB.out.size)⟩
   ·have hut : (u != t) = false := by simpa using hut
    rw [if_neg (by rw [hut]; decide)] at HA3
    have HA := Aside0.mk HA3
    clear HA3
    go_wp2_with (go_at_call 45; (with_reducible refine (pred_calls k bp bq bs bf p0 p1 q0 q1 t y0 y1 u _ HC hu).mono ?_); rintro e w1 ⟨rfl, hb⟩; rw [hut]; have HC := Aside0.mk (HC.out.below hb); have HR := Aside0.mk (Kd.C_below HR.out hb); have HB := Aside0.mk (HB.out.trans (hb.mono HB.out.size)); clear hb)
    go_roundw
    case rel => exact ⟨i + 1, by omega, by go_num, HA, HC, HR, HB⟩
    case measure => simp [intOf]; omega
  ·obtain rfl : i = l0.length := by omega
   have HA2 := HA.out
   rw [List.drop_length, box_Meets.any] at HA2
   obtain rfl : r = false := by cases HA2; rfl
   clear HA2 HA
   go_wp2
   go_ret
   exact ⟨_, rfl, by decide, HB.out⟩

set_option maxHeartbeats 8000000 in
set_option maxRecDepth 100000 in
theorem contains_calls (k : Nat) (bp bq bs bf : Nat) (p0 p1 q0 q1 t : Int) (A0 : Option Addr) (c0 : Nat) (l0 : List S41) (r : Bool) (w : World) (hc : Aside0 (Caught w bp bq bs bf p0 p1 q0 q1 t)) (hr : Aside0 (Kd.C k41 w A0 l0.length l0)) (hl : l0.length ≤ 1000) (h : Aside0 (box_Meets.any k p0 p1 q0 q1 t l0 = some r)) :
  Calls Try.prog 40 #[.slice A0 l0.length c0, .func (.func 45) #[] #[.pointer (some ⟨bs, 0, none⟩), .pointer (some ⟨bf, 0, none⟩)]] w fun e w' => e = .returned (.bool r) ∧ Below w.heap.size w w' := by
 go_enter Try.func40, Try.ntmps40
 go_wp2_with (go_at_call 52; (with_reducible refine (index_calls k bp bq bs bf p0 p1 q0 q1 t A0 c0 l0 r _ hc hr hl h).mono ?_); rintro e w1 ⟨z, rfl, hz, hb⟩)
 go_ret
 exact ⟨by rw [← hz]; rfl, hb⟩

def box_Meets.f (k : Nat) (a0_0 a0_1 a0_2 a0_3 a1_0 a1_1 a2_0 a2_1 : Int) : Option Bool :=
 (box_Right.f a0_0 a0_1 a0_2 a0_3).bind fun t1 => if t1 = true then ((point_Right.f a1_0 a1_1).bind fun t2 => if t2 = true then ((point_Right.f a2_0 a2_1).bind fun t3 => if t3 = true then
  (if mx a1_0 a2_0 < a0_0 then some false else if a0_2 < mn a1_0 a2_0 then some false else if mx a1_1 a2_1 < a0_1 then some false else if a0_3 < mn a1_1 a2_1 then some false else
   (point_Turn.f k a1_0 a1_1 a2_0 a2_1 a0_0 a0_1).bind fun t => if t = 0 then some true else (box_Corners.f a0_0 a0_1 a0_2 a0_3).bind fun l => if l.length ≤ 1000 then box_Meets.any k a1_0 a1_1 a2_0 a2_1 t l else none)
  else some false) else some false) else some false
theorem box_Meets.mono : ∀ a0 a1 a2 a3 a4 a5 a6 a7 k, LeO (box_Meets.f k a0 a1 a2 a3 a4 a5 a6 a7) (box_Meets.f (k + 1) a0 a1 a2 a3 a4 a5 a6 a7) := by
 intro a0 a1 a2 a3 a4 a5 a6 a7 k
 unfold box_Meets.f
 repeat' first
  | (with_reducible exact box_Meets.any_mono _ _ _ _ _ _ _)
  | (with_reducible exact point_Turn.mono _ _ _ _ _ _ _)
  | (with_reducible exact LeO.refl _)
  | (with_reducible exact LeO.none _)
  | (with_reducible refine LeO.ite ?_ ?_)
  | (with_reducible refine LeO.bind ?_ (fun _ => ?_))
theorem heap_new (w : World) (o : Obj) : (w.alloc o).heap[w.heap.size]? = some o := by
 show (w.heap.push o)[w.heap.size]? = some o
 simp
theorem cell_new (w : World) (cs : Array Value) (T : Nat) (o : Nat) : (w.alloc (.cells cs T)).cell? ⟨w.heap.size, o, none⟩ = cs[o]? := by
 unfold World.cell?
 rw [heap_new]
 simp
/-- The cells of a box and of two places. -/
structure Mt (w : World) (b : Nat) (x0 x1 x2 x3 p0 p1 q0 q1 : Int) : Prop where
 c0 : w.cell? ⟨b, 0, none⟩ = some (.int .i64 x0)
 c1 : w.cell? ⟨b, 1, none⟩ = some (.int .i64 x1)
 c2 : w.cell? ⟨b, 2, none⟩ = some (.int .i64 x2)
 c3 : w.cell? ⟨b, 3, none⟩ = some (.int .i64 x3)
 p : PtAt w (b + 1) p0 p1
 q : PtAt w (b + 2) q0 q1
 sz : b < w.heap.size
theorem Mt.below {w w' : World} {b : Nat} {x0 x1 x2 x3 p0 p1 q0 q1 : Int} (h : Mt w b x0 x1 x2 x3 p0 p1 q0 q1) (hb : Below w.heap.size w w') : Mt w' b x0 x1 x2 x3 p0 p1 q0 q1 :=
 ⟨(hb.cell (p := ⟨b, 0, none⟩) h.sz).trans h.c0, (hb.cell (p := ⟨b, 1, none⟩) h.sz).trans h.c1, (hb.cell (p := ⟨b, 2, none⟩) h.sz).trans h.c2, (hb.cell (p := ⟨b, 3, none⟩) h.sz).trans h.c3, h.p.below hb, h.q.below hb, Nat.lt_of_lt_of_le h.sz hb.size⟩
theorem mt_new (w : World) (x0 x1 x2 x3 p0 p1 q0 q1 : Int) : Mt (((w.alloc (.cells #[.int .i64 x0, .int .i64 x1, .int .i64 x2, .int .i64 x3] 43)).alloc (.cells #[.int .i64 p0, .int .i64 p1] 41)).alloc (.cells #[.int .i64 q0, .int .i64 q1] 41)) w.heap.size x0 x1 x2 x3 p0 p1 q0 q1 := by
 have n1 : ∀ i, (w.alloc (.cells #[.int .i64 x0, .int .i64 x1, .int .i64 x2, .int .i64 x3] 43)).cell? ⟨w.heap.size, i, none⟩ = (#[.int .i64 x0, .int .i64 x1, .int .i64 x2, .int .i64 x3] : Array Value)[i]? := fun i => cell_new w _ 43 i
 have s1 : (w.alloc (.cells #[.int .i64 x0, .int .i64 x1, .int .i64 x2, .int .i64 x3] 43)).heap.size = w.heap.size + 1 := by simp
 generalize w.alloc (.cells #[.int .i64 x0, .int .i64 x1, .int .i64 x2, .int .i64 x3] 43) = w1 at *
 have n2 : ∀ i, (w1.alloc (.cells #[.int .i64 p0, .int .i64 p1] 41)).cell? ⟨w1.heap.size, i, none⟩ = (#[.int .i64 p0, .int .i64 p1] : Array Value)[i]? := fun i => cell_new w1 _ 41 i
 have s2 : (w1.alloc (.cells #[.int .i64 p0, .int .i64 p1] 41)).heap.size = w1.heap.size + 1 := by simp
 have b2 : Below w1.heap.size w1 (w1.alloc (.cells #[.int .i64 p0, .int .i64 p1] 41)) := (Below.refl _ _).alloc (Nat.le_refl _) _
 generalize w1.alloc (.cells #[.int .i64 p0, .int .i64 p1] 41) = w2 at *
 have n3 : ∀ i, (w2.alloc (.cells #[.int .i64 q0, .int .i64 q1] 41)).cell? ⟨w2.heap.size, i, none⟩ = (#[.int .i64 q0, .int .i64 q1] : Array Value)[i]? := fun i => cell_new w2 _ 41 i
 have s3 : (w2.alloc (.cells #[.int .i64 q0, .int .i64 q1] 41)).heap.size = w2.heap.size + 1 := by simp
 have b3 : Below w2.heap.size w2 (w2.alloc (.cells #[.int .i64 q0, .int .i64 q1] 41)) := (Below.refl _ _).alloc (Nat.le_refl _) _
 generalize w2.alloc (.cells #[.int .i64 q0, .int .i64 q1] 41) = w3 at *
 have e1 : w.heap.size + 1 = w1.heap.size := s1.symm
 have e2 : w.heap.size + 2 = w2.heap.size := by omega
 have l1 : ∀ i, w3.cell? ⟨w.heap.size, i, none⟩ = (#[.int .i64 x0, .int .i64 x1, .int .i64 x2, .int .i64 x3] : Array Value)[i]? := fun i =>
  (b3.cell (p := ⟨w.heap.size, i, none⟩) (by show w.heap.size < _; omega)).trans ((b2.cell (p := ⟨w.heap.size, i, none⟩) (by show w.heap.size < _; omega)).trans (n1 i))
 have l2 : ∀ i, w3.cell? ⟨w1.heap.size, i, none⟩ = (#[.int .i64 p0, .int .i64 p1] : Array Value)[i]? := fun i => (b3.cell (p := ⟨w1.heap.size, i, none⟩) (by show w1.heap.size < _; omega)).trans (n2 i)
 rw [show Mt w3 w.heap.size x0 x1 x2 x3 p0 p1 q0 q1 ↔ Mt w3 w.heap.size x0 x1 x2 x3 p0 p1 q0 q1 from Iff.rfl]
 refine ⟨l1 0, l1 1, l1 2, l1 3, ?_, ?_, by omega⟩
 ·rw [e1]; exact ⟨l2 0, l2 1, by omega⟩
 ·rw [e2]; exact ⟨n3 0, n3 1, by omega⟩
theorem store_fn (w : World) (a : Addr) (f : Fn) (x y : Array Value) : (store a (.func f x y)).run Try.prog w = stored Try.prog w a (.func f x y) .plain := run_store Try.prog w a _ .plain rfl
attribute [local go_sem] store_fn
set_option maxHeartbeats 16000000 in
set_option maxRecDepth 100000 in
theorem box_Meets.calls (k : Nat) (a0_0 a0_1 a0_2 a0_3 a1_0 a1_1 a2_0 a2_1 : Int) (r : Bool) (w : World) (h : box_Meets.f k a0_0 a0_1 a0_2 a0_3 a1_0 a1_1 a2_0 a2_1 = some r) :
  Calls Try.prog 29 #[.agg #[.int .i64 a0_0, .int .i64 a0_1, .int .i64 a0_2, .int .i64 a0_3], .agg #[.int .i64 a1_0, .int .i64 a1_1], .agg #[.int .i64 a2_0, .int .i64 a2_1]] w fun e w' => e = .returned (.bool r) ∧ Below w.heap.size w w' := by
 have hu23 := Try.underlying41
 have hu25 := Try.underlying43
 have HT := Aside0.mk (mt_new w a0_0 a0_1 a0_2 a0_3 a1_0 a1_1 a2_0 a2_1)
 have HB := Aside0.mk ((((Below.refl w.heap.size w).alloc (Nat.le_refl _) (.cells #[.int .i64 a0_0, .int .i64 a0_1, .int .i64 a0_2, .int .i64 a0_3] 43)).alloc (by simp) (.cells #[.int .i64 a1_0, .int .i64 a1_1] 41)).alloc (by simp; omega) (.cells #[.int .i64 a2_0, .int .i64 a2_1] 41))
 obtain ⟨c0, c1, c2, c3, ⟨d0, d1, d2⟩, ⟨e0, e1, e2⟩, dz⟩ := HT.out
 clear d2 e2 dz
 unfold box_Meets.f at h
 obtain ⟨t1, BA1, hh⟩ := Option.bind_eq_some_iff.mp h
 have A1 := Aside0.mk BA1
 clear h BA1
 have h := hh
 clear hh
 cases t1 with
 | false =>
  rw [if_neg (by decide)] at h
  obtain rfl := Option.some.inj h
  clear h
  go_enter Try.func29, Try.ntmps29
  go_wp2_with (first
   | (go_at_call 22; (with_reducible refine (box_Right.calls _ _ _ _ _ _ A1.out).mono ?_); rintro e w1 ⟨rfl, hb⟩; have HB := Aside0.mk (HB.out.trans (hb.mono HB.out.size)); have HT := Aside0.mk (HT.out.below hb); clear hb c0 c1 c2 c3 d0 d1 e0 e1; obtain ⟨c0, c1, c2, c3, ⟨d0, d1, d2⟩, ⟨e0, e1, e2⟩, dz⟩ := HT.out; clear d2 e2 dz)
   | (go_at_call 35; (first | (with_reducible refine (point_Right.calls a1_0 a1_1 _ _ A2.out).mono ?_) | (with_reducible refine (point_Right.calls a2_0 a2_1 _ _ A3.out).mono ?_)); rintro e w1 ⟨rfl, hb⟩; have HB := Aside0.mk (HB.out.trans (hb.mono HB.out.size)); have HT := Aside0.mk (HT.out.below hb); clear hb c0 c1 c2 c3 d0 d1 e0 e1; obtain ⟨c0, c1, c2, c3, ⟨d0, d1, d2⟩, ⟨e0, e1, e2⟩, dz⟩ := HT.out; clear d2 e2 dz))
  go_ret
  exact ⟨rfl, HB.out⟩
 | true =>
  rw [if_pos rfl] at h
  obtain ⟨t2, BA2, hh⟩ := Option.bind_eq_some_iff.mp h
  have A2 := Aside0.mk BA2
  clear h BA2
  have h := hh
  clear hh
  cases t2 with
  | false =>
   rw [if_neg (by decide)] at h
   obtain rfl := Option.some.inj h
   clear h
   go_enter Try.func29, Try.ntmps29
   go_wp2_with (first
    | (go_at_call 22; (with_reducible refine (box_Right.calls _ _ _ _ _ _ A1.out).mono ?_); rintro e w1 ⟨rfl, hb⟩; have HB := Aside0.mk (HB.out.trans (hb.mono HB.out.size)); have HT := Aside0.mk (HT.out.below hb); clear hb c0 c1 c2 c3 d0 d1 e0 e1; obtain ⟨c0, c1, c2, c3, ⟨d0, d1, d2⟩, ⟨e0, e1, e2⟩, dz⟩ := HT.out; clear d2 e2 dz)
    | (go_at_call 35; (first | (with_reducible refine (point_Right.calls a1_0 a1_1 _ _ A2.out).mono ?_) | (with_reducible refine (point_Right.calls a2_0 a2_1 _ _ A3.out).mono ?_)); rintro e w1 ⟨rfl, hb⟩; have HB := Aside0.mk (HB.out.trans (hb.mono HB.out.size)); have HT := Aside0.mk (HT.out.below hb); clear hb c0 c1 c2 c3 d0 d1 e0 e1; obtain ⟨c0, c1, c2, c3, ⟨d0, d1, d2⟩, ⟨e0, e1, e2⟩, dz⟩ := HT.out; clear d2 e2 dz))
   go_ret
   exact ⟨rfl, HB.out⟩
  | true =>
   rw [if_pos rfl] at h
   obtain ⟨t3, BA3, hh⟩ := Option.bind_eq_some_iff.mp h
   have A3 := Aside0.mk BA3
   clear h BA3
   have h := hh
   clear hh
   cases t3 with
   | false =>
    rw [if_neg (by decide)] at h
    obtain rfl := Option.some.inj h
    clear h
    go_enter Try.func29, Try.ntmps29
    go_wp2_with (first
     | (go_at_call 22; (with_reducible refine (box_Right.calls _ _ _ _ _ _ A1.out).mono ?_); rintro e w1 ⟨rfl, hb⟩; have HB := Aside0.mk (HB.out.trans (hb.mono HB.out.size)); have HT := Aside0.mk (HT.out.below hb); clear hb c0 c1 c2 c3 d0 d1 e0 e1; obtain ⟨c0, c1, c2, c3, ⟨d0, d1, d2⟩, ⟨e0, e1, e2⟩, dz⟩ := HT.out; clear d2 e2 dz)
     | (go_at_call 35; (first | (with_reducible refine (point_Right.calls a1_0 a1_1 _ _ A2.out).mono ?_) | (with_reducible refine (point_Right.calls a2_0 a2_1 _ _ A3.out).mono ?_)); rintro e w1 ⟨rfl, hb⟩; have HB := Aside0.mk (HB.out.trans (hb.mono HB.out.size)); have HT := Aside0.mk (HT.out.below hb); clear hb c0 c1 c2 c3 d0 d1 e0 e1; obtain ⟨c0, c1, c2, c3, ⟨d0, d1, d2⟩, ⟨e0, e1, e2⟩, dz⟩ := HT.out; clear d2 e2 dz))
    go_ret
    exact ⟨rfl, HB.out⟩
   | true =>
    rw [if_pos rfl] at h
    obtain ⟨m1, hm1⟩ : ∃ m, (if a1_0 < a2_0 then a2_0 else a1_0) = m := ⟨_, rfl⟩
    obtain ⟨m2, hm2⟩ : ∃ m, (if a2_0 < a1_0 then a2_0 else a1_0) = m := ⟨_, rfl⟩
    obtain ⟨m3, hm3⟩ : ∃ m, (if a1_1 < a2_1 then a2_1 else a1_1) = m := ⟨_, rfl⟩
    obtain ⟨m4, hm4⟩ : ∃ m, (if a2_1 < a1_1 then a2_1 else a1_1) = m := ⟨_, rfl⟩
    rw [show mx a1_0 a2_0 = m1 from hm1, show mn a1_0 a2_0 = m2 from hm2, show mx a1_1 a2_1 = m3 from hm3, show mn a1_1 a2_1 = m4 from hm4] at h
    by_cases z1 : m1 < a0_0
    ·rw [if_pos z1] at h
     obtain rfl := Option.some.inj h
     clear h
     go_enter Try.func29, Try.ntmps29
     go_wp2_with (first
     | (go_at_call 22; (with_reducible refine (box_Right.calls _ _ _ _ _ _ A1.out).mono ?_); rintro e w1 ⟨rfl, hb⟩; have HB := Aside0.mk (HB.out.trans (hb.mono HB.out.size)); have HT := Aside0.mk (HT.out.below hb); clear hb c0 c1 c2 c3 d0 d1 e0 e1; obtain ⟨c0, c1, c2, c3, ⟨d0, d1, d2⟩, ⟨e0, e1, e2⟩, dz⟩ := HT.out; clear d2 e2 dz)
     | (go_at_call 35; (first | (with_reducible refine (point_Right.calls a1_0 a1_1 _ _ A2.out).mono ?_) | (with_reducible refine (point_Right.calls a2_0 a2_1 _ _ A3.out).mono ?_)); rintro e w1 ⟨rfl, hb⟩; have HB := Aside0.mk (HB.out.trans (hb.mono HB.out.size)); have HT := Aside0.mk (HT.out.below hb); clear hb c0 c1 c2 c3 d0 d1 e0 e1; obtain ⟨c0, c1, c2, c3, ⟨d0, d1, d2⟩, ⟨e0, e1, e2⟩, dz⟩ := HT.out; clear d2 e2 dz))
     go_ret
     exact ⟨rfl, HB.out⟩
    rw [if_neg z1] at h
    by_cases z2 : a0_2 < m2
    ·rw [if_pos z2] at h
     obtain rfl := Option.some.inj h
     clear h
     go_enter Try.func29, Try.ntmps29
     go_wp2_with (first
     | (go_at_call 22; (with_reducible refine (box_Right.calls _ _ _ _ _ _ A1.out).mono ?_); rintro e w1 ⟨rfl, hb⟩; have HB := Aside0.mk (HB.out.trans (hb.mono HB.out.size)); have HT := Aside0.mk (HT.out.below hb); clear hb c0 c1 c2 c3 d0 d1 e0 e1; obtain ⟨c0, c1, c2, c3, ⟨d0, d1, d2⟩, ⟨e0, e1, e2⟩, dz⟩ := HT.out; clear d2 e2 dz)
     | (go_at_call 35; (first | (with_reducible refine (point_Right.calls a1_0 a1_1 _ _ A2.out).mono ?_) | (with_reducible refine (point_Right.calls a2_0 a2_1 _ _ A3.out).mono ?_)); rintro e w1 ⟨rfl, hb⟩; have HB := Aside0.mk (HB.out.trans (hb.mono HB.out.size)); have HT := Aside0.mk (HT.out.below hb); clear hb c0 c1 c2 c3 d0 d1 e0 e1; obtain ⟨c0, c1, c2, c3, ⟨d0, d1, d2⟩, ⟨e0, e1, e2⟩, dz⟩ := HT.out; clear d2 e2 dz))
     go_ret
     exact ⟨rfl, HB.out⟩
    rw [if_neg z2] at h
    by_cases z3 : m3 < a0_1
    ·rw [if_pos z3] at h
     obtain rfl := Option.some.inj h
     clear h
     go_enter Try.func29, Try.ntmps29
     go_wp2_with (first
     | (go_at_call 22; (with_reducible refine (box_Right.calls _ _ _ _ _ _ A1.out).mono ?_); rintro e w1 ⟨rfl, hb⟩; have HB := Aside0.mk (HB.out.trans (hb.mono HB.out.size)); have HT := Aside0.mk (HT.out.below hb); clear hb c0 c1 c2 c3 d0 d1 e0 e1; obtain ⟨c0, c1, c2, c3, ⟨d0, d1, d2⟩, ⟨e0, e1, e2⟩, dz⟩ := HT.out; clear d2 e2 dz)
     | (go_at_call 35; (first | (with_reducible refine (point_Right.calls a1_0 a1_1 _ _ A2.out).mono ?_) | (with_reducible refine (point_Right.calls a2_0 a2_1 _ _ A3.out).mono ?_)); rintro e w1 ⟨rfl, hb⟩; have HB := Aside0.mk (HB.out.trans (hb.mono HB.out.size)); have HT := Aside0.mk (HT.out.below hb); clear hb c0 c1 c2 c3 d0 d1 e0 e1; obtain ⟨c0, c1, c2, c3, ⟨d0, d1, d2⟩, ⟨e0, e1, e2⟩, dz⟩ := HT.out; clear d2 e2 dz))
     go_ret
     exact ⟨rfl, HB.out⟩
    rw [if_neg z3] at h
    by_cases z4 : a0_3 < m4
    ·rw [if_pos z4] at h
     obtain rfl := Option.some.inj h
     clear h
     go_enter Try.func29, Try.ntmps29
     go_wp2_with (first
     | (go_at_call 22; (with_reducible refine (box_Right.calls _ _ _ _ _ _ A1.out).mono ?_); rintro e w1 ⟨rfl, hb⟩; have HB := Aside0.mk (HB.out.trans (hb.mono HB.out.size)); have HT := Aside0.mk (HT.out.below hb); clear hb c0 c1 c2 c3 d0 d1 e0 e1; obtain ⟨c0, c1, c2, c3, ⟨d0, d1, d2⟩, ⟨e0, e1, e2⟩, dz⟩ := HT.out; clear d2 e2 dz)
     | (go_at_call 35; (first | (with_reducible refine (point_Right.calls a1_0 a1_1 _ _ A2.out).mono ?_) | (with_reducible refine (point_Right.calls a2_0 a2_1 _ _ A3.out).mono ?_)); rintro e w1 ⟨rfl, hb⟩; have HB := Aside0.mk (HB.out.trans (hb.mono HB.out.size)); have HT := Aside0.mk (HT.out.below hb); clear hb c0 c1 c2 c3 d0 d1 e0 e1; obtain ⟨c0, c1, c2, c3, ⟨d0, d1, d2⟩, ⟨e0, e1, e2⟩, dz⟩ := HT.out; clear d2 e2 dz))
     go_ret
     exact ⟨rfl, HB.out⟩
    rw [if_neg z4] at h
    obtain ⟨u, BU, hh⟩ := Option.bind_eq_some_iff.mp h
    have AU := Aside0.mk BU
    clear h BU
    have h := Aside0.mk hh
    clear hh
    go_enter Try.func29, Try.ntmps29
    go_upto_region 9 with (first
     | (go_at_call 22; (with_reducible refine (box_Right.calls _ _ _ _ _ _ A1.out).mono ?_); rintro e w1 ⟨rfl, hb⟩; have HB := Aside0.mk (HB.out.trans (hb.mono HB.out.size)); have HT := Aside0.mk (HT.out.below hb); clear hb c0 c1 c2 c3 d0 d1 e0 e1; obtain ⟨c0, c1, c2, c3, ⟨d0, d1, d2⟩, ⟨e0, e1, e2⟩, dz⟩ := HT.out; clear d2 e2 dz)
     | (go_at_call 35; (first | (with_reducible refine (point_Right.calls a1_0 a1_1 _ _ A2.out).mono ?_) | (with_reducible refine (point_Right.calls a2_0 a2_1 _ _ A3.out).mono ?_)); rintro e w1 ⟨rfl, hb⟩; have HB := Aside0.mk (HB.out.trans (hb.mono HB.out.size)); have HT := Aside0.mk (HT.out.below hb); clear hb c0 c1 c2 c3 d0 d1 e0 e1; obtain ⟨c0, c1, c2, c3, ⟨d0, d1, d2⟩, ⟨e0, e1, e2⟩, dz⟩ := HT.out; clear d2 e2 dz))
    clear c0 c1 c2 c3 d0 d1 e0 e1 hm1 hm2 hm3 hm4 z1 z2 z3 z4
    have HV : Aside0 (VarAt (w1.alloc (.cells #[.func (.func 42) #[] #[.pointer (some ⟨w.heap.size + 1, 0, none⟩), .pointer (some ⟨w.heap.size + 1 + 1, 0, none⟩)]] 78)) w1.heap.size (.func (.func 42) #[] #[.pointer (some ⟨w.heap.size + 1, 0, none⟩), .pointer (some ⟨w.heap.size + 1 + 1, 0, none⟩)])) := ⟨⟨cell_new w1 _ 78 0, by simp⟩⟩
    have HT := Aside0.mk (HT.out.below ((Below.refl w1.heap.size w1).alloc (Nat.le_refl _) (.cells #[.func (.func 42) #[] #[.pointer (some ⟨w.heap.size + 1, 0, none⟩), .pointer (some ⟨w.heap.size + 1 + 1, 0, none⟩)]] 78)))
    have HB := Aside0.mk (HB.out.alloc HB.out.size (.cells #[.func (.func 42) #[] #[.pointer (some ⟨w.heap.size + 1, 0, none⟩), .pointer (some ⟨w.heap.size + 1 + 1, 0, none⟩)]] 78))
    generalize w1.alloc (.cells #[.func (.func 42) #[] #[.pointer (some ⟨w.heap.size + 1, 0, none⟩), .pointer (some ⟨w.heap.size + 1 + 1, 0, none⟩)]] 78) = W1 at *
    generalize w1.heap.size = bs at *
    have v0 := HV.out.1
    have c0 := HT.out.c0
    have c1 := HT.out.c1
    have HP : Aside0 (PtAt W1 (w.heap.size + 1) a1_0 a1_1) := ⟨HT.out.p⟩
    have HQ : Aside0 (PtAt W1 (w.heap.size + 1 + 1) a2_0 a2_1) := ⟨HT.out.q⟩
    go_upto_region 10 with (first
     | (go_at_call 42; (with_reducible refine (side_calls k _ _ a1_0 a1_1 a2_0 a2_1 a0_0 a0_1 u _ HP HQ AU).mono ?_); rintro e w2 ⟨rfl, hb⟩))
    have HV := Aside0.mk (HV.out.below hb)
    have HT := Aside0.mk (HT.out.below hb)
    have HB := Aside0.mk (HB.out.trans (hb.mono HB.out.size))
    clear hb v0 c0 c1 HP HQ
    have HF : Aside0 (VarAt (w2.alloc (.cells #[.int .i64 u] 3)) w2.heap.size (.int .i64 u)) := ⟨⟨cell_new w2 _ 3 0, by simp⟩⟩
    have HV := Aside0.mk (HV.out.below ((Below.refl w2.heap.size w2).alloc (Nat.le_refl _) (.cells #[.int .i64 u] 3)))
    have HT := Aside0.mk (HT.out.below ((Below.refl w2.heap.size w2).alloc (Nat.le_refl _) (.cells #[.int .i64 u] 3)))
    have HB := Aside0.mk (HB.out.alloc HB.out.size (.cells #[.int .i64 u] 3))
    generalize w2.alloc (.cells #[.int .i64 u] 3) = W2 at *
    generalize w2.heap.size = bf at *
    have HP : Aside0 (PtAt W2 (w.heap.size + 1) a1_0 a1_1) := ⟨HT.out.p⟩
    have HQ : Aside0 (PtAt W2 (w.heap.size + 1 + 1) a2_0 a2_1) := ⟨HT.out.q⟩
    have HC : Aside0 (Caught W2 (w.heap.size + 1) (w.heap.size + 1 + 1) bs bf a1_0 a1_1 a2_0 a2_1 u) := ⟨⟨HP.out, HQ.out, HV.out, HF.out⟩⟩
    have v1 := HF.out.1
    obtain ⟨c0, c1, c2, c3, _, _, _⟩ := HT.out
    have h2 := h.out
    by_cases hu0 : u = 0
    ·subst hu0
     rw [if_pos rfl] at h2
     obtain rfl := Option.some.inj h2
     clear h2
     go_wp2
     go_ret
     exact ⟨rfl, HB.out⟩
    ·rw [if_neg hu0] at h2
     obtain ⟨cl, BC, h3⟩ := Option.bind_eq_some_iff.mp h2
     have AC := Aside0.mk BC
     by_cases hcl : cl.length ≤ 1000
     ·rw [if_pos hcl] at h3
      have AA := Aside0.mk h3
      clear h2 BC h3
      have hu1 : (u == 0) = false := by simpa using hu0
      have hu2 := Aside0.mk hu0
      clear hu0
      go_wp2_with (first
       | (go_at_call 44; (with_reducible refine (box_Corners.calls _ _ _ _ _ _ AC.out).mono ?_); rintro e w3 ⟨vl, rfl, hR, hb⟩; obtain ⟨Al, cp, rfl, _, hC⟩ := Kd.R_reads hR; have hC := Aside0.mk hC; have HC := Aside0.mk (HC.out.below hb); have HB := Aside0.mk (HB.out.trans (hb.mono HB.out.size)); clear hb hR)
       | (go_at_call 40; (with_reducible refine (contains_calls k _ _ _ _ a1_0 a1_1 a2_0 a2_1 u _ _ cl r _ HC hC hcl AA).mono ?_); rintro e w4 ⟨rfl, hb⟩; have HB := Aside0.mk (HB.out.trans (hb.mono HB.out.size)); clear hb))
      go_ret
      exact ⟨rfl, HB.out⟩
     ·rw [if_neg hcl] at h3
      exact absurd h3 (by simp)

end Go.Proofs.Ytamlcbmkdfikeaa.PVerdict

-- written by handprint.py, a program of this session's, over the seat Ytamlcbmkdfikeaa
import Derived.Test.YtamlcbmkdfikeaaPVerdictx0
import Derived.Test.YtamlcbmkdfikeaaPVerdictx2
namespace Go.Proofs.Ytamlcbmkdfikeaa.PVerdict
open Go.RowKit Go.Proofs.YtamlcbmkdfikeaaW.PrintWords Go.Proofs.YtamlcbmkdfikeaaW.PrintLast Go.Proofs.YtamlcbmkdfikeaaW.PrintMore
open Go.Proofs.YtamlcbmkdfikeaaW.PrintWords renaming blk_drewN → kN, blk_drew → kD, blk_alloc → kA, blk_put → kP, blk_far → kF, blk_cell → kC, blk_below → kB, blk_frozen → kZ, below_alloc → bA, pw_below_drewN → bN, below_drew1 → bD, below_step → bS, below_size → bZ, below_set → bE
open List renaming setIfInBounds_toArray → sA, set_cons_zero → sB, set_cons_succ → sC, map_toArray → sD, map_cons → sE, map_nil → sF, length_drop → sG, length_take → sH
attribute [local go_sem] max2_int min2_int max_two min_two max_three min_three max_four min_four   -- for this text's walks alone
set_option linter.unusedVariables false
set_option linter.unusedSimpArgs false

attribute [local go_sem high] eqA61
/-! ### verdict_known: function 8 -/
def verdict_known.j0 : Nat → Int → Bool → Option (Int)
 | 0, _, _ => none
 | k + 1, x0, x8 => if x8 = true then (some 4) else (some x0)
def verdict_known.f (k : Nat) (a0 : Int) : Option (Int) := if a0 < 1 then (verdict_known.j0 k a0 true) else (verdict_known.j0 k a0 (decide (a0 > 4)))
theorem verdict_known.mono_l : ∀ k, (∀ y0 y1, LeO (verdict_known.j0 k y0 y1) (verdict_known.j0 (k + 1) y0 y1))
 | 0 => fun _ _ r h => by simp [verdict_known.j0] at h
 | k + 1 => by
  have ih0 := verdict_known.mono_l k
  ·intro y0 y1
   unfold verdict_known.j0
   repeat' first
   | (with_reducible exact ih0 _ _)
   | (with_reducible exact LeO.refl _)
   | (with_reducible exact LeO.none _)
   | (with_reducible refine LeO.ite ?_ ?_)
   | (with_reducible refine LeO.bind ?_ (fun _ => ?_))
   | exact ih0 _ _
   | exact LeO.none _
   | refine LeO.ite ?_ ?_
   | refine LeO.bind ?_ (fun _ => ?_)
theorem verdict_known.mono : ∀ a0 k, LeO (verdict_known.f k a0) (verdict_known.f (k + 1) a0) := by
 intro a0 k
 have ih0 := verdict_known.mono_l k
 unfold verdict_known.f
 repeat' first
   | (with_reducible exact ih0 _ _)
   | (with_reducible exact LeO.refl _)
   | (with_reducible exact LeO.none _)
   | (with_reducible refine LeO.ite ?_ ?_)
   | (with_reducible refine LeO.bind ?_ (fun _ => ?_))
   | exact ih0 _ _
   | exact LeO.none _
   | refine LeO.ite ?_ ?_
   | refine LeO.bind ?_ (fun _ => ?_)
set_option maxHeartbeats 8000000 in
set_option maxRecDepth 100000 in
theorem verdict_known.calls (k : Nat) (a0 : Int) (r : Int) (w : World) (h : verdict_known.f k a0 = some r) :
  Calls Try.prog 8 #[.int .i64 a0] w fun e w' => e = .returned (.int .i64 r) ∧ Drawn0 w w' := by
 have H : (if a0 < 1 then (verdict_known.j0 k a0 true) else (verdict_known.j0 k a0 (decide (a0 > 4)))) = some r := h
 clear h
 have HC2 := Aside0.mk H
 clear H
 go_enter Try.func8, Try.ntmps8
 go_upto_region 1 with (fail)
 go_cut [8] (fun v8 wc => ∃ (kq : Nat) (x8_1 : Bool), v8 = .bool x8_1 ∧ Aside0 (verdict_known.j0 kq a0 x8_1 = some r) ∧ Aside0 (kq ≤ k) ∧ Drawn0 w wc)
 case first =>
  have H := HC2.out
  clear HC2
  by_cases c3 : a0 < 1
  ·rw [if_pos c3] at H
   have c3b0 : decide (a0 < 1) = true := decide_eq_true c3
   clear c3
   (first | rw [c3b0] | (simp only [i64_w, i32_w]; rw [c3b0]) | skip)
   have H' := Aside0.mk H
   clear H
   go_wp2
   go_meet
   case rel => exact ⟨_, (true), (by first | rfl | (simp; done) | (simp [*]; done)), H', ⟨by first | omega | exact Nat.le_refl _⟩, by repeat (first | exact Drawn0.refl _ | apply Drawn0.step)⟩
  ·rw [if_neg c3] at H
   have c3b0 : decide (a0 < 1) = false := decide_eq_false c3
   clear c3
   (first | rw [c3b0] | (simp only [i64_w, i32_w]; rw [c3b0]) | skip)
   have H' := Aside0.mk H
   clear H
   go_wp2
   go_meet
   case rel => exact ⟨_, (decide (a0 > 4)), (by first | rfl | (simp; done) | (simp [*]; done)), H', ⟨by first | omega | exact Nat.le_refl _⟩, by repeat (first | exact Drawn0.refl _ | apply Drawn0.step)⟩
 case rest =>
  clear HC2
  try clear p2
  try clear c3
  try clear c3b0
  obtain ⟨kq, x8_1, rfl, HA, HJ1, ⟨mc1, rfl⟩⟩ := hcut
  cases kq with
  | zero => exact absurd HA.out (by simp [verdict_known.j0])
  | succ kj1 =>
   have H := HA.out
   clear HA
   simp only [verdict_known.j0] at H
   by_cases c4 : x8_1 = true
   ·subst c4
    have H1 : (some 4) = some r := by rw [if_pos rfl] at H; exact H
    clear H
    have H := H1
    clear H1
    obtain rfl := Option.some.inj H
    go_wp2
    go_ret
    exact ⟨by first | rfl | (simp; done) | (simp [*]; done), by repeat (first | exact Drawn0.refl _ | apply Drawn0.step)⟩
   ·replace c4 := Bool.eq_false_iff.mpr c4
    subst c4
    have H1 : (some a0) = some r := by rw [if_neg (show ¬ (false = true) by decide)] at H; exact H
    clear H
    have H := H1
    clear H1
    obtain rfl := Option.some.inj H
    go_wp2
    go_ret
    exact ⟨by first | rfl | (simp; done) | (simp [*]; done), by repeat (first | exact Drawn0.refl _ | apply Drawn0.step)⟩

/-! ### verdict_Join: function 4 -/
mutual
def verdict_Join.j0 : Nat → Int → Int → Bool → Option (Int)
 | 0, _, _, _ => none
 | k + 1, x0, x1, x9 => if x9 = true then (some 3) else (if x0 = 4 then (verdict_Join.j1 k x0 x1 (x1 == 4)) else (verdict_Join.j1 k x0 x1 false))
def verdict_Join.j1 : Nat → Int → Int → Bool → Option (Int)
 | 0, _, _, _ => none
 | k + 1, x0, x1, x16 => if x16 = true then (some 4) else (if x0 = 2 then (verdict_Join.j2 k true) else (verdict_Join.j2 k (x1 == 2)))
def verdict_Join.j2 : Nat → Bool → Option (Int)
 | 0, _ => none
 | k + 1, x23 => if x23 = true then (some 2) else (some 1)
end
def verdict_Join.f (k : Nat) (a0 : Int) (a1 : Int) : Option (Int) := (verdict_known.f k a0).bind fun t101 => ((verdict_known.f k a1).bind fun t102 => (if t101 = 3 then (verdict_Join.j0 k t101 t102 true) else (verdict_Join.j0 k t101 t102 (t102 == 3))))
theorem verdict_Join.mono_l : ∀ k, (∀ y0 y1 y2, LeO (verdict_Join.j0 k y0 y1 y2) (verdict_Join.j0 (k + 1) y0 y1 y2)) ∧ (∀ y0 y1 y2, LeO (verdict_Join.j1 k y0 y1 y2) (verdict_Join.j1 (k + 1) y0 y1 y2)) ∧ (∀ y0, LeO (verdict_Join.j2 k y0) (verdict_Join.j2 (k + 1) y0))
 | 0 => ⟨fun _ _ _ r h => by simp [verdict_Join.j0] at h, fun _ _ _ r h => by simp [verdict_Join.j1] at h, fun _ r h => by simp [verdict_Join.j2] at h⟩
 | k + 1 => by
  obtain ⟨ih0, ih1, ih2⟩ := verdict_Join.mono_l k
  refine ⟨?_, ?_, ?_⟩
  ·intro y0 y1 y2
   unfold verdict_Join.j0
   repeat' first
   | (with_reducible exact ih0 _ _ _)
   | (with_reducible exact ih1 _ _ _)
   | (with_reducible exact ih2 _)
   | (with_reducible exact verdict_known.mono _ _)
   | (with_reducible exact LeO.refl _)
   | (with_reducible exact LeO.none _)
   | (with_reducible refine LeO.ite ?_ ?_)
   | (with_reducible refine LeO.bind ?_ (fun _ => ?_))
   | exact ih0 _ _ _
   | exact ih1 _ _ _
   | exact ih2 _
   | exact verdict_known.mono _ _
   | exact LeO.none _
   | refine LeO.ite ?_ ?_
   | refine LeO.bind ?_ (fun _ => ?_)
  ·intro y0 y1 y2
   unfold verdict_Join.j1
   repeat' first
   | (with_reducible exact ih0 _ _ _)
   | (with_reducible exact ih1 _ _ _)
   | (with_reducible exact ih2 _)
   | (with_reducible exact verdict_known.mono _ _)
   | (with_reducible exact LeO.refl _)
   | (with_reducible exact LeO.none _)
   | (with_reducible refine LeO.ite ?_ ?_)
   | (with_reducible refine LeO.bind ?_ (fun _ => ?_))
   | exact ih0 _ _ _
   | exact ih1 _ _ _
   | exact ih2 _
   | exact verdict_known.mono _ _
   | exact LeO.none _
   | refine LeO.ite ?_ ?_
   | refine LeO.bind ?_ (fun _ => ?_)
  ·intro y0
   unfold verdict_Join.j2
   repeat' first
   | (with_reducible exact ih0 _ _ _)
   | (with_reducible exact ih1 _ _ _)
   | (with_reducible exact ih2 _)
   | (with_reducible exact verdict_known.mono _ _)
   | (with_reducible exact LeO.refl _)
   | (with_reducible exact LeO.none _)
   | (with_reducible refine LeO.ite ?_ ?_)
   | (with_reducible refine LeO.bind ?_ (fun _ => ?_))
   | exact ih0 _ _ _
   | exact ih1 _ _ _
   | exact ih2 _
   | exact verdict_known.mono _ _
   | exact LeO.none _
   | refine LeO.ite ?_ ?_
   | refine LeO.bind ?_ (fun _ => ?_)
theorem verdict_Join.mono : ∀ a0 a1 k, LeO (verdict_Join.f k a0 a1) (verdict_Join.f (k + 1) a0 a1) := by
 intro a0 a1 k
 obtain ⟨ih0, ih1, ih2⟩ := verdict_Join.mono_l k
 unfold verdict_Join.f
 repeat' first
   | (with_reducible exact ih0 _ _ _)
   | (with_reducible exact ih1 _ _ _)
   | (with_reducible exact ih2 _)
   | (with_reducible exact verdict_known.mono _ _)
   | (with_reducible exact LeO.refl _)
   | (with_reducible exact LeO.none _)
   | (with_reducible refine LeO.ite ?_ ?_)
   | (with_reducible refine LeO.bind ?_ (fun _ => ?_))
   | exact ih0 _ _ _
   | exact ih1 _ _ _
   | exact ih2 _
   | exact verdict_known.mono _ _
   | exact LeO.none _
   | refine LeO.ite ?_ ?_
   | refine LeO.bind ?_ (fun _ => ?_)
set_option maxHeartbeats 8000000 in
set_option maxRecDepth 100000 in
theorem verdict_Join.calls (k : Nat) (a0 : Int) (a1 : Int) (r : Int) (w : World) (h : verdict_Join.f k a0 a1 = some r) :
  Calls Try.prog 4 #[.int .i64 a0, .int .i64 a1] w fun e w' => e = .returned (.int .i64 r) ∧ Drawn0 w w' := by
 have H : ((verdict_known.f k a0).bind fun t101 => ((verdict_known.f k a1).bind fun t102 => (if t101 = 3 then (verdict_Join.j0 k t101 t102 true) else (verdict_Join.j0 k t101 t102 (t102 == 3))))) = some r := h
 clear h
 replace H := Option.bind_eq_some_iff.mp H
 obtain ⟨t101, A30, H⟩ := H
 replace H : ((verdict_known.f k a1).bind fun t102 => (if t101 = 3 then (verdict_Join.j0 k t101 t102 true) else (verdict_Join.j0 k t101 t102 (t102 == 3)))) = some r := H
 have A3 := Aside0.mk A30
 clear A30
 replace H := Option.bind_eq_some_iff.mp H
 obtain ⟨t102, A40, H⟩ := H
 replace H : (if t101 = 3 then (verdict_Join.j0 k t101 t102 true) else (verdict_Join.j0 k t101 t102 (t102 == 3))) = some r := H
 have A4 := Aside0.mk A40
 clear A40
 have HC5 := Aside0.mk H
 clear H
 go_enter Try.func4, Try.ntmps4
 go_upto_region 2 with (first | ((with_reducible refine gate_callee (f := 8) rfl ?_); refine goesL_ (some 6) rfl rfl Try.func8 (by kernel_rfl) rfl #[.int .i64 a0] rfl (by (try simp only [sD, sE, sF]); first | done | rfl | (simp only [sG, sH]; rfl)) ?_; (with_reducible refine (verdict_known.calls k a0 t101 _ A3.out).mono ?_); rintro e w' ⟨rfl, ⟨nd, rfl⟩⟩; refine ⟨_, rfl, ?_⟩) | ((with_reducible refine gate_callee (f := 8) rfl ?_); refine goesL_ (some 8) rfl rfl Try.func8 (by kernel_rfl) rfl #[.int .i64 a1] rfl (by (try simp only [sD, sE, sF]); first | done | rfl | (simp only [sG, sH]; rfl)) ?_; (with_reducible refine (verdict_known.calls k a1 t102 _ A4.out).mono ?_); rintro e w' ⟨rfl, ⟨nd, rfl⟩⟩; refine ⟨_, rfl, ?_⟩))
 (try simp only [Act.put, sA, sB, sC])
 go_cut [9] (fun v9 wc => ∃ (kq : Nat) (x9_4 : Bool), v9 = .bool x9_4 ∧ Aside0 (verdict_Join.j0 kq t101 t102 x9_4 = some r) ∧ Aside0 (kq ≤ k) ∧ Drawn0 w wc)
 case first =>
  have H := HC5.out
  clear HC5
  by_cases c6 : t101 = 3
  ·rw [if_pos c6] at H
   have c6b0 : (t101 == 3) = true := beq_iff_eq.mpr c6
   have c6b1 : (t101 != 3) = false := bne_eq_false_iff_eq.mpr c6
   clear c6
   (first | rw [c6b0] | (simp only [i64_w, i32_w]; rw [c6b0]) | skip)
   have H' := Aside0.mk H
   clear H
   go_wp2
   go_meet
   case rel => exact ⟨_, (true), (by first | rfl | (simp; done) | (simp [*]; done)), H', ⟨by first | omega | exact Nat.le_refl _⟩, by repeat (first | exact Drawn0.refl _ | apply Drawn0.step)⟩
  ·rw [if_neg c6] at H
   have c6b0 : (t101 == 3) = false := beq_eq_false_iff_ne.mpr c6
   have c6b1 : (t101 != 3) = true := bne_iff_ne.mpr c6
   (first | rw [c6b0] | (simp only [i64_w, i32_w]; rw [c6b0]) | skip)
   have H' := Aside0.mk H
   clear H
   go_wp2
   go_meet
   case rel => exact ⟨_, ((t102 == 3)), (by first | rfl | (simp; done) | (simp [*]; done)), H', ⟨by first | omega | exact Nat.le_refl _⟩, by repeat (first | exact Drawn0.refl _ | apply Drawn0.step)⟩
 case rest =>
  clear HC5
  try clear p2
  try clear c4
  try clear c6
  try clear c6b0
  try clear c6b1
  obtain ⟨kq, x9_4, rfl, HA, HJ4, ⟨mc4, rfl⟩⟩ := hcut
  cases kq with
  | zero => exact absurd HA.out (by simp [verdict_Join.j0])
  | succ kj4 =>
   have H := HA.out
   clear HA
   simp only [verdict_Join.j0] at H
   by_cases c7 : x9_4 = true
   ·subst c7
    have H1 : (some 3) = some r := by rw [if_pos rfl] at H; exact H
    clear H
    have H := H1
    clear H1
    obtain rfl := Option.some.inj H
    go_wp2
    go_ret
    exact ⟨by first | rfl | (simp; done) | (simp [*]; done), by repeat (first | exact Drawn0.refl _ | apply Drawn0.step)⟩
   ·replace c7 := Bool.eq_false_iff.mpr c7
    subst c7
    have H1 : (if t101 = 4 then (verdict_Join.j1 kj4 t101 t102 (t102 == 4)) else (verdict_Join.j1 kj4 t101 t102 false)) = some r := by rw [if_neg (show ¬ (false = true) by decide)] at H; exact H
    clear H
    have H := H1
    clear H1
    have HC8 := Aside0.mk H
    clear H
    go_upto_region 4 with (fail)
    go_cut [16] (fun v16 wc => ∃ (kq : Nat) (x16_7 : Bool), v16 = .bool x16_7 ∧ Aside0 (verdict_Join.j1 kq t101 t102 x16_7 = some r) ∧ Aside0 (kq ≤ kj4) ∧ Drawn0 w wc)
    case first =>
     have H := HC8.out
     clear HC8
     by_cases c9 : t101 = 4
     ·rw [if_pos c9] at H
      have c9b0 : (t101 == 4) = true := beq_iff_eq.mpr c9
      have c9b1 : (t101 != 4) = false := bne_eq_false_iff_eq.mpr c9
      clear c9
      (first | rw [c9b0] | (simp only [i64_w, i32_w]; rw [c9b0]) | skip)
      have H' := Aside0.mk H
      clear H
      go_wp2
      go_meet
      case rel => exact ⟨_, ((t102 == 4)), (by first | rfl | (simp; done) | (simp [*]; done)), H', ⟨by have := HJ4.out; first | omega | exact Nat.le_refl _⟩, by repeat (first | exact Drawn0.refl _ | apply Drawn0.step)⟩
     ·rw [if_neg c9] at H
      have c9b0 : (t101 == 4) = false := beq_eq_false_iff_ne.mpr c9
      have c9b1 : (t101 != 4) = true := bne_iff_ne.mpr c9
      (first | rw [c9b0] | (simp only [i64_w, i32_w]; rw [c9b0]) | skip)
      have H' := Aside0.mk H
      clear H
      go_wp2
      go_meet
      case rel => exact ⟨_, (false), (by first | rfl | (simp; done) | (simp [*]; done)), H', ⟨by have := HJ4.out; first | omega | exact Nat.le_refl _⟩, by repeat (first | exact Drawn0.refl _ | apply Drawn0.step)⟩
    case rest =>
     clear HC8
     try clear p2
     try clear c4
     try clear c6
     try clear c6b0
     try clear c6b1
     try clear c7
     try clear c8
     try clear c9
     try clear c9b0
     try clear c9b1
     try clear p2
     obtain ⟨kq, x16_7, rfl, HA, HJ7, ⟨mc7, rfl⟩⟩ := hcut
     cases kq with
     | zero => exact absurd HA.out (by simp [verdict_Join.j1])
     | succ kj7 =>
      have H := HA.out
      clear HA
      simp only [verdict_Join.j1] at H
      by_cases c10 : x16_7 = true
      ·subst c10
       have H1 : (some 4) = some r := by rw [if_pos rfl] at H; exact H
       clear H
       have H := H1
       clear H1
       obtain rfl := Option.some.inj H
       go_wp2
       go_ret
       exact ⟨by first | rfl | (simp; done) | (simp [*]; done), by repeat (first | exact Drawn0.refl _ | apply Drawn0.step)⟩
      ·replace c10 := Bool.eq_false_iff.mpr c10
       subst c10
       have H1 : (if t101 = 2 then (verdict_Join.j2 kj7 true) else (verdict_Join.j2 kj7 (t102 == 2))) = some r := by rw [if_neg (show ¬ (false = true) by decide)] at H; exact H
       clear H
       have H := H1
       clear H1
       have HC11 := Aside0.mk H
       clear H
       go_upto_region 6 with (fail)
       go_cut [23] (fun v23 wc => ∃ (kq : Nat) (x23_10 : Bool), v23 = .bool x23_10 ∧ Aside0 (verdict_Join.j2 kq x23_10 = some r) ∧ Aside0 (kq ≤ kj7) ∧ Drawn0 w wc)
       case first =>
        have H := HC11.out
        clear HC11
        by_cases c12 : t101 = 2
        ·rw [if_pos c12] at H
         have c12b0 : (t101 == 2) = true := beq_iff_eq.mpr c12
         have c12b1 : (t101 != 2) = false := bne_eq_false_iff_eq.mpr c12
         clear c12
         (first | rw [c12b0] | (simp only [i64_w, i32_w]; rw [c12b0]) | skip)
         have H' := Aside0.mk H
         clear H
         go_wp2
         go_meet
         case rel => exact ⟨_, (true), (by first | rfl | (simp; done) | (simp [*]; done)), H', ⟨by have := HJ4.out; have := HJ7.out; first | omega | exact Nat.le_refl _⟩, by repeat (first | exact Drawn0.refl _ | apply Drawn0.step)⟩
        ·rw [if_neg c12] at H
         have c12b0 : (t101 == 2) = false := beq_eq_false_iff_ne.mpr c12
         have c12b1 : (t101 != 2) = true := bne_iff_ne.mpr c12
         (first | rw [c12b0] | (simp only [i64_w, i32_w]; rw [c12b0]) | skip)
         have H' := Aside0.mk H
         clear H
         go_wp2
         go_meet
         case rel => exact ⟨_, ((t102 == 2)), (by first | rfl | (simp; done) | (simp [*]; done)), H', ⟨by have := HJ4.out; have := HJ7.out; first | omega | exact Nat.le_refl _⟩, by repeat (first | exact Drawn0.refl _ | apply Drawn0.step)⟩
       case rest =>
        clear HC11
        try clear c1
        try clear p2
        try clear c4
        try clear c6
        try clear c6b0
        try clear c6b1
        try clear c7
        try clear c8
        try clear c9
        try clear c9b0
        try clear c9b1
        try clear c10
        try clear c12
        try clear c12b0
        try clear c12b1
        try clear p2
        obtain ⟨kq, x23_10, rfl, HA, HJ10, ⟨mc10, rfl⟩⟩ := hcut
        cases kq with
        | zero => exact absurd HA.out (by simp [verdict_Join.j2])
        | succ kj10 =>
         have H := HA.out
         clear HA
         simp only [verdict_Join.j2] at H
         by_cases c13 : x23_10 = true
         ·subst c13
          have H1 : (some 2) = some r := by rw [if_pos rfl] at H; exact H
          clear H
          have H := H1
          clear H1
          obtain rfl := Option.some.inj H
          go_wp2
          go_ret
          exact ⟨by first | rfl | (simp; done) | (simp [*]; done), by repeat (first | exact Drawn0.refl _ | apply Drawn0.step)⟩
         ·replace c13 := Bool.eq_false_iff.mpr c13
          subst c13
          have H1 : (some 1) = some r := by rw [if_neg (show ¬ (false = true) by decide)] at H; exact H
          clear H
          have H := H1
          clear H1
          obtain rfl := Option.some.inj H
          go_wp2
          go_ret
          exact ⟨by first | rfl | (simp; done) | (simp [*]; done), by repeat (first | exact Drawn0.refl _ | apply Drawn0.step)⟩

/-! ### verdict_Sure: function 7 -/
def verdict_Sure.f (a0 : Int) : Option (Bool) := if a0 = 1 then (some true) else (some (a0 == 3))
set_option maxHeartbeats 8000000 in
set_option maxRecDepth 100000 in
theorem verdict_Sure.calls (a0 : Int) (r : Bool) (w : World) (h : verdict_Sure.f a0 = some r) :
  Calls Try.prog 7 #[.int .i64 a0] w fun e w' => e = .returned (.bool r) ∧ Drawn0 w w' := by
 have H : (if a0 = 1 then (some true) else (some (a0 == 3))) = some r := h
 clear h
 by_cases c2 : a0 = 1
 ·rw [if_pos c2] at H
  have c2b0 : (a0 == 1) = true := beq_iff_eq.mpr c2
  have c2b1 : (a0 != 1) = false := bne_eq_false_iff_eq.mpr c2
  clear c2
  obtain rfl := Option.some.inj H
  go_enter Try.func7, Try.ntmps7
  go_wp2
  go_ret
  exact ⟨by first | rfl | (simp; done) | (simp [*]; done), by repeat (first | exact Drawn0.refl _ | apply Drawn0.step)⟩
 ·rw [if_neg c2] at H
  have c2b0 : (a0 == 1) = false := beq_eq_false_iff_ne.mpr c2
  have c2b1 : (a0 != 1) = true := bne_iff_ne.mpr c2
  obtain rfl := Option.some.inj H
  go_enter Try.func7, Try.ntmps7
  go_wp2
  go_ret
  exact ⟨by first | rfl | (simp; done) | (simp [*]; done), by repeat (first | exact Drawn0.refl _ | apply Drawn0.step)⟩

/-! ### apogeelaw13_Mission: function 13 -/
def apogeelaw13_Mission.l0 : Nat → Int → Int → List (S30) → Int → Int → Int → Int → Int → Int → Int → Int → Option ((List (S30)) × Int × Int × Int × Int × Int × Int × Int × Int)
 | 0, _, _, _, _, _, _, _, _, _, _, _ => none
 | k + 1, x6, x7, x105000, x105001, x105002, x105003, x105004, x105005, x105006, x105007, x105008 => if x7 < x6 then (if x105000.length < 2513169434916 then (apogeelaw13_Mission.l0 k x6 (wrap64 (x7 + 1)) (x105000 ++ [(⟨(([(⟨(-1000), (-1000)⟩ : S41), (⟨1000, (-1000)⟩ : S41), (⟨1000, 1000⟩ : S41), (⟨(-1000), 1000⟩ : S41)] : List (S41))), 1, 200, 5, 100⟩ : S30)]) x105001 x105002 x105003 x105004 x105005 x105006 x105007 x105008) else (none)) else (some (x105000, x105001, x105002, x105003, x105004, x105005, x105006, x105007, x105008))
def apogeelaw13_Mission.f (k : Nat) (a0 : Int) : Option ((List (S30)) × Int × Int × Int × Int × Int × Int × Int × Int) := apogeelaw13_Mission.l0 k a0 0 ([] : List (S30)) 2 3 4 2 50 2 10 a0
theorem apogeelaw13_Mission.mono_l : ∀ k, (∀ y0 y1 y2 y3 y4 y5 y6 y7 y8 y9 y10, LeO (apogeelaw13_Mission.l0 k y0 y1 y2 y3 y4 y5 y6 y7 y8 y9 y10) (apogeelaw13_Mission.l0 (k + 1) y0 y1 y2 y3 y4 y5 y6 y7 y8 y9 y10))
 | 0 => fun _ _ _ _ _ _ _ _ _ _ _ r h => by simp [apogeelaw13_Mission.l0] at h
 | k + 1 => by
  have ih0 := apogeelaw13_Mission.mono_l k
  ·intro y0 y1 y2 y3 y4 y5 y6 y7 y8 y9 y10
   unfold apogeelaw13_Mission.l0
   repeat' first
   | (with_reducible exact ih0 _ _ _ _ _ _ _ _ _ _ _)
   | (with_reducible exact LeO.refl _)
   | (with_reducible exact LeO.none _)
   | (with_reducible refine LeO.ite ?_ ?_)
   | (with_reducible refine LeO.bind ?_ (fun _ => ?_))
   | exact ih0 _ _ _ _ _ _ _ _ _ _ _
   | exact LeO.none _
   | refine LeO.ite ?_ ?_
   | refine LeO.bind ?_ (fun _ => ?_)
theorem apogeelaw13_Mission.mono : ∀ a0 k, LeO (apogeelaw13_Mission.f k a0) (apogeelaw13_Mission.f (k + 1) a0) := by
 intro a0 k
 have ih0 := apogeelaw13_Mission.mono_l k
 unfold apogeelaw13_Mission.f
 repeat' first
   | (with_reducible exact ih0 _ _ _ _ _ _ _ _ _ _ _)
   | (with_reducible exact LeO.refl _)
   | (with_reducible exact LeO.none _)
   | (with_reducible refine LeO.ite ?_ ?_)
   | (with_reducible refine LeO.bind ?_ (fun _ => ?_))
   | exact ih0 _ _ _ _ _ _ _ _ _ _ _
   | exact LeO.none _
   | refine LeO.ite ?_ ?_
   | refine LeO.bind ?_ (fun _ => ?_)
set_option maxHeartbeats 8000000 in
set_option maxRecDepth 100000 in
theorem apogeelaw13_Mission.calls (k : Nat) (a0 : Int) (r1 : List (S30)) (r2 : Int) (r3 : Int) (r4 : Int) (r5 : Int) (r6 : Int) (r7 : Int) (r8 : Int) (r9 : Int) (w : World) (h : apogeelaw13_Mission.f k a0 = some (r1, r2, r3, r4, r5, r6, r7, r8, r9)) :
  Calls Try.prog 13 #[.int .i64 a0] w fun e w' => ∃ v0_ : Value, e = .returned (.agg #[v0_, .int .i64 r2, .int .i64 r3, .int .i64 r4, .int .i64 r5, .int .i64 r6, .int .i64 r7, .int .i64 r8, .int .i64 r9]) ∧ Kd.S k30 30 w' w.heap.size (fun _ => True) v0_ r1 ∧ Below w.heap.size w w' := by
 have hu38 := Try.underlying38
 have hu41 := Try.underlying41
 have hu30 := Try.underlying30
 have HB := Aside0.mk (Below.refl w.heap.size w)
 have H : (apogeelaw13_Mission.l0 k a0 0 ([] : List (S30)) 2 3 4 2 50 2 10 a0) = some (r1, r2, r3, r4, r5, r6, r7, r8, r9) := h
 clear h
 have H' := Aside0.mk H
 clear H
 go_enter Try.func13, Try.ntmps13
 go_wp2_with (first | ((with_reducible refine gate_dst (N := 2) rfl ?_); refine box_event ?hg (N := 2) ?hd (cs := #[.slice none 0 0, .int .i64 0, .int .i64 0, .int .i64 0, .int .i64 0, .int .i64 0, .int .i64 0, .int .i64 0, .int .i64 0]) (t := 38) ?hr ?_; (case hd => rfl); (case hg => rfl); (case hr => first | (go_simp; done) | (go_simp; rfl)); intro gb103 hg w2 hbox hb; have n0_ := Aside0.mk (bS (by repeat (first | (with_reducible first | exact HB.out | apply bA | apply bN | apply bD) | exact HB.out)) hb); have n1_ := Aside0.mk (hbox); have n2_ := Aside0.mk ((by rw [hg]; exact (bZ (by repeat (first | (with_reducible first | exact HB.out | apply bA | apply bN | apply bD) | exact HB.out))) : w.heap.size ≤ gb103)); have n3_ := Aside0.mk ((by rw [hg]; exact (bZ (by repeat (first | (with_reducible first | exact HB.out | apply bA | apply bN | apply bD) | exact HB.out))) : w.heap.size ≤ gb103)); clear HB; have HB := n0_; have BK103 := n1_; have GW103 := n2_; have GE103 := n3_; clear n0_ n1_ n2_ n3_; clear hb hbox hg) | ((with_reducible refine gate_dst (N := 3) rfl ?_); refine box_event ?hg (N := 3) ?hd (cs := #[.slice none 0 0, .int .i64 0, .int .i64 0, .int .i64 0, .int .i64 0, .int .i64 0, .int .i64 0, .int .i64 0, .int .i64 0]) (t := 38) ?hr ?_; (case hd => rfl); (case hg => rfl); (case hr => first | (go_simp; done) | (go_simp; rfl)); intro gb104 hg w3 hbox hb; have n0_ := Aside0.mk (kB (g := gb103) (o := .cells #[.slice none 0 0, .int .i64 0, .int .i64 0, .int .i64 0, .int .i64 0, .int .i64 0, .int .i64 0, .int .i64 0, .int .i64 0] 38 (0, 0)) (by (with_reducible repeat (first | refine kN ?_ _ | refine kD ?_ | refine kA ?_ _)); exact BK103.out) hb); have n1_ := Aside0.mk (bS (by repeat (first | (with_reducible first | exact HB.out | apply bA | apply bN | apply bD | refine bE ?_ GE103.out) | exact HB.out)) hb); have n2_ := Aside0.mk (hbox); have n3_ := Aside0.mk ((by rw [hg]; exact (bZ (by repeat (first | (with_reducible first | exact HB.out | apply bA | apply bN | apply bD | refine bE ?_ GE103.out) | exact HB.out))) : w.heap.size ≤ gb104)); have n4_ := Aside0.mk ((by rw [hg]; exact (bZ (by repeat (first | (with_reducible first | exact HB.out | apply bA | apply bN | apply bD | refine bE ?_ GE103.out) | exact HB.out))) : w.heap.size ≤ gb104)); have n5_ := Aside0.mk ((by rw [hg]; exact Nat.ne_of_lt (blk_lt (g := gb103) (o := .cells #[.slice none 0 0, .int .i64 0, .int .i64 0, .int .i64 0, .int .i64 0, .int .i64 0, .int .i64 0, .int .i64 0, .int .i64 0] 38 (0, 0)) (by (with_reducible repeat (first | refine kN ?_ _ | refine kD ?_ | refine kA ?_ _)); exact BK103.out)) : gb103 ≠ gb104)); have n6_ := Aside0.mk ((by rw [hg]; exact Nat.ne_of_gt (blk_lt (g := gb103) (o := .cells #[.slice none 0 0, .int .i64 0, .int .i64 0, .int .i64 0, .int .i64 0, .int .i64 0, .int .i64 0, .int .i64 0, .int .i64 0] 38 (0, 0)) (by (with_reducible repeat (first | refine kN ?_ _ | refine kD ?_ | refine kA ?_ _)); exact BK103.out)) : gb104 ≠ gb103)); clear BK103; clear HB; have BK103 := n0_; have HB := n1_; have BK104 := n2_; have GW104 := n3_; have GE104 := n4_; have NB103_104 := n5_; have NB104_103 := n6_; clear n0_ n1_ n2_ n3_ n4_ n5_ n6_; clear hb hbox hg; have hnb4 := NB104_103.out; have hnc4 := NB103_104.out; have hcz5_0 : w3.cell? ⟨gb104, 0, none⟩ = some (.slice none 0 0) := (kC BK104.out 0).trans rfl; have hcz5_1 : w3.cell? ⟨gb104, 1, none⟩ = some (.int .i64 0) := (kC BK104.out 1).trans rfl; have hcz5_2 : w3.cell? ⟨gb104, 2, none⟩ = some (.int .i64 0) := (kC BK104.out 2).trans rfl; have hcz5_3 : w3.cell? ⟨gb104, 3, none⟩ = some (.int .i64 0) := (kC BK104.out 3).trans rfl; have hcz5_4 : w3.cell? ⟨gb104, 4, none⟩ = some (.int .i64 0) := (kC BK104.out 4).trans rfl; have hcz5_5 : w3.cell? ⟨gb104, 5, none⟩ = some (.int .i64 0) := (kC BK104.out 5).trans rfl; have hcz5_6 : w3.cell? ⟨gb104, 6, none⟩ = some (.int .i64 0) := (kC BK104.out 6).trans rfl; have hcz5_7 : w3.cell? ⟨gb104, 7, none⟩ = some (.int .i64 0) := (kC BK104.out 7).trans rfl; have hcz5_8 : w3.cell? ⟨gb104, 8, none⟩ = some (.int .i64 0) := (kC BK104.out 8).trans rfl; have hfz5_0 := kZ BK104.out 0; have hfz5_1 := kZ BK104.out 1; have hfz5_2 := kZ BK104.out 2; have hfz5_3 := kZ BK104.out 3; have hfz5_4 := kZ BK104.out 4; have hfz5_5 := kZ BK104.out 5; have hfz5_6 := kZ BK104.out 6; have hfz5_7 := kZ BK104.out 7; have hfz5_8 := kZ BK104.out 8))
 go_loopg [7] k (fun kq v7 w' => ∃ (x7_1 : Int) (x105000_1 : List (S30)) (u105000 : Value), v7 = .int .i64 x7_1 ∧ Aside0 (apogeelaw13_Mission.l0 kq a0 x7_1 x105000_1 2 3 4 2 50 2 10 a0 = some (r1, r2, r3, r4, r5, r6, r7, r8, r9)) ∧ Aside0 (kq ≤ k) ∧ Aside0 (Kd.S k30 30 w' w.heap.size (fun _ => True) u105000 x105000_1) ∧ Aside0 (w'.heap[gb103]? = some (.cells #[(.slice none 0 0), .int .i64 0, .int .i64 0, .int .i64 0, .int .i64 0, .int .i64 0, .int .i64 0, .int .i64 0, .int .i64 0] 38 (0, 0))) ∧ Aside0 (w'.heap[gb104]? = some (.cells #[u105000, .int .i64 2, .int .i64 3, .int .i64 4, .int .i64 2, .int .i64 50, .int .i64 2, .int .i64 10, .int .i64 a0] 38 (0, 0))) ∧ Aside0 (Below w.heap.size w w'))
 case atStart => exact ⟨(0), (([] : List (S30))), (.slice none 0 0), (by first | rfl | (simp; done) | (simp [*]; done)), H', ⟨Nat.le_refl _⟩, ⟨by first | exact Kd.S_nil _ _ _ _ _ | exact Kd.N_nil _ _ _ _ _ | exact Kd.V_nil _ _ _ _ _ | exact Kd.Q_nil _ _ _ _ _ | exact Kd.R_nil _ _ _ _ _⟩, ⟨by (with_reducible repeat (first | refine kN ?_ _ | refine kD ?_ | refine kA ?_ _)); refine kF ?_ NB103_104.out _; (with_reducible repeat (first | refine kN ?_ _ | refine kD ?_ | refine kA ?_ _)); refine kF ?_ NB103_104.out _; (with_reducible repeat (first | refine kN ?_ _ | refine kD ?_ | refine kA ?_ _)); refine kF ?_ NB103_104.out _; (with_reducible repeat (first | refine kN ?_ _ | refine kD ?_ | refine kA ?_ _)); refine kF ?_ NB103_104.out _; (with_reducible repeat (first | refine kN ?_ _ | refine kD ?_ | refine kA ?_ _)); refine kF ?_ NB103_104.out _; (with_reducible repeat (first | refine kN ?_ _ | refine kD ?_ | refine kA ?_ _)); refine kF ?_ NB103_104.out _; (with_reducible repeat (first | refine kN ?_ _ | refine kD ?_ | refine kA ?_ _)); refine kF ?_ NB103_104.out _; (with_reducible repeat (first | refine kN ?_ _ | refine kD ?_ | refine kA ?_ _)); refine kF ?_ NB103_104.out _; (with_reducible repeat (first | refine kN ?_ _ | refine kD ?_ | refine kA ?_ _)); refine kF ?_ NB103_104.out _; (with_reducible repeat (first | refine kN ?_ _ | refine kD ?_ | refine kA ?_ _)); exact BK103.out⟩, ⟨by (with_reducible repeat (first | refine kN ?_ _ | refine kD ?_ | refine kA ?_ _)); refine kP (cs := #[.slice none 0 0, .int .i64 2, .int .i64 3, .int .i64 4, .int .i64 2, .int .i64 50, .int .i64 2, .int .i64 10, .int .i64 0]) ?_ 8 _ rfl; (with_reducible repeat (first | refine kN ?_ _ | refine kD ?_ | refine kA ?_ _)); refine kP (cs := #[.slice none 0 0, .int .i64 2, .int .i64 3, .int .i64 4, .int .i64 2, .int .i64 50, .int .i64 2, .int .i64 0, .int .i64 0]) ?_ 7 _ rfl; (with_reducible repeat (first | refine kN ?_ _ | refine kD ?_ | refine kA ?_ _)); refine kP (cs := #[.slice none 0 0, .int .i64 2, .int .i64 3, .int .i64 4, .int .i64 2, .int .i64 50, .int .i64 0, .int .i64 0, .int .i64 0]) ?_ 6 _ rfl; (with_reducible repeat (first | refine kN ?_ _ | refine kD ?_ | refine kA ?_ _)); refine kP (cs := #[.slice none 0 0, .int .i64 2, .int .i64 3, .int .i64 4, .int .i64 2, .int .i64 0, .int .i64 0, .int .i64 0, .int .i64 0]) ?_ 5 _ rfl; (with_reducible repeat (first | refine kN ?_ _ | refine kD ?_ | refine kA ?_ _)); refine kP (cs := #[.slice none 0 0, .int .i64 2, .int .i64 3, .int .i64 4, .int .i64 0, .int .i64 0, .int .i64 0, .int .i64 0, .int .i64 0]) ?_ 4 _ rfl; (with_reducible repeat (first | refine kN ?_ _ | refine kD ?_ | refine kA ?_ _)); refine kP (cs := #[.slice none 0 0, .int .i64 2, .int .i64 3, .int .i64 0, .int .i64 0, .int .i64 0, .int .i64 0, .int .i64 0, .int .i64 0]) ?_ 3 _ rfl; (with_reducible repeat (first | refine kN ?_ _ | refine kD ?_ | refine kA ?_ _)); refine kP (cs := #[.slice none 0 0, .int .i64 2, .int .i64 0, .int .i64 0, .int .i64 0, .int .i64 0, .int .i64 0, .int .i64 0, .int .i64 0]) ?_ 2 _ rfl; (with_reducible repeat (first | refine kN ?_ _ | refine kD ?_ | refine kA ?_ _)); refine kP (cs := #[.slice none 0 0, .int .i64 0, .int .i64 0, .int .i64 0, .int .i64 0, .int .i64 0, .int .i64 0, .int .i64 0, .int .i64 0]) ?_ 1 _ rfl; (with_reducible repeat (first | refine kN ?_ _ | refine kD ?_ | refine kA ?_ _)); refine kP (cs := #[.slice none 0 0, .int .i64 0, .int .i64 0, .int .i64 0, .int .i64 0, .int .i64 0, .int .i64 0, .int .i64 0, .int .i64 0]) ?_ 0 _ rfl; (with_reducible repeat (first | refine kN ?_ _ | refine kD ?_ | refine kA ?_ _)); exact BK104.out⟩, ⟨by repeat (first | (with_reducible first | exact HB.out | apply bA | apply bN | apply bD | refine bE ?_ GE103.out | refine bE ?_ GE104.out) | exact HB.out)⟩⟩
 case round =>
  clear H'
  try clear c1
  try clear p2
  try clear c4
  try clear hcz5_0
  try clear hcz5_1
  try clear hcz5_2
  try clear hcz5_3
  try clear hcz5_4
  try clear hcz5_5
  try clear hcz5_6
  try clear hcz5_7
  try clear hcz5_8
  try clear hfz5_0
  try clear hfz5_1
  try clear hfz5_2
  try clear hfz5_3
  try clear hfz5_4
  try clear hfz5_5
  try clear hfz5_6
  try clear hfz5_7
  try clear hfz5_8
  obtain ⟨x7_1, x105000_1, u105000, rfl, HA, HK1, HO_105000, BK103, BK104, HB⟩ := hrel
  cases gk with
  | zero => exact absurd HA.out (by simp [apogeelaw13_Mission.l0])
  | succ k1 =>
   have H := HA.out
   clear HA
   simp only [apogeelaw13_Mission.l0] at H
   by_cases c6 : x7_1 < a0
   ·rw [if_pos c6] at H
    have c6b0 : decide (x7_1 < a0) = true := decide_eq_true c6
    clear c6
    obtain ⟨y105, hy105⟩ : ∃ y_ : List (S41), y_ = (([(⟨(-1000), (-1000)⟩ : S41), (⟨1000, (-1000)⟩ : S41), (⟨1000, 1000⟩ : S41), (⟨(-1000), 1000⟩ : S41)] : List (S41))) := ⟨_, rfl⟩
    replace H : (if x105000_1.length < 2513169434916 then (apogeelaw13_Mission.l0 k1 a0 (wrap64 (x7_1 + 1)) (x105000_1 ++ [(⟨y105, 1, 200, 5, 100⟩ : S30)]) 2 3 4 2 50 2 10 a0) else (none)) = some (r1, r2, r3, r4, r5, r6, r7, r8, r9) := by first | (rw [hy105]; with_reducible exact H) | (have H2_ := (Option.bind_some _ _).symm.trans H; rw [hy105]; with_reducible exact H2_) | (have H2_ := (Option.bind_some _ _).symm.trans H; with_reducible exact H2_) | with_reducible exact H | (rw [hy105]; exact H) | exact H
    have Ny105 := Aside0.mk hy105
    clear hy105
    by_cases c7 : x105000_1.length < 2513169434916
    ·rw [if_pos c7] at H
     have LMc7 := Aside0.mk c7
     clear c7
     obtain ⟨y108, hy108⟩ : ∃ y_ : List (S30), y_ = (x105000_1 ++ [(⟨y105, 1, 200, 5, 100⟩ : S30)]) := ⟨_, rfl⟩
     replace H : (apogeelaw13_Mission.l0 k1 a0 (wrap64 (x7_1 + 1)) y108 2 3 4 2 50 2 10 a0) = some (r1, r2, r3, r4, r5, r6, r7, r8, r9) := by first | (rw [hy108]; with_reducible exact H) | (have H2_ := (Option.bind_some _ _).symm.trans H; rw [hy108]; with_reducible exact H2_) | (have H2_ := (Option.bind_some _ _).symm.trans H; with_reducible exact H2_) | with_reducible exact H | (rw [hy108]; exact H) | exact H
     have Ny108 := Aside0.mk hy108
     clear hy108
     have H' := Aside0.mk H
     clear H
     have hnb8 := NB104_103.out
     have hnc8 := NB103_104.out
     have hcz9_0 : wr.cell? ⟨gb104, 0, none⟩ = some (u105000) := (kC BK104.out 0).trans rfl
     have hcz9_1 : wr.cell? ⟨gb104, 1, none⟩ = some (.int .i64 2) := (kC BK104.out 1).trans rfl
     have hcz9_2 : wr.cell? ⟨gb104, 2, none⟩ = some (.int .i64 3) := (kC BK104.out 2).trans rfl
     have hcz9_3 : wr.cell? ⟨gb104, 3, none⟩ = some (.int .i64 4) := (kC BK104.out 3).trans rfl
     have hcz9_4 : wr.cell? ⟨gb104, 4, none⟩ = some (.int .i64 2) := (kC BK104.out 4).trans rfl
     have hcz9_5 : wr.cell? ⟨gb104, 5, none⟩ = some (.int .i64 50) := (kC BK104.out 5).trans rfl
     have hcz9_6 : wr.cell? ⟨gb104, 6, none⟩ = some (.int .i64 2) := (kC BK104.out 6).trans rfl
     have hcz9_7 : wr.cell? ⟨gb104, 7, none⟩ = some (.int .i64 10) := (kC BK104.out 7).trans rfl
     have hcz9_8 : wr.cell? ⟨gb104, 8, none⟩ = some (.int .i64 a0) := (kC BK104.out 8).trans rfl
     have hfz9_0 := kZ BK104.out 0
     have hfz9_1 := kZ BK104.out 1
     have hfz9_2 := kZ BK104.out 2
     have hfz9_3 := kZ BK104.out 3
     have hfz9_4 := kZ BK104.out 4
     have hfz9_5 := kZ BK104.out 5
     have hfz9_6 := kZ BK104.out 6
     have hfz9_7 := kZ BK104.out 7
     have hfz9_8 := kZ BK104.out 8
     go_wp2_with (first | ((with_reducible refine gate_dst (N := 15) rfl ?_); refine Kd.R_lit k41 _ 41 ?hg (N := 15) ?hd (xs := ([(⟨(-1000), (-1000)⟩ : S41), (⟨1000, (-1000)⟩ : S41), (⟨1000, 1000⟩ : S41), (⟨(-1000), 1000⟩ : S41)] : List (S41))) (inner := [.int .i64 (-1000), .int .i64 (-1000), .int .i64 1000, .int .i64 (-1000), .int .i64 1000, .int .i64 1000, .int .i64 (-1000), .int .i64 1000]) (ok := fun _ => True) (okp := fun _ => True) ?hr ?hp (fun _ hk => hk) trivial (Below.refl _ _) (Nat.le_refl _) (by simp) ?_; (case hd => rfl); (case hg => rfl); (case hr => first | (go_simp; done) | (go_simp; rfl)); (case hp => exact (Reps.c2 (show Kd.M k41 _ _ _ (⟨(-1000), (-1000)⟩ : S41) [.int .i64 (-1000), .int .i64 (-1000)] from (k41_mkM _ _ _ (⟨(-1000), (-1000)⟩ : S41) )) (Reps.c2 (show Kd.M k41 _ _ _ (⟨1000, (-1000)⟩ : S41) [.int .i64 1000, .int .i64 (-1000)] from (k41_mkM _ _ _ (⟨1000, (-1000)⟩ : S41) )) (Reps.c2 (show Kd.M k41 _ _ _ (⟨1000, 1000⟩ : S41) [.int .i64 1000, .int .i64 1000] from (k41_mkM _ _ _ (⟨1000, 1000⟩ : S41) )) (Reps.c2 (show Kd.M k41 _ _ _ (⟨(-1000), 1000⟩ : S41) [.int .i64 (-1000), .int .i64 1000] from (k41_mkM _ _ _ (⟨(-1000), 1000⟩ : S41) )) (Reps.none _ _)))))); intro v106 w10 ho11 hb hg_ hnew_; clear hg_ hnew_; (first | rw [← Ny105.out] at ho11 | (simp only [Int.reduceToNat] at ho11; rw [← Ny105.out] at ho11)); have n0_ := Aside0.mk (Kd.S_elder' (by (with_reducible repeat (first | apply Kd.S_alloc | apply Kd.S_drewN | apply Kd.S_drew)); exact HO_105000.out) (Kd.R_base ho11) hb); have n1_ := Aside0.mk (Kd.R_lower ho11 (bZ (by repeat (first | (with_reducible first | exact HB.out | apply bA | apply bN | apply bD | refine bE ?_ GE103.out | refine bE ?_ GE104.out) | exact HB.out)))); have n2_ := Aside0.mk (kB (g := gb103) (o := .cells #[.slice none 0 0, .int .i64 0, .int .i64 0, .int .i64 0, .int .i64 0, .int .i64 0, .int .i64 0, .int .i64 0, .int .i64 0] 38 (0, 0)) (by (with_reducible repeat (first | refine kN ?_ _ | refine kD ?_ | refine kA ?_ _)); exact BK103.out) hb); have n3_ := Aside0.mk (kB (g := gb104) (o := .cells #[u105000, .int .i64 2, .int .i64 3, .int .i64 4, .int .i64 2, .int .i64 50, .int .i64 2, .int .i64 10, .int .i64 a0] 38 (0, 0)) (by (with_reducible repeat (first | refine kN ?_ _ | refine kD ?_ | refine kA ?_ _)); exact BK104.out) hb); have n4_ := Aside0.mk (bS (by repeat (first | (with_reducible first | exact HB.out | apply bA | apply bN | apply bD | refine bE ?_ GE103.out | refine bE ?_ GE104.out) | exact HB.out)) hb); clear HO_105000; clear BK103; clear BK104; clear HB; have HO_105000 := n0_; have HO107 := n1_; have BK103 := n2_; have BK104 := n3_; have HB := n4_; clear n0_ n1_ n2_ n3_ n4_; clear hb ho11; obtain ⟨Ao12, co12, eo12⟩ := Kd.R_slice HO107.out; subst eo12) | ((with_reducible refine gate_builtin (b := .append) (xs := #[.tmp 10, .tmp 17]) rfl ?_); at_builtin; refine Kd.S_append k30 (w0 := w) w.heap.size rfl (.tmp 10) (.tmp 17) 36 30 (.agg #[(.slice none 0 0), (.int .i64 0), (.int .i64 0), (.int .i64 0), (.int .i64 0)]) 56 rfl Try.underlying36 info30 rfl (by decide) (by omega) u105000 x105000_1 (⟨y105, 1, 200, 5, 100⟩ : S30) [.slice Ao12 y105.length co12, .int .i64 1, .int .i64 200, .int .i64 5, .int .i64 100] (fun _ => True) (fun k_ => some k_ = (.slice Ao12 y105.length co12 : Value).ownBlock) rfl rfl ?aP (fun k_ hk_ => ((Kd.R_mono (ok' := fun k_ => ((fun _ => True)) k_ ∧ some k_ ≠ (u105000 : Value).ownBlock) (Kd.R_apart' (HO107.out) (Kd.S_typed HO_105000.out) (by decide)) (fun k_ hk => ⟨trivial, hk.2⟩))).1 k_ hk_.symm) ?aF ?aO ?aB ?aS ?aL ?_; (case aP => exact k30_mkM _ _ _ (⟨y105, 1, 200, 5, 100⟩ : S30) (Kd.R_mono (Kd.R_tight rfl (Kd.R_mono (ok' := fun k_ => ((fun _ => True)) k_ ∧ some k_ ≠ (u105000 : Value).ownBlock) (Kd.R_apart' (HO107.out) (Kd.S_typed HO_105000.out) (by decide)) (fun k_ hk => ⟨trivial, hk.2⟩))) (fun _ h_ => h_))); (case aB => exact (by repeat (first | (with_reducible first | exact HB.out | apply bA | apply bN | apply bD | refine bE ?_ GE103.out | refine bE ?_ GE104.out) | exact HB.out))); (case aF => exact (fun _ _ => trivial)); (case aO => exact (by (with_reducible repeat (first | apply Kd.S_alloc | apply Kd.S_drewN | apply Kd.S_drew)); exact Kd.S_mono HO_105000.out (fun k_ hk => ⟨trivial, fun e_ => hk.2 e_⟩))); (case aS => exact (bZ (by repeat (first | (with_reducible first | exact HB.out | apply bA | apply bN | apply bD | refine bE ?_ GE103.out | refine bE ?_ GE104.out) | exact HB.out)))); (case aL => have := LMc7.out; omega); intro v109 w13 ho hb hg hat; rw [← Ny108.out] at ho; have n0_ := Aside0.mk (blk_grown (g := gb103) (o := .cells #[.slice none 0 0, .int .i64 0, .int .i64 0, .int .i64 0, .int .i64 0, .int .i64 0, .int .i64 0, .int .i64 0, .int .i64 0] 38 (0, 0)) (by (with_reducible repeat (first | refine kN ?_ _ | refine kD ?_ | refine kA ?_ _)); exact BK103.out) hg (Kd.S_ne HO_105000.out BK103.out (by decide))); have n1_ := Aside0.mk (blk_grown (g := gb104) (o := .cells #[u105000, .int .i64 2, .int .i64 3, .int .i64 4, .int .i64 2, .int .i64 50, .int .i64 2, .int .i64 10, .int .i64 a0] 38 (0, 0)) (by (with_reducible repeat (first | refine kN ?_ _ | refine kD ?_ | refine kA ?_ _)); exact BK104.out) hg (Kd.S_ne HO_105000.out BK104.out (by decide))); have n2_ := Aside0.mk (hb); have n3_ := Aside0.mk (ho); clear BK103; clear BK104; clear HB; clear HO_105000; clear HO107; have BK103 := n0_; have BK104 := n1_; have HB := n2_; have HO110 := n3_; clear n0_ n1_ n2_ n3_; clear ho hb hg hat; obtain ⟨Ao14, co14, eo14⟩ := Kd.S_slice HO110.out; subst eo14; have hcz15_0 : w13.cell? ⟨gb104, 0, none⟩ = some (u105000) := (kC BK104.out 0).trans rfl; have hcz15_1 : w13.cell? ⟨gb104, 1, none⟩ = some (.int .i64 2) := (kC BK104.out 1).trans rfl; have hcz15_2 : w13.cell? ⟨gb104, 2, none⟩ = some (.int .i64 3) := (kC BK104.out 2).trans rfl; have hcz15_3 : w13.cell? ⟨gb104, 3, none⟩ = some (.int .i64 4) := (kC BK104.out 3).trans rfl; have hcz15_4 : w13.cell? ⟨gb104, 4, none⟩ = some (.int .i64 2) := (kC BK104.out 4).trans rfl; have hcz15_5 : w13.cell? ⟨gb104, 5, none⟩ = some (.int .i64 50) := (kC BK104.out 5).trans rfl; have hcz15_6 : w13.cell? ⟨gb104, 6, none⟩ = some (.int .i64 2) := (kC BK104.out 6).trans rfl; have hcz15_7 : w13.cell? ⟨gb104, 7, none⟩ = some (.int .i64 10) := (kC BK104.out 7).trans rfl; have hcz15_8 : w13.cell? ⟨gb104, 8, none⟩ = some (.int .i64 a0) := (kC BK104.out 8).trans rfl; have hfz15_0 := kZ BK104.out 0; have hfz15_1 := kZ BK104.out 1; have hfz15_2 := kZ BK104.out 2; have hfz15_3 := kZ BK104.out 3; have hfz15_4 := kZ BK104.out 4; have hfz15_5 := kZ BK104.out 5; have hfz15_6 := kZ BK104.out 6; have hfz15_7 := kZ BK104.out 7; have hfz15_8 := kZ BK104.out 8))
     go_roundg k1
     case measure => have := HK1.out; omega
     case rel => exact ⟨(wrap64 (x7_1 + 1)), (y108), (.slice Ao14 y108.length co14), (by first | rfl | (simp; done) | (simp [*]; done)), H', ⟨by have := HK1.out; omega⟩, ⟨by (with_reducible repeat (first | apply Kd.S_alloc | apply Kd.S_drewN | apply Kd.S_drew)); exact Kd.S_mono (Kd.S_far (p := ⟨gb104, 0, none⟩) (Kd.S_types HO110.out BK104.out (by decide)) (fun _ hk => hk.2) (.slice Ao14 y108.length co14)) (fun _ hk => trivial)⟩, ⟨by (with_reducible repeat (first | refine kN ?_ _ | refine kD ?_ | refine kA ?_ _)); refine kF ?_ NB103_104.out _; (with_reducible repeat (first | refine kN ?_ _ | refine kD ?_ | refine kA ?_ _)); exact BK103.out⟩, ⟨by (with_reducible repeat (first | refine kN ?_ _ | refine kD ?_ | refine kA ?_ _)); refine kP (cs := #[u105000, .int .i64 2, .int .i64 3, .int .i64 4, .int .i64 2, .int .i64 50, .int .i64 2, .int .i64 10, .int .i64 a0]) ?_ 0 _ rfl; (with_reducible repeat (first | refine kN ?_ _ | refine kD ?_ | refine kA ?_ _)); exact BK104.out⟩, ⟨by repeat (first | (with_reducible first | exact HB.out | apply bA | apply bN | apply bD | refine bE ?_ GE103.out | refine bE ?_ GE104.out) | exact HB.out)⟩⟩
    ·rw [if_neg c7] at H
     exact absurd H (by simp)
   ·rw [if_neg c6] at H
    have c6b0 : decide (x7_1 < a0) = false := decide_eq_false c6
    clear c6
    simp only [Option.some.injEq, Prod.mk.injEq] at H
    obtain ⟨rfl, rfl, rfl, rfl, rfl, rfl, rfl, rfl, rfl⟩ := H
    have hnb16 := NB104_103.out
    have hnc16 := NB103_104.out
    have hcz17_0 : wr.cell? ⟨gb104, 0, none⟩ = some (u105000) := (kC BK104.out 0).trans rfl
    have hcz17_1 : wr.cell? ⟨gb104, 1, none⟩ = some (.int .i64 2) := (kC BK104.out 1).trans rfl
    have hcz17_2 : wr.cell? ⟨gb104, 2, none⟩ = some (.int .i64 3) := (kC BK104.out 2).trans rfl
    have hcz17_3 : wr.cell? ⟨gb104, 3, none⟩ = some (.int .i64 4) := (kC BK104.out 3).trans rfl
    have hcz17_4 : wr.cell? ⟨gb104, 4, none⟩ = some (.int .i64 2) := (kC BK104.out 4).trans rfl
    have hcz17_5 : wr.cell? ⟨gb104, 5, none⟩ = some (.int .i64 50) := (kC BK104.out 5).trans rfl
    have hcz17_6 : wr.cell? ⟨gb104, 6, none⟩ = some (.int .i64 2) := (kC BK104.out 6).trans rfl
    have hcz17_7 : wr.cell? ⟨gb104, 7, none⟩ = some (.int .i64 10) := (kC BK104.out 7).trans rfl
    have hcz17_8 : wr.cell? ⟨gb104, 8, none⟩ = some (.int .i64 a0) := (kC BK104.out 8).trans rfl
    have hfz17_0 := kZ BK104.out 0
    have hfz17_1 := kZ BK104.out 1
    have hfz17_2 := kZ BK104.out 2
    have hfz17_3 := kZ BK104.out 3
    have hfz17_4 := kZ BK104.out 4
    have hfz17_5 := kZ BK104.out 5
    have hfz17_6 := kZ BK104.out 6
    have hfz17_7 := kZ BK104.out 7
    have hfz17_8 := kZ BK104.out 8
    obtain ⟨Ao18, co18, eo18⟩ := Kd.S_slice HO_105000.out
    subst eo18
    have hcz19_0 : wr.cell? ⟨gb103, 0, none⟩ = some (.slice none 0 0) := (kC BK103.out 0).trans rfl
    have hcz19_1 : wr.cell? ⟨gb103, 1, none⟩ = some (.int .i64 0) := (kC BK103.out 1).trans rfl
    have hcz19_2 : wr.cell? ⟨gb103, 2, none⟩ = some (.int .i64 0) := (kC BK103.out 2).trans rfl
    have hcz19_3 : wr.cell? ⟨gb103, 3, none⟩ = some (.int .i64 0) := (kC BK103.out 3).trans rfl
    have hcz19_4 : wr.cell? ⟨gb103, 4, none⟩ = some (.int .i64 0) := (kC BK103.out 4).trans rfl
    have hcz19_5 : wr.cell? ⟨gb103, 5, none⟩ = some (.int .i64 0) := (kC BK103.out 5).trans rfl
    have hcz19_6 : wr.cell? ⟨gb103, 6, none⟩ = some (.int .i64 0) := (kC BK103.out 6).trans rfl
    have hcz19_7 : wr.cell? ⟨gb103, 7, none⟩ = some (.int .i64 0) := (kC BK103.out 7).trans rfl
    have hcz19_8 : wr.cell? ⟨gb103, 8, none⟩ = some (.int .i64 0) := (kC BK103.out 8).trans rfl
    have hfz19_0 := kZ BK103.out 0
    have hfz19_1 := kZ BK103.out 1
    have hfz19_2 := kZ BK103.out 2
    have hfz19_3 := kZ BK103.out 3
    have hfz19_4 := kZ BK103.out 4
    have hfz19_5 := kZ BK103.out 5
    have hfz19_6 := kZ BK103.out 6
    have hfz19_7 := kZ BK103.out 7
    have hfz19_8 := kZ BK103.out 8
    go_wp2
    refine bodyPost_ret (results_cell_row rfl _ _ gb103 38 #[.slice Ao18 x105000_1.length co18, .int .i64 2, .int .i64 3, .int .i64 4, .int .i64 2, .int .i64 50, .int .i64 2, .int .i64 10, .int .i64 a0] (0, 0) _ rfl (by (with_reducible repeat (first | refine kN ?_ _ | refine kD ?_ | refine kA ?_ _)); refine kP (cs := #[.slice Ao18 x105000_1.length co18, .int .i64 2, .int .i64 3, .int .i64 4, .int .i64 2, .int .i64 50, .int .i64 2, .int .i64 10, .int .i64 0]) ?_ 8 _ rfl; (with_reducible repeat (first | refine kN ?_ _ | refine kD ?_ | refine kA ?_ _)); refine kP (cs := #[.slice Ao18 x105000_1.length co18, .int .i64 2, .int .i64 3, .int .i64 4, .int .i64 2, .int .i64 50, .int .i64 2, .int .i64 0, .int .i64 0]) ?_ 7 _ rfl; (with_reducible repeat (first | refine kN ?_ _ | refine kD ?_ | refine kA ?_ _)); refine kP (cs := #[.slice Ao18 x105000_1.length co18, .int .i64 2, .int .i64 3, .int .i64 4, .int .i64 2, .int .i64 50, .int .i64 0, .int .i64 0, .int .i64 0]) ?_ 6 _ rfl; (with_reducible repeat (first | refine kN ?_ _ | refine kD ?_ | refine kA ?_ _)); refine kP (cs := #[.slice Ao18 x105000_1.length co18, .int .i64 2, .int .i64 3, .int .i64 4, .int .i64 2, .int .i64 0, .int .i64 0, .int .i64 0, .int .i64 0]) ?_ 5 _ rfl; (with_reducible repeat (first | refine kN ?_ _ | refine kD ?_ | refine kA ?_ _)); refine kP (cs := #[.slice Ao18 x105000_1.length co18, .int .i64 2, .int .i64 3, .int .i64 4, .int .i64 0, .int .i64 0, .int .i64 0, .int .i64 0, .int .i64 0]) ?_ 4 _ rfl; (with_reducible repeat (first | refine kN ?_ _ | refine kD ?_ | refine kA ?_ _)); refine kP (cs := #[.slice Ao18 x105000_1.length co18, .int .i64 2, .int .i64 3, .int .i64 0, .int .i64 0, .int .i64 0, .int .i64 0, .int .i64 0, .int .i64 0]) ?_ 3 _ rfl; (with_reducible repeat (first | refine kN ?_ _ | refine kD ?_ | refine kA ?_ _)); refine kP (cs := #[.slice Ao18 x105000_1.length co18, .int .i64 2, .int .i64 0, .int .i64 0, .int .i64 0, .int .i64 0, .int .i64 0, .int .i64 0, .int .i64 0]) ?_ 2 _ rfl; (with_reducible repeat (first | refine kN ?_ _ | refine kD ?_ | refine kA ?_ _)); refine kP (cs := #[.slice Ao18 x105000_1.length co18, .int .i64 0, .int .i64 0, .int .i64 0, .int .i64 0, .int .i64 0, .int .i64 0, .int .i64 0, .int .i64 0]) ?_ 1 _ rfl; (with_reducible repeat (first | refine kN ?_ _ | refine kD ?_ | refine kA ?_ _)); refine kP (cs := #[.slice none 0 0, .int .i64 0, .int .i64 0, .int .i64 0, .int .i64 0, .int .i64 0, .int .i64 0, .int .i64 0, .int .i64 0]) ?_ 0 _ rfl; (with_reducible repeat (first | refine kN ?_ _ | refine kD ?_ | refine kA ?_ _)); exact BK103.out) Try.underlying38 rfl (by kernel_rfl)) rfl ?_
    exact ⟨_, by first | rfl | (simp [errW_none, errW_some] <;> rfl) | (simp [*, errW_none, errW_some] <;> rfl), by (with_reducible repeat (first | apply Kd.S_alloc | apply Kd.S_drewN | apply Kd.S_drew)); exact Kd.S_mono (Kd.S_far (p := ⟨gb103, 8, none⟩) (Kd.S_far (p := ⟨gb103, 7, none⟩) (Kd.S_far (p := ⟨gb103, 6, none⟩) (Kd.S_far (p := ⟨gb103, 5, none⟩) (Kd.S_far (p := ⟨gb103, 4, none⟩) (Kd.S_far (p := ⟨gb103, 3, none⟩) (Kd.S_far (p := ⟨gb103, 2, none⟩) (Kd.S_far (p := ⟨gb103, 1, none⟩) (Kd.S_far (p := ⟨gb103, 0, none⟩) (Kd.S_types HO_105000.out BK103.out (by decide)) (fun _ hk => hk.2) (.slice Ao18 x105000_1.length co18)) (fun _ hk => hk.2) (.int .i64 2)) (fun _ hk => hk.2) (.int .i64 3)) (fun _ hk => hk.2) (.int .i64 4)) (fun _ hk => hk.2) (.int .i64 2)) (fun _ hk => hk.2) (.int .i64 50)) (fun _ hk => hk.2) (.int .i64 2)) (fun _ hk => hk.2) (.int .i64 10)) (fun _ hk => hk.2) (.int .i64 a0)) (fun _ hk => trivial), by repeat (first | (with_reducible first | exact HB.out | apply bA | apply bN | apply bD | refine bE ?_ GE103.out | refine bE ?_ GE104.out) | exact HB.out)⟩

attribute [local go_sem] Go.Instr.field Go.part Go.isAgg Go.asAgg
/-! ### apogeelaw19_phase: function 9 -/
def apogeelaw19_phase.f (k : Nat)  : Option ((List (S41)) × Int × Int × Int × Int) := (apogeelaw13_Mission.f k 1).bind fun bt112 => (if 0 < (bt112.1.length : Int) then (some ((rd_T30 bt112.1 0).f0, (rd_T30 bt112.1 0).f1, (rd_T30 bt112.1 0).f2, (rd_T30 bt112.1 0).f3, (rd_T30 bt112.1 0).f4)) else (none))
theorem apogeelaw19_phase.mono : ∀ k, LeO (apogeelaw19_phase.f k ) (apogeelaw19_phase.f (k + 1) ) := by
 intro  k
 unfold apogeelaw19_phase.f
 repeat' first
   | (with_reducible exact apogeelaw13_Mission.mono _ _)
   | (with_reducible exact LeO.refl _)
   | (with_reducible exact LeO.none _)
   | (with_reducible refine LeO.ite ?_ ?_)
   | (with_reducible refine LeO.bind ?_ (fun _ => ?_))
   | exact apogeelaw13_Mission.mono _ _
   | exact LeO.none _
   | refine LeO.ite ?_ ?_
   | refine LeO.bind ?_ (fun _ => ?_)
set_option maxHeartbeats 8000000 in
set_option maxRecDepth 100000 in
theorem apogeelaw19_phase.calls (k : Nat)  (r1 : List (S41)) (r2 : Int) (r3 : Int) (r4 : Int) (r5 : Int) (w : World) (h : apogeelaw19_phase.f k  = some (r1, r2, r3, r4, r5)) :
  Calls Try.prog 9 #[] w fun e w' => ∃ v0_ : Value, e = .returned (.agg #[v0_, .int .i64 r2, .int .i64 r3, .int .i64 r4, .int .i64 r5]) ∧ Kd.R k41 41 w' w.heap.size (fun _ => True) v0_ r1 ∧ Below w.heap.size w w' := by
 have hu30 := Try.underlying30
 have HB := Aside0.mk (Below.refl w.heap.size w)
 have H : ((apogeelaw13_Mission.f k 1).bind fun bt112 => (if 0 < (bt112.1.length : Int) then (some ((rd_T30 bt112.1 0).f0, (rd_T30 bt112.1 0).f1, (rd_T30 bt112.1 0).f2, (rd_T30 bt112.1 0).f3, (rd_T30 bt112.1 0).f4)) else (none))) = some (r1, r2, r3, r4, r5) := h
 clear h
 replace H := Option.bind_eq_some_iff.mp H
 obtain ⟨⟨t112, t115, t116, t117, t118, t119, t120, t121, t122⟩, A10, H⟩ := H
 replace H : (if 0 < (t112.length : Int) then (some ((rd_T30 t112 0).f0, (rd_T30 t112 0).f1, (rd_T30 t112 0).f2, (rd_T30 t112 0).f3, (rd_T30 t112 0).f4)) else (none)) = some (r1, r2, r3, r4, r5) := H
 have A1 := Aside0.mk A10
 clear A10
 by_cases c2 : 0 < (t112.length : Int)
 ·rw [if_pos c2] at H
  have c2b0 : decide (0 < (t112.length : Int)) = true := decide_eq_true c2
  have c2b1 : decide (0 < t112.length) = true := decide_eq_true (by omega)
  clear c2
  simp only [Option.some.injEq, Prod.mk.injEq] at H
  obtain ⟨rfl, rfl, rfl, rfl, rfl⟩ := H
  have hu38 := Try.underlying38; have hu36 := Try.underlying36
  go_enter Try.func9, Try.ntmps9
  go_wp2_with (first | ((with_reducible refine gate_dst (N := 0) rfl ?_); refine box_event ?hg (N := 0) ?hd (cs := #[.slice none 0 0, .int .i64 0, .int .i64 0, .int .i64 0, .int .i64 0]) (t := 30) ?hr ?_; (case hd => rfl); (case hg => rfl); (case hr => first | (go_simp; done) | (go_simp; rfl)); intro gb111 hg w3 hbox hb; have n0_ := Aside0.mk (bS (by repeat (first | (with_reducible first | exact HB.out | apply bA | apply bN | apply bD) | exact HB.out)) hb); have n1_ := Aside0.mk (hbox); have n2_ := Aside0.mk ((by rw [hg]; exact (bZ (by repeat (first | (with_reducible first | exact HB.out | apply bA | apply bN | apply bD) | exact HB.out))) : w.heap.size ≤ gb111)); have n3_ := Aside0.mk ((by rw [hg]; exact (bZ (by repeat (first | (with_reducible first | exact HB.out | apply bA | apply bN | apply bD) | exact HB.out))) : w.heap.size ≤ gb111)); clear HB; have HB := n0_; have BK111 := n1_; have GW111 := n2_; have GE111 := n3_; clear n0_ n1_ n2_ n3_; clear hb hbox hg) | ((with_reducible refine gate_callee (f := 13) rfl ?_); refine goesL_ (some 1) rfl rfl Try.func13 (by kernel_rfl) rfl #[.int .i64 1] rfl (by (try simp only [sD, sE, sF]); first | done | rfl | (simp only [sG, sH]; rfl)) ?_; (with_reducible refine (apogeelaw13_Mission.calls k 1 t112 t115 t116 t117 t118 t119 t120 t121 t122 _ A1.out).mono ?_); rintro e w4 ⟨v113, rfl, ho0, hb⟩; refine ⟨_, rfl, ?_⟩; have n0_ := Aside0.mk (Kd.S_lower (Kd.S_newB ho0 (g := gb111) (o := .cells #[.slice none 0 0, .int .i64 0, .int .i64 0, .int .i64 0, .int .i64 0] 30 (0, 0)) (by (with_reducible repeat (first | refine kN ?_ _ | refine kD ?_ | refine kA ?_ _)); exact BK111.out)) (bZ (by repeat (first | (with_reducible first | exact HB.out | apply bA | apply bN | apply bD | refine bE ?_ GE111.out) | exact HB.out)))); have n1_ := Aside0.mk (kB (g := gb111) (o := .cells #[.slice none 0 0, .int .i64 0, .int .i64 0, .int .i64 0, .int .i64 0] 30 (0, 0)) (by (with_reducible repeat (first | refine kN ?_ _ | refine kD ?_ | refine kA ?_ _)); exact BK111.out) hb); have n2_ := Aside0.mk (bS (by repeat (first | (with_reducible first | exact HB.out | apply bA | apply bN | apply bD | refine bE ?_ GE111.out) | exact HB.out)) hb); clear BK111; clear HB; have HO114 := n0_; have BK111 := n1_; have HB := n2_; clear n0_ n1_ n2_; (try clear hb); (try clear hb2); (try clear hk); (try clear hi); (try clear ho0); obtain ⟨Ao5, co5, eo5⟩ := Kd.S_slice HO114.out; subst eo5; have p123 : 0 ≤ (0 : Int) := (by omega); have q123 : 0 < (t112.length : Int) := of_decide_eq_true (by first | (with_reducible assumption) | assumption); obtain ⟨ad123, A123_0, c123_0, e123, hx123_0, hx123_1, hx123_2, hx123_3, hx123_4, hl123_0, hi123_0⟩ := at_T30 (Kd.S_reads' HO114.out).2.2 0 p123 q123; cases e123; obtain ⟨ce123, hce123, hMe123, hcc123⟩ := Kd.S_get HO114.out z30 0 p123 (by first | exact q123 | exact of_decide_eq_true (by first | (with_reducible assumption) | assumption) | (have e_ := (Kd.S_reads' HO114.out).1; omega)); obtain ⟨ve123_0, rfl, ge123_0⟩ := k30_openM hMe123; have hv123_0 := hcc123 0 _ rfl; rw [Nat.add_zero] at hv123_0; replace hv123_0 := Option.some.inj (hv123_0.symm.trans hx123_0); rw [hv123_0] at ge123_0; have HL123_0 := Aside0.mk (show Kd.R k41 41 _ _ _ _ ((rd_T30 t112 0).f0) from ge123_0); clear hv123_0 ge123_0; clear hcc123 hce123; have qi123 : (0 < t112.length) = True := eq_true (by omega); (try rw [show ((0 : Int)).toNat = 0 from rfl] at hx123_0); (try rw [show 0 * 5 = 0 from rfl] at hx123_0); (try rw [Addr.add_zero'] at hx123_0); (try rw [show ((0 : Int)).toNat = 0 from rfl] at hx123_1); (try rw [show 0 * 5 = 0 from rfl] at hx123_1); (try rw [Addr.add_zero'] at hx123_1); (try rw [show ((0 : Int)).toNat = 0 from rfl] at hx123_2); (try rw [show 0 * 5 = 0 from rfl] at hx123_2); (try rw [Addr.add_zero'] at hx123_2); (try rw [show ((0 : Int)).toNat = 0 from rfl] at hx123_3); (try rw [show 0 * 5 = 0 from rfl] at hx123_3); (try rw [Addr.add_zero'] at hx123_3); (try rw [show ((0 : Int)).toNat = 0 from rfl] at hx123_4); (try rw [show 0 * 5 = 0 from rfl] at hx123_4); (try rw [Addr.add_zero'] at hx123_4); have HR123_0 := Aside0.mk hi123_0; have HC123_0 := Aside0.mk hl123_0; clear hi123_0 hl123_0; replace p123 := eq_true p123; replace q123 := eq_true q123; have hcz6_0 : w4.cell? ⟨gb111, 0, none⟩ = some (.slice none 0 0) := (kC BK111.out 0).trans rfl; have hcz6_1 : w4.cell? ⟨gb111, 1, none⟩ = some (.int .i64 0) := (kC BK111.out 1).trans rfl; have hcz6_2 : w4.cell? ⟨gb111, 2, none⟩ = some (.int .i64 0) := (kC BK111.out 2).trans rfl; have hcz6_3 : w4.cell? ⟨gb111, 3, none⟩ = some (.int .i64 0) := (kC BK111.out 3).trans rfl; have hcz6_4 : w4.cell? ⟨gb111, 4, none⟩ = some (.int .i64 0) := (kC BK111.out 4).trans rfl; have hfz6_0 := kZ BK111.out 0; have hfz6_1 := kZ BK111.out 1; have hfz6_2 := kZ BK111.out 2; have hfz6_3 := kZ BK111.out 3; have hfz6_4 := kZ BK111.out 4))
  refine bodyPost_ret (results_cell_row rfl _ _ gb111 30 #[.slice A123_0 ((rd_T30 t112 0).f0).length c123_0, .int .i64 ((rd_T30 t112 0).f1), .int .i64 ((rd_T30 t112 0).f2), .int .i64 ((rd_T30 t112 0).f3), .int .i64 ((rd_T30 t112 0).f4)] (0, 0) _ rfl (by (with_reducible repeat (first | refine kN ?_ _ | refine kD ?_ | refine kA ?_ _)); refine kP (cs := #[.slice A123_0 ((rd_T30 t112 0).f0).length c123_0, .int .i64 ((rd_T30 t112 0).f1), .int .i64 ((rd_T30 t112 0).f2), .int .i64 ((rd_T30 t112 0).f3), .int .i64 0]) ?_ 4 _ rfl; (with_reducible repeat (first | refine kN ?_ _ | refine kD ?_ | refine kA ?_ _)); refine kP (cs := #[.slice A123_0 ((rd_T30 t112 0).f0).length c123_0, .int .i64 ((rd_T30 t112 0).f1), .int .i64 ((rd_T30 t112 0).f2), .int .i64 0, .int .i64 0]) ?_ 3 _ rfl; (with_reducible repeat (first | refine kN ?_ _ | refine kD ?_ | refine kA ?_ _)); refine kP (cs := #[.slice A123_0 ((rd_T30 t112 0).f0).length c123_0, .int .i64 ((rd_T30 t112 0).f1), .int .i64 0, .int .i64 0, .int .i64 0]) ?_ 2 _ rfl; (with_reducible repeat (first | refine kN ?_ _ | refine kD ?_ | refine kA ?_ _)); refine kP (cs := #[.slice A123_0 ((rd_T30 t112 0).f0).length c123_0, .int .i64 0, .int .i64 0, .int .i64 0, .int .i64 0]) ?_ 1 _ rfl; (with_reducible repeat (first | refine kN ?_ _ | refine kD ?_ | refine kA ?_ _)); refine kP (cs := #[.slice none 0 0, .int .i64 0, .int .i64 0, .int .i64 0, .int .i64 0]) ?_ 0 _ rfl; (with_reducible repeat (first | refine kN ?_ _ | refine kD ?_ | refine kA ?_ _)); exact BK111.out) Try.underlying30 rfl (by kernel_rfl)) rfl ?_
  exact ⟨_, by first | rfl | (simp [errW_none, errW_some] <;> rfl) | (simp [*, errW_none, errW_some] <;> rfl), by (with_reducible repeat (first | apply Kd.R_alloc | apply Kd.R_drewN | apply Kd.R_drew)); exact Kd.R_mono (Kd.R_far (p := ⟨gb111, 4, none⟩) (Kd.R_far (p := ⟨gb111, 3, none⟩) (Kd.R_far (p := ⟨gb111, 2, none⟩) (Kd.R_far (p := ⟨gb111, 1, none⟩) (Kd.R_far (p := ⟨gb111, 0, none⟩) (Kd.R_types HL123_0.out BK111.out (by decide)) (fun _ hk => hk.2) (.slice A123_0 ((rd_T30 t112 0).f0).length c123_0)) (fun _ hk => hk.2) (.int .i64 ((rd_T30 t112 0).f1))) (fun _ hk => hk.2) (.int .i64 ((rd_T30 t112 0).f2))) (fun _ hk => hk.2) (.int .i64 ((rd_T30 t112 0).f3))) (fun _ hk => hk.2) (.int .i64 ((rd_T30 t112 0).f4))) (fun _ hk => trivial), by repeat (first | (with_reducible first | exact HB.out | apply bA | apply bN | apply bD | refine bE ?_ GE111.out) | exact HB.out)⟩
 ·rw [if_neg c2] at H
  exact absurd H (by simp)

/-! ### wide_Of: function 24 -/
def wide_Of.f (a0 : Int) : Option (Int × Int) := some (a0 / 9223372036854775808, IntKind.u64.wrap (a0))
set_option maxHeartbeats 8000000 in
set_option maxRecDepth 100000 in
theorem wide_Of.calls (a0 : Int) (r1 : Int) (r2 : Int) (w : World) (h : wide_Of.f a0 = some (r1, r2)) :
  Calls Try.prog 24 #[.int .i64 a0] w fun e w' => e = .returned (.agg #[.int .i64 r1, .int .u64 r2]) ∧ Below w.heap.size w w' := by
 have hu61 := Try.underlying61
 have HB := Aside0.mk (Below.refl w.heap.size w)
 have H : (some (a0 / 9223372036854775808, IntKind.u64.wrap (a0))) = some (r1, r2) := h
 clear h
 simp only [Option.some.injEq, Prod.mk.injEq] at H
 obtain ⟨rfl, rfl⟩ := H
 go_enter Try.func24, Try.ntmps24
 go_wp2_with (first | ((with_reducible refine gate_dst (N := 2) rfl ?_); refine box_event ?hg (N := 2) ?hd (cs := #[.int .i64 0, .int .u64 0]) (t := 61) ?hr ?_; (case hd => rfl); (case hg => rfl); (case hr => first | (go_simp; done) | (go_simp; rfl)); intro gb124 hg w2 hbox hb; have n0_ := Aside0.mk (bS (by repeat (first | (with_reducible first | exact HB.out | apply bA | apply bN | apply bD) | exact HB.out)) hb); have n1_ := Aside0.mk (hbox); have n2_ := Aside0.mk ((by rw [hg]; exact (bZ (by repeat (first | (with_reducible first | exact HB.out | apply bA | apply bN | apply bD) | exact HB.out))) : w.heap.size ≤ gb124)); have n3_ := Aside0.mk ((by rw [hg]; exact (bZ (by repeat (first | (with_reducible first | exact HB.out | apply bA | apply bN | apply bD) | exact HB.out))) : w.heap.size ≤ gb124)); clear HB; have HB := n0_; have BK124 := n1_; have GW124 := n2_; have GE124 := n3_; clear n0_ n1_ n2_ n3_; clear hb hbox hg; have hcz3_0 : w2.cell? ⟨gb124, 0, none⟩ = some (.int .i64 0) := (kC BK124.out 0).trans rfl; have hcz3_1 : w2.cell? ⟨gb124, 1, none⟩ = some (.int .u64 0) := (kC BK124.out 1).trans rfl; have hfz3_0 := kZ BK124.out 0; have hfz3_1 := kZ BK124.out 1))
 refine bodyPost_ret (results_cell_row rfl _ _ gb124 61 #[.int .i64 (a0 / 9223372036854775808), .int .u64 (IntKind.u64.wrap (a0))] (0, 0) _ rfl (by (with_reducible repeat (first | refine kN ?_ _ | refine kD ?_ | refine kA ?_ _)); refine kP (cs := #[.int .i64 (a0 / 9223372036854775808), .int .u64 0]) ?_ 1 _ rfl; (with_reducible repeat (first | refine kN ?_ _ | refine kD ?_ | refine kA ?_ _)); refine kP (cs := #[.int .i64 0, .int .u64 0]) ?_ 0 _ rfl; (with_reducible repeat (first | refine kN ?_ _ | refine kD ?_ | refine kA ?_ _)); exact BK124.out) Try.underlying61 rfl (by kernel_rfl)) rfl ?_
 exact ⟨by first | rfl | (simp [errW_none, errW_some] <;> rfl) | (simp [*, errW_none, errW_some] <;> rfl), by repeat (first | (with_reducible first | exact HB.out | apply bA | apply bN | apply bD | refine bE ?_ GE124.out) | exact HB.out)⟩

/-! ### wide_Wide_Int: function 36 -/
def wide_Wide_Int.f (a0_0 : Int) (a0_1 : Int) : Option (Int × Bool) := (wide_Of.f (wrap64 (a0_1))).bind fun bt126 => (if (!(bt126.1 == a0_0) || (!(bt126.2 == a0_1))) = true then (some (0, false)) else (some (wrap64 (a0_1), true)))
set_option maxHeartbeats 8000000 in
set_option maxRecDepth 100000 in
theorem wide_Wide_Int.calls (a0_0 : Int) (a0_1 : Int) (r1 : Int) (r2 : Bool) (w : World) (h : wide_Wide_Int.f a0_0 a0_1 = some (r1, r2)) :
  Calls Try.prog 36 #[.agg #[.int .i64 a0_0, .int .u64 a0_1]] w fun e w' => e = .returned (.tuple #[.int .i64 r1, .bool r2]) ∧ Below w.heap.size w w' := by
 have hu61 := Try.underlying61
 have HB := Aside0.mk (Below.refl w.heap.size w)
 have H : ((wide_Of.f (wrap64 (a0_1))).bind fun bt126 => (if (!(bt126.1 == a0_0) || (!(bt126.2 == a0_1))) = true then (some (0, false)) else (some (wrap64 (a0_1), true)))) = some (r1, r2) := h
 clear h
 replace H := Option.bind_eq_some_iff.mp H
 obtain ⟨⟨t126, t127⟩, A20, H⟩ := H
 replace H : (if (!(t126 == a0_0) || (!(t127 == a0_1))) = true then (some (0, false)) else (some (wrap64 (a0_1), true))) = some (r1, r2) := H
 have A2 := Aside0.mk A20
 clear A20
 by_cases c3 : (!(t126 == a0_0) || (!(t127 == a0_1))) = true
 ·rw [if_pos c3] at H
  have c3b0 : (!(t126 == a0_0) || (!(t127 == a0_1))) = true := c3
  clear c3
  simp only [Option.some.injEq, Prod.mk.injEq] at H
  obtain ⟨rfl, rfl⟩ := H
  go_enter Try.func36, Try.ntmps36
  try go_wp2_with (first | ((with_reducible refine gate_dst (N := 1) rfl ?_); refine box_event ?hg (N := 1) ?hd (cs := #[.int .i64 a0_0, .int .u64 a0_1]) (t := 61) ?hr ?_; (case hd => rfl); (case hg => rfl); (case hr => first | (go_simp; done) | (go_simp; rfl)); intro gb125 hg w4 hbox hb; have n0_ := Aside0.mk (bS (by repeat (first | (with_reducible first | exact HB.out | apply bA | apply bN | apply bD) | exact HB.out)) hb); have n1_ := Aside0.mk (hbox); have n2_ := Aside0.mk ((by rw [hg]; exact (bZ (by repeat (first | (with_reducible first | exact HB.out | apply bA | apply bN | apply bD) | exact HB.out))) : w.heap.size ≤ gb125)); have n3_ := Aside0.mk ((by rw [hg]; exact (bZ (by repeat (first | (with_reducible first | exact HB.out | apply bA | apply bN | apply bD) | exact HB.out))) : w.heap.size ≤ gb125)); clear HB; have HB := n0_; have BK125 := n1_; have GW125 := n2_; have GE125 := n3_; clear n0_ n1_ n2_ n3_; clear hb hbox hg; have hcz5_0 : w4.cell? ⟨gb125, 0, none⟩ = some (.int .i64 a0_0) := (kC BK125.out 0).trans rfl; have hcz5_1 : w4.cell? ⟨gb125, 1, none⟩ = some (.int .u64 a0_1) := (kC BK125.out 1).trans rfl; have hfz5_0 := kZ BK125.out 0; have hfz5_1 := kZ BK125.out 1))
  have n0_ := Aside0.mk (kD BK125.out)
  have n1_ := Aside0.mk (bD HB.out)
  clear BK125
  clear HB
  have BK125 := n0_
  have HB := n1_
  clear n0_ n1_
  refine start_ (n := 4) (S := fun w' => w'.cell? ⟨gb125, 0, none⟩ = some (.int .i64 a0_0) ∧ w'.cell? ⟨gb125, 1, none⟩ = some (.int .u64 a0_1)) (ds := []) #[false, false, false, false] (by kernel_rfl) rfl rfl ⟨(kC BK125.out 0).trans rfl, (kC BK125.out 1).trans rfl⟩ (fun hHeld => ?_)
  generalize w4.drew = w6 at BK125 HB hHeld ⊢
  refine pure_ (i := 0) (N := some 8) (v := ?_) (a' := ?_) #[true, false, false, false] rfl rfl (by kernel_rfl) (fun _ _ _ h => h) (Or.inl ⟨by rfl, ?_⟩) ?_ ?_
  rotate_left
  ·intro w'
   go_simp
   with_reducible rfl
  rotate_left
  ·simp only [Act.put, sA, sB, sC, i64_w, i32_w]
   rfl
  refine take_ (i := 2) (N := some 10) (v := ?_) (a' := ?_) #[true, false, true, false] rfl rfl (by kernel_rfl) (fun _ _ _ h => h) (Or.inl ⟨by rfl, ?_⟩) hHeld ?_ ?_
  rotate_left
  ·rintro w' ⟨s0, s1⟩
   go_simp
   with_reducible rfl
  rotate_left
  ·simp only [Act.put, sA, sB, sC, i64_w, i32_w]
   rfl
  refine one_ (i := 1) (N := some 9) #[true, true, true, false] rfl rfl (by kernel_rfl) (by decide) (fun K hK => ?_)
  refine goes_ Try.func24 (by kernel_rfl) rfl #[.int .i64 (wrap64 (a0_1))] (by rfl) rfl rfl (by (try simp only [sD, sE, sF]); first | done | rfl | (simp only [sG, sH]; rfl)) ?_
  with_reducible refine (wide_Of.calls (wrap64 (a0_1)) t126 t127 _ A2.out).mono ?_
  rintro e w7 ⟨rfl, hb⟩
  refine ⟨_, rfl, ?_⟩
  have n0_ := Aside0.mk (kB (g := gb125) (o := .cells #[.int .i64 a0_0, .int .u64 a0_1] 61 (0, 0)) (by (with_reducible repeat (first | refine kN ?_ _ | refine kD ?_ | refine kA ?_ _)); exact BK125.out) hb)
  have n1_ := Aside0.mk (bS (by repeat (first | (with_reducible first | exact HB.out | apply bA | apply bN | apply bD | refine bE ?_ GE125.out) | exact HB.out)) hb)
  clear BK125
  clear HB
  have BK125 := n0_
  have HB := n1_
  clear n0_ n1_
  (try clear hb)
  (try clear hb2)
  (try clear hk)
  (try clear hi)
  refine hK.out _ _ ⟨(kC BK125.out 0).trans rfl, (kC BK125.out 1).trans rfl⟩ (fun hHeld => ?_)
  clear hK K
  refine norm_ (a' := ?_) ?_ ?_
  rotate_left
  ·show Act.put _ (some 9) _ = _
   simp only [Act.put, sA, sB, sC, i64_w, i32_w]
   rfl
  refine pure_ (i := 3) (N := some 11) (v := ?_) (a' := ?_) #[true, true, true, true] rfl rfl (by kernel_rfl) (fun _ _ _ h => h) (Or.inl ⟨by rfl, ?_⟩) ?_ ?_
  rotate_left
  ·intro w'
   go_simp
   with_reducible rfl
  rotate_left
  ·simp only [Act.put, sA, sB, sC, i64_w, i32_w]
   rfl
  refine done_ (by kernel_rfl) ?_
  try go_wp2
  go_ret2
  exact ⟨by first | rfl | (simp [errW_none, errW_some] <;> rfl) | (simp [*, errW_none, errW_some] <;> rfl), by repeat (first | (with_reducible first | exact HB.out | apply bA | apply bN | apply bD | refine bE ?_ GE125.out) | exact HB.out)⟩
 ·rw [if_neg c3] at H
  have c3b0 : (!(t126 == a0_0) || (!(t127 == a0_1))) = false := by simpa using c3
  clear c3
  simp only [Option.some.injEq, Prod.mk.injEq] at H
  obtain ⟨rfl, rfl⟩ := H
  go_enter Try.func36, Try.ntmps36
  try go_wp2_with (first | ((with_reducible refine gate_dst (N := 1) rfl ?_); refine box_event ?hg (N := 1) ?hd (cs := #[.int .i64 a0_0, .int .u64 a0_1]) (t := 61) ?hr ?_; (case hd => rfl); (case hg => rfl); (case hr => first | (go_simp; done) | (go_simp; rfl)); intro gb125 hg w8 hbox hb; have n0_ := Aside0.mk (bS (by repeat (first | (with_reducible first | exact HB.out | apply bA | apply bN | apply bD) | exact HB.out)) hb); have n1_ := Aside0.mk (hbox); have n2_ := Aside0.mk ((by rw [hg]; exact (bZ (by repeat (first | (with_reducible first | exact HB.out | apply bA | apply bN | apply bD) | exact HB.out))) : w.heap.size ≤ gb125)); have n3_ := Aside0.mk ((by rw [hg]; exact (bZ (by repeat (first | (with_reducible first | exact HB.out | apply bA | apply bN | apply bD) | exact HB.out))) : w.heap.size ≤ gb125)); clear HB; have HB := n0_; have BK125 := n1_; have GW125 := n2_; have GE125 := n3_; clear n0_ n1_ n2_ n3_; clear hb hbox hg; have hcz9_0 : w8.cell? ⟨gb125, 0, none⟩ = some (.int .i64 a0_0) := (kC BK125.out 0).trans rfl; have hcz9_1 : w8.cell? ⟨gb125, 1, none⟩ = some (.int .u64 a0_1) := (kC BK125.out 1).trans rfl; have hfz9_0 := kZ BK125.out 0; have hfz9_1 := kZ BK125.out 1))
  have n0_ := Aside0.mk (kD BK125.out)
  have n1_ := Aside0.mk (bD HB.out)
  clear BK125
  clear HB
  have BK125 := n0_
  have HB := n1_
  clear n0_ n1_
  refine start_ (n := 4) (S := fun w' => w'.cell? ⟨gb125, 0, none⟩ = some (.int .i64 a0_0) ∧ w'.cell? ⟨gb125, 1, none⟩ = some (.int .u64 a0_1)) (ds := []) #[false, false, false, false] (by kernel_rfl) rfl rfl ⟨(kC BK125.out 0).trans rfl, (kC BK125.out 1).trans rfl⟩ (fun hHeld => ?_)
  generalize w8.drew = w10 at BK125 HB hHeld ⊢
  refine pure_ (i := 0) (N := some 8) (v := ?_) (a' := ?_) #[true, false, false, false] rfl rfl (by kernel_rfl) (fun _ _ _ h => h) (Or.inl ⟨by rfl, ?_⟩) ?_ ?_
  rotate_left
  ·intro w'
   go_simp
   with_reducible rfl
  rotate_left
  ·simp only [Act.put, sA, sB, sC, i64_w, i32_w]
   rfl
  refine take_ (i := 2) (N := some 10) (v := ?_) (a' := ?_) #[true, false, true, false] rfl rfl (by kernel_rfl) (fun _ _ _ h => h) (Or.inl ⟨by rfl, ?_⟩) hHeld ?_ ?_
  rotate_left
  ·rintro w' ⟨s0, s1⟩
   go_simp
   with_reducible rfl
  rotate_left
  ·simp only [Act.put, sA, sB, sC, i64_w, i32_w]
   rfl
  refine one_ (i := 1) (N := some 9) #[true, true, true, false] rfl rfl (by kernel_rfl) (by decide) (fun K hK => ?_)
  refine goes_ Try.func24 (by kernel_rfl) rfl #[.int .i64 (wrap64 (a0_1))] (by rfl) rfl rfl (by (try simp only [sD, sE, sF]); first | done | rfl | (simp only [sG, sH]; rfl)) ?_
  with_reducible refine (wide_Of.calls (wrap64 (a0_1)) t126 t127 _ A2.out).mono ?_
  rintro e w11 ⟨rfl, hb⟩
  refine ⟨_, rfl, ?_⟩
  have n0_ := Aside0.mk (kB (g := gb125) (o := .cells #[.int .i64 a0_0, .int .u64 a0_1] 61 (0, 0)) (by (with_reducible repeat (first | refine kN ?_ _ | refine kD ?_ | refine kA ?_ _)); exact BK125.out) hb)
  have n1_ := Aside0.mk (bS (by repeat (first | (with_reducible first | exact HB.out | apply bA | apply bN | apply bD | refine bE ?_ GE125.out) | exact HB.out)) hb)
  clear BK125
  clear HB
  have BK125 := n0_
  have HB := n1_
  clear n0_ n1_
  (try clear hb)
  (try clear hb2)
  (try clear hk)
  (try clear hi)
  refine hK.out _ _ ⟨(kC BK125.out 0).trans rfl, (kC BK125.out 1).trans rfl⟩ (fun hHeld => ?_)
  clear hK K
  refine norm_ (a' := ?_) ?_ ?_
  rotate_left
  ·show Act.put _ (some 9) _ = _
   simp only [Act.put, sA, sB, sC, i64_w, i32_w]
   rfl
  refine pure_ (i := 3) (N := some 11) (v := ?_) (a' := ?_) #[true, true, true, true] rfl rfl (by kernel_rfl) (fun _ _ _ h => h) (Or.inl ⟨by rfl, ?_⟩) ?_ ?_
  rotate_left
  ·intro w'
   go_simp
   with_reducible rfl
  rotate_left
  ·simp only [Act.put, sA, sB, sC, i64_w, i32_w]
   rfl
  refine done_ (by kernel_rfl) ?_
  try go_wp2
  go_ret2
  exact ⟨by first | rfl | (simp [errW_none, errW_some] <;> rfl) | (simp [*, errW_none, errW_some] <;> rfl), by repeat (first | (with_reducible first | exact HB.out | apply bA | apply bN | apply bD | refine bE ?_ GE125.out) | exact HB.out)⟩

/-! ### fix_told: function 23 -/
def fix_told.f (a0_0 : Int) (a0_1 : Int) (a1 : Bool) : Option (Int × Bool) := if a1 = true then ((wide_Wide_Int.f a0_0 a0_1).bind fun bt129 => (some (bt129.1, bt129.2))) else (some (0, false))
set_option maxHeartbeats 8000000 in
set_option maxRecDepth 100000 in
theorem fix_told.calls (a0_0 : Int) (a0_1 : Int) (a1 : Bool) (r1 : Int) (r2 : Bool) (w : World) (h : fix_told.f a0_0 a0_1 a1 = some (r1, r2)) :
  Calls Try.prog 23 #[.agg #[.int .i64 a0_0, .int .u64 a0_1], .bool a1] w fun e w' => e = .returned (.tuple #[.int .i64 r1, .bool r2]) ∧ Below w.heap.size w w' := by
 have hu61 := Try.underlying61
 have HB := Aside0.mk (Below.refl w.heap.size w)
 have H : (if a1 = true then ((wide_Wide_Int.f a0_0 a0_1).bind fun bt129 => (some (bt129.1, bt129.2))) else (some (0, false))) = some (r1, r2) := h
 clear h
 by_cases c3 : a1 = true
 ·subst c3
  have H1 : ((wide_Wide_Int.f a0_0 a0_1).bind fun bt129 => (some (bt129.1, bt129.2))) = some (r1, r2) := by rw [if_pos rfl] at H; exact H
  clear H
  have H := H1
  clear H1
  replace H := Option.bind_eq_some_iff.mp H
  obtain ⟨⟨t129, t130⟩, A40, H⟩ := H
  replace H : (some (t129, t130)) = some (r1, r2) := H
  have A4 := Aside0.mk A40
  clear A40
  simp only [Option.some.injEq, Prod.mk.injEq] at H
  obtain ⟨rfl, rfl⟩ := H
  go_enter Try.func23, Try.ntmps23
  go_wp2_with (first | ((with_reducible refine gate_dst (N := 2) rfl ?_); refine box_event ?hg (N := 2) ?hd (cs := #[.int .i64 a0_0, .int .u64 a0_1]) (t := 61) ?hr ?_; (case hd => rfl); (case hg => rfl); (case hr => first | (go_simp; done) | (go_simp; rfl)); intro gb128 hg w5 hbox hb; have n0_ := Aside0.mk (bS (by repeat (first | (with_reducible first | exact HB.out | apply bA | apply bN | apply bD) | exact HB.out)) hb); have n1_ := Aside0.mk (hbox); have n2_ := Aside0.mk ((by rw [hg]; exact (bZ (by repeat (first | (with_reducible first | exact HB.out | apply bA | apply bN | apply bD) | exact HB.out))) : w.heap.size ≤ gb128)); have n3_ := Aside0.mk ((by rw [hg]; exact (bZ (by repeat (first | (with_reducible first | exact HB.out | apply bA | apply bN | apply bD) | exact HB.out))) : w.heap.size ≤ gb128)); clear HB; have HB := n0_; have BK128 := n1_; have GW128 := n2_; have GE128 := n3_; clear n0_ n1_ n2_ n3_; clear hb hbox hg; have hcz6_0 : w5.cell? ⟨gb128, 0, none⟩ = some (.int .i64 a0_0) := (kC BK128.out 0).trans rfl; have hcz6_1 : w5.cell? ⟨gb128, 1, none⟩ = some (.int .u64 a0_1) := (kC BK128.out 1).trans rfl; have hfz6_0 := kZ BK128.out 0; have hfz6_1 := kZ BK128.out 1) | ((with_reducible refine gate_callee (f := 36) rfl ?_); refine goesL_ (some 9) rfl rfl Try.func36 (by kernel_rfl) rfl #[.agg #[.int .i64 a0_0, .int .u64 a0_1]] rfl (by (try simp only [sD, sE, sF]); first | done | rfl | (simp only [sG, sH]; rfl)) ?_; (with_reducible refine (wide_Wide_Int.calls a0_0 a0_1 t129 t130 _ A4.out).mono ?_); rintro e w7 ⟨rfl, hb⟩; refine ⟨_, rfl, ?_⟩; have n0_ := Aside0.mk (kB (g := gb128) (o := .cells #[.int .i64 a0_0, .int .u64 a0_1] 61 (0, 0)) (by (with_reducible repeat (first | refine kN ?_ _ | refine kD ?_ | refine kA ?_ _)); exact BK128.out) hb); have n1_ := Aside0.mk (bS (by repeat (first | (with_reducible first | exact HB.out | apply bA | apply bN | apply bD | refine bE ?_ GE128.out) | exact HB.out)) hb); clear BK128; clear HB; have BK128 := n0_; have HB := n1_; clear n0_ n1_; (try clear hb); (try clear hb2); (try clear hk); (try clear hi)))
  go_ret2
  exact ⟨by first | rfl | (simp [errW_none, errW_some] <;> rfl) | (simp [*, errW_none, errW_some] <;> rfl), by repeat (first | (with_reducible first | exact HB.out | apply bA | apply bN | apply bD | refine bE ?_ GE128.out) | exact HB.out)⟩
 ·replace c3 := Bool.eq_false_iff.mpr c3
  subst c3
  have H1 : (some (0, false)) = some (r1, r2) := by rw [if_neg (show ¬ (false = true) by decide)] at H; exact H
  clear H
  have H := H1
  clear H1
  simp only [Option.some.injEq, Prod.mk.injEq] at H
  obtain ⟨rfl, rfl⟩ := H
  go_enter Try.func23, Try.ntmps23
  go_wp2_with (first | ((with_reducible refine gate_dst (N := 2) rfl ?_); refine box_event ?hg (N := 2) ?hd (cs := #[.int .i64 a0_0, .int .u64 a0_1]) (t := 61) ?hr ?_; (case hd => rfl); (case hg => rfl); (case hr => first | (go_simp; done) | (go_simp; rfl)); intro gb128 hg w8 hbox hb; have n0_ := Aside0.mk (bS (by repeat (first | (with_reducible first | exact HB.out | apply bA | apply bN | apply bD) | exact HB.out)) hb); have n1_ := Aside0.mk (hbox); have n2_ := Aside0.mk ((by rw [hg]; exact (bZ (by repeat (first | (with_reducible first | exact HB.out | apply bA | apply bN | apply bD) | exact HB.out))) : w.heap.size ≤ gb128)); have n3_ := Aside0.mk ((by rw [hg]; exact (bZ (by repeat (first | (with_reducible first | exact HB.out | apply bA | apply bN | apply bD) | exact HB.out))) : w.heap.size ≤ gb128)); clear HB; have HB := n0_; have BK128 := n1_; have GW128 := n2_; have GE128 := n3_; clear n0_ n1_ n2_ n3_; clear hb hbox hg))
  go_ret2
  exact ⟨by first | rfl | (simp [errW_none, errW_some] <;> rfl) | (simp [*, errW_none, errW_some] <;> rfl), by repeat (first | (with_reducible first | exact HB.out | apply bA | apply bN | apply bD | refine bE ?_ GE128.out) | exact HB.out)⟩

-- NOT PRINTED: function 37 (bits_Sub64)

/-! ### wide_Wide_Sub: function 26 -/
def wide_Wide_Sub.f (a0_0 : Int) (a0_1 : Int) (a1_0 : Int) (a1_1 : Int) : Option (Int × Int × Bool) := if (sub64c a0_1 a1_1 0) ≤ 1 then (if (Go.bits .and .i64 (Go.bits .xor .i64 a0_0 a1_0) (Go.bits .xor .i64 a0_0 (wrap64 (sub64s (IntKind.u64.wrap (a0_0)) (IntKind.u64.wrap (a1_0)) (sub64c a0_1 a1_1 0))))) < 0 then (some (0, 0, false)) else (some (wrap64 (sub64s (IntKind.u64.wrap (a0_0)) (IntKind.u64.wrap (a1_0)) (sub64c a0_1 a1_1 0)), sub64s a0_1 a1_1 0, true))) else (none)
set_option maxHeartbeats 8000000 in
set_option maxRecDepth 100000 in
theorem wide_Wide_Sub.calls (a0_0 : Int) (a0_1 : Int) (a1_0 : Int) (a1_1 : Int) (r1 : Int) (r2 : Int) (r3 : Bool) (w : World) (h : wide_Wide_Sub.f a0_0 a0_1 a1_0 a1_1 = some (r1, r2, r3)) :
  Calls Try.prog 26 #[.agg #[.int .i64 a0_0, .int .u64 a0_1], .agg #[.int .i64 a1_0, .int .u64 a1_1]] w fun e w' => e = .returned (.tuple #[.agg #[.int .i64 r1, .int .u64 r2], .bool r3]) ∧ Below w.heap.size w w' := by
 have hu61 := Try.underlying61
 have hext37 := Sub64_ext37
 have HB := Aside0.mk (Below.refl w.heap.size w)
 have H : (if (sub64c a0_1 a1_1 0) ≤ 1 then (if (Go.bits .and .i64 (Go.bits .xor .i64 a0_0 a1_0) (Go.bits .xor .i64 a0_0 (wrap64 (sub64s (IntKind.u64.wrap (a0_0)) (IntKind.u64.wrap (a1_0)) (sub64c a0_1 a1_1 0))))) < 0 then (some (0, 0, false)) else (some (wrap64 (sub64s (IntKind.u64.wrap (a0_0)) (IntKind.u64.wrap (a1_0)) (sub64c a0_1 a1_1 0)), sub64s a0_1 a1_1 0, true))) else (none)) = some (r1, r2, r3) := h
 clear h
 by_cases c3 : (sub64c a0_1 a1_1 0) ≤ 1
 ·rw [if_pos c3] at H
  have c3b0 := eq_true c3
  have c3b1 : decide ((sub64c a0_1 a1_1 0) ≤ 1) = true := decide_eq_true c3
  clear c3
  by_cases c4 : (Go.bits .and .i64 (Go.bits .xor .i64 a0_0 a1_0) (Go.bits .xor .i64 a0_0 (wrap64 (sub64s (IntKind.u64.wrap (a0_0)) (IntKind.u64.wrap (a1_0)) (sub64c a0_1 a1_1 0))))) < 0
  ·rw [if_pos c4] at H
   have c4b0 : decide ((Go.bits .and .i64 (Go.bits .xor .i64 a0_0 a1_0) (Go.bits .xor .i64 a0_0 (wrap64 (sub64s (IntKind.u64.wrap (a0_0)) (IntKind.u64.wrap (a1_0)) (sub64c a0_1 a1_1 0))))) < 0) = true := decide_eq_true c4
   clear c4
   simp only [Option.some.injEq, Prod.mk.injEq] at H
   obtain ⟨rfl, rfl, rfl⟩ := H
   go_enter Try.func26, Try.ntmps26
   go_wp2_with (first | ((with_reducible refine gate_dst (N := 2) rfl ?_); refine box_event ?hg (N := 2) ?hd (cs := #[.int .i64 a0_0, .int .u64 a0_1]) (t := 61) ?hr ?_; (case hd => rfl); (case hg => rfl); (case hr => first | (go_simp; done) | (go_simp; rfl)); intro gb131 hg w5 hbox hb; have n0_ := Aside0.mk (bS (by repeat (first | (with_reducible first | exact HB.out | apply bA | apply bN | apply bD) | exact HB.out)) hb); have n1_ := Aside0.mk (hbox); have n2_ := Aside0.mk ((by rw [hg]; exact (bZ (by repeat (first | (with_reducible first | exact HB.out | apply bA | apply bN | apply bD) | exact HB.out))) : w.heap.size ≤ gb131)); have n3_ := Aside0.mk ((by rw [hg]; exact (bZ (by repeat (first | (with_reducible first | exact HB.out | apply bA | apply bN | apply bD) | exact HB.out))) : w.heap.size ≤ gb131)); clear HB; have HB := n0_; have BK131 := n1_; have GW131 := n2_; have GE131 := n3_; clear n0_ n1_ n2_ n3_; clear hb hbox hg) | ((with_reducible refine gate_dst (N := 3) rfl ?_); refine box_event ?hg (N := 3) ?hd (cs := #[.int .i64 a1_0, .int .u64 a1_1]) (t := 61) ?hr ?_; (case hd => rfl); (case hg => rfl); (case hr => first | (go_simp; done) | (go_simp; rfl)); intro gb132 hg w6 hbox hb; have n0_ := Aside0.mk (kB (g := gb131) (o := .cells #[.int .i64 a0_0, .int .u64 a0_1] 61 (0, 0)) (by (with_reducible repeat (first | refine kN ?_ _ | refine kD ?_ | refine kA ?_ _)); exact BK131.out) hb); have n1_ := Aside0.mk (bS (by repeat (first | (with_reducible first | exact HB.out | apply bA | apply bN | apply bD | refine bE ?_ GE131.out) | exact HB.out)) hb); have n2_ := Aside0.mk (hbox); have n3_ := Aside0.mk ((by rw [hg]; exact (bZ (by repeat (first | (with_reducible first | exact HB.out | apply bA | apply bN | apply bD | refine bE ?_ GE131.out) | exact HB.out))) : w.heap.size ≤ gb132)); have n4_ := Aside0.mk ((by rw [hg]; exact (bZ (by repeat (first | (with_reducible first | exact HB.out | apply bA | apply bN | apply bD | refine bE ?_ GE131.out) | exact HB.out))) : w.heap.size ≤ gb132)); have n5_ := Aside0.mk ((by rw [hg]; exact Nat.ne_of_lt (blk_lt (g := gb131) (o := .cells #[.int .i64 a0_0, .int .u64 a0_1] 61 (0, 0)) (by (with_reducible repeat (first | refine kN ?_ _ | refine kD ?_ | refine kA ?_ _)); exact BK131.out)) : gb131 ≠ gb132)); have n6_ := Aside0.mk ((by rw [hg]; exact Nat.ne_of_gt (blk_lt (g := gb131) (o := .cells #[.int .i64 a0_0, .int .u64 a0_1] 61 (0, 0)) (by (with_reducible repeat (first | refine kN ?_ _ | refine kD ?_ | refine kA ?_ _)); exact BK131.out)) : gb132 ≠ gb131)); clear BK131; clear HB; have BK131 := n0_; have HB := n1_; have BK132 := n2_; have GW132 := n3_; have GE132 := n4_; have NB131_132 := n5_; have NB132_131 := n6_; clear n0_ n1_ n2_ n3_ n4_ n5_ n6_; clear hb hbox hg) | ((with_reducible refine gate_dst (N := 4) rfl ?_); refine box_event ?hg (N := 4) ?hd (cs := #[.int .i64 0, .int .u64 0]) (t := 61) ?hr ?_; (case hd => rfl); (case hg => rfl); (case hr => first | (go_simp; done) | (go_simp; rfl)); intro gb133 hg w7 hbox hb; have n0_ := Aside0.mk (kB (g := gb131) (o := .cells #[.int .i64 a0_0, .int .u64 a0_1] 61 (0, 0)) (by (with_reducible repeat (first | refine kN ?_ _ | refine kD ?_ | refine kA ?_ _)); exact BK131.out) hb); have n1_ := Aside0.mk (kB (g := gb132) (o := .cells #[.int .i64 a1_0, .int .u64 a1_1] 61 (0, 0)) (by (with_reducible repeat (first | refine kN ?_ _ | refine kD ?_ | refine kA ?_ _)); exact BK132.out) hb); have n2_ := Aside0.mk (bS (by repeat (first | (with_reducible first | exact HB.out | apply bA | apply bN | apply bD | refine bE ?_ GE131.out | refine bE ?_ GE132.out) | exact HB.out)) hb); have n3_ := Aside0.mk (hbox); have n4_ := Aside0.mk ((by rw [hg]; exact (bZ (by repeat (first | (with_reducible first | exact HB.out | apply bA | apply bN | apply bD | refine bE ?_ GE131.out | refine bE ?_ GE132.out) | exact HB.out))) : w.heap.size ≤ gb133)); have n5_ := Aside0.mk ((by rw [hg]; exact (bZ (by repeat (first | (with_reducible first | exact HB.out | apply bA | apply bN | apply bD | refine bE ?_ GE131.out | refine bE ?_ GE132.out) | exact HB.out))) : w.heap.size ≤ gb133)); have n6_ := Aside0.mk ((by rw [hg]; exact Nat.ne_of_lt (blk_lt (g := gb131) (o := .cells #[.int .i64 a0_0, .int .u64 a0_1] 61 (0, 0)) (by (with_reducible repeat (first | refine kN ?_ _ | refine kD ?_ | refine kA ?_ _)); exact BK131.out)) : gb131 ≠ gb133)); have n7_ := Aside0.mk ((by rw [hg]; exact Nat.ne_of_gt (blk_lt (g := gb131) (o := .cells #[.int .i64 a0_0, .int .u64 a0_1] 61 (0, 0)) (by (with_reducible repeat (first | refine kN ?_ _ | refine kD ?_ | refine kA ?_ _)); exact BK131.out)) : gb133 ≠ gb131)); have n8_ := Aside0.mk ((by rw [hg]; exact Nat.ne_of_lt (blk_lt (g := gb132) (o := .cells #[.int .i64 a1_0, .int .u64 a1_1] 61 (0, 0)) (by (with_reducible repeat (first | refine kN ?_ _ | refine kD ?_ | refine kA ?_ _)); exact BK132.out)) : gb132 ≠ gb133)); have n9_ := Aside0.mk ((by rw [hg]; exact Nat.ne_of_gt (blk_lt (g := gb132) (o := .cells #[.int .i64 a1_0, .int .u64 a1_1] 61 (0, 0)) (by (with_reducible repeat (first | refine kN ?_ _ | refine kD ?_ | refine kA ?_ _)); exact BK132.out)) : gb133 ≠ gb132)); clear BK131; clear BK132; clear HB; have BK131 := n0_; have BK132 := n1_; have HB := n2_; have BK133 := n3_; have GW133 := n4_; have GE133 := n5_; have NB131_133 := n6_; have NB133_131 := n7_; have NB132_133 := n8_; have NB133_132 := n9_; clear n0_ n1_ n2_ n3_ n4_ n5_ n6_ n7_ n8_ n9_; clear hb hbox hg; have hnb8 := NB131_132.out; have hnc8 := NB132_131.out; have hnb9 := NB131_133.out; have hnc9 := NB133_131.out; have hcz10_0 : w7.cell? ⟨gb131, 0, none⟩ = some (.int .i64 a0_0) := (kC BK131.out 0).trans rfl; have hcz10_1 : w7.cell? ⟨gb131, 1, none⟩ = some (.int .u64 a0_1) := (kC BK131.out 1).trans rfl; have hfz10_0 := kZ BK131.out 0; have hfz10_1 := kZ BK131.out 1; have hnb11 := NB132_133.out; have hnc11 := NB133_132.out; have hcz12_0 : w7.cell? ⟨gb132, 0, none⟩ = some (.int .i64 a1_0) := (kC BK132.out 0).trans rfl; have hcz12_1 : w7.cell? ⟨gb132, 1, none⟩ = some (.int .u64 a1_1) := (kC BK132.out 1).trans rfl; have hfz12_0 := kZ BK132.out 0; have hfz12_1 := kZ BK132.out 1) | ((with_reducible refine gate_dst (N := 10) rfl ?_); refine box_event ?hg (N := 10) ?hd (cs := #[.int .i64 0, .int .u64 0]) (t := 61) ?hr ?_; (case hd => rfl); (case hg => rfl); (case hr => first | (go_simp; done) | (go_simp; rfl)); intro gb134 hg w13 hbox hb; have n0_ := Aside0.mk (kB (g := gb131) (o := .cells #[.int .i64 a0_0, .int .u64 a0_1] 61 (0, 0)) (by (with_reducible repeat (first | refine kN ?_ _ | refine kD ?_ | refine kA ?_ _)); exact BK131.out) hb); have n1_ := Aside0.mk (kB (g := gb132) (o := .cells #[.int .i64 a1_0, .int .u64 a1_1] 61 (0, 0)) (by (with_reducible repeat (first | refine kN ?_ _ | refine kD ?_ | refine kA ?_ _)); exact BK132.out) hb); have n2_ := Aside0.mk (kB (g := gb133) (o := .cells #[.int .i64 0, .int .u64 0] 61 (0, 0)) (by (with_reducible repeat (first | refine kN ?_ _ | refine kD ?_ | refine kA ?_ _)); exact BK133.out) hb); have n3_ := Aside0.mk (bS (by repeat (first | (with_reducible first | exact HB.out | apply bA | apply bN | apply bD | refine bE ?_ GE131.out | refine bE ?_ GE132.out | refine bE ?_ GE133.out) | exact HB.out)) hb); have n4_ := Aside0.mk (hbox); have n5_ := Aside0.mk ((by rw [hg]; exact (bZ (by repeat (first | (with_reducible first | exact HB.out | apply bA | apply bN | apply bD | refine bE ?_ GE131.out | refine bE ?_ GE132.out | refine bE ?_ GE133.out) | exact HB.out))) : w.heap.size ≤ gb134)); have n6_ := Aside0.mk ((by rw [hg]; exact (bZ (by repeat (first | (with_reducible first | exact HB.out | apply bA | apply bN | apply bD | refine bE ?_ GE131.out | refine bE ?_ GE132.out | refine bE ?_ GE133.out) | exact HB.out))) : w.heap.size ≤ gb134)); have n7_ := Aside0.mk ((by rw [hg]; exact Nat.ne_of_lt (blk_lt (g := gb131) (o := .cells #[.int .i64 a0_0, .int .u64 a0_1] 61 (0, 0)) (by (with_reducible repeat (first | refine kN ?_ _ | refine kD ?_ | refine kA ?_ _)); exact BK131.out)) : gb131 ≠ gb134)); have n8_ := Aside0.mk ((by rw [hg]; exact Nat.ne_of_gt (blk_lt (g := gb131) (o := .cells #[.int .i64 a0_0, .int .u64 a0_1] 61 (0, 0)) (by (with_reducible repeat (first | refine kN ?_ _ | refine kD ?_ | refine kA ?_ _)); exact BK131.out)) : gb134 ≠ gb131)); have n9_ := Aside0.mk ((by rw [hg]; exact Nat.ne_of_lt (blk_lt (g := gb132) (o := .cells #[.int .i64 a1_0, .int .u64 a1_1] 61 (0, 0)) (by (with_reducible repeat (first | refine kN ?_ _ | refine kD ?_ | refine kA ?_ _)); exact BK132.out)) : gb132 ≠ gb134)); have n10_ := Aside0.mk ((by rw [hg]; exact Nat.ne_of_gt (blk_lt (g := gb132) (o := .cells #[.int .i64 a1_0, .int .u64 a1_1] 61 (0, 0)) (by (with_reducible repeat (first | refine kN ?_ _ | refine kD ?_ | refine kA ?_ _)); exact BK132.out)) : gb134 ≠ gb132)); have n11_ := Aside0.mk ((by rw [hg]; exact Nat.ne_of_lt (blk_lt (g := gb133) (o := .cells #[.int .i64 0, .int .u64 0] 61 (0, 0)) (by (with_reducible repeat (first | refine kN ?_ _ | refine kD ?_ | refine kA ?_ _)); exact BK133.out)) : gb133 ≠ gb134)); have n12_ := Aside0.mk ((by rw [hg]; exact Nat.ne_of_gt (blk_lt (g := gb133) (o := .cells #[.int .i64 0, .int .u64 0] 61 (0, 0)) (by (with_reducible repeat (first | refine kN ?_ _ | refine kD ?_ | refine kA ?_ _)); exact BK133.out)) : gb134 ≠ gb133)); clear BK131; clear BK132; clear BK133; clear HB; have BK131 := n0_; have BK132 := n1_; have BK133 := n2_; have HB := n3_; have BK134 := n4_; have GW134 := n5_; have GE134 := n6_; have NB131_134 := n7_; have NB134_131 := n8_; have NB132_134 := n9_; have NB134_132 := n10_; have NB133_134 := n11_; have NB134_133 := n12_; clear n0_ n1_ n2_ n3_ n4_ n5_ n6_ n7_ n8_ n9_ n10_ n11_ n12_; clear hb hbox hg; have hnb14 := NB134_131.out; have hnc14 := NB131_134.out; have hnb15 := NB134_132.out; have hnc15 := NB132_134.out; have hnb16 := NB134_133.out; have hnc16 := NB133_134.out; have hcz17_0 : w13.cell? ⟨gb134, 0, none⟩ = some (.int .i64 0) := (kC BK134.out 0).trans rfl; have hcz17_1 : w13.cell? ⟨gb134, 1, none⟩ = some (.int .u64 0) := (kC BK134.out 1).trans rfl; have hfz17_0 := kZ BK134.out 0; have hfz17_1 := kZ BK134.out 1; have hcz18_0 : w13.cell? ⟨gb131, 0, none⟩ = some (.int .i64 a0_0) := (kC BK131.out 0).trans rfl; have hcz18_1 : w13.cell? ⟨gb131, 1, none⟩ = some (.int .u64 a0_1) := (kC BK131.out 1).trans rfl; have hfz18_0 := kZ BK131.out 0; have hfz18_1 := kZ BK131.out 1; have hcz19_0 : w13.cell? ⟨gb132, 0, none⟩ = some (.int .i64 a1_0) := (kC BK132.out 0).trans rfl; have hcz19_1 : w13.cell? ⟨gb132, 1, none⟩ = some (.int .u64 a1_1) := (kC BK132.out 1).trans rfl; have hfz19_0 := kZ BK132.out 0; have hfz19_1 := kZ BK132.out 1; have hcz20_0 : w13.cell? ⟨gb133, 0, none⟩ = some (.int .i64 0) := (kC BK133.out 0).trans rfl; have hcz20_1 : w13.cell? ⟨gb133, 1, none⟩ = some (.int .u64 0) := (kC BK133.out 1).trans rfl; have hfz20_0 := kZ BK133.out 0; have hfz20_1 := kZ BK133.out 1))
   refine bodyPost_ret (results_ct rfl _ _ gb133 61 #[.int .i64 0, .int .u64 0] (0, 0) _ rfl (by (with_reducible repeat (first | refine kN ?_ _ | refine kD ?_ | refine kA ?_ _)); refine kP (cs := #[.int .i64 0, .int .u64 0]) ?_ 1 _ rfl; (with_reducible repeat (first | refine kN ?_ _ | refine kD ?_ | refine kA ?_ _)); refine kP (cs := #[.int .i64 0, .int .u64 0]) ?_ 0 _ rfl; (with_reducible repeat (first | refine kN ?_ _ | refine kD ?_ | refine kA ?_ _)); refine kF ?_ NB133_134.out _; (with_reducible repeat (first | refine kN ?_ _ | refine kD ?_ | refine kA ?_ _)); refine kF ?_ NB133_134.out _; (with_reducible repeat (first | refine kN ?_ _ | refine kD ?_ | refine kA ?_ _)); exact BK133.out) Try.underlying61 rfl (by kernel_rfl)) rfl ?_
   exact ⟨by first | rfl | (simp [errW_none, errW_some] <;> rfl) | (simp [*, errW_none, errW_some] <;> rfl), by repeat (first | (with_reducible first | exact HB.out | apply bA | apply bN | apply bD | refine bE ?_ GE131.out | refine bE ?_ GE132.out | refine bE ?_ GE133.out | refine bE ?_ GE134.out) | exact HB.out)⟩
  ·rw [if_neg c4] at H
   have c4b0 : decide ((Go.bits .and .i64 (Go.bits .xor .i64 a0_0 a1_0) (Go.bits .xor .i64 a0_0 (wrap64 (sub64s (IntKind.u64.wrap (a0_0)) (IntKind.u64.wrap (a1_0)) (sub64c a0_1 a1_1 0))))) < 0) = false := decide_eq_false c4
   clear c4
   simp only [Option.some.injEq, Prod.mk.injEq] at H
   obtain ⟨rfl, rfl, rfl⟩ := H
   go_enter Try.func26, Try.ntmps26
   go_wp2_with (first | ((with_reducible refine gate_dst (N := 2) rfl ?_); refine box_event ?hg (N := 2) ?hd (cs := #[.int .i64 a0_0, .int .u64 a0_1]) (t := 61) ?hr ?_; (case hd => rfl); (case hg => rfl); (case hr => first | (go_simp; done) | (go_simp; rfl)); intro gb131 hg w21 hbox hb; have n0_ := Aside0.mk (bS (by repeat (first | (with_reducible first | exact HB.out | apply bA | apply bN | apply bD) | exact HB.out)) hb); have n1_ := Aside0.mk (hbox); have n2_ := Aside0.mk ((by rw [hg]; exact (bZ (by repeat (first | (with_reducible first | exact HB.out | apply bA | apply bN | apply bD) | exact HB.out))) : w.heap.size ≤ gb131)); have n3_ := Aside0.mk ((by rw [hg]; exact (bZ (by repeat (first | (with_reducible first | exact HB.out | apply bA | apply bN | apply bD) | exact HB.out))) : w.heap.size ≤ gb131)); clear HB; have HB := n0_; have BK131 := n1_; have GW131 := n2_; have GE131 := n3_; clear n0_ n1_ n2_ n3_; clear hb hbox hg) | ((with_reducible refine gate_dst (N := 3) rfl ?_); refine box_event ?hg (N := 3) ?hd (cs := #[.int .i64 a1_0, .int .u64 a1_1]) (t := 61) ?hr ?_; (case hd => rfl); (case hg => rfl); (case hr => first | (go_simp; done) | (go_simp; rfl)); intro gb132 hg w22 hbox hb; have n0_ := Aside0.mk (kB (g := gb131) (o := .cells #[.int .i64 a0_0, .int .u64 a0_1] 61 (0, 0)) (by (with_reducible repeat (first | refine kN ?_ _ | refine kD ?_ | refine kA ?_ _)); exact BK131.out) hb); have n1_ := Aside0.mk (bS (by repeat (first | (with_reducible first | exact HB.out | apply bA | apply bN | apply bD | refine bE ?_ GE131.out) | exact HB.out)) hb); have n2_ := Aside0.mk (hbox); have n3_ := Aside0.mk ((by rw [hg]; exact (bZ (by repeat (first | (with_reducible first | exact HB.out | apply bA | apply bN | apply bD | refine bE ?_ GE131.out) | exact HB.out))) : w.heap.size ≤ gb132)); have n4_ := Aside0.mk ((by rw [hg]; exact (bZ (by repeat (first | (with_reducible first | exact HB.out | apply bA | apply bN | apply bD | refine bE ?_ GE131.out) | exact HB.out))) : w.heap.size ≤ gb132)); have n5_ := Aside0.mk ((by rw [hg]; exact Nat.ne_of_lt (blk_lt (g := gb131) (o := .cells #[.int .i64 a0_0, .int .u64 a0_1] 61 (0, 0)) (by (with_reducible repeat (first | refine kN ?_ _ | refine kD ?_ | refine kA ?_ _)); exact BK131.out)) : gb131 ≠ gb132)); have n6_ := Aside0.mk ((by rw [hg]; exact Nat.ne_of_gt (blk_lt (g := gb131) (o := .cells #[.int .i64 a0_0, .int .u64 a0_1] 61 (0, 0)) (by (with_reducible repeat (first | refine kN ?_ _ | refine kD ?_ | refine kA ?_ _)); exact BK131.out)) : gb132 ≠ gb131)); clear BK131; clear HB; have BK131 := n0_; have HB := n1_; have BK132 := n2_; have GW132 := n3_; have GE132 := n4_; have NB131_132 := n5_; have NB132_131 := n6_; clear n0_ n1_ n2_ n3_ n4_ n5_ n6_; clear hb hbox hg) | ((with_reducible refine gate_dst (N := 4) rfl ?_); refine box_event ?hg (N := 4) ?hd (cs := #[.int .i64 0, .int .u64 0]) (t := 61) ?hr ?_; (case hd => rfl); (case hg => rfl); (case hr => first | (go_simp; done) | (go_simp; rfl)); intro gb133 hg w23 hbox hb; have n0_ := Aside0.mk (kB (g := gb131) (o := .cells #[.int .i64 a0_0, .int .u64 a0_1] 61 (0, 0)) (by (with_reducible repeat (first | refine kN ?_ _ | refine kD ?_ | refine kA ?_ _)); exact BK131.out) hb); have n1_ := Aside0.mk (kB (g := gb132) (o := .cells #[.int .i64 a1_0, .int .u64 a1_1] 61 (0, 0)) (by (with_reducible repeat (first | refine kN ?_ _ | refine kD ?_ | refine kA ?_ _)); exact BK132.out) hb); have n2_ := Aside0.mk (bS (by repeat (first | (with_reducible first | exact HB.out | apply bA | apply bN | apply bD | refine bE ?_ GE131.out | refine bE ?_ GE132.out) | exact HB.out)) hb); have n3_ := Aside0.mk (hbox); have n4_ := Aside0.mk ((by rw [hg]; exact (bZ (by repeat (first | (with_reducible first | exact HB.out | apply bA | apply bN | apply bD | refine bE ?_ GE131.out | refine bE ?_ GE132.out) | exact HB.out))) : w.heap.size ≤ gb133)); have n5_ := Aside0.mk ((by rw [hg]; exact (bZ (by repeat (first | (with_reducible first | exact HB.out | apply bA | apply bN | apply bD | refine bE ?_ GE131.out | refine bE ?_ GE132.out) | exact HB.out))) : w.heap.size ≤ gb133)); have n6_ := Aside0.mk ((by rw [hg]; exact Nat.ne_of_lt (blk_lt (g := gb131) (o := .cells #[.int .i64 a0_0, .int .u64 a0_1] 61 (0, 0)) (by (with_reducible repeat (first | refine kN ?_ _ | refine kD ?_ | refine kA ?_ _)); exact BK131.out)) : gb131 ≠ gb133)); have n7_ := Aside0.mk ((by rw [hg]; exact Nat.ne_of_gt (blk_lt (g := gb131) (o := .cells #[.int .i64 a0_0, .int .u64 a0_1] 61 (0, 0)) (by (with_reducible repeat (first | refine kN ?_ _ | refine kD ?_ | refine kA ?_ _)); exact BK131.out)) : gb133 ≠ gb131)); have n8_ := Aside0.mk ((by rw [hg]; exact Nat.ne_of_lt (blk_lt (g := gb132) (o := .cells #[.int .i64 a1_0, .int .u64 a1_1] 61 (0, 0)) (by (with_reducible repeat (first | refine kN ?_ _ | refine kD ?_ | refine kA ?_ _)); exact BK132.out)) : gb132 ≠ gb133)); have n9_ := Aside0.mk ((by rw [hg]; exact Nat.ne_of_gt (blk_lt (g := gb132) (o := .cells #[.int .i64 a1_0, .int .u64 a1_1] 61 (0, 0)) (by (with_reducible repeat (first | refine kN ?_ _ | refine kD ?_ | refine kA ?_ _)); exact BK132.out)) : gb133 ≠ gb132)); clear BK131; clear BK132; clear HB; have BK131 := n0_; have BK132 := n1_; have HB := n2_; have BK133 := n3_; have GW133 := n4_; have GE133 := n5_; have NB131_133 := n6_; have NB133_131 := n7_; have NB132_133 := n8_; have NB133_132 := n9_; clear n0_ n1_ n2_ n3_ n4_ n5_ n6_ n7_ n8_ n9_; clear hb hbox hg; have hnb24 := NB131_132.out; have hnc24 := NB132_131.out; have hnb25 := NB131_133.out; have hnc25 := NB133_131.out; have hcz26_0 : w23.cell? ⟨gb131, 0, none⟩ = some (.int .i64 a0_0) := (kC BK131.out 0).trans rfl; have hcz26_1 : w23.cell? ⟨gb131, 1, none⟩ = some (.int .u64 a0_1) := (kC BK131.out 1).trans rfl; have hfz26_0 := kZ BK131.out 0; have hfz26_1 := kZ BK131.out 1; have hnb27 := NB132_133.out; have hnc27 := NB133_132.out; have hcz28_0 : w23.cell? ⟨gb132, 0, none⟩ = some (.int .i64 a1_0) := (kC BK132.out 0).trans rfl; have hcz28_1 : w23.cell? ⟨gb132, 1, none⟩ = some (.int .u64 a1_1) := (kC BK132.out 1).trans rfl; have hfz28_0 := kZ BK132.out 0; have hfz28_1 := kZ BK132.out 1) | ((with_reducible refine gate_dst (N := 10) rfl ?_); refine box_event ?hg (N := 10) ?hd (cs := #[.int .i64 0, .int .u64 0]) (t := 61) ?hr ?_; (case hd => rfl); (case hg => rfl); (case hr => first | (go_simp; done) | (go_simp; rfl)); intro gb134 hg w29 hbox hb; have n0_ := Aside0.mk (kB (g := gb131) (o := .cells #[.int .i64 a0_0, .int .u64 a0_1] 61 (0, 0)) (by (with_reducible repeat (first | refine kN ?_ _ | refine kD ?_ | refine kA ?_ _)); exact BK131.out) hb); have n1_ := Aside0.mk (kB (g := gb132) (o := .cells #[.int .i64 a1_0, .int .u64 a1_1] 61 (0, 0)) (by (with_reducible repeat (first | refine kN ?_ _ | refine kD ?_ | refine kA ?_ _)); exact BK132.out) hb); have n2_ := Aside0.mk (kB (g := gb133) (o := .cells #[.int .i64 0, .int .u64 0] 61 (0, 0)) (by (with_reducible repeat (first | refine kN ?_ _ | refine kD ?_ | refine kA ?_ _)); exact BK133.out) hb); have n3_ := Aside0.mk (bS (by repeat (first | (with_reducible first | exact HB.out | apply bA | apply bN | apply bD | refine bE ?_ GE131.out | refine bE ?_ GE132.out | refine bE ?_ GE133.out) | exact HB.out)) hb); have n4_ := Aside0.mk (hbox); have n5_ := Aside0.mk ((by rw [hg]; exact (bZ (by repeat (first | (with_reducible first | exact HB.out | apply bA | apply bN | apply bD | refine bE ?_ GE131.out | refine bE ?_ GE132.out | refine bE ?_ GE133.out) | exact HB.out))) : w.heap.size ≤ gb134)); have n6_ := Aside0.mk ((by rw [hg]; exact (bZ (by repeat (first | (with_reducible first | exact HB.out | apply bA | apply bN | apply bD | refine bE ?_ GE131.out | refine bE ?_ GE132.out | refine bE ?_ GE133.out) | exact HB.out))) : w.heap.size ≤ gb134)); have n7_ := Aside0.mk ((by rw [hg]; exact Nat.ne_of_lt (blk_lt (g := gb131) (o := .cells #[.int .i64 a0_0, .int .u64 a0_1] 61 (0, 0)) (by (with_reducible repeat (first | refine kN ?_ _ | refine kD ?_ | refine kA ?_ _)); exact BK131.out)) : gb131 ≠ gb134)); have n8_ := Aside0.mk ((by rw [hg]; exact Nat.ne_of_gt (blk_lt (g := gb131) (o := .cells #[.int .i64 a0_0, .int .u64 a0_1] 61 (0, 0)) (by (with_reducible repeat (first | refine kN ?_ _ | refine kD ?_ | refine kA ?_ _)); exact BK131.out)) : gb134 ≠ gb131)); have n9_ := Aside0.mk ((by rw [hg]; exact Nat.ne_of_lt (blk_lt (g := gb132) (o := .cells #[.int .i64 a1_0, .int .u64 a1_1] 61 (0, 0)) (by (with_reducible repeat (first | refine kN ?_ _ | refine kD ?_ | refine kA ?_ _)); exact BK132.out)) : gb132 ≠ gb134)); have n10_ := Aside0.mk ((by rw [hg]; exact Nat.ne_of_gt (blk_lt (g := gb132) (o := .cells #[.int .i64 a1_0, .int .u64 a1_1] 61 (0, 0)) (by (with_reducible repeat (first | refine kN ?_ _ | refine kD ?_ | refine kA ?_ _)); exact BK132.out)) : gb134 ≠ gb132)); have n11_ := Aside0.mk ((by rw [hg]; exact Nat.ne_of_lt (blk_lt (g := gb133) (o := .cells #[.int .i64 0, .int .u64 0] 61 (0, 0)) (by (with_reducible repeat (first | refine kN ?_ _ | refine kD ?_ | refine kA ?_ _)); exact BK133.out)) : gb133 ≠ gb134)); have n12_ := Aside0.mk ((by rw [hg]; exact Nat.ne_of_gt (blk_lt (g := gb133) (o := .cells #[.int .i64 0, .int .u64 0] 61 (0, 0)) (by (with_reducible repeat (first | refine kN ?_ _ | refine kD ?_ | refine kA ?_ _)); exact BK133.out)) : gb134 ≠ gb133)); clear BK131; clear BK132; clear BK133; clear HB; have BK131 := n0_; have BK132 := n1_; have BK133 := n2_; have HB := n3_; have BK134 := n4_; have GW134 := n5_; have GE134 := n6_; have NB131_134 := n7_; have NB134_131 := n8_; have NB132_134 := n9_; have NB134_132 := n10_; have NB133_134 := n11_; have NB134_133 := n12_; clear n0_ n1_ n2_ n3_ n4_ n5_ n6_ n7_ n8_ n9_ n10_ n11_ n12_; clear hb hbox hg; have hnb30 := NB134_131.out; have hnc30 := NB131_134.out; have hnb31 := NB134_132.out; have hnc31 := NB132_134.out; have hnb32 := NB134_133.out; have hnc32 := NB133_134.out; have hcz33_0 : w29.cell? ⟨gb134, 0, none⟩ = some (.int .i64 0) := (kC BK134.out 0).trans rfl; have hcz33_1 : w29.cell? ⟨gb134, 1, none⟩ = some (.int .u64 0) := (kC BK134.out 1).trans rfl; have hfz33_0 := kZ BK134.out 0; have hfz33_1 := kZ BK134.out 1; have hcz34_0 : w29.cell? ⟨gb131, 0, none⟩ = some (.int .i64 a0_0) := (kC BK131.out 0).trans rfl; have hcz34_1 : w29.cell? ⟨gb131, 1, none⟩ = some (.int .u64 a0_1) := (kC BK131.out 1).trans rfl; have hfz34_0 := kZ BK131.out 0; have hfz34_1 := kZ BK131.out 1; have hcz35_0 : w29.cell? ⟨gb132, 0, none⟩ = some (.int .i64 a1_0) := (kC BK132.out 0).trans rfl; have hcz35_1 : w29.cell? ⟨gb132, 1, none⟩ = some (.int .u64 a1_1) := (kC BK132.out 1).trans rfl; have hfz35_0 := kZ BK132.out 0; have hfz35_1 := kZ BK132.out 1; have hcz36_0 : w29.cell? ⟨gb133, 0, none⟩ = some (.int .i64 0) := (kC BK133.out 0).trans rfl; have hcz36_1 : w29.cell? ⟨gb133, 1, none⟩ = some (.int .u64 0) := (kC BK133.out 1).trans rfl; have hfz36_0 := kZ BK133.out 0; have hfz36_1 := kZ BK133.out 1))
   refine bodyPost_ret (results_ct rfl _ _ gb133 61 #[.int .i64 (wrap64 (sub64s (IntKind.u64.wrap (a0_0)) (IntKind.u64.wrap (a1_0)) (sub64c a0_1 a1_1 0))), .int .u64 (sub64s a0_1 a1_1 0)] (0, 0) _ rfl (by (with_reducible repeat (first | refine kN ?_ _ | refine kD ?_ | refine kA ?_ _)); refine kP (cs := #[.int .i64 (wrap64 (sub64s (IntKind.u64.wrap (a0_0)) (IntKind.u64.wrap (a1_0)) (sub64c a0_1 a1_1 0))), .int .u64 0]) ?_ 1 _ rfl; (with_reducible repeat (first | refine kN ?_ _ | refine kD ?_ | refine kA ?_ _)); refine kP (cs := #[.int .i64 0, .int .u64 0]) ?_ 0 _ rfl; (with_reducible repeat (first | refine kN ?_ _ | refine kD ?_ | refine kA ?_ _)); refine kF ?_ NB133_134.out _; (with_reducible repeat (first | refine kN ?_ _ | refine kD ?_ | refine kA ?_ _)); refine kF ?_ NB133_134.out _; (with_reducible repeat (first | refine kN ?_ _ | refine kD ?_ | refine kA ?_ _)); exact BK133.out) Try.underlying61 rfl (by kernel_rfl)) rfl ?_
   exact ⟨by first | rfl | (simp [errW_none, errW_some] <;> rfl) | (simp [*, errW_none, errW_some] <;> rfl), by repeat (first | (with_reducible first | exact HB.out | apply bA | apply bN | apply bD | refine bE ?_ GE131.out | refine bE ?_ GE132.out | refine bE ?_ GE133.out | refine bE ?_ GE134.out) | exact HB.out)⟩
 ·rw [if_neg c3] at H
  exact absurd H (by simp)

end Go.Proofs.Ytamlcbmkdfikeaa.PVerdict

-- written by handprint.py, a program of this session's, over the seat Ytamlcbmkdfikeaa
import Derived.Test.YtamlcbmkdfikeaaPVerdictx0
import Derived.Test.YtamlcbmkdfikeaaPVerdictx3
import Derived.Test.YtamlcbmkdfikeaaPVerdictx16
namespace Go.Proofs.Ytamlcbmkdfikeaa.PVerdict
open Go.RowKit Go.Proofs.YtamlcbmkdfikeaaW.PrintWords Go.Proofs.YtamlcbmkdfikeaaW.PrintLast Go.Proofs.YtamlcbmkdfikeaaW.PrintMore
open Go.Proofs.YtamlcbmkdfikeaaW.PrintWords renaming below_alloc → bA, pw_below_drewN → bN, below_drew1 → bD, below_step → bS
open List renaming map_toArray → sD, map_cons → sE, map_nil → sF, length_drop → sG, length_take → sH
attribute [local go_sem] max2_int min2_int max_two min_two max_three min_three max_four min_four   -- for this text's walks alone
set_option linter.unusedVariables false
set_option linter.unusedSimpArgs false

/-! ### apogeeref19_Join: function 6 -/
mutual
def apogeeref19_Join.j0 : Nat → Int → Int → Bool → Option (Int)
 | 0, _, _, _ => none
 | k + 1, x0, x1, x10 => if x10 = true then (apogeeref19_Join.j1 k 4 x1) else (apogeeref19_Join.j1 k x0 x1)
def apogeeref19_Join.j1 : Nat → Int → Int → Option (Int)
 | 0, _, _ => none
 | k + 1, x0, x1 => if x1 < 1 then (apogeeref19_Join.j2 k x0 x1 true) else (apogeeref19_Join.j2 k x0 x1 (decide (x1 > 4)))
def apogeeref19_Join.j2 : Nat → Int → Int → Bool → Option (Int)
 | 0, _, _, _ => none
 | k + 1, x0, x1, x16 => if x16 = true then (apogeeref19_Join.j3 k x0 4) else (apogeeref19_Join.j3 k x0 x1)
def apogeeref19_Join.j3 : Nat → Int → Int → Option (Int)
 | 0, _, _ => none
 | k + 1, x0, x1 => if x0 = 3 then (apogeeref19_Join.j4 k x0 x1 true) else (apogeeref19_Join.j4 k x0 x1 (x1 == 3))
def apogeeref19_Join.j4 : Nat → Int → Int → Bool → Option (Int)
 | 0, _, _, _ => none
 | k + 1, x0, x1, x22 => if x22 = true then (some 3) else (if x0 = 4 then (apogeeref19_Join.j5 k x0 x1 (x1 == 4)) else (apogeeref19_Join.j5 k x0 x1 false))
def apogeeref19_Join.j5 : Nat → Int → Int → Bool → Option (Int)
 | 0, _, _, _ => none
 | k + 1, x0, x1, x28 => if x28 = true then (some 4) else (if x0 = 2 then (apogeeref19_Join.j6 k true) else (apogeeref19_Join.j6 k (x1 == 2)))
def apogeeref19_Join.j6 : Nat → Bool → Option (Int)
 | 0, _ => none
 | k + 1, x34 => if x34 = true then (some 2) else (some 1)
end
def apogeeref19_Join.f (k : Nat) (a0 : Int) (a1 : Int) : Option (Int) := if a0 < 1 then (apogeeref19_Join.j0 k a0 a1 true) else (apogeeref19_Join.j0 k a0 a1 (decide (a0 > 4)))
theorem apogeeref19_Join.mono_l : ∀ k, (∀ y0 y1 y2, LeO (apogeeref19_Join.j0 k y0 y1 y2) (apogeeref19_Join.j0 (k + 1) y0 y1 y2)) ∧ (∀ y0 y1, LeO (apogeeref19_Join.j1 k y0 y1) (apogeeref19_Join.j1 (k + 1) y0 y1)) ∧ (∀ y0 y1 y2, LeO (apogeeref19_Join.j2 k y0 y1 y2) (apogeeref19_Join.j2 (k + 1) y0 y1 y2)) ∧ (∀ y0 y1, LeO (apogeeref19_Join.j3 k y0 y1) (apogeeref19_Join.j3 (k + 1) y0 y1)) ∧ (∀ y0 y1 y2, LeO (apogeeref19_Join.j4 k y0 y1 y2) (apogeeref19_Join.j4 (k + 1) y0 y1 y2)) ∧ (∀ y0 y1 y2, LeO (apogeeref19_Join.j5 k y0 y1 y2) (apogeeref19_Join.j5 (k + 1) y0 y1 y2)) ∧ (∀ y0, LeO (apogeeref19_Join.j6 k y0) (apogeeref19_Join.j6 (k + 1) y0))
 | 0 => ⟨fun _ _ _ r h => by simp [apogeeref19_Join.j0] at h, fun _ _ r h => by simp [apogeeref19_Join.j1] at h, fun _ _ _ r h => by simp [apogeeref19_Join.j2] at h, fun _ _ r h => by simp [apogeeref19_Join.j3] at h, fun _ _ _ r h => by simp [apogeeref19_Join.j4] at h, fun _ _ _ r h => by simp [apogeeref19_Join.j5] at h, fun _ r h => by simp [apogeeref19_Join.j6] at h⟩
 | k + 1 => by
  obtain ⟨ih0, ih1, ih2, ih3, ih4, ih5, ih6⟩ := apogeeref19_Join.mono_l k
  refine ⟨?_, ?_, ?_, ?_, ?_, ?_, ?_⟩
  ·intro y0 y1 y2
   unfold apogeeref19_Join.j0
   repeat' first
   | (with_reducible exact ih0 _ _ _)
   | (with_reducible exact ih1 _ _)
   | (with_reducible exact ih2 _ _ _)
   | (with_reducible exact ih3 _ _)
   | (with_reducible exact ih4 _ _ _)
   | (with_reducible exact ih5 _ _ _)
   | (with_reducible exact ih6 _)
   | (with_reducible exact LeO.refl _)
   | (with_reducible exact LeO.none _)
   | (with_reducible refine LeO.ite ?_ ?_)
   | (with_reducible refine LeO.bind ?_ (fun _ => ?_))
   | exact ih0 _ _ _
   | exact ih1 _ _
   | exact ih2 _ _ _
   | exact ih3 _ _
   | exact ih4 _ _ _
   | exact ih5 _ _ _
   | exact ih6 _
   | exact LeO.none _
   | refine LeO.ite ?_ ?_
   | refine LeO.bind ?_ (fun _ => ?_)
  ·intro y0 y1
   unfold apogeeref19_Join.j1
   repeat' first
   | (with_reducible exact ih0 _ _ _)
   | (with_reducible exact ih1 _ _)
   | (with_reducible exact ih2 _ _ _)
   | (with_reducible exact ih3 _ _)
   | (with_reducible exact ih4 _ _ _)
   | (with_reducible exact ih5 _ _ _)
   | (with_reducible exact ih6 _)
   | (with_reducible exact LeO.refl _)
   | (with_reducible exact LeO.none _)
   | (with_reducible refine LeO.ite ?_ ?_)
   | (with_reducible refine LeO.bind ?_ (fun _ => ?_))
   | exact ih0 _ _ _
   | exact ih1 _ _
   | exact ih2 _ _ _
   | exact ih3 _ _
   | exact ih4 _ _ _
   | exact ih5 _ _ _
   | exact ih6 _
   | exact LeO.none _
   | refine LeO.ite ?_ ?_
   | refine LeO.bind ?_ (fun _ => ?_)
  ·intro y0 y1 y2
   unfold apogeeref19_Join.j2
   repeat' first
   | (with_reducible exact ih0 _ _ _)
   | (with_reducible exact ih1 _ _)
   | (with_reducible exact ih2 _ _ _)
   | (with_reducible exact ih3 _ _)
   | (with_reducible exact ih4 _ _ _)
   | (with_reducible exact ih5 _ _ _)
   | (with_reducible exact ih6 _)
   | (with_reducible exact LeO.refl _)
   | (with_reducible exact LeO.none _)
   | (with_reducible refine LeO.ite ?_ ?_)
   | (with_reducible refine LeO.bind ?_ (fun _ => ?_))
   | exact ih0 _ _ _
   | exact ih1 _ _
   | exact ih2 _ _ _
   | exact ih3 _ _
   | exact ih4 _ _ _
   | exact ih5 _ _ _
   | exact ih6 _
   | exact LeO.none _
   | refine LeO.ite ?_ ?_
   | refine LeO.bind ?_ (fun _ => ?_)
  ·intro y0 y1
   unfold apogeeref19_Join.j3
   repeat' first
   | (with_reducible exact ih0 _ _ _)
   | (with_reducible exact ih1 _ _)
   | (with_reducible exact ih2 _ _ _)
   | (with_reducible exact ih3 _ _)
   | (with_reducible exact ih4 _ _ _)
   | (with_reducible exact ih5 _ _ _)
   | (with_reducible exact ih6 _)
   | (with_reducible exact LeO.refl _)
   | (with_reducible exact LeO.none _)
   | (with_reducible refine LeO.ite ?_ ?_)
   | (with_reducible refine LeO.bind ?_ (fun _ => ?_))
   | exact ih0 _ _ _
   | exact ih1 _ _
   | exact ih2 _ _ _
   | exact ih3 _ _
   | exact ih4 _ _ _
   | exact ih5 _ _ _
   | exact ih6 _
   | exact LeO.none _
   | refine LeO.ite ?_ ?_
   | refine LeO.bind ?_ (fun _ => ?_)
  ·intro y0 y1 y2
   unfold apogeeref19_Join.j4
   repeat' first
   | (with_reducible exact ih0 _ _ _)
   | (with_reducible exact ih1 _ _)
   | (with_reducible exact ih2 _ _ _)
   | (with_reducible exact ih3 _ _)
   | (with_reducible exact ih4 _ _ _)
   | (with_reducible exact ih5 _ _ _)
   | (with_reducible exact ih6 _)
   | (with_reducible exact LeO.refl _)
   | (with_reducible exact LeO.none _)
   | (with_reducible refine LeO.ite ?_ ?_)
   | (with_reducible refine LeO.bind ?_ (fun _ => ?_))
   | exact ih0 _ _ _
   | exact ih1 _ _
   | exact ih2 _ _ _
   | exact ih3 _ _
   | exact ih4 _ _ _
   | exact ih5 _ _ _
   | exact ih6 _
   | exact LeO.none _
   | refine LeO.ite ?_ ?_
   | refine LeO.bind ?_ (fun _ => ?_)
  ·intro y0 y1 y2
   unfold apogeeref19_Join.j5
   repeat' first
   | (with_reducible exact ih0 _ _ _)
   | (with_reducible exact ih1 _ _)
   | (with_reducible exact ih2 _ _ _)
   | (with_reducible exact ih3 _ _)
   | (with_reducible exact ih4 _ _ _)
   | (with_reducible exact ih5 _ _ _)
   | (with_reducible exact ih6 _)
   | (with_reducible exact LeO.refl _)
   | (with_reducible exact LeO.none _)
   | (with_reducible refine LeO.ite ?_ ?_)
   | (with_reducible refine LeO.bind ?_ (fun _ => ?_))
   | exact ih0 _ _ _
   | exact ih1 _ _
   | exact ih2 _ _ _
   | exact ih3 _ _
   | exact ih4 _ _ _
   | exact ih5 _ _ _
   | exact ih6 _
   | exact LeO.none _
   | refine LeO.ite ?_ ?_
   | refine LeO.bind ?_ (fun _ => ?_)
  ·intro y0
   unfold apogeeref19_Join.j6
   repeat' first
   | (with_reducible exact ih0 _ _ _)
   | (with_reducible exact ih1 _ _)
   | (with_reducible exact ih2 _ _ _)
   | (with_reducible exact ih3 _ _)
   | (with_reducible exact ih4 _ _ _)
   | (with_reducible exact ih5 _ _ _)
   | (with_reducible exact ih6 _)
   | (with_reducible exact LeO.refl _)
   | (with_reducible exact LeO.none _)
   | (with_reducible refine LeO.ite ?_ ?_)
   | (with_reducible refine LeO.bind ?_ (fun _ => ?_))
   | exact ih0 _ _ _
   | exact ih1 _ _
   | exact ih2 _ _ _
   | exact ih3 _ _
   | exact ih4 _ _ _
   | exact ih5 _ _ _
   | exact ih6 _
   | exact LeO.none _
   | refine LeO.ite ?_ ?_
   | refine LeO.bind ?_ (fun _ => ?_)
theorem apogeeref19_Join.mono : ∀ a0 a1 k, LeO (apogeeref19_Join.f k a0 a1) (apogeeref19_Join.f (k + 1) a0 a1) := by
 intro a0 a1 k
 obtain ⟨ih0, ih1, ih2, ih3, ih4, ih5, ih6⟩ := apogeeref19_Join.mono_l k
 unfold apogeeref19_Join.f
 repeat' first
   | (with_reducible exact ih0 _ _ _)
   | (with_reducible exact ih1 _ _)
   | (with_reducible exact ih2 _ _ _)
   | (with_reducible exact ih3 _ _)
   | (with_reducible exact ih4 _ _ _)
   | (with_reducible exact ih5 _ _ _)
   | (with_reducible exact ih6 _)
   | (with_reducible exact LeO.refl _)
   | (with_reducible exact LeO.none _)
   | (with_reducible refine LeO.ite ?_ ?_)
   | (with_reducible refine LeO.bind ?_ (fun _ => ?_))
   | exact ih0 _ _ _
   | exact ih1 _ _
   | exact ih2 _ _ _
   | exact ih3 _ _
   | exact ih4 _ _ _
   | exact ih5 _ _ _
   | exact ih6 _
   | exact LeO.none _
   | refine LeO.ite ?_ ?_
   | refine LeO.bind ?_ (fun _ => ?_)
set_option maxHeartbeats 8000000 in
set_option maxRecDepth 100000 in
theorem apogeeref19_Join.calls (k : Nat) (a0 : Int) (a1 : Int) (r : Int) (w : World) (h : apogeeref19_Join.f k a0 a1 = some r) :
  Calls Try.prog 6 #[.int .i64 a0, .int .i64 a1] w fun e w' => e = .returned (.int .i64 r) ∧ Drawn0 w w' := by
 have H : (if a0 < 1 then (apogeeref19_Join.j0 k a0 a1 true) else (apogeeref19_Join.j0 k a0 a1 (decide (a0 > 4)))) = some r := h
 clear h
 have HC3 := Aside0.mk H
 clear H
 go_enter Try.func6, Try.ntmps6
 go_upto_region 1 with (fail)
 go_cut [10] (fun v10 wc => ∃ (kq : Nat) (x10_2 : Bool), v10 = .bool x10_2 ∧ Aside0 (apogeeref19_Join.j0 kq a0 a1 x10_2 = some r) ∧ Aside0 (kq ≤ k) ∧ Drawn0 w wc)
 case first =>
  have H := HC3.out
  clear HC3
  by_cases c4 : a0 < 1
  ·rw [if_pos c4] at H
   have c4b0 : decide (a0 < 1) = true := decide_eq_true c4
   clear c4
   (first | rw [c4b0] | (simp only [i64_w, i32_w]; rw [c4b0]) | skip)
   have H' := Aside0.mk H
   clear H
   go_wp2
   go_meet
   case rel => exact ⟨_, (true), (by first | rfl | (simp; done) | (simp [*]; done)), H', ⟨by first | omega | exact Nat.le_refl _⟩, by repeat (first | exact Drawn0.refl _ | apply Drawn0.step)⟩
  ·rw [if_neg c4] at H
   have c4b0 : decide (a0 < 1) = false := decide_eq_false c4
   clear c4
   (first | rw [c4b0] | (simp only [i64_w, i32_w]; rw [c4b0]) | skip)
   have H' := Aside0.mk H
   clear H
   go_wp2
   go_meet
   case rel => exact ⟨_, (decide (a0 > 4)), (by first | rfl | (simp; done) | (simp [*]; done)), H', ⟨by first | omega | exact Nat.le_refl _⟩, by repeat (first | exact Drawn0.refl _ | apply Drawn0.step)⟩
 case rest =>
  clear HC3
  try clear p2
  try clear c4
  try clear c4b0
  obtain ⟨kq, x10_2, rfl, HA, HJ2, ⟨mc2, rfl⟩⟩ := hcut
  cases kq with
  | zero => exact absurd HA.out (by simp [apogeeref19_Join.j0])
  | succ kj2 =>
   have H := HA.out
   clear HA
   simp only [apogeeref19_Join.j0] at H
   have HC5 := Aside0.mk H
   clear H
   go_upto_if 10 with (fail)
   go_cut [0] (fun v0 wc => ∃ (kq : Nat) (x0_4 : Int), v0 = .int .i64 x0_4 ∧ Aside0 (apogeeref19_Join.j1 kq x0_4 a1 = some r) ∧ Aside0 (kq ≤ kj2) ∧ Drawn0 w wc)
   case first =>
    have H := HC5.out
    clear HC5
    by_cases c6 : x10_2 = true
    ·subst c6
     have H1 : (apogeeref19_Join.j1 kj2 4 a1) = some r := by rw [if_pos rfl] at H; exact H
     clear H
     have H := H1
     clear H1
     have H' := Aside0.mk H
     clear H
     go_wp2
     go_meet
     case rel => exact ⟨_, (4), (by first | rfl | (simp; done) | (simp [*]; done)), H', ⟨by have := HJ2.out; first | omega | exact Nat.le_refl _⟩, by repeat (first | exact Drawn0.refl _ | apply Drawn0.step)⟩
    ·replace c6 := Bool.eq_false_iff.mpr c6
     subst c6
     have H1 : (apogeeref19_Join.j1 kj2 a0 a1) = some r := by rw [if_neg (show ¬ (false = true) by decide)] at H; exact H
     clear H
     have H := H1
     clear H1
     have H' := Aside0.mk H
     clear H
     go_wp2
     go_meet
     case rel => exact ⟨_, (a0), (by first | rfl | (simp; done) | (simp [*]; done)), H', ⟨by have := HJ2.out; first | omega | exact Nat.le_refl _⟩, by repeat (first | exact Drawn0.refl _ | apply Drawn0.step)⟩
   case rest =>
    clear HC5
    try clear c2
    try clear p2
    try clear c4
    try clear c4b0
    try clear c6
    try clear p2
    obtain ⟨kq, x0_4, rfl, HA, HJ4, ⟨mc4, rfl⟩⟩ := hcut
    cases kq with
    | zero => exact absurd HA.out (by simp [apogeeref19_Join.j1])
    | succ kj4 =>
     have H := HA.out
     clear HA
     simp only [apogeeref19_Join.j1] at H
     have HC7 := Aside0.mk H
     clear H
     go_upto_region 3 with (fail)
     go_cut [16] (fun v16 wc => ∃ (kq : Nat) (x16_6 : Bool), v16 = .bool x16_6 ∧ Aside0 (apogeeref19_Join.j2 kq x0_4 a1 x16_6 = some r) ∧ Aside0 (kq ≤ kj4) ∧ Drawn0 w wc)
     case first =>
      have H := HC7.out
      clear HC7
      by_cases c8 : a1 < 1
      ·rw [if_pos c8] at H
       have c8b0 : decide (a1 < 1) = true := decide_eq_true c8
       clear c8
       (first | rw [c8b0] | (simp only [i64_w, i32_w]; rw [c8b0]) | skip)
       have H' := Aside0.mk H
       clear H
       go_wp2
       go_meet
       case rel => exact ⟨_, (true), (by first | rfl | (simp; done) | (simp [*]; done)), H', ⟨by have := HJ2.out; have := HJ4.out; first | omega | exact Nat.le_refl _⟩, by repeat (first | exact Drawn0.refl _ | apply Drawn0.step)⟩
      ·rw [if_neg c8] at H
       have c8b0 : decide (a1 < 1) = false := decide_eq_false c8
       clear c8
       (first | rw [c8b0] | (simp only [i64_w, i32_w]; rw [c8b0]) | skip)
       have H' := Aside0.mk H
       clear H
       go_wp2
       go_meet
       case rel => exact ⟨_, (decide (a1 > 4)), (by first | rfl | (simp; done) | (simp [*]; done)), H', ⟨by have := HJ2.out; have := HJ4.out; first | omega | exact Nat.le_refl _⟩, by repeat (first | exact Drawn0.refl _ | apply Drawn0.step)⟩
     case rest =>
      clear HC7
      try clear c2
      try clear p2
      try clear c4
      try clear c4b0
      try clear c6
      try clear c8
      try clear c8b0
      try clear p2
      obtain ⟨kq, x16_6, rfl, HA, HJ6, ⟨mc6, rfl⟩⟩ := hcut
      cases kq with
      | zero => exact absurd HA.out (by simp [apogeeref19_Join.j2])
      | succ kj6 =>
       have H := HA.out
       clear HA
       simp only [apogeeref19_Join.j2] at H
       have HC9 := Aside0.mk H
       clear H
       go_upto_if 16 with (fail)
       go_cut [1] (fun v1 wc => ∃ (kq : Nat) (x1_8 : Int), v1 = .int .i64 x1_8 ∧ Aside0 (apogeeref19_Join.j3 kq x0_4 x1_8 = some r) ∧ Aside0 (kq ≤ kj6) ∧ Drawn0 w wc)
       case first =>
        have H := HC9.out
        clear HC9
        by_cases c10 : x16_6 = true
        ·subst c10
         have H1 : (apogeeref19_Join.j3 kj6 x0_4 4) = some r := by rw [if_pos rfl] at H; exact H
         clear H
         have H := H1
         clear H1
         have H' := Aside0.mk H
         clear H
         go_wp2
         go_meet
         case rel => exact ⟨_, (4), (by first | rfl | (simp; done) | (simp [*]; done)), H', ⟨by have := HJ2.out; have := HJ4.out; have := HJ6.out; first | omega | exact Nat.le_refl _⟩, by repeat (first | exact Drawn0.refl _ | apply Drawn0.step)⟩
        ·replace c10 := Bool.eq_false_iff.mpr c10
         subst c10
         have H1 : (apogeeref19_Join.j3 kj6 x0_4 a1) = some r := by rw [if_neg (show ¬ (false = true) by decide)] at H; exact H
         clear H
         have H := H1
         clear H1
         have H' := Aside0.mk H
         clear H
         go_wp2
         go_meet
         case rel => exact ⟨_, (a1), (by first | rfl | (simp; done) | (simp [*]; done)), H', ⟨by have := HJ2.out; have := HJ4.out; have := HJ6.out; first | omega | exact Nat.le_refl _⟩, by repeat (first | exact Drawn0.refl _ | apply Drawn0.step)⟩
       case rest =>
        clear HC9
        try clear c1
        try clear c2
        try clear p2
        try clear c4
        try clear c4b0
        try clear c6
        try clear c8
        try clear c8b0
        try clear c10
        try clear p2
        obtain ⟨kq, x1_8, rfl, HA, HJ8, ⟨mc8, rfl⟩⟩ := hcut
        cases kq with
        | zero => exact absurd HA.out (by simp [apogeeref19_Join.j3])
        | succ kj8 =>
         have H := HA.out
         clear HA
         simp only [apogeeref19_Join.j3] at H
         have HC11 := Aside0.mk H
         clear H
         go_upto_region 5 with (fail)
         go_cut [22] (fun v22 wc => ∃ (kq : Nat) (x22_10 : Bool), v22 = .bool x22_10 ∧ Aside0 (apogeeref19_Join.j4 kq x0_4 x1_8 x22_10 = some r) ∧ Aside0 (kq ≤ kj8) ∧ Drawn0 w wc)
         case first =>
          have H := HC11.out
          clear HC11
          by_cases c12 : x0_4 = 3
          ·rw [if_pos c12] at H
           have c12b0 : (x0_4 == 3) = true := beq_iff_eq.mpr c12
           have c12b1 : (x0_4 != 3) = false := bne_eq_false_iff_eq.mpr c12
           clear c12
           (first | rw [c12b0] | (simp only [i64_w, i32_w]; rw [c12b0]) | skip)
           have H' := Aside0.mk H
           clear H
           go_wp2
           go_meet
           case rel => exact ⟨_, (true), (by first | rfl | (simp; done) | (simp [*]; done)), H', ⟨by have := HJ2.out; have := HJ4.out; have := HJ6.out; have := HJ8.out; first | omega | exact Nat.le_refl _⟩, by repeat (first | exact Drawn0.refl _ | apply Drawn0.step)⟩
          ·rw [if_neg c12] at H
           have c12b0 : (x0_4 == 3) = false := beq_eq_false_iff_ne.mpr c12
           have c12b1 : (x0_4 != 3) = true := bne_iff_ne.mpr c12
           (first | rw [c12b0] | (simp only [i64_w, i32_w]; rw [c12b0]) | skip)
           have H' := Aside0.mk H
           clear H
           go_wp2
           go_meet
           case rel => exact ⟨_, ((x1_8 == 3)), (by first | rfl | (simp; done) | (simp [*]; done)), H', ⟨by have := HJ2.out; have := HJ4.out; have := HJ6.out; have := HJ8.out; first | omega | exact Nat.le_refl _⟩, by repeat (first | exact Drawn0.refl _ | apply Drawn0.step)⟩
         case rest =>
          clear HC11
          try clear c1
          try clear c2
          try clear p2
          try clear c4
          try clear c4b0
          try clear c6
          try clear c8
          try clear c8b0
          try clear c10
          try clear c12
          try clear c12b0
          try clear c12b1
          try clear p2
          obtain ⟨kq, x22_10, rfl, HA, HJ10, ⟨mc10, rfl⟩⟩ := hcut
          cases kq with
          | zero => exact absurd HA.out (by simp [apogeeref19_Join.j4])
          | succ kj10 =>
           have H := HA.out
           clear HA
           simp only [apogeeref19_Join.j4] at H
           by_cases c13 : x22_10 = true
           ·subst c13
            have H1 : (some 3) = some r := by rw [if_pos rfl] at H; exact H
            clear H
            have H := H1
            clear H1
            obtain rfl := Option.some.inj H
            go_wp2
            go_ret
            exact ⟨by first | rfl | (simp; done) | (simp [*]; done), by repeat (first | exact Drawn0.refl _ | apply Drawn0.step)⟩
           ·replace c13 := Bool.eq_false_iff.mpr c13
            subst c13
            have H1 : (if x0_4 = 4 then (apogeeref19_Join.j5 kj10 x0_4 x1_8 (x1_8 == 4)) else (apogeeref19_Join.j5 kj10 x0_4 x1_8 false)) = some r := by rw [if_neg (show ¬ (false = true) by decide)] at H; exact H
            clear H
            have H := H1
            clear H1
            have HC14 := Aside0.mk H
            clear H
            go_upto_region 7 with (fail)
            go_cut [28] (fun v28 wc => ∃ (kq : Nat) (x28_13 : Bool), v28 = .bool x28_13 ∧ Aside0 (apogeeref19_Join.j5 kq x0_4 x1_8 x28_13 = some r) ∧ Aside0 (kq ≤ kj10) ∧ Drawn0 w wc)
            case first =>
             have H := HC14.out
             clear HC14
             by_cases c15 : x0_4 = 4
             ·rw [if_pos c15] at H
              have c15b0 : (x0_4 == 4) = true := beq_iff_eq.mpr c15
              have c15b1 : (x0_4 != 4) = false := bne_eq_false_iff_eq.mpr c15
              clear c15
              (first | rw [c15b0] | (simp only [i64_w, i32_w]; rw [c15b0]) | skip)
              have H' := Aside0.mk H
              clear H
              go_wp2
              go_meet
              case rel => exact ⟨_, ((x1_8 == 4)), (by first | rfl | (simp; done) | (simp [*]; done)), H', ⟨by have := HJ2.out; have := HJ4.out; have := HJ6.out; have := HJ8.out; have := HJ10.out; first | omega | exact Nat.le_refl _⟩, by repeat (first | exact Drawn0.refl _ | apply Drawn0.step)⟩
             ·rw [if_neg c15] at H
              have c15b0 : (x0_4 == 4) = false := beq_eq_false_iff_ne.mpr c15
              have c15b1 : (x0_4 != 4) = true := bne_iff_ne.mpr c15
              (first | rw [c15b0] | (simp only [i64_w, i32_w]; rw [c15b0]) | skip)
              have H' := Aside0.mk H
              clear H
              go_wp2
              go_meet
              case rel => exact ⟨_, (false), (by first | rfl | (simp; done) | (simp [*]; done)), H', ⟨by have := HJ2.out; have := HJ4.out; have := HJ6.out; have := HJ8.out; have := HJ10.out; first | omega | exact Nat.le_refl _⟩, by repeat (first | exact Drawn0.refl _ | apply Drawn0.step)⟩
            case rest =>
             clear HC14
             try clear c1
             try clear c2
             try clear p2
             try clear c4
             try clear c4b0
             try clear c6
             try clear c8
             try clear c8b0
             try clear c10
             try clear c12
             try clear c12b0
             try clear c12b1
             try clear c13
             try clear c15
             try clear c15b0
             try clear c15b1
             try clear p2
             obtain ⟨kq, x28_13, rfl, HA, HJ13, ⟨mc13, rfl⟩⟩ := hcut
             cases kq with
             | zero => exact absurd HA.out (by simp [apogeeref19_Join.j5])
             | succ kj13 =>
              have H := HA.out
              clear HA
              simp only [apogeeref19_Join.j5] at H
              by_cases c16 : x28_13 = true
              ·subst c16
               have H1 : (some 4) = some r := by rw [if_pos rfl] at H; exact H
               clear H
               have H := H1
               clear H1
               obtain rfl := Option.some.inj H
               go_wp2
               go_ret
               exact ⟨by first | rfl | (simp; done) | (simp [*]; done), by repeat (first | exact Drawn0.refl _ | apply Drawn0.step)⟩
              ·replace c16 := Bool.eq_false_iff.mpr c16
               subst c16
               have H1 : (if x0_4 = 2 then (apogeeref19_Join.j6 kj13 true) else (apogeeref19_Join.j6 kj13 (x1_8 == 2))) = some r := by rw [if_neg (show ¬ (false = true) by decide)] at H; exact H
               clear H
               have H := H1
               clear H1
               have HC17 := Aside0.mk H
               clear H
               go_upto_region 9 with (fail)
               go_cut [34] (fun v34 wc => ∃ (kq : Nat) (x34_16 : Bool), v34 = .bool x34_16 ∧ Aside0 (apogeeref19_Join.j6 kq x34_16 = some r) ∧ Aside0 (kq ≤ kj13) ∧ Drawn0 w wc)
               case first =>
                have H := HC17.out
                clear HC17
                by_cases c18 : x0_4 = 2
                ·rw [if_pos c18] at H
                 have c18b0 : (x0_4 == 2) = true := beq_iff_eq.mpr c18
                 have c18b1 : (x0_4 != 2) = false := bne_eq_false_iff_eq.mpr c18
                 clear c18
                 (first | rw [c18b0] | (simp only [i64_w, i32_w]; rw [c18b0]) | skip)
                 have H' := Aside0.mk H
                 clear H
                 go_wp2
                 go_meet
                 case rel => exact ⟨_, (true), (by first | rfl | (simp; done) | (simp [*]; done)), H', ⟨by have := HJ2.out; have := HJ4.out; have := HJ6.out; have := HJ8.out; have := HJ10.out; have := HJ13.out; first | omega | exact Nat.le_refl _⟩, by repeat (first | exact Drawn0.refl _ | apply Drawn0.step)⟩
                ·rw [if_neg c18] at H
                 have c18b0 : (x0_4 == 2) = false := beq_eq_false_iff_ne.mpr c18
                 have c18b1 : (x0_4 != 2) = true := bne_iff_ne.mpr c18
                 (first | rw [c18b0] | (simp only [i64_w, i32_w]; rw [c18b0]) | skip)
                 have H' := Aside0.mk H
                 clear H
                 go_wp2
                 go_meet
                 case rel => exact ⟨_, ((x1_8 == 2)), (by first | rfl | (simp; done) | (simp [*]; done)), H', ⟨by have := HJ2.out; have := HJ4.out; have := HJ6.out; have := HJ8.out; have := HJ10.out; have := HJ13.out; first | omega | exact Nat.le_refl _⟩, by repeat (first | exact Drawn0.refl _ | apply Drawn0.step)⟩
               case rest =>
                clear HC17
                try clear c1
                try clear c2
                try clear p2
                try clear c4
                try clear c4b0
                try clear c6
                try clear c8
                try clear c8b0
                try clear c10
                try clear c12
                try clear c12b0
                try clear c12b1
                try clear c13
                try clear c15
                try clear c15b0
                try clear c15b1
                try clear c16
                try clear c18
                try clear c18b0
                try clear c18b1
                try clear p2
                obtain ⟨kq, x34_16, rfl, HA, HJ16, ⟨mc16, rfl⟩⟩ := hcut
                cases kq with
                | zero => exact absurd HA.out (by simp [apogeeref19_Join.j6])
                | succ kj16 =>
                 have H := HA.out
                 clear HA
                 simp only [apogeeref19_Join.j6] at H
                 by_cases c19 : x34_16 = true
                 ·subst c19
                  have H1 : (some 2) = some r := by rw [if_pos rfl] at H; exact H
                  clear H
                  have H := H1
                  clear H1
                  obtain rfl := Option.some.inj H
                  go_wp2
                  go_ret
                  exact ⟨by first | rfl | (simp; done) | (simp [*]; done), by repeat (first | exact Drawn0.refl _ | apply Drawn0.step)⟩
                 ·replace c19 := Bool.eq_false_iff.mpr c19
                  subst c19
                  have H1 : (some 1) = some r := by rw [if_neg (show ¬ (false = true) by decide)] at H; exact H
                  clear H
                  have H := H1
                  clear H1
                  obtain rfl := Option.some.inj H
                  go_wp2
                  go_ret
                  exact ⟨by first | rfl | (simp; done) | (simp [*]; done), by repeat (first | exact Drawn0.refl _ | apply Drawn0.step)⟩

/-! ### apogeelaw19_VerdictJoin: function 3 -/
def apogeelaw19_VerdictJoin.f (k : Nat) (a0 : Int) (a1 : Int) (a2 : Int) : Option (Bool) := (verdict_Join.f k (wrap64 (1 + (wrap64 (Int.tmod (IntKind.u64.wrap (a0)) 4)))) (wrap64 (1 + (wrap64 (Int.tmod (IntKind.u64.wrap (a1)) 4))))).bind fun t391 => ((apogeelaw19_awake.f k).bind fun t392 => (if t392 = true then ((apogeeref19_Join.f k (wrap64 (1 + (wrap64 (Int.tmod (IntKind.u64.wrap (a0)) 4)))) (wrap64 (1 + (wrap64 (Int.tmod (IntKind.u64.wrap (a1)) 4))))).bind fun t393 => (if t391 = t393 then ((verdict_Join.f k (wrap64 (1 + (wrap64 (Int.tmod (IntKind.u64.wrap (a1)) 4)))) (wrap64 (1 + (wrap64 (Int.tmod (IntKind.u64.wrap (a0)) 4))))).bind fun t394 => (if t391 = t394 then ((verdict_Join.f k (wrap64 (1 + (wrap64 (Int.tmod (IntKind.u64.wrap (a0)) 4)))) (wrap64 (1 + (wrap64 (Int.tmod (IntKind.u64.wrap (a0)) 4))))).bind fun t395 => (if t395 = (wrap64 (1 + (wrap64 (Int.tmod (IntKind.u64.wrap (a0)) 4)))) then (if (wrap64 (1 + (wrap64 (Int.tmod (IntKind.u64.wrap (a0)) 4)))) = 3 then (if t391 = 3 then ((verdict_Join.f k t391 (wrap64 (1 + (wrap64 (Int.tmod (IntKind.u64.wrap (a2)) 4))))).bind fun t396 => ((verdict_Join.f k (wrap64 (1 + (wrap64 (Int.tmod (IntKind.u64.wrap (a1)) 4)))) (wrap64 (1 + (wrap64 (Int.tmod (IntKind.u64.wrap (a2)) 4))))).bind fun t397 => ((verdict_Join.f k (wrap64 (1 + (wrap64 (Int.tmod (IntKind.u64.wrap (a0)) 4)))) t397).bind fun t398 => (if t396 = t398 then ((verdict_Join.f k (wrap64 (1 + (wrap64 (Int.tmod (IntKind.u64.wrap (a0)) 4)))) 0).bind fun t399 => ((verdict_Join.f k (wrap64 (1 + (wrap64 (Int.tmod (IntKind.u64.wrap (a0)) 4)))) 4).bind fun t400 => (if t399 = t400 then ((verdict_Sure.f (wrap64 (1 + (wrap64 (Int.tmod (IntKind.u64.wrap (a0)) 4))))).bind fun t401 => (if (wrap64 (1 + (wrap64 (Int.tmod (IntKind.u64.wrap (a0)) 4)))) = 1 then (some (t401 == true)) else (some (t401 == ((wrap64 (1 + (wrap64 (Int.tmod (IntKind.u64.wrap (a0)) 4)))) == 3))))) else (some false)))) else (some false))))) else (some false)) else ((verdict_Join.f k t391 (wrap64 (1 + (wrap64 (Int.tmod (IntKind.u64.wrap (a2)) 4))))).bind fun t402 => ((verdict_Join.f k (wrap64 (1 + (wrap64 (Int.tmod (IntKind.u64.wrap (a1)) 4)))) (wrap64 (1 + (wrap64 (Int.tmod (IntKind.u64.wrap (a2)) 4))))).bind fun t403 => ((verdict_Join.f k (wrap64 (1 + (wrap64 (Int.tmod (IntKind.u64.wrap (a0)) 4)))) t403).bind fun t404 => (if t402 = t404 then ((verdict_Join.f k (wrap64 (1 + (wrap64 (Int.tmod (IntKind.u64.wrap (a0)) 4)))) 0).bind fun t405 => ((verdict_Join.f k (wrap64 (1 + (wrap64 (Int.tmod (IntKind.u64.wrap (a0)) 4)))) 4).bind fun t406 => (if t405 = t406 then ((verdict_Sure.f (wrap64 (1 + (wrap64 (Int.tmod (IntKind.u64.wrap (a0)) 4))))).bind fun t407 => (if (wrap64 (1 + (wrap64 (Int.tmod (IntKind.u64.wrap (a0)) 4)))) = 1 then (some (t407 == true)) else (some (t407 == ((wrap64 (1 + (wrap64 (Int.tmod (IntKind.u64.wrap (a0)) 4)))) == 3))))) else (some false)))) else (some false)))))) else (some false))) else (some false))) else (some false))) else (some false)))
theorem apogeelaw19_VerdictJoin.mono : ∀ a0 a1 a2 k, LeO (apogeelaw19_VerdictJoin.f k a0 a1 a2) (apogeelaw19_VerdictJoin.f (k + 1) a0 a1 a2) := by
 intro a0 a1 a2 k
 unfold apogeelaw19_VerdictJoin.f
 repeat' first
   | (with_reducible exact apogeelaw19_awake.mono _)
   | (with_reducible exact apogeeref19_Join.mono _ _ _)
   | (with_reducible exact verdict_Join.mono _ _ _)
   | (with_reducible exact LeO.refl _)
   | (with_reducible exact LeO.none _)
   | (with_reducible refine LeO.ite ?_ ?_)
   | (with_reducible refine LeO.bind ?_ (fun _ => ?_))
   | exact apogeelaw19_awake.mono _
   | exact apogeeref19_Join.mono _ _ _
   | exact verdict_Join.mono _ _ _
   | exact LeO.none _
   | refine LeO.ite ?_ ?_
   | refine LeO.bind ?_ (fun _ => ?_)
set_option maxHeartbeats 8000000 in
set_option maxRecDepth 100000 in
theorem apogeelaw19_VerdictJoin.calls (k : Nat) (a0 : Int) (a1 : Int) (a2 : Int) (r : Bool) (w : World) (h : apogeelaw19_VerdictJoin.f k a0 a1 a2 = some r) :
  Calls Try.prog 3 #[.int .i64 a0, .int .i64 a1, .int .i64 a2] w fun e w' => e = .returned (.bool r) ∧ Below w.heap.size w w' := by
 have HB := Aside0.mk (Below.refl w.heap.size w)
 have H : ((verdict_Join.f k (wrap64 (1 + (wrap64 (Int.tmod (IntKind.u64.wrap (a0)) 4)))) (wrap64 (1 + (wrap64 (Int.tmod (IntKind.u64.wrap (a1)) 4))))).bind fun t391 => ((apogeelaw19_awake.f k).bind fun t392 => (if t392 = true then ((apogeeref19_Join.f k (wrap64 (1 + (wrap64 (Int.tmod (IntKind.u64.wrap (a0)) 4)))) (wrap64 (1 + (wrap64 (Int.tmod (IntKind.u64.wrap (a1)) 4))))).bind fun t393 => (if t391 = t393 then ((verdict_Join.f k (wrap64 (1 + (wrap64 (Int.tmod (IntKind.u64.wrap (a1)) 4)))) (wrap64 (1 + (wrap64 (Int.tmod (IntKind.u64.wrap (a0)) 4))))).bind fun t394 => (if t391 = t394 then ((verdict_Join.f k (wrap64 (1 + (wrap64 (Int.tmod (IntKind.u64.wrap (a0)) 4)))) (wrap64 (1 + (wrap64 (Int.tmod (IntKind.u64.wrap (a0)) 4))))).bind fun t395 => (if t395 = (wrap64 (1 + (wrap64 (Int.tmod (IntKind.u64.wrap (a0)) 4)))) then (if (wrap64 (1 + (wrap64 (Int.tmod (IntKind.u64.wrap (a0)) 4)))) = 3 then (if t391 = 3 then ((verdict_Join.f k t391 (wrap64 (1 + (wrap64 (Int.tmod (IntKind.u64.wrap (a2)) 4))))).bind fun t396 => ((verdict_Join.f k (wrap64 (1 + (wrap64 (Int.tmod (IntKind.u64.wrap (a1)) 4)))) (wrap64 (1 + (wrap64 (Int.tmod (IntKind.u64.wrap (a2)) 4))))).bind fun t397 => ((verdict_Join.f k (wrap64 (1 + (wrap64 (Int.tmod (IntKind.u64.wrap (a0)) 4)))) t397).bind fun t398 => (if t396 = t398 then ((verdict_Join.f k (wrap64 (1 + (wrap64 (Int.tmod (IntKind.u64.wrap (a0)) 4)))) 0).bind fun t399 => ((verdict_Join.f k (wrap64 (1 + (wrap64 (Int.tmod (IntKind.u64.wrap (a0)) 4)))) 4).bind fun t400 => (if t399 = t400 then ((verdict_Sure.f (wrap64 (1 + (wrap64 (Int.tmod (IntKind.u64.wrap (a0)) 4))))).bind fun t401 => (if (wrap64 (1 + (wrap64 (Int.tmod (IntKind.u64.wrap (a0)) 4)))) = 1 then (some (t401 == true)) else (some (t401 == ((wrap64 (1 + (wrap64 (Int.tmod (IntKind.u64.wrap (a0)) 4)))) == 3))))) else (some false)))) else (some false))))) else (some false)) else ((verdict_Join.f k t391 (wrap64 (1 + (wrap64 (Int.tmod (IntKind.u64.wrap (a2)) 4))))).bind fun t402 => ((verdict_Join.f k (wrap64 (1 + (wrap64 (Int.tmod (IntKind.u64.wrap (a1)) 4)))) (wrap64 (1 + (wrap64 (Int.tmod (IntKind.u64.wrap (a2)) 4))))).bind fun t403 => ((verdict_Join.f k (wrap64 (1 + (wrap64 (Int.tmod (IntKind.u64.wrap (a0)) 4)))) t403).bind fun t404 => (if t402 = t404 then ((verdict_Join.f k (wrap64 (1 + (wrap64 (Int.tmod (IntKind.u64.wrap (a0)) 4)))) 0).bind fun t405 => ((verdict_Join.f k (wrap64 (1 + (wrap64 (Int.tmod (IntKind.u64.wrap (a0)) 4)))) 4).bind fun t406 => (if t405 = t406 then ((verdict_Sure.f (wrap64 (1 + (wrap64 (Int.tmod (IntKind.u64.wrap (a0)) 4))))).bind fun t407 => (if (wrap64 (1 + (wrap64 (Int.tmod (IntKind.u64.wrap (a0)) 4)))) = 1 then (some (t407 == true)) else (some (t407 == ((wrap64 (1 + (wrap64 (Int.tmod (IntKind.u64.wrap (a0)) 4)))) == 3))))) else (some false)))) else (some false)))))) else (some false))) else (some false))) else (some false))) else (some false)))) = some r := h
 clear h
 replace H := Option.bind_eq_some_iff.mp H
 obtain ⟨t391, A40, H⟩ := H
 replace H : ((apogeelaw19_awake.f k).bind fun t392 => (if t392 = true then ((apogeeref19_Join.f k (wrap64 (1 + (wrap64 (Int.tmod (IntKind.u64.wrap (a0)) 4)))) (wrap64 (1 + (wrap64 (Int.tmod (IntKind.u64.wrap (a1)) 4))))).bind fun t393 => (if t391 = t393 then ((verdict_Join.f k (wrap64 (1 + (wrap64 (Int.tmod (IntKind.u64.wrap (a1)) 4)))) (wrap64 (1 + (wrap64 (Int.tmod (IntKind.u64.wrap (a0)) 4))))).bind fun t394 => (if t391 = t394 then ((verdict_Join.f k (wrap64 (1 + (wrap64 (Int.tmod (IntKind.u64.wrap (a0)) 4)))) (wrap64 (1 + (wrap64 (Int.tmod (IntKind.u64.wrap (a0)) 4))))).bind fun t395 => (if t395 = (wrap64 (1 + (wrap64 (Int.tmod (IntKind.u64.wrap (a0)) 4)))) then (if (wrap64 (1 + (wrap64 (Int.tmod (IntKind.u64.wrap (a0)) 4)))) = 3 then (if t391 = 3 then ((verdict_Join.f k t391 (wrap64 (1 + (wrap64 (Int.tmod (IntKind.u64.wrap (a2)) 4))))).bind fun t396 => ((verdict_Join.f k (wrap64 (1 + (wrap64 (Int.tmod (IntKind.u64.wrap (a1)) 4)))) (wrap64 (1 + (wrap64 (Int.tmod (IntKind.u64.wrap (a2)) 4))))).bind fun t397 => ((verdict_Join.f k (wrap64 (1 + (wrap64 (Int.tmod (IntKind.u64.wrap (a0)) 4)))) t397).bind fun t398 => (if t396 = t398 then ((verdict_Join.f k (wrap64 (1 + (wrap64 (Int.tmod (IntKind.u64.wrap (a0)) 4)))) 0).bind fun t399 => ((verdict_Join.f k (wrap64 (1 + (wrap64 (Int.tmod (IntKind.u64.wrap (a0)) 4)))) 4).bind fun t400 => (if t399 = t400 then ((verdict_Sure.f (wrap64 (1 + (wrap64 (Int.tmod (IntKind.u64.wrap (a0)) 4))))).bind fun t401 => (if (wrap64 (1 + (wrap64 (Int.tmod (IntKind.u64.wrap (a0)) 4)))) = 1 then (some (t401 == true)) else (some (t401 == ((wrap64 (1 + (wrap64 (Int.tmod (IntKind.u64.wrap (a0)) 4)))) == 3))))) else (some false)))) else (some false))))) else (some false)) else ((verdict_Join.f k t391 (wrap64 (1 + (wrap64 (Int.tmod (IntKind.u64.wrap (a2)) 4))))).bind fun t402 => ((verdict_Join.f k (wrap64 (1 + (wrap64 (Int.tmod (IntKind.u64.wrap (a1)) 4)))) (wrap64 (1 + (wrap64 (Int.tmod (IntKind.u64.wrap (a2)) 4))))).bind fun t403 => ((verdict_Join.f k (wrap64 (1 + (wrap64 (Int.tmod (IntKind.u64.wrap (a0)) 4)))) t403).bind fun t404 => (if t402 = t404 then ((verdict_Join.f k (wrap64 (1 + (wrap64 (Int.tmod (IntKind.u64.wrap (a0)) 4)))) 0).bind fun t405 => ((verdict_Join.f k (wrap64 (1 + (wrap64 (Int.tmod (IntKind.u64.wrap (a0)) 4)))) 4).bind fun t406 => (if t405 = t406 then ((verdict_Sure.f (wrap64 (1 + (wrap64 (Int.tmod (IntKind.u64.wrap (a0)) 4))))).bind fun t407 => (if (wrap64 (1 + (wrap64 (Int.tmod (IntKind.u64.wrap (a0)) 4)))) = 1 then (some (t407 == true)) else (some (t407 == ((wrap64 (1 + (wrap64 (Int.tmod (IntKind.u64.wrap (a0)) 4)))) == 3))))) else (some false)))) else (some false)))))) else (some false))) else (some false))) else (some false))) else (some false))) = some r := H
 have A4 := Aside0.mk A40
 clear A40
 replace H := Option.bind_eq_some_iff.mp H
 obtain ⟨t392, A50, H⟩ := H
 replace H : (if t392 = true then ((apogeeref19_Join.f k (wrap64 (1 + (wrap64 (Int.tmod (IntKind.u64.wrap (a0)) 4)))) (wrap64 (1 + (wrap64 (Int.tmod (IntKind.u64.wrap (a1)) 4))))).bind fun t393 => (if t391 = t393 then ((verdict_Join.f k (wrap64 (1 + (wrap64 (Int.tmod (IntKind.u64.wrap (a1)) 4)))) (wrap64 (1 + (wrap64 (Int.tmod (IntKind.u64.wrap (a0)) 4))))).bind fun t394 => (if t391 = t394 then ((verdict_Join.f k (wrap64 (1 + (wrap64 (Int.tmod (IntKind.u64.wrap (a0)) 4)))) (wrap64 (1 + (wrap64 (Int.tmod (IntKind.u64.wrap (a0)) 4))))).bind fun t395 => (if t395 = (wrap64 (1 + (wrap64 (Int.tmod (IntKind.u64.wrap (a0)) 4)))) then (if (wrap64 (1 + (wrap64 (Int.tmod (IntKind.u64.wrap (a0)) 4)))) = 3 then (if t391 = 3 then ((verdict_Join.f k t391 (wrap64 (1 + (wrap64 (Int.tmod (IntKind.u64.wrap (a2)) 4))))).bind fun t396 => ((verdict_Join.f k (wrap64 (1 + (wrap64 (Int.tmod (IntKind.u64.wrap (a1)) 4)))) (wrap64 (1 + (wrap64 (Int.tmod (IntKind.u64.wrap (a2)) 4))))).bind fun t397 => ((verdict_Join.f k (wrap64 (1 + (wrap64 (Int.tmod (IntKind.u64.wrap (a0)) 4)))) t397).bind fun t398 => (if t396 = t398 then ((verdict_Join.f k (wrap64 (1 + (wrap64 (Int.tmod (IntKind.u64.wrap (a0)) 4)))) 0).bind fun t399 => ((verdict_Join.f k (wrap64 (1 + (wrap64 (Int.tmod (IntKind.u64.wrap (a0)) 4)))) 4).bind fun t400 => (if t399 = t400 then ((verdict_Sure.f (wrap64 (1 + (wrap64 (Int.tmod (IntKind.u64.wrap (a0)) 4))))).bind fun t401 => (if (wrap64 (1 + (wrap64 (Int.tmod (IntKind.u64.wrap (a0)) 4)))) = 1 then (some (t401 == true)) else (some (t401 == ((wrap64 (1 + (wrap64 (Int.tmod (IntKind.u64.wrap (a0)) 4)))) == 3))))) else (some false)))) else (some false))))) else (some false)) else ((verdict_Join.f k t391 (wrap64 (1 + (wrap64 (Int.tmod (IntKind.u64.wrap (a2)) 4))))).bind fun t402 => ((verdict_Join.f k (wrap64 (1 + (wrap64 (Int.tmod (IntKind.u64.wrap (a1)) 4)))) (wrap64 (1 + (wrap64 (Int.tmod (IntKind.u64.wrap (a2)) 4))))).bind fun t403 => ((verdict_Join.f k (wrap64 (1 + (wrap64 (Int.tmod (IntKind.u64.wrap (a0)) 4)))) t403).bind fun t404 => (if t402 = t404 then ((verdict_Join.f k (wrap64 (1 + (wrap64 (Int.tmod (IntKind.u64.wrap (a0)) 4)))) 0).bind fun t405 => ((verdict_Join.f k (wrap64 (1 + (wrap64 (Int.tmod (IntKind.u64.wrap (a0)) 4)))) 4).bind fun t406 => (if t405 = t406 then ((verdict_Sure.f (wrap64 (1 + (wrap64 (Int.tmod (IntKind.u64.wrap (a0)) 4))))).bind fun t407 => (if (wrap64 (1 + (wrap64 (Int.tmod (IntKind.u64.wrap (a0)) 4)))) = 1 then (some (t407 == true)) else (some (t407 == ((wrap64 (1 + (wrap64 (Int.tmod (IntKind.u64.wrap (a0)) 4)))) == 3))))) else (some false)))) else (some false)))))) else (some false))) else (some false))) else (some false))) else (some false)) = some r := H
 have A5 := Aside0.mk A50
 clear A50
 by_cases c6 : t392 = true
 ·subst c6
  have H1 : ((apogeeref19_Join.f k (wrap64 (1 + (wrap64 (Int.tmod (IntKind.u64.wrap (a0)) 4)))) (wrap64 (1 + (wrap64 (Int.tmod (IntKind.u64.wrap (a1)) 4))))).bind fun t393 => (if t391 = t393 then ((verdict_Join.f k (wrap64 (1 + (wrap64 (Int.tmod (IntKind.u64.wrap (a1)) 4)))) (wrap64 (1 + (wrap64 (Int.tmod (IntKind.u64.wrap (a0)) 4))))).bind fun t394 => (if t391 = t394 then ((verdict_Join.f k (wrap64 (1 + (wrap64 (Int.tmod (IntKind.u64.wrap (a0)) 4)))) (wrap64 (1 + (wrap64 (Int.tmod (IntKind.u64.wrap (a0)) 4))))).bind fun t395 => (if t395 = (wrap64 (1 + (wrap64 (Int.tmod (IntKind.u64.wrap (a0)) 4)))) then (if (wrap64 (1 + (wrap64 (Int.tmod (IntKind.u64.wrap (a0)) 4)))) = 3 then (if t391 = 3 then ((verdict_Join.f k t391 (wrap64 (1 + (wrap64 (Int.tmod (IntKind.u64.wrap (a2)) 4))))).bind fun t396 => ((verdict_Join.f k (wrap64 (1 + (wrap64 (Int.tmod (IntKind.u64.wrap (a1)) 4)))) (wrap64 (1 + (wrap64 (Int.tmod (IntKind.u64.wrap (a2)) 4))))).bind fun t397 => ((verdict_Join.f k (wrap64 (1 + (wrap64 (Int.tmod (IntKind.u64.wrap (a0)) 4)))) t397).bind fun t398 => (if t396 = t398 then ((verdict_Join.f k (wrap64 (1 + (wrap64 (Int.tmod (IntKind.u64.wrap (a0)) 4)))) 0).bind fun t399 => ((verdict_Join.f k (wrap64 (1 + (wrap64 (Int.tmod (IntKind.u64.wrap (a0)) 4)))) 4).bind fun t400 => (if t399 = t400 then ((verdict_Sure.f (wrap64 (1 + (wrap64 (Int.tmod (IntKind.u64.wrap (a0)) 4))))).bind fun t401 => (if (wrap64 (1 + (wrap64 (Int.tmod (IntKind.u64.wrap (a0)) 4)))) = 1 then (some (t401 == true)) else (some (t401 == ((wrap64 (1 + (wrap64 (Int.tmod (IntKind.u64.wrap (a0)) 4)))) == 3))))) else (some false)))) else (some false))))) else (some false)) else ((verdict_Join.f k t391 (wrap64 (1 + (wrap64 (Int.tmod (IntKind.u64.wrap (a2)) 4))))).bind fun t402 => ((verdict_Join.f k (wrap64 (1 + (wrap64 (Int.tmod (IntKind.u64.wrap (a1)) 4)))) (wrap64 (1 + (wrap64 (Int.tmod (IntKind.u64.wrap (a2)) 4))))).bind fun t403 => ((verdict_Join.f k (wrap64 (1 + (wrap64 (Int.tmod (IntKind.u64.wrap (a0)) 4)))) t403).bind fun t404 => (if t402 = t404 then ((verdict_Join.f k (wrap64 (1 + (wrap64 (Int.tmod (IntKind.u64.wrap (a0)) 4)))) 0).bind fun t405 => ((verdict_Join.f k (wrap64 (1 + (wrap64 (Int.tmod (IntKind.u64.wrap (a0)) 4)))) 4).bind fun t406 => (if t405 = t406 then ((verdict_Sure.f (wrap64 (1 + (wrap64 (Int.tmod (IntKind.u64.wrap (a0)) 4))))).bind fun t407 => (if (wrap64 (1 + (wrap64 (Int.tmod (IntKind.u64.wrap (a0)) 4)))) = 1 then (some (t407 == true)) else (some (t407 == ((wrap64 (1 + (wrap64 (Int.tmod (IntKind.u64.wrap (a0)) 4)))) == 3))))) else (some false)))) else (some false)))))) else (some false))) else (some false))) else (some false))) = some r := by rw [if_pos rfl] at H; exact H
  clear H
  have H := H1
  clear H1
  replace H := Option.bind_eq_some_iff.mp H
  obtain ⟨t393, A70, H⟩ := H
  replace H : (if t391 = t393 then ((verdict_Join.f k (wrap64 (1 + (wrap64 (Int.tmod (IntKind.u64.wrap (a1)) 4)))) (wrap64 (1 + (wrap64 (Int.tmod (IntKind.u64.wrap (a0)) 4))))).bind fun t394 => (if t391 = t394 then ((verdict_Join.f k (wrap64 (1 + (wrap64 (Int.tmod (IntKind.u64.wrap (a0)) 4)))) (wrap64 (1 + (wrap64 (Int.tmod (IntKind.u64.wrap (a0)) 4))))).bind fun t395 => (if t395 = (wrap64 (1 + (wrap64 (Int.tmod (IntKind.u64.wrap (a0)) 4)))) then (if (wrap64 (1 + (wrap64 (Int.tmod (IntKind.u64.wrap (a0)) 4)))) = 3 then (if t391 = 3 then ((verdict_Join.f k t391 (wrap64 (1 + (wrap64 (Int.tmod (IntKind.u64.wrap (a2)) 4))))).bind fun t396 => ((verdict_Join.f k (wrap64 (1 + (wrap64 (Int.tmod (IntKind.u64.wrap (a1)) 4)))) (wrap64 (1 + (wrap64 (Int.tmod (IntKind.u64.wrap (a2)) 4))))).bind fun t397 => ((verdict_Join.f k (wrap64 (1 + (wrap64 (Int.tmod (IntKind.u64.wrap (a0)) 4)))) t397).bind fun t398 => (if t396 = t398 then ((verdict_Join.f k (wrap64 (1 + (wrap64 (Int.tmod (IntKind.u64.wrap (a0)) 4)))) 0).bind fun t399 => ((verdict_Join.f k (wrap64 (1 + (wrap64 (Int.tmod (IntKind.u64.wrap (a0)) 4)))) 4).bind fun t400 => (if t399 = t400 then ((verdict_Sure.f (wrap64 (1 + (wrap64 (Int.tmod (IntKind.u64.wrap (a0)) 4))))).bind fun t401 => (if (wrap64 (1 + (wrap64 (Int.tmod (IntKind.u64.wrap (a0)) 4)))) = 1 then (some (t401 == true)) else (some (t401 == ((wrap64 (1 + (wrap64 (Int.tmod (IntKind.u64.wrap (a0)) 4)))) == 3))))) else (some false)))) else (some false))))) else (some false)) else ((verdict_Join.f k t391 (wrap64 (1 + (wrap64 (Int.tmod (IntKind.u64.wrap (a2)) 4))))).bind fun t402 => ((verdict_Join.f k (wrap64 (1 + (wrap64 (Int.tmod (IntKind.u64.wrap (a1)) 4)))) (wrap64 (1 + (wrap64 (Int.tmod (IntKind.u64.wrap (a2)) 4))))).bind fun t403 => ((verdict_Join.f k (wrap64 (1 + (wrap64 (Int.tmod (IntKind.u64.wrap (a0)) 4)))) t403).bind fun t404 => (if t402 = t404 then ((verdict_Join.f k (wrap64 (1 + (wrap64 (Int.tmod (IntKind.u64.wrap (a0)) 4)))) 0).bind fun t405 => ((verdict_Join.f k (wrap64 (1 + (wrap64 (Int.tmod (IntKind.u64.wrap (a0)) 4)))) 4).bind fun t406 => (if t405 = t406 then ((verdict_Sure.f (wrap64 (1 + (wrap64 (Int.tmod (IntKind.u64.wrap (a0)) 4))))).bind fun t407 => (if (wrap64 (1 + (wrap64 (Int.tmod (IntKind.u64.wrap (a0)) 4)))) = 1 then (some (t407 == true)) else (some (t407 == ((wrap64 (1 + (wrap64 (Int.tmod (IntKind.u64.wrap (a0)) 4)))) == 3))))) else (some false)))) else (some false)))))) else (some false))) else (some false))) else (some false)) = some r := H
  have A7 := Aside0.mk A70
  clear A70
  by_cases c8 : t391 = t393
  ·rw [if_pos c8] at H
   have c8b0 : (t391 == t393) = true := beq_iff_eq.mpr c8
   have c8b1 : (t391 != t393) = false := bne_eq_false_iff_eq.mpr c8
   clear c8
   replace H := Option.bind_eq_some_iff.mp H
   obtain ⟨t394, A90, H⟩ := H
   replace H : (if t391 = t394 then ((verdict_Join.f k (wrap64 (1 + (wrap64 (Int.tmod (IntKind.u64.wrap (a0)) 4)))) (wrap64 (1 + (wrap64 (Int.tmod (IntKind.u64.wrap (a0)) 4))))).bind fun t395 => (if t395 = (wrap64 (1 + (wrap64 (Int.tmod (IntKind.u64.wrap (a0)) 4)))) then (if (wrap64 (1 + (wrap64 (Int.tmod (IntKind.u64.wrap (a0)) 4)))) = 3 then (if t391 = 3 then ((verdict_Join.f k t391 (wrap64 (1 + (wrap64 (Int.tmod (IntKind.u64.wrap (a2)) 4))))).bind fun t396 => ((verdict_Join.f k (wrap64 (1 + (wrap64 (Int.tmod (IntKind.u64.wrap (a1)) 4)))) (wrap64 (1 + (wrap64 (Int.tmod (IntKind.u64.wrap (a2)) 4))))).bind fun t397 => ((verdict_Join.f k (wrap64 (1 + (wrap64 (Int.tmod (IntKind.u64.wrap (a0)) 4)))) t397).bind fun t398 => (if t396 = t398 then ((verdict_Join.f k (wrap64 (1 + (wrap64 (Int.tmod (IntKind.u64.wrap (a0)) 4)))) 0).bind fun t399 => ((verdict_Join.f k (wrap64 (1 + (wrap64 (Int.tmod (IntKind.u64.wrap (a0)) 4)))) 4).bind fun t400 => (if t399 = t400 then ((verdict_Sure.f (wrap64 (1 + (wrap64 (Int.tmod (IntKind.u64.wrap (a0)) 4))))).bind fun t401 => (if (wrap64 (1 + (wrap64 (Int.tmod (IntKind.u64.wrap (a0)) 4)))) = 1 then (some (t401 == true)) else (some (t401 == ((wrap64 (1 + (wrap64 (Int.tmod (IntKind.u64.wrap (a0)) 4)))) == 3))))) else (some false)))) else (some false))))) else (some false)) else ((verdict_Join.f k t391 (wrap64 (1 + (wrap64 (Int.tmod (IntKind.u64.wrap (a2)) 4))))).bind fun t402 => ((verdict_Join.f k (wrap64 (1 + (wrap64 (Int.tmod (IntKind.u64.wrap (a1)) 4)))) (wrap64 (1 + (wrap64 (Int.tmod (IntKind.u64.wrap (a2)) 4))))).bind fun t403 => ((verdict_Join.f k (wrap64 (1 + (wrap64 (Int.tmod (IntKind.u64.wrap (a0)) 4)))) t403).bind fun t404 => (if t402 = t404 then ((verdict_Join.f k (wrap64 (1 + (wrap64 (Int.tmod (IntKind.u64.wrap (a0)) 4)))) 0).bind fun t405 => ((verdict_Join.f k (wrap64 (1 + (wrap64 (Int.tmod (IntKind.u64.wrap (a0)) 4)))) 4).bind fun t406 => (if t405 = t406 then ((verdict_Sure.f (wrap64 (1 + (wrap64 (Int.tmod (IntKind.u64.wrap (a0)) 4))))).bind fun t407 => (if (wrap64 (1 + (wrap64 (Int.tmod (IntKind.u64.wrap (a0)) 4)))) = 1 then (some (t407 == true)) else (some (t407 == ((wrap64 (1 + (wrap64 (Int.tmod (IntKind.u64.wrap (a0)) 4)))) == 3))))) else (some false)))) else (some false)))))) else (some false))) else (some false)) = some r := H
   have A9 := Aside0.mk A90
   clear A90
   by_cases c10 : t391 = t394
   ·rw [if_pos c10] at H
    have c10b0 : (t391 == t394) = true := beq_iff_eq.mpr c10
    have c10b1 : (t391 != t394) = false := bne_eq_false_iff_eq.mpr c10
    clear c10
    replace H := Option.bind_eq_some_iff.mp H
    obtain ⟨t395, A110, H⟩ := H
    replace H : (if t395 = (wrap64 (1 + (wrap64 (Int.tmod (IntKind.u64.wrap (a0)) 4)))) then (if (wrap64 (1 + (wrap64 (Int.tmod (IntKind.u64.wrap (a0)) 4)))) = 3 then (if t391 = 3 then ((verdict_Join.f k t391 (wrap64 (1 + (wrap64 (Int.tmod (IntKind.u64.wrap (a2)) 4))))).bind fun t396 => ((verdict_Join.f k (wrap64 (1 + (wrap64 (Int.tmod (IntKind.u64.wrap (a1)) 4)))) (wrap64 (1 + (wrap64 (Int.tmod (IntKind.u64.wrap (a2)) 4))))).bind fun t397 => ((verdict_Join.f k (wrap64 (1 + (wrap64 (Int.tmod (IntKind.u64.wrap (a0)) 4)))) t397).bind fun t398 => (if t396 = t398 then ((verdict_Join.f k (wrap64 (1 + (wrap64 (Int.tmod (IntKind.u64.wrap (a0)) 4)))) 0).bind fun t399 => ((verdict_Join.f k (wrap64 (1 + (wrap64 (Int.tmod (IntKind.u64.wrap (a0)) 4)))) 4).bind fun t400 => (if t399 = t400 then ((verdict_Sure.f (wrap64 (1 + (wrap64 (Int.tmod (IntKind.u64.wrap (a0)) 4))))).bind fun t401 => (if (wrap64 (1 + (wrap64 (Int.tmod (IntKind.u64.wrap (a0)) 4)))) = 1 then (some (t401 == true)) else (some (t401 == ((wrap64 (1 + (wrap64 (Int.tmod (IntKind.u64.wrap (a0)) 4)))) == 3))))) else (some false)))) else (some false))))) else (some false)) else ((verdict_Join.f k t391 (wrap64 (1 + (wrap64 (Int.tmod (IntKind.u64.wrap (a2)) 4))))).bind fun t402 => ((verdict_Join.f k (wrap64 (1 + (wrap64 (Int.tmod (IntKind.u64.wrap (a1)) 4)))) (wrap64 (1 + (wrap64 (Int.tmod (IntKind.u64.wrap (a2)) 4))))).bind fun t403 => ((verdict_Join.f k (wrap64 (1 + (wrap64 (Int.tmod (IntKind.u64.wrap (a0)) 4)))) t403).bind fun t404 => (if t402 = t404 then ((verdict_Join.f k (wrap64 (1 + (wrap64 (Int.tmod (IntKind.u64.wrap (a0)) 4)))) 0).bind fun t405 => ((verdict_Join.f k (wrap64 (1 + (wrap64 (Int.tmod (IntKind.u64.wrap (a0)) 4)))) 4).bind fun t406 => (if t405 = t406 then ((verdict_Sure.f (wrap64 (1 + (wrap64 (Int.tmod (IntKind.u64.wrap (a0)) 4))))).bind fun t407 => (if (wrap64 (1 + (wrap64 (Int.tmod (IntKind.u64.wrap (a0)) 4)))) = 1 then (some (t407 == true)) else (some (t407 == ((wrap64 (1 + (wrap64 (Int.tmod (IntKind.u64.wrap (a0)) 4)))) == 3))))) else (some false)))) else (some false)))))) else (some false)) = some r := H
    have A11 := Aside0.mk A110
    clear A110
    by_cases c12 : t395 = (wrap64 (1 + (wrap64 (Int.tmod (IntKind.u64.wrap (a0)) 4))))
    ·rw [if_pos c12] at H
     have c12b0 : (t395 == (wrap64 (1 + (wrap64 (Int.tmod (IntKind.u64.wrap (a0)) 4))))) = true := beq_iff_eq.mpr c12
     have c12b1 : (t395 != (wrap64 (1 + (wrap64 (Int.tmod (IntKind.u64.wrap (a0)) 4))))) = false := bne_eq_false_iff_eq.mpr c12
     clear c12
     by_cases c13 : (wrap64 (1 + (wrap64 (Int.tmod (IntKind.u64.wrap (a0)) 4)))) = 3
     ·rw [if_pos c13] at H
      have c13b0 : ((wrap64 (1 + (wrap64 (Int.tmod (IntKind.u64.wrap (a0)) 4)))) == 3) = true := beq_iff_eq.mpr c13
      have c13b1 : ((wrap64 (1 + (wrap64 (Int.tmod (IntKind.u64.wrap (a0)) 4)))) != 3) = false := bne_eq_false_iff_eq.mpr c13
      clear c13
      by_cases c14 : t391 = 3
      ·rw [if_pos c14] at H
       have c14b0 : (t391 == 3) = true := beq_iff_eq.mpr c14
       have c14b1 : (t391 != 3) = false := bne_eq_false_iff_eq.mpr c14
       clear c14
       replace H := Option.bind_eq_some_iff.mp H
       obtain ⟨t396, A150, H⟩ := H
       replace H : ((verdict_Join.f k (wrap64 (1 + (wrap64 (Int.tmod (IntKind.u64.wrap (a1)) 4)))) (wrap64 (1 + (wrap64 (Int.tmod (IntKind.u64.wrap (a2)) 4))))).bind fun t397 => ((verdict_Join.f k (wrap64 (1 + (wrap64 (Int.tmod (IntKind.u64.wrap (a0)) 4)))) t397).bind fun t398 => (if t396 = t398 then ((verdict_Join.f k (wrap64 (1 + (wrap64 (Int.tmod (IntKind.u64.wrap (a0)) 4)))) 0).bind fun t399 => ((verdict_Join.f k (wrap64 (1 + (wrap64 (Int.tmod (IntKind.u64.wrap (a0)) 4)))) 4).bind fun t400 => (if t399 = t400 then ((verdict_Sure.f (wrap64 (1 + (wrap64 (Int.tmod (IntKind.u64.wrap (a0)) 4))))).bind fun t401 => (if (wrap64 (1 + (wrap64 (Int.tmod (IntKind.u64.wrap (a0)) 4)))) = 1 then (some (t401 == true)) else (some (t401 == ((wrap64 (1 + (wrap64 (Int.tmod (IntKind.u64.wrap (a0)) 4)))) == 3))))) else (some false)))) else (some false)))) = some r := H
       have A15 := Aside0.mk A150
       clear A150
       replace H := Option.bind_eq_some_iff.mp H
       obtain ⟨t397, A160, H⟩ := H
       replace H : ((verdict_Join.f k (wrap64 (1 + (wrap64 (Int.tmod (IntKind.u64.wrap (a0)) 4)))) t397).bind fun t398 => (if t396 = t398 then ((verdict_Join.f k (wrap64 (1 + (wrap64 (Int.tmod (IntKind.u64.wrap (a0)) 4)))) 0).bind fun t399 => ((verdict_Join.f k (wrap64 (1 + (wrap64 (Int.tmod (IntKind.u64.wrap (a0)) 4)))) 4).bind fun t400 => (if t399 = t400 then ((verdict_Sure.f (wrap64 (1 + (wrap64 (Int.tmod (IntKind.u64.wrap (a0)) 4))))).bind fun t401 => (if (wrap64 (1 + (wrap64 (Int.tmod (IntKind.u64.wrap (a0)) 4)))) = 1 then (some (t401 == true)) else (some (t401 == ((wrap64 (1 + (wrap64 (Int.tmod (IntKind.u64.wrap (a0)) 4)))) == 3))))) else (some false)))) else (some false))) = some r := H
       have A16 := Aside0.mk A160
       clear A160
       replace H := Option.bind_eq_some_iff.mp H
       obtain ⟨t398, A170, H⟩ := H
       replace H : (if t396 = t398 then ((verdict_Join.f k (wrap64 (1 + (wrap64 (Int.tmod (IntKind.u64.wrap (a0)) 4)))) 0).bind fun t399 => ((verdict_Join.f k (wrap64 (1 + (wrap64 (Int.tmod (IntKind.u64.wrap (a0)) 4)))) 4).bind fun t400 => (if t399 = t400 then ((verdict_Sure.f (wrap64 (1 + (wrap64 (Int.tmod (IntKind.u64.wrap (a0)) 4))))).bind fun t401 => (if (wrap64 (1 + (wrap64 (Int.tmod (IntKind.u64.wrap (a0)) 4)))) = 1 then (some (t401 == true)) else (some (t401 == ((wrap64 (1 + (wrap64 (Int.tmod (IntKind.u64.wrap (a0)) 4)))) == 3))))) else (some false)))) else (some false)) = some r := H
       have A17 := Aside0.mk A170
       clear A170
       by_cases c18 : t396 = t398
       ·rw [if_pos c18] at H
        have c18b0 : (t396 == t398) = true := beq_iff_eq.mpr c18
        have c18b1 : (t396 != t398) = false := bne_eq_false_iff_eq.mpr c18
        clear c18
        replace H := Option.bind_eq_some_iff.mp H
        obtain ⟨t399, A190, H⟩ := H
        replace H : ((verdict_Join.f k (wrap64 (1 + (wrap64 (Int.tmod (IntKind.u64.wrap (a0)) 4)))) 4).bind fun t400 => (if t399 = t400 then ((verdict_Sure.f (wrap64 (1 + (wrap64 (Int.tmod (IntKind.u64.wrap (a0)) 4))))).bind fun t401 => (if (wrap64 (1 + (wrap64 (Int.tmod (IntKind.u64.wrap (a0)) 4)))) = 1 then (some (t401 == true)) else (some (t401 == ((wrap64 (1 + (wrap64 (Int.tmod (IntKind.u64.wrap (a0)) 4)))) == 3))))) else (some false))) = some r := H
        have A19 := Aside0.mk A190
        clear A190
        replace H := Option.bind_eq_some_iff.mp H
        obtain ⟨t400, A200, H⟩ := H
        replace H : (if t399 = t400 then ((verdict_Sure.f (wrap64 (1 + (wrap64 (Int.tmod (IntKind.u64.wrap (a0)) 4))))).bind fun t401 => (if (wrap64 (1 + (wrap64 (Int.tmod (IntKind.u64.wrap (a0)) 4)))) = 1 then (some (t401 == true)) else (some (t401 == ((wrap64 (1 + (wrap64 (Int.tmod (IntKind.u64.wrap (a0)) 4)))) == 3))))) else (some false)) = some r := H
        have A20 := Aside0.mk A200
        clear A200
        by_cases c21 : t399 = t400
        ·rw [if_pos c21] at H
         have c21b0 : (t399 == t400) = true := beq_iff_eq.mpr c21
         have c21b1 : (t399 != t400) = false := bne_eq_false_iff_eq.mpr c21
         clear c21
         replace H := Option.bind_eq_some_iff.mp H
         obtain ⟨t401, A220, H⟩ := H
         replace H : (if (wrap64 (1 + (wrap64 (Int.tmod (IntKind.u64.wrap (a0)) 4)))) = 1 then (some (t401 == true)) else (some (t401 == ((wrap64 (1 + (wrap64 (Int.tmod (IntKind.u64.wrap (a0)) 4)))) == 3)))) = some r := H
         have A22 := Aside0.mk A220
         clear A220
         by_cases c23 : (wrap64 (1 + (wrap64 (Int.tmod (IntKind.u64.wrap (a0)) 4)))) = 1
         ·rw [if_pos c23] at H
          have c23b0 : ((wrap64 (1 + (wrap64 (Int.tmod (IntKind.u64.wrap (a0)) 4)))) == 1) = true := beq_iff_eq.mpr c23
          have c23b1 : ((wrap64 (1 + (wrap64 (Int.tmod (IntKind.u64.wrap (a0)) 4)))) != 1) = false := bne_eq_false_iff_eq.mpr c23
          clear c23
          obtain rfl := Option.some.inj H
          go_enter Try.func3, Try.ntmps3
          have tk1_0_ : True := trivial
          have tk1_3_ : True := trivial
          have tk1_4_ : True := trivial
          have tk1_5_ : True := trivial
          have tk1_6_ : True := trivial
          have tk1_7_ : True := trivial
          have tk1_8_ : True := trivial
          have tk1_9_ : True := trivial
          go_wp2_with (first | ((with_reducible refine gate_callee (f := 4) rfl ?_); have q_ := tk1_0_; clear q_ tk1_0_; refine goesL_ (some 25) rfl rfl Try.func4 (by kernel_rfl) rfl #[.int .i64 (wrap64 (1 + (wrap64 (Int.tmod (IntKind.u64.wrap (a0)) 4)))), .int .i64 (wrap64 (1 + (wrap64 (Int.tmod (IntKind.u64.wrap (a1)) 4))))] rfl (by (try simp only [sD, sE, sF]); first | done | rfl | (simp only [sG, sH]; rfl)) ?_; (with_reducible refine (verdict_Join.calls k (wrap64 (1 + (wrap64 (Int.tmod (IntKind.u64.wrap (a0)) 4)))) (wrap64 (1 + (wrap64 (Int.tmod (IntKind.u64.wrap (a1)) 4)))) t391 _ A4.out).mono ?_); rintro e w' ⟨rfl, ⟨nd, rfl⟩⟩; refine ⟨_, rfl, ?_⟩) | ((with_reducible refine gate_callee (f := 5) rfl ?_); refine goesL_ (some 26) rfl rfl Try.func5 (by kernel_rfl) rfl #[] rfl (by (try simp only [sD, sE, sF]); first | done | rfl | (simp only [sG, sH]; rfl)) ?_; (with_reducible refine (apogeelaw19_awake.calls k  true _ A5.out).mono ?_); rintro e w24 ⟨rfl, hb⟩; refine ⟨_, rfl, ?_⟩; have n0_ := Aside0.mk (bS (by repeat (first | (with_reducible first | exact HB.out | apply bA | apply bN | apply bD) | exact HB.out)) hb); clear HB; have HB := n0_; clear n0_; (try clear hb); (try clear hb2); (try clear hk); (try clear hi)) | (go_at_call 6; (with_reducible refine (apogeeref19_Join.calls k (wrap64 (1 + (wrap64 (Int.tmod (IntKind.u64.wrap (a0)) 4)))) (wrap64 (1 + (wrap64 (Int.tmod (IntKind.u64.wrap (a1)) 4)))) t393 _ A7.out).mono ?_); rintro e w' ⟨rfl, ⟨nd, rfl⟩⟩) | (go_at_call 4; have q_ := tk1_3_; clear q_ tk1_3_; (with_reducible refine (verdict_Join.calls k (wrap64 (1 + (wrap64 (Int.tmod (IntKind.u64.wrap (a1)) 4)))) (wrap64 (1 + (wrap64 (Int.tmod (IntKind.u64.wrap (a0)) 4)))) t394 _ A9.out).mono ?_); rintro e w' ⟨rfl, ⟨nd, rfl⟩⟩) | (go_at_call 4; have q_ := tk1_4_; clear q_ tk1_4_; (with_reducible refine (verdict_Join.calls k (wrap64 (1 + (wrap64 (Int.tmod (IntKind.u64.wrap (a0)) 4)))) (wrap64 (1 + (wrap64 (Int.tmod (IntKind.u64.wrap (a0)) 4)))) t395 _ A11.out).mono ?_); rintro e w' ⟨rfl, ⟨nd, rfl⟩⟩) | (go_at_call 4; have q_ := tk1_5_; clear q_ tk1_5_; (with_reducible refine (verdict_Join.calls k t391 (wrap64 (1 + (wrap64 (Int.tmod (IntKind.u64.wrap (a2)) 4)))) t396 _ A15.out).mono ?_); rintro e w' ⟨rfl, ⟨nd, rfl⟩⟩) | (go_at_call 4; have q_ := tk1_6_; clear q_ tk1_6_; (with_reducible refine (verdict_Join.calls k (wrap64 (1 + (wrap64 (Int.tmod (IntKind.u64.wrap (a1)) 4)))) (wrap64 (1 + (wrap64 (Int.tmod (IntKind.u64.wrap (a2)) 4)))) t397 _ A16.out).mono ?_); rintro e w' ⟨rfl, ⟨nd, rfl⟩⟩) | (go_at_call 4; have q_ := tk1_7_; clear q_ tk1_7_; (with_reducible refine (verdict_Join.calls k (wrap64 (1 + (wrap64 (Int.tmod (IntKind.u64.wrap (a0)) 4)))) t397 t398 _ A17.out).mono ?_); rintro e w' ⟨rfl, ⟨nd, rfl⟩⟩) | (go_at_call 4; have q_ := tk1_8_; clear q_ tk1_8_; (with_reducible refine (verdict_Join.calls k (wrap64 (1 + (wrap64 (Int.tmod (IntKind.u64.wrap (a0)) 4)))) 0 t399 _ A19.out).mono ?_); rintro e w' ⟨rfl, ⟨nd, rfl⟩⟩) | (go_at_call 4; have q_ := tk1_9_; clear q_ tk1_9_; (with_reducible refine (verdict_Join.calls k (wrap64 (1 + (wrap64 (Int.tmod (IntKind.u64.wrap (a0)) 4)))) 4 t400 _ A20.out).mono ?_); rintro e w' ⟨rfl, ⟨nd, rfl⟩⟩) | (go_at_call 7; (with_reducible refine (verdict_Sure.calls (wrap64 (1 + (wrap64 (Int.tmod (IntKind.u64.wrap (a0)) 4)))) t401 _ A22.out).mono ?_); rintro e w' ⟨rfl, ⟨nd, rfl⟩⟩) | (go_at_call 4; have q_ := tk1_0_; clear q_ tk1_0_; (with_reducible refine (verdict_Join.calls k (wrap64 (1 + (wrap64 (Int.tmod (IntKind.u64.wrap (a0)) 4)))) (wrap64 (1 + (wrap64 (Int.tmod (IntKind.u64.wrap (a1)) 4)))) t391 _ A4.out).mono ?_); rintro e w' ⟨rfl, ⟨nd, rfl⟩⟩; refine ⟨_, rfl, ?_⟩) | (go_at_call 5; (with_reducible refine (apogeelaw19_awake.calls k  true _ A5.out).mono ?_); rintro e w24 ⟨rfl, hb⟩; have n0_ := Aside0.mk (bS (by repeat (first | (with_reducible first | exact HB.out | apply bA | apply bN | apply bD) | exact HB.out)) hb); clear HB; have HB := n0_; clear n0_; (try clear hb); (try clear hb2); (try clear hk); (try clear hi)))
          go_ret
          exact ⟨by first | rfl | (simp [errW_none, errW_some] <;> rfl) | (simp [*, errW_none, errW_some] <;> rfl), by repeat (first | (with_reducible first | exact HB.out | apply bA | apply bN | apply bD) | exact HB.out)⟩
         ·rw [if_neg c23] at H
          have c23b0 : ((wrap64 (1 + (wrap64 (Int.tmod (IntKind.u64.wrap (a0)) 4)))) == 1) = false := beq_eq_false_iff_ne.mpr c23
          have c23b1 : ((wrap64 (1 + (wrap64 (Int.tmod (IntKind.u64.wrap (a0)) 4)))) != 1) = true := bne_iff_ne.mpr c23
          obtain rfl := Option.some.inj H
          go_enter Try.func3, Try.ntmps3
          have tk2_0_ : True := trivial
          have tk2_3_ : True := trivial
          have tk2_4_ : True := trivial
          have tk2_5_ : True := trivial
          have tk2_6_ : True := trivial
          have tk2_7_ : True := trivial
          have tk2_8_ : True := trivial
          have tk2_9_ : True := trivial
          go_wp2_with (first | ((with_reducible refine gate_callee (f := 4) rfl ?_); have q_ := tk2_0_; clear q_ tk2_0_; refine goesL_ (some 25) rfl rfl Try.func4 (by kernel_rfl) rfl #[.int .i64 (wrap64 (1 + (wrap64 (Int.tmod (IntKind.u64.wrap (a0)) 4)))), .int .i64 (wrap64 (1 + (wrap64 (Int.tmod (IntKind.u64.wrap (a1)) 4))))] rfl (by (try simp only [sD, sE, sF]); first | done | rfl | (simp only [sG, sH]; rfl)) ?_; (with_reducible refine (verdict_Join.calls k (wrap64 (1 + (wrap64 (Int.tmod (IntKind.u64.wrap (a0)) 4)))) (wrap64 (1 + (wrap64 (Int.tmod (IntKind.u64.wrap (a1)) 4)))) t391 _ A4.out).mono ?_); rintro e w' ⟨rfl, ⟨nd, rfl⟩⟩; refine ⟨_, rfl, ?_⟩) | ((with_reducible refine gate_callee (f := 5) rfl ?_); refine goesL_ (some 26) rfl rfl Try.func5 (by kernel_rfl) rfl #[] rfl (by (try simp only [sD, sE, sF]); first | done | rfl | (simp only [sG, sH]; rfl)) ?_; (with_reducible refine (apogeelaw19_awake.calls k  true _ A5.out).mono ?_); rintro e w25 ⟨rfl, hb⟩; refine ⟨_, rfl, ?_⟩; have n0_ := Aside0.mk (bS (by repeat (first | (with_reducible first | exact HB.out | apply bA | apply bN | apply bD) | exact HB.out)) hb); clear HB; have HB := n0_; clear n0_; (try clear hb); (try clear hb2); (try clear hk); (try clear hi)) | (go_at_call 6; (with_reducible refine (apogeeref19_Join.calls k (wrap64 (1 + (wrap64 (Int.tmod (IntKind.u64.wrap (a0)) 4)))) (wrap64 (1 + (wrap64 (Int.tmod (IntKind.u64.wrap (a1)) 4)))) t393 _ A7.out).mono ?_); rintro e w' ⟨rfl, ⟨nd, rfl⟩⟩) | (go_at_call 4; have q_ := tk2_3_; clear q_ tk2_3_; (with_reducible refine (verdict_Join.calls k (wrap64 (1 + (wrap64 (Int.tmod (IntKind.u64.wrap (a1)) 4)))) (wrap64 (1 + (wrap64 (Int.tmod (IntKind.u64.wrap (a0)) 4)))) t394 _ A9.out).mono ?_); rintro e w' ⟨rfl, ⟨nd, rfl⟩⟩) | (go_at_call 4; have q_ := tk2_4_; clear q_ tk2_4_; (with_reducible refine (verdict_Join.calls k (wrap64 (1 + (wrap64 (Int.tmod (IntKind.u64.wrap (a0)) 4)))) (wrap64 (1 + (wrap64 (Int.tmod (IntKind.u64.wrap (a0)) 4)))) t395 _ A11.out).mono ?_); rintro e w' ⟨rfl, ⟨nd, rfl⟩⟩) | (go_at_call 4; have q_ := tk2_5_; clear q_ tk2_5_; (with_reducible refine (verdict_Join.calls k t391 (wrap64 (1 + (wrap64 (Int.tmod (IntKind.u64.wrap (a2)) 4)))) t396 _ A15.out).mono ?_); rintro e w' ⟨rfl, ⟨nd, rfl⟩⟩) | (go_at_call 4; have q_ := tk2_6_; clear q_ tk2_6_; (with_reducible refine (verdict_Join.calls k (wrap64 (1 + (wrap64 (Int.tmod (IntKind.u64.wrap (a1)) 4)))) (wrap64 (1 + (wrap64 (Int.tmod (IntKind.u64.wrap (a2)) 4)))) t397 _ A16.out).mono ?_); rintro e w' ⟨rfl, ⟨nd, rfl⟩⟩) | (go_at_call 4; have q_ := tk2_7_; clear q_ tk2_7_; (with_reducible refine (verdict_Join.calls k (wrap64 (1 + (wrap64 (Int.tmod (IntKind.u64.wrap (a0)) 4)))) t397 t398 _ A17.out).mono ?_); rintro e w' ⟨rfl, ⟨nd, rfl⟩⟩) | (go_at_call 4; have q_ := tk2_8_; clear q_ tk2_8_; (with_reducible refine (verdict_Join.calls k (wrap64 (1 + (wrap64 (Int.tmod (IntKind.u64.wrap (a0)) 4)))) 0 t399 _ A19.out).mono ?_); rintro e w' ⟨rfl, ⟨nd, rfl⟩⟩) | (go_at_call 4; have q_ := tk2_9_; clear q_ tk2_9_; (with_reducible refine (verdict_Join.calls k (wrap64 (1 + (wrap64 (Int.tmod (IntKind.u64.wrap (a0)) 4)))) 4 t400 _ A20.out).mono ?_); rintro e w' ⟨rfl, ⟨nd, rfl⟩⟩) | (go_at_call 7; (with_reducible refine (verdict_Sure.calls (wrap64 (1 + (wrap64 (Int.tmod (IntKind.u64.wrap (a0)) 4)))) t401 _ A22.out).mono ?_); rintro e w' ⟨rfl, ⟨nd, rfl⟩⟩) | (go_at_call 4; have q_ := tk2_0_; clear q_ tk2_0_; (with_reducible refine (verdict_Join.calls k (wrap64 (1 + (wrap64 (Int.tmod (IntKind.u64.wrap (a0)) 4)))) (wrap64 (1 + (wrap64 (Int.tmod (IntKind.u64.wrap (a1)) 4)))) t391 _ A4.out).mono ?_); rintro e w' ⟨rfl, ⟨nd, rfl⟩⟩; refine ⟨_, rfl, ?_⟩) | (go_at_call 5; (with_reducible refine (apogeelaw19_awake.calls k  true _ A5.out).mono ?_); rintro e w25 ⟨rfl, hb⟩; have n0_ := Aside0.mk (bS (by repeat (first | (with_reducible first | exact HB.out | apply bA | apply bN | apply bD) | exact HB.out)) hb); clear HB; have HB := n0_; clear n0_; (try clear hb); (try clear hb2); (try clear hk); (try clear hi)))
          go_ret
          exact ⟨by first | rfl | (simp [errW_none, errW_some] <;> rfl) | (simp [*, errW_none, errW_some] <;> rfl), by repeat (first | (with_reducible first | exact HB.out | apply bA | apply bN | apply bD) | exact HB.out)⟩
        ·rw [if_neg c21] at H
         have c21b0 : (t399 == t400) = false := beq_eq_false_iff_ne.mpr c21
         have c21b1 : (t399 != t400) = true := bne_iff_ne.mpr c21
         obtain rfl := Option.some.inj H
         go_enter Try.func3, Try.ntmps3
         have tk3_0_ : True := trivial
         have tk3_3_ : True := trivial
         have tk3_4_ : True := trivial
         have tk3_5_ : True := trivial
         have tk3_6_ : True := trivial
         have tk3_7_ : True := trivial
         have tk3_8_ : True := trivial
         have tk3_9_ : True := trivial
         go_wp2_with (first | ((with_reducible refine gate_callee (f := 4) rfl ?_); have q_ := tk3_0_; clear q_ tk3_0_; refine goesL_ (some 25) rfl rfl Try.func4 (by kernel_rfl) rfl #[.int .i64 (wrap64 (1 + (wrap64 (Int.tmod (IntKind.u64.wrap (a0)) 4)))), .int .i64 (wrap64 (1 + (wrap64 (Int.tmod (IntKind.u64.wrap (a1)) 4))))] rfl (by (try simp only [sD, sE, sF]); first | done | rfl | (simp only [sG, sH]; rfl)) ?_; (with_reducible refine (verdict_Join.calls k (wrap64 (1 + (wrap64 (Int.tmod (IntKind.u64.wrap (a0)) 4)))) (wrap64 (1 + (wrap64 (Int.tmod (IntKind.u64.wrap (a1)) 4)))) t391 _ A4.out).mono ?_); rintro e w' ⟨rfl, ⟨nd, rfl⟩⟩; refine ⟨_, rfl, ?_⟩) | ((with_reducible refine gate_callee (f := 5) rfl ?_); refine goesL_ (some 26) rfl rfl Try.func5 (by kernel_rfl) rfl #[] rfl (by (try simp only [sD, sE, sF]); first | done | rfl | (simp only [sG, sH]; rfl)) ?_; (with_reducible refine (apogeelaw19_awake.calls k  true _ A5.out).mono ?_); rintro e w26 ⟨rfl, hb⟩; refine ⟨_, rfl, ?_⟩; have n0_ := Aside0.mk (bS (by repeat (first | (with_reducible first | exact HB.out | apply bA | apply bN | apply bD) | exact HB.out)) hb); clear HB; have HB := n0_; clear n0_; (try clear hb); (try clear hb2); (try clear hk); (try clear hi)) | (go_at_call 6; (with_reducible refine (apogeeref19_Join.calls k (wrap64 (1 + (wrap64 (Int.tmod (IntKind.u64.wrap (a0)) 4)))) (wrap64 (1 + (wrap64 (Int.tmod (IntKind.u64.wrap (a1)) 4)))) t393 _ A7.out).mono ?_); rintro e w' ⟨rfl, ⟨nd, rfl⟩⟩) | (go_at_call 4; have q_ := tk3_3_; clear q_ tk3_3_; (with_reducible refine (verdict_Join.calls k (wrap64 (1 + (wrap64 (Int.tmod (IntKind.u64.wrap (a1)) 4)))) (wrap64 (1 + (wrap64 (Int.tmod (IntKind.u64.wrap (a0)) 4)))) t394 _ A9.out).mono ?_); rintro e w' ⟨rfl, ⟨nd, rfl⟩⟩) | (go_at_call 4; have q_ := tk3_4_; clear q_ tk3_4_; (with_reducible refine (verdict_Join.calls k (wrap64 (1 + (wrap64 (Int.tmod (IntKind.u64.wrap (a0)) 4)))) (wrap64 (1 + (wrap64 (Int.tmod (IntKind.u64.wrap (a0)) 4)))) t395 _ A11.out).mono ?_); rintro e w' ⟨rfl, ⟨nd, rfl⟩⟩) | (go_at_call 4; have q_ := tk3_5_; clear q_ tk3_5_; (with_reducible refine (verdict_Join.calls k t391 (wrap64 (1 + (wrap64 (Int.tmod (IntKind.u64.wrap (a2)) 4)))) t396 _ A15.out).mono ?_); rintro e w' ⟨rfl, ⟨nd, rfl⟩⟩) | (go_at_call 4; have q_ := tk3_6_; clear q_ tk3_6_; (with_reducible refine (verdict_Join.calls k (wrap64 (1 + (wrap64 (Int.tmod (IntKind.u64.wrap (a1)) 4)))) (wrap64 (1 + (wrap64 (Int.tmod (IntKind.u64.wrap (a2)) 4)))) t397 _ A16.out).mono ?_); rintro e w' ⟨rfl, ⟨nd, rfl⟩⟩) | (go_at_call 4; have q_ := tk3_7_; clear q_ tk3_7_; (with_reducible refine (verdict_Join.calls k (wrap64 (1 + (wrap64 (Int.tmod (IntKind.u64.wrap (a0)) 4)))) t397 t398 _ A17.out).mono ?_); rintro e w' ⟨rfl, ⟨nd, rfl⟩⟩) | (go_at_call 4; have q_ := tk3_8_; clear q_ tk3_8_; (with_reducible refine (verdict_Join.calls k (wrap64 (1 + (wrap64 (Int.tmod (IntKind.u64.wrap (a0)) 4)))) 0 t399 _ A19.out).mono ?_); rintro e w' ⟨rfl, ⟨nd, rfl⟩⟩) | (go_at_call 4; have q_ := tk3_9_; clear q_ tk3_9_; (with_reducible refine (verdict_Join.calls k (wrap64 (1 + (wrap64 (Int.tmod (IntKind.u64.wrap (a0)) 4)))) 4 t400 _ A20.out).mono ?_); rintro e w' ⟨rfl, ⟨nd, rfl⟩⟩) | (go_at_call 4; have q_ := tk3_0_; clear q_ tk3_0_; (with_reducible refine (verdict_Join.calls k (wrap64 (1 + (wrap64 (Int.tmod (IntKind.u64.wrap (a0)) 4)))) (wrap64 (1 + (wrap64 (Int.tmod (IntKind.u64.wrap (a1)) 4)))) t391 _ A4.out).mono ?_); rintro e w' ⟨rfl, ⟨nd, rfl⟩⟩; refine ⟨_, rfl, ?_⟩) | (go_at_call 5; (with_reducible refine (apogeelaw19_awake.calls k  true _ A5.out).mono ?_); rintro e w26 ⟨rfl, hb⟩; have n0_ := Aside0.mk (bS (by repeat (first | (with_reducible first | exact HB.out | apply bA | apply bN | apply bD) | exact HB.out)) hb); clear HB; have HB := n0_; clear n0_; (try clear hb); (try clear hb2); (try clear hk); (try clear hi)))
         go_ret
         exact ⟨by first | rfl | (simp [errW_none, errW_some] <;> rfl) | (simp [*, errW_none, errW_some] <;> rfl), by repeat (first | (with_reducible first | exact HB.out | apply bA | apply bN | apply bD) | exact HB.out)⟩
       ·rw [if_neg c18] at H
        have c18b0 : (t396 == t398) = false := beq_eq_false_iff_ne.mpr c18
        have c18b1 : (t396 != t398) = true := bne_iff_ne.mpr c18
        obtain rfl := Option.some.inj H
        go_enter Try.func3, Try.ntmps3
        have tk4_0_ : True := trivial
        have tk4_3_ : True := trivial
        have tk4_4_ : True := trivial
        have tk4_5_ : True := trivial
        have tk4_6_ : True := trivial
        have tk4_7_ : True := trivial
        go_wp2_with (first | ((with_reducible refine gate_callee (f := 4) rfl ?_); have q_ := tk4_0_; clear q_ tk4_0_; refine goesL_ (some 25) rfl rfl Try.func4 (by kernel_rfl) rfl #[.int .i64 (wrap64 (1 + (wrap64 (Int.tmod (IntKind.u64.wrap (a0)) 4)))), .int .i64 (wrap64 (1 + (wrap64 (Int.tmod (IntKind.u64.wrap (a1)) 4))))] rfl (by (try simp only [sD, sE, sF]); first | done | rfl | (simp only [sG, sH]; rfl)) ?_; (with_reducible refine (verdict_Join.calls k (wrap64 (1 + (wrap64 (Int.tmod (IntKind.u64.wrap (a0)) 4)))) (wrap64 (1 + (wrap64 (Int.tmod (IntKind.u64.wrap (a1)) 4)))) t391 _ A4.out).mono ?_); rintro e w' ⟨rfl, ⟨nd, rfl⟩⟩; refine ⟨_, rfl, ?_⟩) | ((with_reducible refine gate_callee (f := 5) rfl ?_); refine goesL_ (some 26) rfl rfl Try.func5 (by kernel_rfl) rfl #[] rfl (by (try simp only [sD, sE, sF]); first | done | rfl | (simp only [sG, sH]; rfl)) ?_; (with_reducible refine (apogeelaw19_awake.calls k  true _ A5.out).mono ?_); rintro e w27 ⟨rfl, hb⟩; refine ⟨_, rfl, ?_⟩; have n0_ := Aside0.mk (bS (by repeat (first | (with_reducible first | exact HB.out | apply bA | apply bN | apply bD) | exact HB.out)) hb); clear HB; have HB := n0_; clear n0_; (try clear hb); (try clear hb2); (try clear hk); (try clear hi)) | (go_at_call 6; (with_reducible refine (apogeeref19_Join.calls k (wrap64 (1 + (wrap64 (Int.tmod (IntKind.u64.wrap (a0)) 4)))) (wrap64 (1 + (wrap64 (Int.tmod (IntKind.u64.wrap (a1)) 4)))) t393 _ A7.out).mono ?_); rintro e w' ⟨rfl, ⟨nd, rfl⟩⟩) | (go_at_call 4; have q_ := tk4_3_; clear q_ tk4_3_; (with_reducible refine (verdict_Join.calls k (wrap64 (1 + (wrap64 (Int.tmod (IntKind.u64.wrap (a1)) 4)))) (wrap64 (1 + (wrap64 (Int.tmod (IntKind.u64.wrap (a0)) 4)))) t394 _ A9.out).mono ?_); rintro e w' ⟨rfl, ⟨nd, rfl⟩⟩) | (go_at_call 4; have q_ := tk4_4_; clear q_ tk4_4_; (with_reducible refine (verdict_Join.calls k (wrap64 (1 + (wrap64 (Int.tmod (IntKind.u64.wrap (a0)) 4)))) (wrap64 (1 + (wrap64 (Int.tmod (IntKind.u64.wrap (a0)) 4)))) t395 _ A11.out).mono ?_); rintro e w' ⟨rfl, ⟨nd, rfl⟩⟩) | (go_at_call 4; have q_ := tk4_5_; clear q_ tk4_5_; (with_reducible refine (verdict_Join.calls k t391 (wrap64 (1 + (wrap64 (Int.tmod (IntKind.u64.wrap (a2)) 4)))) t396 _ A15.out).mono ?_); rintro e w' ⟨rfl, ⟨nd, rfl⟩⟩) | (go_at_call 4; have q_ := tk4_6_; clear q_ tk4_6_; (with_reducible refine (verdict_Join.calls k (wrap64 (1 + (wrap64 (Int.tmod (IntKind.u64.wrap (a1)) 4)))) (wrap64 (1 + (wrap64 (Int.tmod (IntKind.u64.wrap (a2)) 4)))) t397 _ A16.out).mono ?_); rintro e w' ⟨rfl, ⟨nd, rfl⟩⟩) | (go_at_call 4; have q_ := tk4_7_; clear q_ tk4_7_; (with_reducible refine (verdict_Join.calls k (wrap64 (1 + (wrap64 (Int.tmod (IntKind.u64.wrap (a0)) 4)))) t397 t398 _ A17.out).mono ?_); rintro e w' ⟨rfl, ⟨nd, rfl⟩⟩))
        go_ret
        exact ⟨by first | rfl | (simp [errW_none, errW_some] <;> rfl) | (simp [*, errW_none, errW_some] <;> rfl), by repeat (first | (with_reducible first | exact HB.out | apply bA | apply bN | apply bD) | exact HB.out)⟩
      ·rw [if_neg c14] at H
       have c14b0 : (t391 == 3) = false := beq_eq_false_iff_ne.mpr c14
       have c14b1 : (t391 != 3) = true := bne_iff_ne.mpr c14
       obtain rfl := Option.some.inj H
       go_enter Try.func3, Try.ntmps3
       have tk5_0_ : True := trivial
       have tk5_3_ : True := trivial
       have tk5_4_ : True := trivial
       go_wp2_with (first | ((with_reducible refine gate_callee (f := 4) rfl ?_); have q_ := tk5_0_; clear q_ tk5_0_; refine goesL_ (some 25) rfl rfl Try.func4 (by kernel_rfl) rfl #[.int .i64 (wrap64 (1 + (wrap64 (Int.tmod (IntKind.u64.wrap (a0)) 4)))), .int .i64 (wrap64 (1 + (wrap64 (Int.tmod (IntKind.u64.wrap (a1)) 4))))] rfl (by (try simp only [sD, sE, sF]); first | done | rfl | (simp only [sG, sH]; rfl)) ?_; (with_reducible refine (verdict_Join.calls k (wrap64 (1 + (wrap64 (Int.tmod (IntKind.u64.wrap (a0)) 4)))) (wrap64 (1 + (wrap64 (Int.tmod (IntKind.u64.wrap (a1)) 4)))) t391 _ A4.out).mono ?_); rintro e w' ⟨rfl, ⟨nd, rfl⟩⟩; refine ⟨_, rfl, ?_⟩) | ((with_reducible refine gate_callee (f := 5) rfl ?_); refine goesL_ (some 26) rfl rfl Try.func5 (by kernel_rfl) rfl #[] rfl (by (try simp only [sD, sE, sF]); first | done | rfl | (simp only [sG, sH]; rfl)) ?_; (with_reducible refine (apogeelaw19_awake.calls k  true _ A5.out).mono ?_); rintro e w28 ⟨rfl, hb⟩; refine ⟨_, rfl, ?_⟩; have n0_ := Aside0.mk (bS (by repeat (first | (with_reducible first | exact HB.out | apply bA | apply bN | apply bD) | exact HB.out)) hb); clear HB; have HB := n0_; clear n0_; (try clear hb); (try clear hb2); (try clear hk); (try clear hi)) | (go_at_call 6; (with_reducible refine (apogeeref19_Join.calls k (wrap64 (1 + (wrap64 (Int.tmod (IntKind.u64.wrap (a0)) 4)))) (wrap64 (1 + (wrap64 (Int.tmod (IntKind.u64.wrap (a1)) 4)))) t393 _ A7.out).mono ?_); rintro e w' ⟨rfl, ⟨nd, rfl⟩⟩) | (go_at_call 4; have q_ := tk5_3_; clear q_ tk5_3_; (with_reducible refine (verdict_Join.calls k (wrap64 (1 + (wrap64 (Int.tmod (IntKind.u64.wrap (a1)) 4)))) (wrap64 (1 + (wrap64 (Int.tmod (IntKind.u64.wrap (a0)) 4)))) t394 _ A9.out).mono ?_); rintro e w' ⟨rfl, ⟨nd, rfl⟩⟩) | (go_at_call 4; have q_ := tk5_4_; clear q_ tk5_4_; (with_reducible refine (verdict_Join.calls k (wrap64 (1 + (wrap64 (Int.tmod (IntKind.u64.wrap (a0)) 4)))) (wrap64 (1 + (wrap64 (Int.tmod (IntKind.u64.wrap (a0)) 4)))) t395 _ A11.out).mono ?_); rintro e w' ⟨rfl, ⟨nd, rfl⟩⟩))
       go_ret
       exact ⟨by first | rfl | (simp [errW_none, errW_some] <;> rfl) | (simp [*, errW_none, errW_some] <;> rfl), by repeat (first | (with_reducible first | exact HB.out | apply bA | apply bN | apply bD) | exact HB.out)⟩
     ·rw [if_neg c13] at H
      have c13b0 : ((wrap64 (1 + (wrap64 (Int.tmod (IntKind.u64.wrap (a0)) 4)))) == 3) = false := beq_eq_false_iff_ne.mpr c13
      have c13b1 : ((wrap64 (1 + (wrap64 (Int.tmod (IntKind.u64.wrap (a0)) 4)))) != 3) = true := bne_iff_ne.mpr c13
      replace H := Option.bind_eq_some_iff.mp H
      obtain ⟨t402, A290, H⟩ := H
      replace H : ((verdict_Join.f k (wrap64 (1 + (wrap64 (Int.tmod (IntKind.u64.wrap (a1)) 4)))) (wrap64 (1 + (wrap64 (Int.tmod (IntKind.u64.wrap (a2)) 4))))).bind fun t403 => ((verdict_Join.f k (wrap64 (1 + (wrap64 (Int.tmod (IntKind.u64.wrap (a0)) 4)))) t403).bind fun t404 => (if t402 = t404 then ((verdict_Join.f k (wrap64 (1 + (wrap64 (Int.tmod (IntKind.u64.wrap (a0)) 4)))) 0).bind fun t405 => ((verdict_Join.f k (wrap64 (1 + (wrap64 (Int.tmod (IntKind.u64.wrap (a0)) 4)))) 4).bind fun t406 => (if t405 = t406 then ((verdict_Sure.f (wrap64 (1 + (wrap64 (Int.tmod (IntKind.u64.wrap (a0)) 4))))).bind fun t407 => (if (wrap64 (1 + (wrap64 (Int.tmod (IntKind.u64.wrap (a0)) 4)))) = 1 then (some (t407 == true)) else (some (t407 == ((wrap64 (1 + (wrap64 (Int.tmod (IntKind.u64.wrap (a0)) 4)))) == 3))))) else (some false)))) else (some false)))) = some r := H
      have A29 := Aside0.mk A290
      clear A290
      replace H := Option.bind_eq_some_iff.mp H
      obtain ⟨t403, A300, H⟩ := H
      replace H : ((verdict_Join.f k (wrap64 (1 + (wrap64 (Int.tmod (IntKind.u64.wrap (a0)) 4)))) t403).bind fun t404 => (if t402 = t404 then ((verdict_Join.f k (wrap64 (1 + (wrap64 (Int.tmod (IntKind.u64.wrap (a0)) 4)))) 0).bind fun t405 => ((verdict_Join.f k (wrap64 (1 + (wrap64 (Int.tmod (IntKind.u64.wrap (a0)) 4)))) 4).bind fun t406 => (if t405 = t406 then ((verdict_Sure.f (wrap64 (1 + (wrap64 (Int.tmod (IntKind.u64.wrap (a0)) 4))))).bind fun t407 => (if (wrap64 (1 + (wrap64 (Int.tmod (IntKind.u64.wrap (a0)) 4)))) = 1 then (some (t407 == true)) else (some (t407 == ((wrap64 (1 + (wrap64 (Int.tmod (IntKind.u64.wrap (a0)) 4)))) == 3))))) else (some false)))) else (some false))) = some r := H
      have A30 := Aside0.mk A300
      clear A300
      replace H := Option.bind_eq_some_iff.mp H
      obtain ⟨t404, A310, H⟩ := H
      replace H : (if t402 = t404 then ((verdict_Join.f k (wrap64 (1 + (wrap64 (Int.tmod (IntKind.u64.wrap (a0)) 4)))) 0).bind fun t405 => ((verdict_Join.f k (wrap64 (1 + (wrap64 (Int.tmod (IntKind.u64.wrap (a0)) 4)))) 4).bind fun t406 => (if t405 = t406 then ((verdict_Sure.f (wrap64 (1 + (wrap64 (Int.tmod (IntKind.u64.wrap (a0)) 4))))).bind fun t407 => (if (wrap64 (1 + (wrap64 (Int.tmod (IntKind.u64.wrap (a0)) 4)))) = 1 then (some (t407 == true)) else (some (t407 == ((wrap64 (1 + (wrap64 (Int.tmod (IntKind.u64.wrap (a0)) 4)))) == 3))))) else (some false)))) else (some false)) = some r := H
      have A31 := Aside0.mk A310
      clear A310
      by_cases c32 : t402 = t404
      ·rw [if_pos c32] at H
       have c32b0 : (t402 == t404) = true := beq_iff_eq.mpr c32
       have c32b1 : (t402 != t404) = false := bne_eq_false_iff_eq.mpr c32
       clear c32
       replace H := Option.bind_eq_some_iff.mp H
       obtain ⟨t405, A330, H⟩ := H
       replace H : ((verdict_Join.f k (wrap64 (1 + (wrap64 (Int.tmod (IntKind.u64.wrap (a0)) 4)))) 4).bind fun t406 => (if t405 = t406 then ((verdict_Sure.f (wrap64 (1 + (wrap64 (Int.tmod (IntKind.u64.wrap (a0)) 4))))).bind fun t407 => (if (wrap64 (1 + (wrap64 (Int.tmod (IntKind.u64.wrap (a0)) 4)))) = 1 then (some (t407 == true)) else (some (t407 == ((wrap64 (1 + (wrap64 (Int.tmod (IntKind.u64.wrap (a0)) 4)))) == 3))))) else (some false))) = some r := H
       have A33 := Aside0.mk A330
       clear A330
       replace H := Option.bind_eq_some_iff.mp H
       obtain ⟨t406, A340, H⟩ := H
       replace H : (if t405 = t406 then ((verdict_Sure.f (wrap64 (1 + (wrap64 (Int.tmod (IntKind.u64.wrap (a0)) 4))))).bind fun t407 => (if (wrap64 (1 + (wrap64 (Int.tmod (IntKind.u64.wrap (a0)) 4)))) = 1 then (some (t407 == true)) else (some (t407 == ((wrap64 (1 + (wrap64 (Int.tmod (IntKind.u64.wrap (a0)) 4)))) == 3))))) else (some false)) = some r := H
       have A34 := Aside0.mk A340
       clear A340
       by_cases c35 : t405 = t406
       ·rw [if_pos c35] at H
        have c35b0 : (t405 == t406) = true := beq_iff_eq.mpr c35
        have c35b1 : (t405 != t406) = false := bne_eq_false_iff_eq.mpr c35
        clear c35
        replace H := Option.bind_eq_some_iff.mp H
        obtain ⟨t407, A360, H⟩ := H
        replace H : (if (wrap64 (1 + (wrap64 (Int.tmod (IntKind.u64.wrap (a0)) 4)))) = 1 then (some (t407 == true)) else (some (t407 == ((wrap64 (1 + (wrap64 (Int.tmod (IntKind.u64.wrap (a0)) 4)))) == 3)))) = some r := H
        have A36 := Aside0.mk A360
        clear A360
        by_cases c37 : (wrap64 (1 + (wrap64 (Int.tmod (IntKind.u64.wrap (a0)) 4)))) = 1
        ·rw [if_pos c37] at H
         have c37b0 : ((wrap64 (1 + (wrap64 (Int.tmod (IntKind.u64.wrap (a0)) 4)))) == 1) = true := beq_iff_eq.mpr c37
         have c37b1 : ((wrap64 (1 + (wrap64 (Int.tmod (IntKind.u64.wrap (a0)) 4)))) != 1) = false := bne_eq_false_iff_eq.mpr c37
         clear c37
         obtain rfl := Option.some.inj H
         go_enter Try.func3, Try.ntmps3
         have tk6_0_ : True := trivial
         have tk6_3_ : True := trivial
         have tk6_4_ : True := trivial
         have tk6_5_ : True := trivial
         have tk6_6_ : True := trivial
         have tk6_7_ : True := trivial
         have tk6_8_ : True := trivial
         have tk6_9_ : True := trivial
         go_wp2_with (first | ((with_reducible refine gate_callee (f := 4) rfl ?_); have q_ := tk6_0_; clear q_ tk6_0_; refine goesL_ (some 25) rfl rfl Try.func4 (by kernel_rfl) rfl #[.int .i64 (wrap64 (1 + (wrap64 (Int.tmod (IntKind.u64.wrap (a0)) 4)))), .int .i64 (wrap64 (1 + (wrap64 (Int.tmod (IntKind.u64.wrap (a1)) 4))))] rfl (by (try simp only [sD, sE, sF]); first | done | rfl | (simp only [sG, sH]; rfl)) ?_; (with_reducible refine (verdict_Join.calls k (wrap64 (1 + (wrap64 (Int.tmod (IntKind.u64.wrap (a0)) 4)))) (wrap64 (1 + (wrap64 (Int.tmod (IntKind.u64.wrap (a1)) 4)))) t391 _ A4.out).mono ?_); rintro e w' ⟨rfl, ⟨nd, rfl⟩⟩; refine ⟨_, rfl, ?_⟩) | ((with_reducible refine gate_callee (f := 5) rfl ?_); refine goesL_ (some 26) rfl rfl Try.func5 (by kernel_rfl) rfl #[] rfl (by (try simp only [sD, sE, sF]); first | done | rfl | (simp only [sG, sH]; rfl)) ?_; (with_reducible refine (apogeelaw19_awake.calls k  true _ A5.out).mono ?_); rintro e w38 ⟨rfl, hb⟩; refine ⟨_, rfl, ?_⟩; have n0_ := Aside0.mk (bS (by repeat (first | (with_reducible first | exact HB.out | apply bA | apply bN | apply bD) | exact HB.out)) hb); clear HB; have HB := n0_; clear n0_; (try clear hb); (try clear hb2); (try clear hk); (try clear hi)) | (go_at_call 6; (with_reducible refine (apogeeref19_Join.calls k (wrap64 (1 + (wrap64 (Int.tmod (IntKind.u64.wrap (a0)) 4)))) (wrap64 (1 + (wrap64 (Int.tmod (IntKind.u64.wrap (a1)) 4)))) t393 _ A7.out).mono ?_); rintro e w' ⟨rfl, ⟨nd, rfl⟩⟩) | (go_at_call 4; have q_ := tk6_3_; clear q_ tk6_3_; (with_reducible refine (verdict_Join.calls k (wrap64 (1 + (wrap64 (Int.tmod (IntKind.u64.wrap (a1)) 4)))) (wrap64 (1 + (wrap64 (Int.tmod (IntKind.u64.wrap (a0)) 4)))) t394 _ A9.out).mono ?_); rintro e w' ⟨rfl, ⟨nd, rfl⟩⟩) | (go_at_call 4; have q_ := tk6_4_; clear q_ tk6_4_; (with_reducible refine (verdict_Join.calls k (wrap64 (1 + (wrap64 (Int.tmod (IntKind.u64.wrap (a0)) 4)))) (wrap64 (1 + (wrap64 (Int.tmod (IntKind.u64.wrap (a0)) 4)))) t395 _ A11.out).mono ?_); rintro e w' ⟨rfl, ⟨nd, rfl⟩⟩) | (go_at_call 4; have q_ := tk6_5_; clear q_ tk6_5_; (with_reducible refine (verdict_Join.calls k t391 (wrap64 (1 + (wrap64 (Int.tmod (IntKind.u64.wrap (a2)) 4)))) t402 _ A29.out).mono ?_); rintro e w' ⟨rfl, ⟨nd, rfl⟩⟩) | (go_at_call 4; have q_ := tk6_6_; clear q_ tk6_6_; (with_reducible refine (verdict_Join.calls k (wrap64 (1 + (wrap64 (Int.tmod (IntKind.u64.wrap (a1)) 4)))) (wrap64 (1 + (wrap64 (Int.tmod (IntKind.u64.wrap (a2)) 4)))) t403 _ A30.out).mono ?_); rintro e w' ⟨rfl, ⟨nd, rfl⟩⟩) | (go_at_call 4; have q_ := tk6_7_; clear q_ tk6_7_; (with_reducible refine (verdict_Join.calls k (wrap64 (1 + (wrap64 (Int.tmod (IntKind.u64.wrap (a0)) 4)))) t403 t404 _ A31.out).mono ?_); rintro e w' ⟨rfl, ⟨nd, rfl⟩⟩) | (go_at_call 4; have q_ := tk6_8_; clear q_ tk6_8_; (with_reducible refine (verdict_Join.calls k (wrap64 (1 + (wrap64 (Int.tmod (IntKind.u64.wrap (a0)) 4)))) 0 t405 _ A33.out).mono ?_); rintro e w' ⟨rfl, ⟨nd, rfl⟩⟩) | (go_at_call 4; have q_ := tk6_9_; clear q_ tk6_9_; (with_reducible refine (verdict_Join.calls k (wrap64 (1 + (wrap64 (Int.tmod (IntKind.u64.wrap (a0)) 4)))) 4 t406 _ A34.out).mono ?_); rintro e w' ⟨rfl, ⟨nd, rfl⟩⟩) | (go_at_call 7; (with_reducible refine (verdict_Sure.calls (wrap64 (1 + (wrap64 (Int.tmod (IntKind.u64.wrap (a0)) 4)))) t407 _ A36.out).mono ?_); rintro e w' ⟨rfl, ⟨nd, rfl⟩⟩) | (go_at_call 4; have q_ := tk6_0_; clear q_ tk6_0_; (with_reducible refine (verdict_Join.calls k (wrap64 (1 + (wrap64 (Int.tmod (IntKind.u64.wrap (a0)) 4)))) (wrap64 (1 + (wrap64 (Int.tmod (IntKind.u64.wrap (a1)) 4)))) t391 _ A4.out).mono ?_); rintro e w' ⟨rfl, ⟨nd, rfl⟩⟩; refine ⟨_, rfl, ?_⟩) | (go_at_call 5; (with_reducible refine (apogeelaw19_awake.calls k  true _ A5.out).mono ?_); rintro e w38 ⟨rfl, hb⟩; have n0_ := Aside0.mk (bS (by repeat (first | (with_reducible first | exact HB.out | apply bA | apply bN | apply bD) | exact HB.out)) hb); clear HB; have HB := n0_; clear n0_; (try clear hb); (try clear hb2); (try clear hk); (try clear hi)))
         go_ret
         exact ⟨by first | rfl | (simp [errW_none, errW_some] <;> rfl) | (simp [*, errW_none, errW_some] <;> rfl), by repeat (first | (with_reducible first | exact HB.out | apply bA | apply bN | apply bD) | exact HB.out)⟩
        ·rw [if_neg c37] at H
         have c37b0 : ((wrap64 (1 + (wrap64 (Int.tmod (IntKind.u64.wrap (a0)) 4)))) == 1) = false := beq_eq_false_iff_ne.mpr c37
         have c37b1 : ((wrap64 (1 + (wrap64 (Int.tmod (IntKind.u64.wrap (a0)) 4)))) != 1) = true := bne_iff_ne.mpr c37
         obtain rfl := Option.some.inj H
         go_enter Try.func3, Try.ntmps3
         have tk7_0_ : True := trivial
         have tk7_3_ : True := trivial
         have tk7_4_ : True := trivial
         have tk7_5_ : True := trivial
         have tk7_6_ : True := trivial
         have tk7_7_ : True := trivial
         have tk7_8_ : True := trivial
         have tk7_9_ : True := trivial
         go_wp2_with (first | ((with_reducible refine gate_callee (f := 4) rfl ?_); have q_ := tk7_0_; clear q_ tk7_0_; refine goesL_ (some 25) rfl rfl Try.func4 (by kernel_rfl) rfl #[.int .i64 (wrap64 (1 + (wrap64 (Int.tmod (IntKind.u64.wrap (a0)) 4)))), .int .i64 (wrap64 (1 + (wrap64 (Int.tmod (IntKind.u64.wrap (a1)) 4))))] rfl (by (try simp only [sD, sE, sF]); first | done | rfl | (simp only [sG, sH]; rfl)) ?_; (with_reducible refine (verdict_Join.calls k (wrap64 (1 + (wrap64 (Int.tmod (IntKind.u64.wrap (a0)) 4)))) (wrap64 (1 + (wrap64 (Int.tmod (IntKind.u64.wrap (a1)) 4)))) t391 _ A4.out).mono ?_); rintro e w' ⟨rfl, ⟨nd, rfl⟩⟩; refine ⟨_, rfl, ?_⟩) | ((with_reducible refine gate_callee (f := 5) rfl ?_); refine goesL_ (some 26) rfl rfl Try.func5 (by kernel_rfl) rfl #[] rfl (by (try simp only [sD, sE, sF]); first | done | rfl | (simp only [sG, sH]; rfl)) ?_; (with_reducible refine (apogeelaw19_awake.calls k  true _ A5.out).mono ?_); rintro e w39 ⟨rfl, hb⟩; refine ⟨_, rfl, ?_⟩; have n0_ := Aside0.mk (bS (by repeat (first | (with_reducible first | exact HB.out | apply bA | apply bN | apply bD) | exact HB.out)) hb); clear HB; have HB := n0_; clear n0_; (try clear hb); (try clear hb2); (try clear hk); (try clear hi)) | (go_at_call 6; (with_reducible refine (apogeeref19_Join.calls k (wrap64 (1 + (wrap64 (Int.tmod (IntKind.u64.wrap (a0)) 4)))) (wrap64 (1 + (wrap64 (Int.tmod (IntKind.u64.wrap (a1)) 4)))) t393 _ A7.out).mono ?_); rintro e w' ⟨rfl, ⟨nd, rfl⟩⟩) | (go_at_call 4; have q_ := tk7_3_; clear q_ tk7_3_; (with_reducible refine (verdict_Join.calls k (wrap64 (1 + (wrap64 (Int.tmod (IntKind.u64.wrap (a1)) 4)))) (wrap64 (1 + (wrap64 (Int.tmod (IntKind.u64.wrap (a0)) 4)))) t394 _ A9.out).mono ?_); rintro e w' ⟨rfl, ⟨nd, rfl⟩⟩) | (go_at_call 4; have q_ := tk7_4_; clear q_ tk7_4_; (with_reducible refine (verdict_Join.calls k (wrap64 (1 + (wrap64 (Int.tmod (IntKind.u64.wrap (a0)) 4)))) (wrap64 (1 + (wrap64 (Int.tmod (IntKind.u64.wrap (a0)) 4)))) t395 _ A11.out).mono ?_); rintro e w' ⟨rfl, ⟨nd, rfl⟩⟩) | (go_at_call 4; have q_ := tk7_5_; clear q_ tk7_5_; (with_reducible refine (verdict_Join.calls k t391 (wrap64 (1 + (wrap64 (Int.tmod (IntKind.u64.wrap (a2)) 4)))) t402 _ A29.out).mono ?_); rintro e w' ⟨rfl, ⟨nd, rfl⟩⟩) | (go_at_call 4; have q_ := tk7_6_; clear q_ tk7_6_; (with_reducible refine (verdict_Join.calls k (wrap64 (1 + (wrap64 (Int.tmod (IntKind.u64.wrap (a1)) 4)))) (wrap64 (1 + (wrap64 (Int.tmod (IntKind.u64.wrap (a2)) 4)))) t403 _ A30.out).mono ?_); rintro e w' ⟨rfl, ⟨nd, rfl⟩⟩) | (go_at_call 4; have q_ := tk7_7_; clear q_ tk7_7_; (with_reducible refine (verdict_Join.calls k (wrap64 (1 + (wrap64 (Int.tmod (IntKind.u64.wrap (a0)) 4)))) t403 t404 _ A31.out).mono ?_); rintro e w' ⟨rfl, ⟨nd, rfl⟩⟩) | (go_at_call 4; have q_ := tk7_8_; clear q_ tk7_8_; (with_reducible refine (verdict_Join.calls k (wrap64 (1 + (wrap64 (Int.tmod (IntKind.u64.wrap (a0)) 4)))) 0 t405 _ A33.out).mono ?_); rintro e w' ⟨rfl, ⟨nd, rfl⟩⟩) | (go_at_call 4; have q_ := tk7_9_; clear q_ tk7_9_; (with_reducible refine (verdict_Join.calls k (wrap64 (1 + (wrap64 (Int.tmod (IntKind.u64.wrap (a0)) 4)))) 4 t406 _ A34.out).mono ?_); rintro e w' ⟨rfl, ⟨nd, rfl⟩⟩) | (go_at_call 7; (with_reducible refine (verdict_Sure.calls (wrap64 (1 + (wrap64 (Int.tmod (IntKind.u64.wrap (a0)) 4)))) t407 _ A36.out).mono ?_); rintro e w' ⟨rfl, ⟨nd, rfl⟩⟩) | (go_at_call 4; have q_ := tk7_0_; clear q_ tk7_0_; (with_reducible refine (verdict_Join.calls k (wrap64 (1 + (wrap64 (Int.tmod (IntKind.u64.wrap (a0)) 4)))) (wrap64 (1 + (wrap64 (Int.tmod (IntKind.u64.wrap (a1)) 4)))) t391 _ A4.out).mono ?_); rintro e w' ⟨rfl, ⟨nd, rfl⟩⟩; refine ⟨_, rfl, ?_⟩) | (go_at_call 5; (with_reducible refine (apogeelaw19_awake.calls k  true _ A5.out).mono ?_); rintro e w39 ⟨rfl, hb⟩; have n0_ := Aside0.mk (bS (by repeat (first | (with_reducible first | exact HB.out | apply bA | apply bN | apply bD) | exact HB.out)) hb); clear HB; have HB := n0_; clear n0_; (try clear hb); (try clear hb2); (try clear hk); (try clear hi)))
         go_ret
         exact ⟨by first | rfl | (simp [errW_none, errW_some] <;> rfl) | (simp [*, errW_none, errW_some] <;> rfl), by repeat (first | (with_reducible first | exact HB.out | apply bA | apply bN | apply bD) | exact HB.out)⟩
       ·rw [if_neg c35] at H
        have c35b0 : (t405 == t406) = false := beq_eq_false_iff_ne.mpr c35
        have c35b1 : (t405 != t406) = true := bne_iff_ne.mpr c35
        obtain rfl := Option.some.inj H
        go_enter Try.func3, Try.ntmps3
        have tk8_0_ : True := trivial
        have tk8_3_ : True := trivial
        have tk8_4_ : True := trivial
        have tk8_5_ : True := trivial
        have tk8_6_ : True := trivial
        have tk8_7_ : True := trivial
        have tk8_8_ : True := trivial
        have tk8_9_ : True := trivial
        go_wp2_with (first | ((with_reducible refine gate_callee (f := 4) rfl ?_); have q_ := tk8_0_; clear q_ tk8_0_; refine goesL_ (some 25) rfl rfl Try.func4 (by kernel_rfl) rfl #[.int .i64 (wrap64 (1 + (wrap64 (Int.tmod (IntKind.u64.wrap (a0)) 4)))), .int .i64 (wrap64 (1 + (wrap64 (Int.tmod (IntKind.u64.wrap (a1)) 4))))] rfl (by (try simp only [sD, sE, sF]); first | done | rfl | (simp only [sG, sH]; rfl)) ?_; (with_reducible refine (verdict_Join.calls k (wrap64 (1 + (wrap64 (Int.tmod (IntKind.u64.wrap (a0)) 4)))) (wrap64 (1 + (wrap64 (Int.tmod (IntKind.u64.wrap (a1)) 4)))) t391 _ A4.out).mono ?_); rintro e w' ⟨rfl, ⟨nd, rfl⟩⟩; refine ⟨_, rfl, ?_⟩) | ((with_reducible refine gate_callee (f := 5) rfl ?_); refine goesL_ (some 26) rfl rfl Try.func5 (by kernel_rfl) rfl #[] rfl (by (try simp only [sD, sE, sF]); first | done | rfl | (simp only [sG, sH]; rfl)) ?_; (with_reducible refine (apogeelaw19_awake.calls k  true _ A5.out).mono ?_); rintro e w40 ⟨rfl, hb⟩; refine ⟨_, rfl, ?_⟩; have n0_ := Aside0.mk (bS (by repeat (first | (with_reducible first | exact HB.out | apply bA | apply bN | apply bD) | exact HB.out)) hb); clear HB; have HB := n0_; clear n0_; (try clear hb); (try clear hb2); (try clear hk); (try clear hi)) | (go_at_call 6; (with_reducible refine (apogeeref19_Join.calls k (wrap64 (1 + (wrap64 (Int.tmod (IntKind.u64.wrap (a0)) 4)))) (wrap64 (1 + (wrap64 (Int.tmod (IntKind.u64.wrap (a1)) 4)))) t393 _ A7.out).mono ?_); rintro e w' ⟨rfl, ⟨nd, rfl⟩⟩) | (go_at_call 4; have q_ := tk8_3_; clear q_ tk8_3_; (with_reducible refine (verdict_Join.calls k (wrap64 (1 + (wrap64 (Int.tmod (IntKind.u64.wrap (a1)) 4)))) (wrap64 (1 + (wrap64 (Int.tmod (IntKind.u64.wrap (a0)) 4)))) t394 _ A9.out).mono ?_); rintro e w' ⟨rfl, ⟨nd, rfl⟩⟩) | (go_at_call 4; have q_ := tk8_4_; clear q_ tk8_4_; (with_reducible refine (verdict_Join.calls k (wrap64 (1 + (wrap64 (Int.tmod (IntKind.u64.wrap (a0)) 4)))) (wrap64 (1 + (wrap64 (Int.tmod (IntKind.u64.wrap (a0)) 4)))) t395 _ A11.out).mono ?_); rintro e w' ⟨rfl, ⟨nd, rfl⟩⟩) | (go_at_call 4; have q_ := tk8_5_; clear q_ tk8_5_; (with_reducible refine (verdict_Join.calls k t391 (wrap64 (1 + (wrap64 (Int.tmod (IntKind.u64.wrap (a2)) 4)))) t402 _ A29.out).mono ?_); rintro e w' ⟨rfl, ⟨nd, rfl⟩⟩) | (go_at_call 4; have q_ := tk8_6_; clear q_ tk8_6_; (with_reducible refine (verdict_Join.calls k (wrap64 (1 + (wrap64 (Int.tmod (IntKind.u64.wrap (a1)) 4)))) (wrap64 (1 + (wrap64 (Int.tmod (IntKind.u64.wrap (a2)) 4)))) t403 _ A30.out).mono ?_); rintro e w' ⟨rfl, ⟨nd, rfl⟩⟩) | (go_at_call 4; have q_ := tk8_7_; clear q_ tk8_7_; (with_reducible refine (verdict_Join.calls k (wrap64 (1 + (wrap64 (Int.tmod (IntKind.u64.wrap (a0)) 4)))) t403 t404 _ A31.out).mono ?_); rintro e w' ⟨rfl, ⟨nd, rfl⟩⟩) | (go_at_call 4; have q_ := tk8_8_; clear q_ tk8_8_; (with_reducible refine (verdict_Join.calls k (wrap64 (1 + (wrap64 (Int.tmod (IntKind.u64.wrap (a0)) 4)))) 0 t405 _ A33.out).mono ?_); rintro e w' ⟨rfl, ⟨nd, rfl⟩⟩) | (go_at_call 4; have q_ := tk8_9_; clear q_ tk8_9_; (with_reducible refine (verdict_Join.calls k (wrap64 (1 + (wrap64 (Int.tmod (IntKind.u64.wrap (a0)) 4)))) 4 t406 _ A34.out).mono ?_); rintro e w' ⟨rfl, ⟨nd, rfl⟩⟩) | (go_at_call 4; have q_ := tk8_0_; clear q_ tk8_0_; (with_reducible refine (verdict_Join.calls k (wrap64 (1 + (wrap64 (Int.tmod (IntKind.u64.wrap (a0)) 4)))) (wrap64 (1 + (wrap64 (Int.tmod (IntKind.u64.wrap (a1)) 4)))) t391 _ A4.out).mono ?_); rintro e w' ⟨rfl, ⟨nd, rfl⟩⟩; refine ⟨_, rfl, ?_⟩) | (go_at_call 5; (with_reducible refine (apogeelaw19_awake.calls k  true _ A5.out).mono ?_); rintro e w40 ⟨rfl, hb⟩; have n0_ := Aside0.mk (bS (by repeat (first | (with_reducible first | exact HB.out | apply bA | apply bN | apply bD) | exact HB.out)) hb); clear HB; have HB := n0_; clear n0_; (try clear hb); (try clear hb2); (try clear hk); (try clear hi)))
        go_ret
        exact ⟨by first | rfl | (simp [errW_none, errW_some] <;> rfl) | (simp [*, errW_none, errW_some] <;> rfl), by repeat (first | (with_reducible first | exact HB.out | apply bA | apply bN | apply bD) | exact HB.out)⟩
      ·rw [if_neg c32] at H
       have c32b0 : (t402 == t404) = false := beq_eq_false_iff_ne.mpr c32
       have c32b1 : (t402 != t404) = true := bne_iff_ne.mpr c32
       obtain rfl := Option.some.inj H
       go_enter Try.func3, Try.ntmps3
       have tk9_0_ : True := trivial
       have tk9_3_ : True := trivial
       have tk9_4_ : True := trivial
       have tk9_5_ : True := trivial
       have tk9_6_ : True := trivial
       have tk9_7_ : True := trivial
       go_wp2_with (first | ((with_reducible refine gate_callee (f := 4) rfl ?_); have q_ := tk9_0_; clear q_ tk9_0_; refine goesL_ (some 25) rfl rfl Try.func4 (by kernel_rfl) rfl #[.int .i64 (wrap64 (1 + (wrap64 (Int.tmod (IntKind.u64.wrap (a0)) 4)))), .int .i64 (wrap64 (1 + (wrap64 (Int.tmod (IntKind.u64.wrap (a1)) 4))))] rfl (by (try simp only [sD, sE, sF]); first | done | rfl | (simp only [sG, sH]; rfl)) ?_; (with_reducible refine (verdict_Join.calls k (wrap64 (1 + (wrap64 (Int.tmod (IntKind.u64.wrap (a0)) 4)))) (wrap64 (1 + (wrap64 (Int.tmod (IntKind.u64.wrap (a1)) 4)))) t391 _ A4.out).mono ?_); rintro e w' ⟨rfl, ⟨nd, rfl⟩⟩; refine ⟨_, rfl, ?_⟩) | ((with_reducible refine gate_callee (f := 5) rfl ?_); refine goesL_ (some 26) rfl rfl Try.func5 (by kernel_rfl) rfl #[] rfl (by (try simp only [sD, sE, sF]); first | done | rfl | (simp only [sG, sH]; rfl)) ?_; (with_reducible refine (apogeelaw19_awake.calls k  true _ A5.out).mono ?_); rintro e w41 ⟨rfl, hb⟩; refine ⟨_, rfl, ?_⟩; have n0_ := Aside0.mk (bS (by repeat (first | (with_reducible first | exact HB.out | apply bA | apply bN | apply bD) | exact HB.out)) hb); clear HB; have HB := n0_; clear n0_; (try clear hb); (try clear hb2); (try clear hk); (try clear hi)) | (go_at_call 6; (with_reducible refine (apogeeref19_Join.calls k (wrap64 (1 + (wrap64 (Int.tmod (IntKind.u64.wrap (a0)) 4)))) (wrap64 (1 + (wrap64 (Int.tmod (IntKind.u64.wrap (a1)) 4)))) t393 _ A7.out).mono ?_); rintro e w' ⟨rfl, ⟨nd, rfl⟩⟩) | (go_at_call 4; have q_ := tk9_3_; clear q_ tk9_3_; (with_reducible refine (verdict_Join.calls k (wrap64 (1 + (wrap64 (Int.tmod (IntKind.u64.wrap (a1)) 4)))) (wrap64 (1 + (wrap64 (Int.tmod (IntKind.u64.wrap (a0)) 4)))) t394 _ A9.out).mono ?_); rintro e w' ⟨rfl, ⟨nd, rfl⟩⟩) | (go_at_call 4; have q_ := tk9_4_; clear q_ tk9_4_; (with_reducible refine (verdict_Join.calls k (wrap64 (1 + (wrap64 (Int.tmod (IntKind.u64.wrap (a0)) 4)))) (wrap64 (1 + (wrap64 (Int.tmod (IntKind.u64.wrap (a0)) 4)))) t395 _ A11.out).mono ?_); rintro e w' ⟨rfl, ⟨nd, rfl⟩⟩) | (go_at_call 4; have q_ := tk9_5_; clear q_ tk9_5_; (with_reducible refine (verdict_Join.calls k t391 (wrap64 (1 + (wrap64 (Int.tmod (IntKind.u64.wrap (a2)) 4)))) t402 _ A29.out).mono ?_); rintro e w' ⟨rfl, ⟨nd, rfl⟩⟩) | (go_at_call 4; have q_ := tk9_6_; clear q_ tk9_6_; (with_reducible refine (verdict_Join.calls k (wrap64 (1 + (wrap64 (Int.tmod (IntKind.u64.wrap (a1)) 4)))) (wrap64 (1 + (wrap64 (Int.tmod (IntKind.u64.wrap (a2)) 4)))) t403 _ A30.out).mono ?_); rintro e w' ⟨rfl, ⟨nd, rfl⟩⟩) | (go_at_call 4; have q_ := tk9_7_; clear q_ tk9_7_; (with_reducible refine (verdict_Join.calls k (wrap64 (1 + (wrap64 (Int.tmod (IntKind.u64.wrap (a0)) 4)))) t403 t404 _ A31.out).mono ?_); rintro e w' ⟨rfl, ⟨nd, rfl⟩⟩))
       go_ret
       exact ⟨by first | rfl | (simp [errW_none, errW_some] <;> rfl) | (simp [*, errW_none, errW_some] <;> rfl), by repeat (first | (with_reducible first | exact HB.out | apply bA | apply bN | apply bD) | exact HB.out)⟩
    ·rw [if_neg c12] at H
     have c12b0 : (t395 == (wrap64 (1 + (wrap64 (Int.tmod (IntKind.u64.wrap (a0)) 4))))) = false := beq_eq_false_iff_ne.mpr c12
     have c12b1 : (t395 != (wrap64 (1 + (wrap64 (Int.tmod (IntKind.u64.wrap (a0)) 4))))) = true := bne_iff_ne.mpr c12
     obtain rfl := Option.some.inj H
     go_enter Try.func3, Try.ntmps3
     have tk10_0_ : True := trivial
     have tk10_3_ : True := trivial
     have tk10_4_ : True := trivial
     go_wp2_with (first | ((with_reducible refine gate_callee (f := 4) rfl ?_); have q_ := tk10_0_; clear q_ tk10_0_; refine goesL_ (some 25) rfl rfl Try.func4 (by kernel_rfl) rfl #[.int .i64 (wrap64 (1 + (wrap64 (Int.tmod (IntKind.u64.wrap (a0)) 4)))), .int .i64 (wrap64 (1 + (wrap64 (Int.tmod (IntKind.u64.wrap (a1)) 4))))] rfl (by (try simp only [sD, sE, sF]); first | done | rfl | (simp only [sG, sH]; rfl)) ?_; (with_reducible refine (verdict_Join.calls k (wrap64 (1 + (wrap64 (Int.tmod (IntKind.u64.wrap (a0)) 4)))) (wrap64 (1 + (wrap64 (Int.tmod (IntKind.u64.wrap (a1)) 4)))) t391 _ A4.out).mono ?_); rintro e w' ⟨rfl, ⟨nd, rfl⟩⟩; refine ⟨_, rfl, ?_⟩) | ((with_reducible refine gate_callee (f := 5) rfl ?_); refine goesL_ (some 26) rfl rfl Try.func5 (by kernel_rfl) rfl #[] rfl (by (try simp only [sD, sE, sF]); first | done | rfl | (simp only [sG, sH]; rfl)) ?_; (with_reducible refine (apogeelaw19_awake.calls k  true _ A5.out).mono ?_); rintro e w42 ⟨rfl, hb⟩; refine ⟨_, rfl, ?_⟩; have n0_ := Aside0.mk (bS (by repeat (first | (with_reducible first | exact HB.out | apply bA | apply bN | apply bD) | exact HB.out)) hb); clear HB; have HB := n0_; clear n0_; (try clear hb); (try clear hb2); (try clear hk); (try clear hi)) | (go_at_call 6; (with_reducible refine (apogeeref19_Join.calls k (wrap64 (1 + (wrap64 (Int.tmod (IntKind.u64.wrap (a0)) 4)))) (wrap64 (1 + (wrap64 (Int.tmod (IntKind.u64.wrap (a1)) 4)))) t393 _ A7.out).mono ?_); rintro e w' ⟨rfl, ⟨nd, rfl⟩⟩) | (go_at_call 4; have q_ := tk10_3_; clear q_ tk10_3_; (with_reducible refine (verdict_Join.calls k (wrap64 (1 + (wrap64 (Int.tmod (IntKind.u64.wrap (a1)) 4)))) (wrap64 (1 + (wrap64 (Int.tmod (IntKind.u64.wrap (a0)) 4)))) t394 _ A9.out).mono ?_); rintro e w' ⟨rfl, ⟨nd, rfl⟩⟩) | (go_at_call 4; have q_ := tk10_4_; clear q_ tk10_4_; (with_reducible refine (verdict_Join.calls k (wrap64 (1 + (wrap64 (Int.tmod (IntKind.u64.wrap (a0)) 4)))) (wrap64 (1 + (wrap64 (Int.tmod (IntKind.u64.wrap (a0)) 4)))) t395 _ A11.out).mono ?_); rintro e w' ⟨rfl, ⟨nd, rfl⟩⟩))
     go_ret
     exact ⟨by first | rfl | (simp [errW_none, errW_some] <;> rfl) | (simp [*, errW_none, errW_some] <;> rfl), by repeat (first | (with_reducible first | exact HB.out | apply bA | apply bN | apply bD) | exact HB.out)⟩
   ·rw [if_neg c10] at H
    have c10b0 : (t391 == t394) = false := beq_eq_false_iff_ne.mpr c10
    have c10b1 : (t391 != t394) = true := bne_iff_ne.mpr c10
    obtain rfl := Option.some.inj H
    go_enter Try.func3, Try.ntmps3
    have tk11_0_ : True := trivial
    have tk11_3_ : True := trivial
    go_wp2_with (first | ((with_reducible refine gate_callee (f := 4) rfl ?_); have q_ := tk11_0_; clear q_ tk11_0_; refine goesL_ (some 25) rfl rfl Try.func4 (by kernel_rfl) rfl #[.int .i64 (wrap64 (1 + (wrap64 (Int.tmod (IntKind.u64.wrap (a0)) 4)))), .int .i64 (wrap64 (1 + (wrap64 (Int.tmod (IntKind.u64.wrap (a1)) 4))))] rfl (by (try simp only [sD, sE, sF]); first | done | rfl | (simp only [sG, sH]; rfl)) ?_; (with_reducible refine (verdict_Join.calls k (wrap64 (1 + (wrap64 (Int.tmod (IntKind.u64.wrap (a0)) 4)))) (wrap64 (1 + (wrap64 (Int.tmod (IntKind.u64.wrap (a1)) 4)))) t391 _ A4.out).mono ?_); rintro e w' ⟨rfl, ⟨nd, rfl⟩⟩; refine ⟨_, rfl, ?_⟩) | ((with_reducible refine gate_callee (f := 5) rfl ?_); refine goesL_ (some 26) rfl rfl Try.func5 (by kernel_rfl) rfl #[] rfl (by (try simp only [sD, sE, sF]); first | done | rfl | (simp only [sG, sH]; rfl)) ?_; (with_reducible refine (apogeelaw19_awake.calls k  true _ A5.out).mono ?_); rintro e w43 ⟨rfl, hb⟩; refine ⟨_, rfl, ?_⟩; have n0_ := Aside0.mk (bS (by repeat (first | (with_reducible first | exact HB.out | apply bA | apply bN | apply bD) | exact HB.out)) hb); clear HB; have HB := n0_; clear n0_; (try clear hb); (try clear hb2); (try clear hk); (try clear hi)) | (go_at_call 6; (with_reducible refine (apogeeref19_Join.calls k (wrap64 (1 + (wrap64 (Int.tmod (IntKind.u64.wrap (a0)) 4)))) (wrap64 (1 + (wrap64 (Int.tmod (IntKind.u64.wrap (a1)) 4)))) t393 _ A7.out).mono ?_); rintro e w' ⟨rfl, ⟨nd, rfl⟩⟩) | (go_at_call 4; have q_ := tk11_3_; clear q_ tk11_3_; (with_reducible refine (verdict_Join.calls k (wrap64 (1 + (wrap64 (Int.tmod (IntKind.u64.wrap (a1)) 4)))) (wrap64 (1 + (wrap64 (Int.tmod (IntKind.u64.wrap (a0)) 4)))) t394 _ A9.out).mono ?_); rintro e w' ⟨rfl, ⟨nd, rfl⟩⟩))
    go_ret
    exact ⟨by first | rfl | (simp [errW_none, errW_some] <;> rfl) | (simp [*, errW_none, errW_some] <;> rfl), by repeat (first | (with_reducible first | exact HB.out | apply bA | apply bN | apply bD) | exact HB.out)⟩
  ·rw [if_neg c8] at H
   have c8b0 : (t391 == t393) = false := beq_eq_false_iff_ne.mpr c8
   have c8b1 : (t391 != t393) = true := bne_iff_ne.mpr c8
   obtain rfl := Option.some.inj H
   go_enter Try.func3, Try.ntmps3
   go_wp2_with (first | ((with_reducible refine gate_callee (f := 4) rfl ?_); refine goesL_ (some 25) rfl rfl Try.func4 (by kernel_rfl) rfl #[.int .i64 (wrap64 (1 + (wrap64 (Int.tmod (IntKind.u64.wrap (a0)) 4)))), .int .i64 (wrap64 (1 + (wrap64 (Int.tmod (IntKind.u64.wrap (a1)) 4))))] rfl (by (try simp only [sD, sE, sF]); first | done | rfl | (simp only [sG, sH]; rfl)) ?_; (with_reducible refine (verdict_Join.calls k (wrap64 (1 + (wrap64 (Int.tmod (IntKind.u64.wrap (a0)) 4)))) (wrap64 (1 + (wrap64 (Int.tmod (IntKind.u64.wrap (a1)) 4)))) t391 _ A4.out).mono ?_); rintro e w' ⟨rfl, ⟨nd, rfl⟩⟩; refine ⟨_, rfl, ?_⟩) | ((with_reducible refine gate_callee (f := 5) rfl ?_); refine goesL_ (some 26) rfl rfl Try.func5 (by kernel_rfl) rfl #[] rfl (by (try simp only [sD, sE, sF]); first | done | rfl | (simp only [sG, sH]; rfl)) ?_; (with_reducible refine (apogeelaw19_awake.calls k  true _ A5.out).mono ?_); rintro e w44 ⟨rfl, hb⟩; refine ⟨_, rfl, ?_⟩; have n0_ := Aside0.mk (bS (by repeat (first | (with_reducible first | exact HB.out | apply bA | apply bN | apply bD) | exact HB.out)) hb); clear HB; have HB := n0_; clear n0_; (try clear hb); (try clear hb2); (try clear hk); (try clear hi)) | (go_at_call 6; (with_reducible refine (apogeeref19_Join.calls k (wrap64 (1 + (wrap64 (Int.tmod (IntKind.u64.wrap (a0)) 4)))) (wrap64 (1 + (wrap64 (Int.tmod (IntKind.u64.wrap (a1)) 4)))) t393 _ A7.out).mono ?_); rintro e w' ⟨rfl, ⟨nd, rfl⟩⟩))
   go_ret
   exact ⟨by first | rfl | (simp [errW_none, errW_some] <;> rfl) | (simp [*, errW_none, errW_some] <;> rfl), by repeat (first | (with_reducible first | exact HB.out | apply bA | apply bN | apply bD) | exact HB.out)⟩
 ·replace c6 := Bool.eq_false_iff.mpr c6
  subst c6
  have H1 : (some false) = some r := by rw [if_neg (show ¬ (false = true) by decide)] at H; exact H
  clear H
  have H := H1
  clear H1
  obtain rfl := Option.some.inj H
  go_enter Try.func3, Try.ntmps3
  go_wp2_with (first | ((with_reducible refine gate_callee (f := 4) rfl ?_); refine goesL_ (some 25) rfl rfl Try.func4 (by kernel_rfl) rfl #[.int .i64 (wrap64 (1 + (wrap64 (Int.tmod (IntKind.u64.wrap (a0)) 4)))), .int .i64 (wrap64 (1 + (wrap64 (Int.tmod (IntKind.u64.wrap (a1)) 4))))] rfl (by (try simp only [sD, sE, sF]); first | done | rfl | (simp only [sG, sH]; rfl)) ?_; (with_reducible refine (verdict_Join.calls k (wrap64 (1 + (wrap64 (Int.tmod (IntKind.u64.wrap (a0)) 4)))) (wrap64 (1 + (wrap64 (Int.tmod (IntKind.u64.wrap (a1)) 4)))) t391 _ A4.out).mono ?_); rintro e w' ⟨rfl, ⟨nd, rfl⟩⟩; refine ⟨_, rfl, ?_⟩) | ((with_reducible refine gate_callee (f := 5) rfl ?_); refine goesL_ (some 26) rfl rfl Try.func5 (by kernel_rfl) rfl #[] rfl (by (try simp only [sD, sE, sF]); first | done | rfl | (simp only [sG, sH]; rfl)) ?_; (with_reducible refine (apogeelaw19_awake.calls k  false _ A5.out).mono ?_); rintro e w45 ⟨rfl, hb⟩; refine ⟨_, rfl, ?_⟩; have n0_ := Aside0.mk (bS (by repeat (first | (with_reducible first | exact HB.out | apply bA | apply bN | apply bD) | exact HB.out)) hb); clear HB; have HB := n0_; clear n0_; (try clear hb); (try clear hb2); (try clear hk); (try clear hi)))
  go_ret
  exact ⟨by first | rfl | (simp [errW_none, errW_some] <;> rfl) | (simp [*, errW_none, errW_some] <;> rfl), by repeat (first | (with_reducible first | exact HB.out | apply bA | apply bN | apply bD) | exact HB.out)⟩

end Go.Proofs.Ytamlcbmkdfikeaa.PVerdict

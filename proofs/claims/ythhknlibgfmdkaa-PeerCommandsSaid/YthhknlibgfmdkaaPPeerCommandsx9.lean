-- written by handprint.py, a program of this session's, over the seat Ythhknlibgfmdkaa
import Derived.Test.YthhknlibgfmdkaaPPeerCommandsx0
import Derived.Test.YthhknlibgfmdkaaPPeerCommandsx8
namespace Go.Proofs.Ythhknlibgfmdkaa.PPeerCommands
open Go.RowKit Go.Proofs.YthhknlibgfmdkaaW.PrintWords Go.Proofs.YthhknlibgfmdkaaW.PrintLast Go.Proofs.YthhknlibgfmdkaaW.PrintMore
attribute [local go_sem] max2_int min2_int max_two min_two max_three min_three max_four min_four   -- for this text's walks alone
set_option linter.unusedVariables false
set_option linter.unusedSimpArgs false

/-! ### apogeeref07_ReadCommand: function 21 -/
def apogeeref07_ReadCommand.f (k : Nat) (a0 : ByteArray) : Option (Int × Int) := (apogeeref07_open.f k a0 4).bind fun t209 => (if t209 = 0 then (if 0 < (a0.size : Int) then ((apogeeref07_PrintCommand.f k (wrap64 (bt a0 0))).bind fun t210 => (if t210.toList = a0.toList then (some (wrap64 (bt a0 0), 0)) else (some (0, 3)))) else (none)) else (some (0, t209)))
theorem apogeeref07_ReadCommand.mono : ∀ a0 k, LeO (apogeeref07_ReadCommand.f k a0) (apogeeref07_ReadCommand.f (k + 1) a0) := by
  intro a0 k
  unfold apogeeref07_ReadCommand.f
  repeat' first
      | (with_reducible exact apogeeref07_PrintCommand.mono _ _)
      | (with_reducible exact apogeeref07_open.mono _ _ _)
      | (with_reducible exact LeO.refl _)
      | (with_reducible exact LeO.none _)
      | (with_reducible refine LeO.ite ?_ ?_)
      | (with_reducible refine LeO.bind ?_ (fun _ => ?_))
      | exact apogeeref07_PrintCommand.mono _ _
      | exact apogeeref07_open.mono _ _ _
      | exact LeO.none _
      | refine LeO.ite ?_ ?_
      | refine LeO.bind ?_ (fun _ => ?_)
set_option maxHeartbeats 8000000 in
set_option maxRecDepth 100000 in
theorem apogeeref07_ReadCommand.calls (k : Nat) (a0 : ByteArray) (r1 : Int) (r2 : Int) (w : World) (h : apogeeref07_ReadCommand.f k a0 = some (r1, r2)) :
    Calls Try.prog 21 #[.string a0] w fun e w' => e = .returned (.tuple #[.int .i64 r1, .int .i64 r2]) ∧ Below w.heap.size w w' := by
  have HB := Aside0.mk (Below.refl w.heap.size w)
  have H : ((apogeeref07_open.f k a0 4).bind fun t209 => (if t209 = 0 then (if 0 < (a0.size : Int) then ((apogeeref07_PrintCommand.f k (wrap64 (bt a0 0))).bind fun t210 => (if t210.toList = a0.toList then (some (wrap64 (bt a0 0), 0)) else (some (0, 3)))) else (none)) else (some (0, t209)))) = some (r1, r2) := h
  clear h
  replace H := Option.bind_eq_some_iff.mp H
  obtain ⟨t209, A20, H⟩ := H
  replace H : (if t209 = 0 then (if 0 < (a0.size : Int) then ((apogeeref07_PrintCommand.f k (wrap64 (bt a0 0))).bind fun t210 => (if t210.toList = a0.toList then (some (wrap64 (bt a0 0), 0)) else (some (0, 3)))) else (none)) else (some (0, t209))) = some (r1, r2) := H
  have A2 := Aside0.mk A20
  clear A20
  by_cases c3 : t209 = 0
  · rw [if_pos c3] at H
    have c3b0 : (t209 == 0) = true := beq_iff_eq.mpr c3
    have c3b1 : (t209 != 0) = false := bne_eq_false_iff_eq.mpr c3
    clear c3
    by_cases c4 : 0 < (a0.size : Int)
    · rw [if_pos c4] at H
      have c4b0 : decide (0 < (a0.size : Int)) = true := decide_eq_true c4
      have c4b1 : decide (0 < a0.size) = true := decide_eq_true (by omega)
      clear c4
      replace H := Option.bind_eq_some_iff.mp H
      obtain ⟨t210, A60, H⟩ := H
      replace H : (if t210.toList = a0.toList then (some (wrap64 (bt a0 0), 0)) else (some (0, 3))) = some (r1, r2) := H
      have A6 := Aside0.mk A60
      clear A60
      by_cases c7 : t210.toList = a0.toList
      · rw [if_pos c7] at H
        have c7b0 : (t210.toList == a0.toList) = true := beq_iff_eq.mpr c7
        have c7b1 : (t210.toList != a0.toList) = false := bne_eq_false_iff_eq.mpr c7
        clear c7
        simp only [Option.some.injEq, Prod.mk.injEq] at H
        obtain ⟨rfl, rfl⟩ := H
        go_enter Try.func21, Try.ntmps21
        go_wp2_with (first | ((with_reducible refine gate_callee (f := 30) rfl ?_); refine goesL_ (some 6) rfl rfl Try.func30 (by kernel_rfl) rfl #[.string a0, .int .i64 4] rfl (by (try simp only [List.map_toArray, List.map_cons, List.map_nil]); first | done | rfl | (simp only [List.length_drop, List.length_take]; rfl)) ?_; (with_reducible refine (apogeeref07_open.calls k a0 4 t209 _ A2.out).mono ?_); rintro e w9 ⟨rfl, hb⟩; refine ⟨_, rfl, ?_⟩; have n0_ := Aside0.mk (below_step (by repeat (first | (with_reducible first | exact HB.out | apply below_alloc | apply pw_below_drewN | apply below_drew1) | exact HB.out)) hb); clear HB; have HB := n0_; clear n0_; (try clear hb); (try clear hb2); (try clear hk); (try clear hi); have p5 : 0 ≤ (0 : Int) := (by omega); have q5 : 0 < a0.size := (by have : (0 : Int) < (a0.size : Int) := of_decide_eq_true (by first | (with_reducible assumption) | assumption); omega); have hx5 : ∀ h : 0 < a0.size, ((a0[0]'h).toNat : Int) = bt a0 0 := bt_at a0 0; clear p5; have qi5 : (0 < (a0.size : Int)) = True := eq_true (of_decide_eq_true (by first | (with_reducible assumption) | assumption)); replace q5 := eq_true q5) | ((with_reducible refine gate_callee (f := 22) rfl ?_); refine goesL_ (some 13) rfl rfl Try.func22 (by kernel_rfl) rfl #[.int .i64 (wrap64 (bt a0 0))] rfl (by (try simp only [List.map_toArray, List.map_cons, List.map_nil]); first | done | rfl | (simp only [List.length_drop, List.length_take]; rfl)) ?_; (with_reducible refine (apogeeref07_PrintCommand.calls k (wrap64 (bt a0 0)) t210 _ A6.out).mono ?_); rintro e w10 ⟨rfl, hb⟩; refine ⟨_, rfl, ?_⟩; have n0_ := Aside0.mk (below_step (by repeat (first | (with_reducible first | exact HB.out | apply below_alloc | apply pw_below_drewN | apply below_drew1) | exact HB.out)) hb); clear HB; have HB := n0_; clear n0_; (try clear hb); (try clear hb2); (try clear hk); (try clear hi); have p8 : 0 ≤ (0 : Int) := (by omega); have q8 : 0 < a0.size := (by have : (0 : Int) < (a0.size : Int) := of_decide_eq_true (by first | (with_reducible assumption) | assumption); omega); have hx8 : ∀ h : 0 < a0.size, ((a0[0]'h).toNat : Int) = bt a0 0 := bt_at a0 0; clear p8; have qi8 : (0 < (a0.size : Int)) = True := eq_true (of_decide_eq_true (by first | (with_reducible assumption) | assumption)); replace q8 := eq_true q8))
        go_ret2
        exact ⟨by first | rfl | (simp [errW_none, errW_some] <;> rfl) | (simp [*, errW_none, errW_some] <;> rfl), by repeat (first | (with_reducible first | exact HB.out | apply below_alloc | apply pw_below_drewN | apply below_drew1) | exact HB.out)⟩
      · rw [if_neg c7] at H
        have c7b0 : (t210.toList == a0.toList) = false := beq_eq_false_iff_ne.mpr c7
        have c7b1 : (t210.toList != a0.toList) = true := bne_iff_ne.mpr c7
        simp only [Option.some.injEq, Prod.mk.injEq] at H
        obtain ⟨rfl, rfl⟩ := H
        go_enter Try.func21, Try.ntmps21
        go_wp2_with (first | ((with_reducible refine gate_callee (f := 30) rfl ?_); refine goesL_ (some 6) rfl rfl Try.func30 (by kernel_rfl) rfl #[.string a0, .int .i64 4] rfl (by (try simp only [List.map_toArray, List.map_cons, List.map_nil]); first | done | rfl | (simp only [List.length_drop, List.length_take]; rfl)) ?_; (with_reducible refine (apogeeref07_open.calls k a0 4 t209 _ A2.out).mono ?_); rintro e w11 ⟨rfl, hb⟩; refine ⟨_, rfl, ?_⟩; have n0_ := Aside0.mk (below_step (by repeat (first | (with_reducible first | exact HB.out | apply below_alloc | apply pw_below_drewN | apply below_drew1) | exact HB.out)) hb); clear HB; have HB := n0_; clear n0_; (try clear hb); (try clear hb2); (try clear hk); (try clear hi); have p5 : 0 ≤ (0 : Int) := (by omega); have q5 : 0 < a0.size := (by have : (0 : Int) < (a0.size : Int) := of_decide_eq_true (by first | (with_reducible assumption) | assumption); omega); have hx5 : ∀ h : 0 < a0.size, ((a0[0]'h).toNat : Int) = bt a0 0 := bt_at a0 0; clear p5; have qi5 : (0 < (a0.size : Int)) = True := eq_true (of_decide_eq_true (by first | (with_reducible assumption) | assumption)); replace q5 := eq_true q5) | ((with_reducible refine gate_callee (f := 22) rfl ?_); refine goesL_ (some 13) rfl rfl Try.func22 (by kernel_rfl) rfl #[.int .i64 (wrap64 (bt a0 0))] rfl (by (try simp only [List.map_toArray, List.map_cons, List.map_nil]); first | done | rfl | (simp only [List.length_drop, List.length_take]; rfl)) ?_; (with_reducible refine (apogeeref07_PrintCommand.calls k (wrap64 (bt a0 0)) t210 _ A6.out).mono ?_); rintro e w12 ⟨rfl, hb⟩; refine ⟨_, rfl, ?_⟩; have n0_ := Aside0.mk (below_step (by repeat (first | (with_reducible first | exact HB.out | apply below_alloc | apply pw_below_drewN | apply below_drew1) | exact HB.out)) hb); clear HB; have HB := n0_; clear n0_; (try clear hb); (try clear hb2); (try clear hk); (try clear hi)))
        go_ret2
        exact ⟨by first | rfl | (simp [errW_none, errW_some] <;> rfl) | (simp [*, errW_none, errW_some] <;> rfl), by repeat (first | (with_reducible first | exact HB.out | apply below_alloc | apply pw_below_drewN | apply below_drew1) | exact HB.out)⟩
    · rw [if_neg c4] at H
      exact absurd H (by simp)
  · rw [if_neg c3] at H
    have c3b0 : (t209 == 0) = false := beq_eq_false_iff_ne.mpr c3
    have c3b1 : (t209 != 0) = true := bne_iff_ne.mpr c3
    simp only [Option.some.injEq, Prod.mk.injEq] at H
    obtain ⟨rfl, rfl⟩ := H
    go_enter Try.func21, Try.ntmps21
    go_wp2_with (first | ((with_reducible refine gate_callee (f := 30) rfl ?_); refine goesL_ (some 6) rfl rfl Try.func30 (by kernel_rfl) rfl #[.string a0, .int .i64 4] rfl (by (try simp only [List.map_toArray, List.map_cons, List.map_nil]); first | done | rfl | (simp only [List.length_drop, List.length_take]; rfl)) ?_; (with_reducible refine (apogeeref07_open.calls k a0 4 t209 _ A2.out).mono ?_); rintro e w13 ⟨rfl, hb⟩; refine ⟨_, rfl, ?_⟩; have n0_ := Aside0.mk (below_step (by repeat (first | (with_reducible first | exact HB.out | apply below_alloc | apply pw_below_drewN | apply below_drew1) | exact HB.out)) hb); clear HB; have HB := n0_; clear n0_; (try clear hb); (try clear hb2); (try clear hk); (try clear hi)))
    go_ret2
    exact ⟨by first | rfl | (simp [errW_none, errW_some] <;> rfl) | (simp [*, errW_none, errW_some] <;> rfl), by repeat (first | (with_reducible first | exact HB.out | apply below_alloc | apply pw_below_drewN | apply below_drew1) | exact HB.out)⟩

/-! ### apogeelaw07_PeerCommands: function 5 -/
def apogeelaw07_PeerCommands.j0 : Nat → Int → ByteArray → Bool → Option (Bool)
  | 0, _, _, _ => none
  | k + 1, x0, x1, x18 => if x18 = true then ((apogeelaw07_awake.f k).bind fun t212 => (some t212)) else ((peer_PrintCommand.f k x0).bind fun t213 => ((peer_ReadCommand.f k t213).bind fun bt214 => ((peer_ReadCommand.f k x1).bind fun bt216 => ((apogeeref07_ReadCommand.f k x1).bind fun bt218 => ((apogeeref07_PrintCommand.f k x0).bind fun t220 => (if t213.toList = t220.toList then (if t213.toList = ([] : List UInt8) then (if bt216.1 = bt218.1 then (if bt216.2 = bt218.2 then (if bt218.2 = 0 then ((peer_PrintCommand.f k bt216.1).bind fun t221 => (some (t221.toList == x1.toList))) else (some true)) else (none)) else (none)) else (if bt214.1 = x0 then (if bt214.2 = 0 then (if bt216.1 = bt218.1 then (if bt216.2 = bt218.2 then (if bt218.2 = 0 then ((peer_PrintCommand.f k bt216.1).bind fun t222 => (some (t222.toList == x1.toList))) else (some true)) else (none)) else (none)) else (none)) else (none))) else (none)))))))
def apogeelaw07_PeerCommands.f (k : Nat) (a0 : Int) (a1 : ByteArray) : Option (Bool) := (apogeelaw07_awake.f k).bind fun t211 => (if t211 = true then (apogeelaw07_PeerCommands.j0 k a0 a1 (decide ((a1.size : Int) > 100))) else (apogeelaw07_PeerCommands.j0 k a0 a1 true))
theorem apogeelaw07_PeerCommands.mono_l : ∀ k, (∀ y0 y1 y2, LeO (apogeelaw07_PeerCommands.j0 k y0 y1 y2) (apogeelaw07_PeerCommands.j0 (k + 1) y0 y1 y2))
  | 0 => fun _ _ _ r h => by simp [apogeelaw07_PeerCommands.j0] at h
  | k + 1 => by
    have ih0 := apogeelaw07_PeerCommands.mono_l k
    · intro y0 y1 y2
      unfold apogeelaw07_PeerCommands.j0
      repeat' first
      | (with_reducible exact ih0 _ _ _)
      | (with_reducible exact apogeelaw07_awake.mono _)
      | (with_reducible exact apogeeref07_PrintCommand.mono _ _)
      | (with_reducible exact apogeeref07_ReadCommand.mono _ _)
      | (with_reducible exact peer_PrintCommand.mono _ _)
      | (with_reducible exact peer_ReadCommand.mono _ _)
      | (with_reducible exact LeO.refl _)
      | (with_reducible exact LeO.none _)
      | (with_reducible refine LeO.ite ?_ ?_)
      | (with_reducible refine LeO.bind ?_ (fun _ => ?_))
      | exact ih0 _ _ _
      | exact apogeelaw07_awake.mono _
      | exact apogeeref07_PrintCommand.mono _ _
      | exact apogeeref07_ReadCommand.mono _ _
      | exact peer_PrintCommand.mono _ _
      | exact peer_ReadCommand.mono _ _
      | exact LeO.none _
      | refine LeO.ite ?_ ?_
      | refine LeO.bind ?_ (fun _ => ?_)
theorem apogeelaw07_PeerCommands.mono : ∀ a0 a1 k, LeO (apogeelaw07_PeerCommands.f k a0 a1) (apogeelaw07_PeerCommands.f (k + 1) a0 a1) := by
  intro a0 a1 k
  have ih0 := apogeelaw07_PeerCommands.mono_l k
  unfold apogeelaw07_PeerCommands.f
  repeat' first
      | (with_reducible exact ih0 _ _ _)
      | (with_reducible exact apogeelaw07_awake.mono _)
      | (with_reducible exact apogeeref07_PrintCommand.mono _ _)
      | (with_reducible exact apogeeref07_ReadCommand.mono _ _)
      | (with_reducible exact peer_PrintCommand.mono _ _)
      | (with_reducible exact peer_ReadCommand.mono _ _)
      | (with_reducible exact LeO.refl _)
      | (with_reducible exact LeO.none _)
      | (with_reducible refine LeO.ite ?_ ?_)
      | (with_reducible refine LeO.bind ?_ (fun _ => ?_))
      | exact ih0 _ _ _
      | exact apogeelaw07_awake.mono _
      | exact apogeeref07_PrintCommand.mono _ _
      | exact apogeeref07_ReadCommand.mono _ _
      | exact peer_PrintCommand.mono _ _
      | exact peer_ReadCommand.mono _ _
      | exact LeO.none _
      | refine LeO.ite ?_ ?_
      | refine LeO.bind ?_ (fun _ => ?_)
set_option maxHeartbeats 8000000 in
set_option maxRecDepth 100000 in
theorem apogeelaw07_PeerCommands.calls (k : Nat) (a0 : Int) (a1 : ByteArray) (r : Bool) (w : World) (h : apogeelaw07_PeerCommands.f k a0 a1 = some r) :
    Calls Try.prog 5 #[.int .i64 a0, .string a1] w fun e w' => e = .returned (.bool r) ∧ Below w.heap.size w w' := by
  have HB := Aside0.mk (Below.refl w.heap.size w)
  have H : ((apogeelaw07_awake.f k).bind fun t211 => (if t211 = true then (apogeelaw07_PeerCommands.j0 k a0 a1 (decide ((a1.size : Int) > 100))) else (apogeelaw07_PeerCommands.j0 k a0 a1 true))) = some r := h
  clear h
  have HC3 := Aside0.mk H
  clear H
  go_enter Try.func5, Try.ntmps5
  go_upto_region 1 with (fail)
  go_cut [18] (fun v18 wc => ∃ (kq : Nat) (x18_2 : Bool), v18 = .bool x18_2 ∧ Aside0 (apogeelaw07_PeerCommands.j0 kq a0 a1 x18_2 = some r) ∧ Aside0 (kq ≤ k) ∧ Aside0 (Below w.heap.size w wc))
  case first =>
    have H := HC3.out
    clear HC3
    replace H := Option.bind_eq_some_iff.mp H
    obtain ⟨t211, A40, H⟩ := H
    replace H : (if t211 = true then (apogeelaw07_PeerCommands.j0 k a0 a1 (decide ((a1.size : Int) > 100))) else (apogeelaw07_PeerCommands.j0 k a0 a1 true)) = some r := H
    have A4 := Aside0.mk A40
    clear A40
    by_cases c5 : t211 = true
    · subst c5
      have H1 : (apogeelaw07_PeerCommands.j0 k a0 a1 (decide ((a1.size : Int) > 100))) = some r := by rw [if_pos rfl] at H; exact H
      clear H
      have H := H1
      clear H1
      have H' := Aside0.mk H
      clear H
      go_wp2_with (first | ((with_reducible refine gate_callee (f := 8) rfl ?_); refine goesL_ (some 12) rfl rfl Try.func8 (by kernel_rfl) rfl #[] rfl (by (try simp only [List.map_toArray, List.map_cons, List.map_nil]); first | done | rfl | (simp only [List.length_drop, List.length_take]; rfl)) ?_; (with_reducible refine (apogeelaw07_awake.calls k  true _ A4.out).mono ?_); rintro e w6 ⟨rfl, hb⟩; refine ⟨_, rfl, ?_⟩; have n0_ := Aside0.mk (below_step (by repeat (first | (with_reducible first | exact HB.out | apply below_alloc | apply pw_below_drewN | apply below_drew1) | exact HB.out)) hb); clear HB; have HB := n0_; clear n0_; (try clear hb); (try clear hb2); (try clear hk); (try clear hi)))
      go_meet
      case rel => exact ⟨_, (decide ((a1.size : Int) > 100)), (by first | rfl | (simp; done) | (simp [*]; done)), H', ⟨by first | omega | exact Nat.le_refl _⟩, ⟨by repeat (first | (with_reducible first | exact HB.out | apply below_alloc | apply pw_below_drewN | apply below_drew1) | exact HB.out)⟩⟩
    · replace c5 := Bool.eq_false_iff.mpr c5
      subst c5
      have H1 : (apogeelaw07_PeerCommands.j0 k a0 a1 true) = some r := by rw [if_neg (show ¬ (false = true) by decide)] at H; exact H
      clear H
      have H := H1
      clear H1
      have H' := Aside0.mk H
      clear H
      go_wp2_with (first | ((with_reducible refine gate_callee (f := 8) rfl ?_); refine goesL_ (some 12) rfl rfl Try.func8 (by kernel_rfl) rfl #[] rfl (by (try simp only [List.map_toArray, List.map_cons, List.map_nil]); first | done | rfl | (simp only [List.length_drop, List.length_take]; rfl)) ?_; (with_reducible refine (apogeelaw07_awake.calls k  false _ A4.out).mono ?_); rintro e w7 ⟨rfl, hb⟩; refine ⟨_, rfl, ?_⟩; have n0_ := Aside0.mk (below_step (by repeat (first | (with_reducible first | exact HB.out | apply below_alloc | apply pw_below_drewN | apply below_drew1) | exact HB.out)) hb); clear HB; have HB := n0_; clear n0_; (try clear hb); (try clear hb2); (try clear hk); (try clear hi)))
      go_meet
      case rel => exact ⟨_, (true), (by first | rfl | (simp; done) | (simp [*]; done)), H', ⟨by first | omega | exact Nat.le_refl _⟩, ⟨by repeat (first | (with_reducible first | exact HB.out | apply below_alloc | apply pw_below_drewN | apply below_drew1) | exact HB.out)⟩⟩
  case rest =>
    clear HC3
    try clear p2
    try clear c5
    obtain ⟨kq, x18_2, rfl, HA, HJ2, HB⟩ := hcut
    cases kq with
    | zero => exact absurd HA.out (by simp [apogeelaw07_PeerCommands.j0])
    | succ kj2 =>
      have H := HA.out
      clear HA
      simp only [apogeelaw07_PeerCommands.j0] at H
      by_cases c8 : x18_2 = true
      · subst c8
        have H1 : ((apogeelaw07_awake.f kj2).bind fun t212 => (some t212)) = some r := by rw [if_pos rfl] at H; exact H
        clear H
        have H := H1
        clear H1
        replace H := Option.bind_eq_some_iff.mp H
        obtain ⟨t212, A90, H⟩ := H
        replace H : (some t212) = some r := H
        have A9 := Aside0.mk A90
        clear A90
        obtain rfl := Option.some.inj H
        go_wp2_with (first | ((with_reducible refine gate_callee (f := 8) rfl ?_); refine goesL_ (some 19) rfl rfl Try.func8 (by kernel_rfl) rfl #[] rfl (by (try simp only [List.map_toArray, List.map_cons, List.map_nil]); first | done | rfl | (simp only [List.length_drop, List.length_take]; rfl)) ?_; (with_reducible refine (apogeelaw07_awake.calls kj2  t212 _ A9.out).mono ?_); rintro e w10 ⟨rfl, hb⟩; refine ⟨_, rfl, ?_⟩; have n0_ := Aside0.mk (below_step (by repeat (first | (with_reducible first | exact HB.out | apply below_alloc | apply pw_below_drewN | apply below_drew1) | exact HB.out)) hb); clear HB; have HB := n0_; clear n0_; (try clear hb); (try clear hb2); (try clear hk); (try clear hi)))
        go_ret
        exact ⟨by first | rfl | (simp [errW_none, errW_some] <;> rfl) | (simp [*, errW_none, errW_some] <;> rfl), by repeat (first | (with_reducible first | exact HB.out | apply below_alloc | apply pw_below_drewN | apply below_drew1) | exact HB.out)⟩
      · replace c8 := Bool.eq_false_iff.mpr c8
        subst c8
        have H1 : ((peer_PrintCommand.f kj2 a0).bind fun t213 => ((peer_ReadCommand.f kj2 t213).bind fun bt214 => ((peer_ReadCommand.f kj2 a1).bind fun bt216 => ((apogeeref07_ReadCommand.f kj2 a1).bind fun bt218 => ((apogeeref07_PrintCommand.f kj2 a0).bind fun t220 => (if t213.toList = t220.toList then (if t213.toList = ([] : List UInt8) then (if bt216.1 = bt218.1 then (if bt216.2 = bt218.2 then (if bt218.2 = 0 then ((peer_PrintCommand.f kj2 bt216.1).bind fun t221 => (some (t221.toList == a1.toList))) else (some true)) else (none)) else (none)) else (if bt214.1 = a0 then (if bt214.2 = 0 then (if bt216.1 = bt218.1 then (if bt216.2 = bt218.2 then (if bt218.2 = 0 then ((peer_PrintCommand.f kj2 bt216.1).bind fun t222 => (some (t222.toList == a1.toList))) else (some true)) else (none)) else (none)) else (none)) else (none))) else (none))))))) = some r := by rw [if_neg (show ¬ (false = true) by decide)] at H; exact H
        clear H
        have H := H1
        clear H1
        replace H := Option.bind_eq_some_iff.mp H
        obtain ⟨t213, A110, H⟩ := H
        replace H : ((peer_ReadCommand.f kj2 t213).bind fun bt214 => ((peer_ReadCommand.f kj2 a1).bind fun bt216 => ((apogeeref07_ReadCommand.f kj2 a1).bind fun bt218 => ((apogeeref07_PrintCommand.f kj2 a0).bind fun t220 => (if t213.toList = t220.toList then (if t213.toList = ([] : List UInt8) then (if bt216.1 = bt218.1 then (if bt216.2 = bt218.2 then (if bt218.2 = 0 then ((peer_PrintCommand.f kj2 bt216.1).bind fun t221 => (some (t221.toList == a1.toList))) else (some true)) else (none)) else (none)) else (if bt214.1 = a0 then (if bt214.2 = 0 then (if bt216.1 = bt218.1 then (if bt216.2 = bt218.2 then (if bt218.2 = 0 then ((peer_PrintCommand.f kj2 bt216.1).bind fun t222 => (some (t222.toList == a1.toList))) else (some true)) else (none)) else (none)) else (none)) else (none))) else (none)))))) = some r := H
        have A11 := Aside0.mk A110
        clear A110
        replace H := Option.bind_eq_some_iff.mp H
        obtain ⟨⟨t214, t215⟩, A120, H⟩ := H
        replace H : ((peer_ReadCommand.f kj2 a1).bind fun bt216 => ((apogeeref07_ReadCommand.f kj2 a1).bind fun bt218 => ((apogeeref07_PrintCommand.f kj2 a0).bind fun t220 => (if t213.toList = t220.toList then (if t213.toList = ([] : List UInt8) then (if bt216.1 = bt218.1 then (if bt216.2 = bt218.2 then (if bt218.2 = 0 then ((peer_PrintCommand.f kj2 bt216.1).bind fun t221 => (some (t221.toList == a1.toList))) else (some true)) else (none)) else (none)) else (if t214 = a0 then (if t215 = 0 then (if bt216.1 = bt218.1 then (if bt216.2 = bt218.2 then (if bt218.2 = 0 then ((peer_PrintCommand.f kj2 bt216.1).bind fun t222 => (some (t222.toList == a1.toList))) else (some true)) else (none)) else (none)) else (none)) else (none))) else (none))))) = some r := H
        have A12 := Aside0.mk A120
        clear A120
        replace H := Option.bind_eq_some_iff.mp H
        obtain ⟨⟨t216, t217⟩, A130, H⟩ := H
        replace H : ((apogeeref07_ReadCommand.f kj2 a1).bind fun bt218 => ((apogeeref07_PrintCommand.f kj2 a0).bind fun t220 => (if t213.toList = t220.toList then (if t213.toList = ([] : List UInt8) then (if t216 = bt218.1 then (if t217 = bt218.2 then (if bt218.2 = 0 then ((peer_PrintCommand.f kj2 t216).bind fun t221 => (some (t221.toList == a1.toList))) else (some true)) else (none)) else (none)) else (if t214 = a0 then (if t215 = 0 then (if t216 = bt218.1 then (if t217 = bt218.2 then (if bt218.2 = 0 then ((peer_PrintCommand.f kj2 t216).bind fun t222 => (some (t222.toList == a1.toList))) else (some true)) else (none)) else (none)) else (none)) else (none))) else (none)))) = some r := H
        have A13 := Aside0.mk A130
        clear A130
        replace H := Option.bind_eq_some_iff.mp H
        obtain ⟨⟨t218, t219⟩, A140, H⟩ := H
        replace H : ((apogeeref07_PrintCommand.f kj2 a0).bind fun t220 => (if t213.toList = t220.toList then (if t213.toList = ([] : List UInt8) then (if t216 = t218 then (if t217 = t219 then (if t219 = 0 then ((peer_PrintCommand.f kj2 t216).bind fun t221 => (some (t221.toList == a1.toList))) else (some true)) else (none)) else (none)) else (if t214 = a0 then (if t215 = 0 then (if t216 = t218 then (if t217 = t219 then (if t219 = 0 then ((peer_PrintCommand.f kj2 t216).bind fun t222 => (some (t222.toList == a1.toList))) else (some true)) else (none)) else (none)) else (none)) else (none))) else (none))) = some r := H
        have A14 := Aside0.mk A140
        clear A140
        replace H := Option.bind_eq_some_iff.mp H
        obtain ⟨t220, A150, H⟩ := H
        replace H : (if t213.toList = t220.toList then (if t213.toList = ([] : List UInt8) then (if t216 = t218 then (if t217 = t219 then (if t219 = 0 then ((peer_PrintCommand.f kj2 t216).bind fun t221 => (some (t221.toList == a1.toList))) else (some true)) else (none)) else (none)) else (if t214 = a0 then (if t215 = 0 then (if t216 = t218 then (if t217 = t219 then (if t219 = 0 then ((peer_PrintCommand.f kj2 t216).bind fun t222 => (some (t222.toList == a1.toList))) else (some true)) else (none)) else (none)) else (none)) else (none))) else (none)) = some r := H
        have A15 := Aside0.mk A150
        clear A150
        by_cases c16 : t213.toList = t220.toList
        · rw [if_pos c16] at H
          have c16b0 : (t213.toList == t220.toList) = true := beq_iff_eq.mpr c16
          have c16b1 : (t213.toList != t220.toList) = false := bne_eq_false_iff_eq.mpr c16
          clear c16
          by_cases c17 : t213.toList = ([] : List UInt8)
          · rw [if_pos c17] at H
            have c17b0 : (t213.toList == ([] : List UInt8)) = true := beq_iff_eq.mpr c17
            have c17b1 : (t213.toList != ([] : List UInt8)) = false := bne_eq_false_iff_eq.mpr c17
            clear c17
            by_cases c18 : t216 = t218
            · rw [if_pos c18] at H
              have c18b0 : (t216 == t218) = true := beq_iff_eq.mpr c18
              have c18b1 : (t216 != t218) = false := bne_eq_false_iff_eq.mpr c18
              clear c18
              by_cases c19 : t217 = t219
              · rw [if_pos c19] at H
                have c19b0 : (t217 == t219) = true := beq_iff_eq.mpr c19
                have c19b1 : (t217 != t219) = false := bne_eq_false_iff_eq.mpr c19
                clear c19
                by_cases c20 : t219 = 0
                · rw [if_pos c20] at H
                  have c20b0 : (t219 == 0) = true := beq_iff_eq.mpr c20
                  have c20b1 : (t219 != 0) = false := bne_eq_false_iff_eq.mpr c20
                  clear c20
                  replace H := Option.bind_eq_some_iff.mp H
                  obtain ⟨t221, A210, H⟩ := H
                  replace H : (some (t221.toList == a1.toList)) = some r := H
                  have A21 := Aside0.mk A210
                  clear A210
                  obtain rfl := Option.some.inj H
                  have tk1_0_ : True := trivial
                  have tk1_1_ : True := trivial
                  have tk1_2_ : True := trivial
                  have tk1_5_ : True := trivial
                  go_wp2_with (first | ((with_reducible refine gate_callee (f := 19) rfl ?_); have q_ := tk1_0_; clear q_ tk1_0_; refine goesL_ (some 21) rfl rfl Try.func19 (by kernel_rfl) rfl #[.int .i64 a0] rfl (by (try simp only [List.map_toArray, List.map_cons, List.map_nil]); first | done | rfl | (simp only [List.length_drop, List.length_take]; rfl)) ?_; (with_reducible refine (peer_PrintCommand.calls kj2 a0 t213 _ A11.out).mono ?_); rintro e w22 ⟨rfl, hb⟩; refine ⟨_, rfl, ?_⟩; have n0_ := Aside0.mk (below_step (by repeat (first | (with_reducible first | exact HB.out | apply below_alloc | apply pw_below_drewN | apply below_drew1) | exact HB.out)) hb); clear HB; have HB := n0_; clear n0_; (try clear hb); (try clear hb2); (try clear hk); (try clear hi)) | ((with_reducible refine gate_callee (f := 20) rfl ?_); have q_ := tk1_1_; clear q_ tk1_1_; refine goesL_ (some 24) rfl rfl Try.func20 (by kernel_rfl) rfl #[.string t213] rfl (by (try simp only [List.map_toArray, List.map_cons, List.map_nil]); first | done | rfl | (simp only [List.length_drop, List.length_take]; rfl)) ?_; (with_reducible refine (peer_ReadCommand.calls kj2 t213 t214 t215 _ A12.out).mono ?_); rintro e w23 ⟨rfl, hb⟩; refine ⟨_, rfl, ?_⟩; have n0_ := Aside0.mk (below_step (by repeat (first | (with_reducible first | exact HB.out | apply below_alloc | apply pw_below_drewN | apply below_drew1) | exact HB.out)) hb); clear HB; have HB := n0_; clear n0_; (try clear hb); (try clear hb2); (try clear hk); (try clear hi)) | ((with_reducible refine gate_callee (f := 20) rfl ?_); have q_ := tk1_2_; clear q_ tk1_2_; refine goesL_ (some 29) rfl rfl Try.func20 (by kernel_rfl) rfl #[.string a1] rfl (by (try simp only [List.map_toArray, List.map_cons, List.map_nil]); first | done | rfl | (simp only [List.length_drop, List.length_take]; rfl)) ?_; (with_reducible refine (peer_ReadCommand.calls kj2 a1 t216 t217 _ A13.out).mono ?_); rintro e w24 ⟨rfl, hb⟩; refine ⟨_, rfl, ?_⟩; have n0_ := Aside0.mk (below_step (by repeat (first | (with_reducible first | exact HB.out | apply below_alloc | apply pw_below_drewN | apply below_drew1) | exact HB.out)) hb); clear HB; have HB := n0_; clear n0_; (try clear hb); (try clear hb2); (try clear hk); (try clear hi)) | ((with_reducible refine gate_callee (f := 21) rfl ?_); refine goesL_ (some 34) rfl rfl Try.func21 (by kernel_rfl) rfl #[.string a1] rfl (by (try simp only [List.map_toArray, List.map_cons, List.map_nil]); first | done | rfl | (simp only [List.length_drop, List.length_take]; rfl)) ?_; (with_reducible refine (apogeeref07_ReadCommand.calls kj2 a1 t218 t219 _ A14.out).mono ?_); rintro e w25 ⟨rfl, hb⟩; refine ⟨_, rfl, ?_⟩; have n0_ := Aside0.mk (below_step (by repeat (first | (with_reducible first | exact HB.out | apply below_alloc | apply pw_below_drewN | apply below_drew1) | exact HB.out)) hb); clear HB; have HB := n0_; clear n0_; (try clear hb); (try clear hb2); (try clear hk); (try clear hi)) | ((with_reducible refine gate_callee (f := 22) rfl ?_); refine goesL_ (some 39) rfl rfl Try.func22 (by kernel_rfl) rfl #[.int .i64 a0] rfl (by (try simp only [List.map_toArray, List.map_cons, List.map_nil]); first | done | rfl | (simp only [List.length_drop, List.length_take]; rfl)) ?_; (with_reducible refine (apogeeref07_PrintCommand.calls kj2 a0 t220 _ A15.out).mono ?_); rintro e w26 ⟨rfl, hb⟩; refine ⟨_, rfl, ?_⟩; have n0_ := Aside0.mk (below_step (by repeat (first | (with_reducible first | exact HB.out | apply below_alloc | apply pw_below_drewN | apply below_drew1) | exact HB.out)) hb); clear HB; have HB := n0_; clear n0_; (try clear hb); (try clear hb2); (try clear hk); (try clear hi)) | (go_at_call 19; have q_ := tk1_5_; clear q_ tk1_5_; (with_reducible refine (peer_PrintCommand.calls kj2 t216 t221 _ A21.out).mono ?_); rintro e w27 ⟨rfl, hb⟩; have n0_ := Aside0.mk (below_step (by repeat (first | (with_reducible first | exact HB.out | apply below_alloc | apply pw_below_drewN | apply below_drew1) | exact HB.out)) hb); clear HB; have HB := n0_; clear n0_; (try clear hb); (try clear hb2); (try clear hk); (try clear hi)))
                  go_ret
                  exact ⟨by first | rfl | (simp [errW_none, errW_some] <;> rfl) | (simp [*, errW_none, errW_some] <;> rfl), by repeat (first | (with_reducible first | exact HB.out | apply below_alloc | apply pw_below_drewN | apply below_drew1) | exact HB.out)⟩
                · rw [if_neg c20] at H
                  have c20b0 : (t219 == 0) = false := beq_eq_false_iff_ne.mpr c20
                  have c20b1 : (t219 != 0) = true := bne_iff_ne.mpr c20
                  obtain rfl := Option.some.inj H
                  have tk2_1_ : True := trivial
                  have tk2_2_ : True := trivial
                  go_wp2_with (first | ((with_reducible refine gate_callee (f := 19) rfl ?_); refine goesL_ (some 21) rfl rfl Try.func19 (by kernel_rfl) rfl #[.int .i64 a0] rfl (by (try simp only [List.map_toArray, List.map_cons, List.map_nil]); first | done | rfl | (simp only [List.length_drop, List.length_take]; rfl)) ?_; (with_reducible refine (peer_PrintCommand.calls kj2 a0 t213 _ A11.out).mono ?_); rintro e w28 ⟨rfl, hb⟩; refine ⟨_, rfl, ?_⟩; have n0_ := Aside0.mk (below_step (by repeat (first | (with_reducible first | exact HB.out | apply below_alloc | apply pw_below_drewN | apply below_drew1) | exact HB.out)) hb); clear HB; have HB := n0_; clear n0_; (try clear hb); (try clear hb2); (try clear hk); (try clear hi)) | ((with_reducible refine gate_callee (f := 20) rfl ?_); have q_ := tk2_1_; clear q_ tk2_1_; refine goesL_ (some 24) rfl rfl Try.func20 (by kernel_rfl) rfl #[.string t213] rfl (by (try simp only [List.map_toArray, List.map_cons, List.map_nil]); first | done | rfl | (simp only [List.length_drop, List.length_take]; rfl)) ?_; (with_reducible refine (peer_ReadCommand.calls kj2 t213 t214 t215 _ A12.out).mono ?_); rintro e w29 ⟨rfl, hb⟩; refine ⟨_, rfl, ?_⟩; have n0_ := Aside0.mk (below_step (by repeat (first | (with_reducible first | exact HB.out | apply below_alloc | apply pw_below_drewN | apply below_drew1) | exact HB.out)) hb); clear HB; have HB := n0_; clear n0_; (try clear hb); (try clear hb2); (try clear hk); (try clear hi)) | ((with_reducible refine gate_callee (f := 20) rfl ?_); have q_ := tk2_2_; clear q_ tk2_2_; refine goesL_ (some 29) rfl rfl Try.func20 (by kernel_rfl) rfl #[.string a1] rfl (by (try simp only [List.map_toArray, List.map_cons, List.map_nil]); first | done | rfl | (simp only [List.length_drop, List.length_take]; rfl)) ?_; (with_reducible refine (peer_ReadCommand.calls kj2 a1 t216 t217 _ A13.out).mono ?_); rintro e w30 ⟨rfl, hb⟩; refine ⟨_, rfl, ?_⟩; have n0_ := Aside0.mk (below_step (by repeat (first | (with_reducible first | exact HB.out | apply below_alloc | apply pw_below_drewN | apply below_drew1) | exact HB.out)) hb); clear HB; have HB := n0_; clear n0_; (try clear hb); (try clear hb2); (try clear hk); (try clear hi)) | ((with_reducible refine gate_callee (f := 21) rfl ?_); refine goesL_ (some 34) rfl rfl Try.func21 (by kernel_rfl) rfl #[.string a1] rfl (by (try simp only [List.map_toArray, List.map_cons, List.map_nil]); first | done | rfl | (simp only [List.length_drop, List.length_take]; rfl)) ?_; (with_reducible refine (apogeeref07_ReadCommand.calls kj2 a1 t218 t219 _ A14.out).mono ?_); rintro e w31 ⟨rfl, hb⟩; refine ⟨_, rfl, ?_⟩; have n0_ := Aside0.mk (below_step (by repeat (first | (with_reducible first | exact HB.out | apply below_alloc | apply pw_below_drewN | apply below_drew1) | exact HB.out)) hb); clear HB; have HB := n0_; clear n0_; (try clear hb); (try clear hb2); (try clear hk); (try clear hi)) | ((with_reducible refine gate_callee (f := 22) rfl ?_); refine goesL_ (some 39) rfl rfl Try.func22 (by kernel_rfl) rfl #[.int .i64 a0] rfl (by (try simp only [List.map_toArray, List.map_cons, List.map_nil]); first | done | rfl | (simp only [List.length_drop, List.length_take]; rfl)) ?_; (with_reducible refine (apogeeref07_PrintCommand.calls kj2 a0 t220 _ A15.out).mono ?_); rintro e w32 ⟨rfl, hb⟩; refine ⟨_, rfl, ?_⟩; have n0_ := Aside0.mk (below_step (by repeat (first | (with_reducible first | exact HB.out | apply below_alloc | apply pw_below_drewN | apply below_drew1) | exact HB.out)) hb); clear HB; have HB := n0_; clear n0_; (try clear hb); (try clear hb2); (try clear hk); (try clear hi)))
                  go_ret
                  exact ⟨by first | rfl | (simp [errW_none, errW_some] <;> rfl) | (simp [*, errW_none, errW_some] <;> rfl), by repeat (first | (with_reducible first | exact HB.out | apply below_alloc | apply pw_below_drewN | apply below_drew1) | exact HB.out)⟩
              · rw [if_neg c19] at H
                exact absurd H (by simp)
            · rw [if_neg c18] at H
              exact absurd H (by simp)
          · rw [if_neg c17] at H
            have c17b0 : (t213.toList == ([] : List UInt8)) = false := beq_eq_false_iff_ne.mpr c17
            have c17b1 : (t213.toList != ([] : List UInt8)) = true := bne_iff_ne.mpr c17
            by_cases c33 : t214 = a0
            · rw [if_pos c33] at H
              have c33b0 : (t214 == a0) = true := beq_iff_eq.mpr c33
              have c33b1 : (t214 != a0) = false := bne_eq_false_iff_eq.mpr c33
              clear c33
              by_cases c34 : t215 = 0
              · rw [if_pos c34] at H
                have c34b0 : (t215 == 0) = true := beq_iff_eq.mpr c34
                have c34b1 : (t215 != 0) = false := bne_eq_false_iff_eq.mpr c34
                clear c34
                by_cases c35 : t216 = t218
                · rw [if_pos c35] at H
                  have c35b0 : (t216 == t218) = true := beq_iff_eq.mpr c35
                  have c35b1 : (t216 != t218) = false := bne_eq_false_iff_eq.mpr c35
                  clear c35
                  by_cases c36 : t217 = t219
                  · rw [if_pos c36] at H
                    have c36b0 : (t217 == t219) = true := beq_iff_eq.mpr c36
                    have c36b1 : (t217 != t219) = false := bne_eq_false_iff_eq.mpr c36
                    clear c36
                    by_cases c37 : t219 = 0
                    · rw [if_pos c37] at H
                      have c37b0 : (t219 == 0) = true := beq_iff_eq.mpr c37
                      have c37b1 : (t219 != 0) = false := bne_eq_false_iff_eq.mpr c37
                      clear c37
                      replace H := Option.bind_eq_some_iff.mp H
                      obtain ⟨t222, A380, H⟩ := H
                      replace H : (some (t222.toList == a1.toList)) = some r := H
                      have A38 := Aside0.mk A380
                      clear A380
                      obtain rfl := Option.some.inj H
                      have tk3_0_ : True := trivial
                      have tk3_1_ : True := trivial
                      have tk3_2_ : True := trivial
                      have tk3_5_ : True := trivial
                      go_wp2_with (first | ((with_reducible refine gate_callee (f := 19) rfl ?_); have q_ := tk3_0_; clear q_ tk3_0_; refine goesL_ (some 21) rfl rfl Try.func19 (by kernel_rfl) rfl #[.int .i64 a0] rfl (by (try simp only [List.map_toArray, List.map_cons, List.map_nil]); first | done | rfl | (simp only [List.length_drop, List.length_take]; rfl)) ?_; (with_reducible refine (peer_PrintCommand.calls kj2 a0 t213 _ A11.out).mono ?_); rintro e w39 ⟨rfl, hb⟩; refine ⟨_, rfl, ?_⟩; have n0_ := Aside0.mk (below_step (by repeat (first | (with_reducible first | exact HB.out | apply below_alloc | apply pw_below_drewN | apply below_drew1) | exact HB.out)) hb); clear HB; have HB := n0_; clear n0_; (try clear hb); (try clear hb2); (try clear hk); (try clear hi)) | ((with_reducible refine gate_callee (f := 20) rfl ?_); have q_ := tk3_1_; clear q_ tk3_1_; refine goesL_ (some 24) rfl rfl Try.func20 (by kernel_rfl) rfl #[.string t213] rfl (by (try simp only [List.map_toArray, List.map_cons, List.map_nil]); first | done | rfl | (simp only [List.length_drop, List.length_take]; rfl)) ?_; (with_reducible refine (peer_ReadCommand.calls kj2 t213 t214 t215 _ A12.out).mono ?_); rintro e w40 ⟨rfl, hb⟩; refine ⟨_, rfl, ?_⟩; have n0_ := Aside0.mk (below_step (by repeat (first | (with_reducible first | exact HB.out | apply below_alloc | apply pw_below_drewN | apply below_drew1) | exact HB.out)) hb); clear HB; have HB := n0_; clear n0_; (try clear hb); (try clear hb2); (try clear hk); (try clear hi)) | ((with_reducible refine gate_callee (f := 20) rfl ?_); have q_ := tk3_2_; clear q_ tk3_2_; refine goesL_ (some 29) rfl rfl Try.func20 (by kernel_rfl) rfl #[.string a1] rfl (by (try simp only [List.map_toArray, List.map_cons, List.map_nil]); first | done | rfl | (simp only [List.length_drop, List.length_take]; rfl)) ?_; (with_reducible refine (peer_ReadCommand.calls kj2 a1 t216 t217 _ A13.out).mono ?_); rintro e w41 ⟨rfl, hb⟩; refine ⟨_, rfl, ?_⟩; have n0_ := Aside0.mk (below_step (by repeat (first | (with_reducible first | exact HB.out | apply below_alloc | apply pw_below_drewN | apply below_drew1) | exact HB.out)) hb); clear HB; have HB := n0_; clear n0_; (try clear hb); (try clear hb2); (try clear hk); (try clear hi)) | ((with_reducible refine gate_callee (f := 21) rfl ?_); refine goesL_ (some 34) rfl rfl Try.func21 (by kernel_rfl) rfl #[.string a1] rfl (by (try simp only [List.map_toArray, List.map_cons, List.map_nil]); first | done | rfl | (simp only [List.length_drop, List.length_take]; rfl)) ?_; (with_reducible refine (apogeeref07_ReadCommand.calls kj2 a1 t218 t219 _ A14.out).mono ?_); rintro e w42 ⟨rfl, hb⟩; refine ⟨_, rfl, ?_⟩; have n0_ := Aside0.mk (below_step (by repeat (first | (with_reducible first | exact HB.out | apply below_alloc | apply pw_below_drewN | apply below_drew1) | exact HB.out)) hb); clear HB; have HB := n0_; clear n0_; (try clear hb); (try clear hb2); (try clear hk); (try clear hi)) | ((with_reducible refine gate_callee (f := 22) rfl ?_); refine goesL_ (some 39) rfl rfl Try.func22 (by kernel_rfl) rfl #[.int .i64 a0] rfl (by (try simp only [List.map_toArray, List.map_cons, List.map_nil]); first | done | rfl | (simp only [List.length_drop, List.length_take]; rfl)) ?_; (with_reducible refine (apogeeref07_PrintCommand.calls kj2 a0 t220 _ A15.out).mono ?_); rintro e w43 ⟨rfl, hb⟩; refine ⟨_, rfl, ?_⟩; have n0_ := Aside0.mk (below_step (by repeat (first | (with_reducible first | exact HB.out | apply below_alloc | apply pw_below_drewN | apply below_drew1) | exact HB.out)) hb); clear HB; have HB := n0_; clear n0_; (try clear hb); (try clear hb2); (try clear hk); (try clear hi)) | (go_at_call 19; have q_ := tk3_5_; clear q_ tk3_5_; (with_reducible refine (peer_PrintCommand.calls kj2 t216 t222 _ A38.out).mono ?_); rintro e w44 ⟨rfl, hb⟩; have n0_ := Aside0.mk (below_step (by repeat (first | (with_reducible first | exact HB.out | apply below_alloc | apply pw_below_drewN | apply below_drew1) | exact HB.out)) hb); clear HB; have HB := n0_; clear n0_; (try clear hb); (try clear hb2); (try clear hk); (try clear hi)))
                      go_ret
                      exact ⟨by first | rfl | (simp [errW_none, errW_some] <;> rfl) | (simp [*, errW_none, errW_some] <;> rfl), by repeat (first | (with_reducible first | exact HB.out | apply below_alloc | apply pw_below_drewN | apply below_drew1) | exact HB.out)⟩
                    · rw [if_neg c37] at H
                      have c37b0 : (t219 == 0) = false := beq_eq_false_iff_ne.mpr c37
                      have c37b1 : (t219 != 0) = true := bne_iff_ne.mpr c37
                      obtain rfl := Option.some.inj H
                      have tk4_1_ : True := trivial
                      have tk4_2_ : True := trivial
                      go_wp2_with (first | ((with_reducible refine gate_callee (f := 19) rfl ?_); refine goesL_ (some 21) rfl rfl Try.func19 (by kernel_rfl) rfl #[.int .i64 a0] rfl (by (try simp only [List.map_toArray, List.map_cons, List.map_nil]); first | done | rfl | (simp only [List.length_drop, List.length_take]; rfl)) ?_; (with_reducible refine (peer_PrintCommand.calls kj2 a0 t213 _ A11.out).mono ?_); rintro e w45 ⟨rfl, hb⟩; refine ⟨_, rfl, ?_⟩; have n0_ := Aside0.mk (below_step (by repeat (first | (with_reducible first | exact HB.out | apply below_alloc | apply pw_below_drewN | apply below_drew1) | exact HB.out)) hb); clear HB; have HB := n0_; clear n0_; (try clear hb); (try clear hb2); (try clear hk); (try clear hi)) | ((with_reducible refine gate_callee (f := 20) rfl ?_); have q_ := tk4_1_; clear q_ tk4_1_; refine goesL_ (some 24) rfl rfl Try.func20 (by kernel_rfl) rfl #[.string t213] rfl (by (try simp only [List.map_toArray, List.map_cons, List.map_nil]); first | done | rfl | (simp only [List.length_drop, List.length_take]; rfl)) ?_; (with_reducible refine (peer_ReadCommand.calls kj2 t213 t214 t215 _ A12.out).mono ?_); rintro e w46 ⟨rfl, hb⟩; refine ⟨_, rfl, ?_⟩; have n0_ := Aside0.mk (below_step (by repeat (first | (with_reducible first | exact HB.out | apply below_alloc | apply pw_below_drewN | apply below_drew1) | exact HB.out)) hb); clear HB; have HB := n0_; clear n0_; (try clear hb); (try clear hb2); (try clear hk); (try clear hi)) | ((with_reducible refine gate_callee (f := 20) rfl ?_); have q_ := tk4_2_; clear q_ tk4_2_; refine goesL_ (some 29) rfl rfl Try.func20 (by kernel_rfl) rfl #[.string a1] rfl (by (try simp only [List.map_toArray, List.map_cons, List.map_nil]); first | done | rfl | (simp only [List.length_drop, List.length_take]; rfl)) ?_; (with_reducible refine (peer_ReadCommand.calls kj2 a1 t216 t217 _ A13.out).mono ?_); rintro e w47 ⟨rfl, hb⟩; refine ⟨_, rfl, ?_⟩; have n0_ := Aside0.mk (below_step (by repeat (first | (with_reducible first | exact HB.out | apply below_alloc | apply pw_below_drewN | apply below_drew1) | exact HB.out)) hb); clear HB; have HB := n0_; clear n0_; (try clear hb); (try clear hb2); (try clear hk); (try clear hi)) | ((with_reducible refine gate_callee (f := 21) rfl ?_); refine goesL_ (some 34) rfl rfl Try.func21 (by kernel_rfl) rfl #[.string a1] rfl (by (try simp only [List.map_toArray, List.map_cons, List.map_nil]); first | done | rfl | (simp only [List.length_drop, List.length_take]; rfl)) ?_; (with_reducible refine (apogeeref07_ReadCommand.calls kj2 a1 t218 t219 _ A14.out).mono ?_); rintro e w48 ⟨rfl, hb⟩; refine ⟨_, rfl, ?_⟩; have n0_ := Aside0.mk (below_step (by repeat (first | (with_reducible first | exact HB.out | apply below_alloc | apply pw_below_drewN | apply below_drew1) | exact HB.out)) hb); clear HB; have HB := n0_; clear n0_; (try clear hb); (try clear hb2); (try clear hk); (try clear hi)) | ((with_reducible refine gate_callee (f := 22) rfl ?_); refine goesL_ (some 39) rfl rfl Try.func22 (by kernel_rfl) rfl #[.int .i64 a0] rfl (by (try simp only [List.map_toArray, List.map_cons, List.map_nil]); first | done | rfl | (simp only [List.length_drop, List.length_take]; rfl)) ?_; (with_reducible refine (apogeeref07_PrintCommand.calls kj2 a0 t220 _ A15.out).mono ?_); rintro e w49 ⟨rfl, hb⟩; refine ⟨_, rfl, ?_⟩; have n0_ := Aside0.mk (below_step (by repeat (first | (with_reducible first | exact HB.out | apply below_alloc | apply pw_below_drewN | apply below_drew1) | exact HB.out)) hb); clear HB; have HB := n0_; clear n0_; (try clear hb); (try clear hb2); (try clear hk); (try clear hi)))
                      go_ret
                      exact ⟨by first | rfl | (simp [errW_none, errW_some] <;> rfl) | (simp [*, errW_none, errW_some] <;> rfl), by repeat (first | (with_reducible first | exact HB.out | apply below_alloc | apply pw_below_drewN | apply below_drew1) | exact HB.out)⟩
                  · rw [if_neg c36] at H
                    exact absurd H (by simp)
                · rw [if_neg c35] at H
                  exact absurd H (by simp)
              · rw [if_neg c34] at H
                exact absurd H (by simp)
            · rw [if_neg c33] at H
              exact absurd H (by simp)
        · rw [if_neg c16] at H
          exact absurd H (by simp)

end Go.Proofs.Ythhknlibgfmdkaa.PPeerCommands

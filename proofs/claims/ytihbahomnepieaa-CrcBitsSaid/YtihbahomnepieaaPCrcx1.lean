-- written by handprint.py, a program of this session's, over the seat Ytihbahomnepieaa
import Derived.Test.YtihbahomnepieaaPCrcx0
namespace Go.Proofs.Ytihbahomnepieaa.PCrc
open Go.RowKit Go.Proofs.YtihbahomnepieaaW.PrintWords Go.Proofs.YtihbahomnepieaaW.PrintLast Go.Proofs.YtihbahomnepieaaW.PrintMore
attribute [local go_sem] max2_int min2_int max_two min_two max_three min_three max_four min_four   -- for this text's walks alone
set_option linter.unusedVariables false
set_option linter.unusedSimpArgs false

/-! ### crc_step16: function 24 -/
def crc_step16.l0 : Nat → Int → Int → Option (Int)
  | 0, _, _ => none
  | k + 1, x0, x4 => if x4 < 8 then (if (Go.bits .and .u16 x0 32768) = 0 then (crc_step16.l0 k (IntKind.u16.wrap (x0 * 2)) (wrap64 (x4 + 1))) else (crc_step16.l0 k (Go.bits .xor .u16 (IntKind.u16.wrap (x0 * 2)) 4129) (wrap64 (x4 + 1)))) else (some x0)
def crc_step16.f (k : Nat) (a0 : Int) : Option (Int) := crc_step16.l0 k a0 0
theorem crc_step16.mono_l : ∀ k, (∀ y0 y1, LeO (crc_step16.l0 k y0 y1) (crc_step16.l0 (k + 1) y0 y1))
  | 0 => fun _ _ r h => by simp [crc_step16.l0] at h
  | k + 1 => by
    have ih0 := crc_step16.mono_l k
    · intro y0 y1
      unfold crc_step16.l0
      repeat' first
      | (with_reducible exact ih0 _ _)
      | (with_reducible exact LeO.refl _)
      | (with_reducible exact LeO.none _)
      | (with_reducible refine LeO.ite ?_ ?_)
      | (with_reducible refine LeO.bind ?_ (fun _ => ?_))
      | exact ih0 _ _
      | exact LeO.none _
      | refine LeO.ite ?_ ?_
      | refine LeO.bind ?_ (fun _ => ?_)
theorem crc_step16.mono : ∀ a0 k, LeO (crc_step16.f k a0) (crc_step16.f (k + 1) a0) := by
  intro a0 k
  have ih0 := crc_step16.mono_l k
  unfold crc_step16.f
  repeat' first
      | (with_reducible exact ih0 _ _)
      | (with_reducible exact LeO.refl _)
      | (with_reducible exact LeO.none _)
      | (with_reducible refine LeO.ite ?_ ?_)
      | (with_reducible refine LeO.bind ?_ (fun _ => ?_))
      | exact ih0 _ _
      | exact LeO.none _
      | refine LeO.ite ?_ ?_
      | refine LeO.bind ?_ (fun _ => ?_)
set_option maxHeartbeats 8000000 in
set_option maxRecDepth 100000 in
theorem crc_step16.calls (k : Nat) (a0 : Int) (r : Int) (w : World) (h : crc_step16.f k a0 = some r) :
    Calls Try.prog 24 #[.int .u16 a0] w fun e w' => e = .returned (.int .u16 r) ∧ Drawn0 w w' := by
  have H : (crc_step16.l0 k a0 0) = some r := h
  clear h
  have H' := Aside0.mk H
  clear H
  go_enter Try.func24, Try.ntmps24
  go_wp2
  go_loopg [0, 4] k (fun kq v0 v4 w' => ∃ (x0_1 : Int) (x4_1 : Int), v0 = .int .u16 x0_1 ∧ v4 = .int .i64 x4_1 ∧ Aside0 (crc_step16.l0 kq x0_1 x4_1 = some r) ∧ Aside0 (kq ≤ k) ∧ Drawn0 w w')
  case atStart => exact ⟨(a0), (0), (by first | rfl | (simp; done) | (simp [*]; done)), (by first | rfl | (simp; done) | (simp [*]; done)), H', ⟨Nat.le_refl _⟩, by repeat (first | exact Drawn0.refl _ | apply Drawn0.step)⟩
  case round =>
    clear H'
    try clear p1
    obtain ⟨x0_1, x4_1, rfl, rfl, HA, HK1, ⟨m1, rfl⟩⟩ := hrel
    cases gk with
    | zero => exact absurd HA.out (by simp [crc_step16.l0])
    | succ k1 =>
      have H := HA.out
      clear HA
      simp only [crc_step16.l0] at H
      by_cases c2 : x4_1 < 8
      · rw [if_pos c2] at H
        have c2b0 : decide (x4_1 < 8) = true := decide_eq_true c2
        clear c2
        by_cases c3 : (Go.bits .and .u16 x0_1 32768) = 0
        · rw [if_pos c3] at H
          have c3b0 : ((Go.bits .and .u16 x0_1 32768) == 0) = true := beq_iff_eq.mpr c3
          have c3b1 : ((Go.bits .and .u16 x0_1 32768) != 0) = false := bne_eq_false_iff_eq.mpr c3
          clear c3
          have H' := Aside0.mk H
          clear H
          go_wp2
          go_roundg k1
          case measure => have := HK1.out; omega
          case rel => exact ⟨(IntKind.u16.wrap (x0_1 * 2)), (wrap64 (x4_1 + 1)), (by first | rfl | (simp; done) | (simp [*]; done)), (by first | rfl | (simp; done) | (simp [*]; done)), H', ⟨by have := HK1.out; omega⟩, by repeat (first | exact Drawn0.refl _ | apply Drawn0.step)⟩
        · rw [if_neg c3] at H
          have c3b0 : ((Go.bits .and .u16 x0_1 32768) == 0) = false := beq_eq_false_iff_ne.mpr c3
          have c3b1 : ((Go.bits .and .u16 x0_1 32768) != 0) = true := bne_iff_ne.mpr c3
          have H' := Aside0.mk H
          clear H
          go_wp2
          go_roundg k1
          case measure => have := HK1.out; omega
          case rel => exact ⟨(Go.bits .xor .u16 (IntKind.u16.wrap (x0_1 * 2)) 4129), (wrap64 (x4_1 + 1)), (by first | rfl | (simp; done) | (simp [*]; done)), (by first | rfl | (simp; done) | (simp [*]; done)), H', ⟨by have := HK1.out; omega⟩, by repeat (first | exact Drawn0.refl _ | apply Drawn0.step)⟩
      · rw [if_neg c2] at H
        have c2b0 : decide (x4_1 < 8) = false := decide_eq_false c2
        clear c2
        obtain rfl := Option.some.inj H
        go_wp2
        go_ret
        exact ⟨by first | rfl | (simp; done) | (simp [*]; done), by repeat (first | exact Drawn0.refl _ | apply Drawn0.step)⟩

/-- What lies in the row that a conversion made. -/
theorem bytes_row (w : World) (e : Nat) (s : ByteArray) (hn : s.size ≤ 9223372036854775807) : Kd.C (Kd.int .u8) (Lib.bytesWorld w e s) (some ⟨w.heap.size, 0, none⟩) (bytesOf s).length (bytesOf s) := by
  refine ⟨rfl, by rw [bytesOf_length]; exact hn, fun _ => ⟨_, rfl, fun j p hp => ⟨[.int .u8 p], rfl, rfl, fun i u hu => ?_⟩⟩⟩
  obtain ⟨hj, hp⟩ := List.getElem?_eq_some_iff.mp hp
  rw [bytesOf_length] at hj
  have h := Lib.bytesWorld_cell w e s j hj
  match i, hu with
  | 0, hu =>
    obtain rfl : Value.int .u8 p = u := by simpa using hu
    have e1 : (Addr.mk w.heap.size 0 none).add (j * (Kd.int .u8).sz + 0) = ⟨w.heap.size, j, none⟩ := by simp [Addr.add, Kd.int, Kd.scalar]; omega
    rw [e1, h, ← hp]
    simp [bytesOf, List.getD, hj]
  | i + 1, hu => simp at hu
theorem bytes_below (w : World) (e : Nat) (s : ByteArray) : Below w.heap.size w (Lib.bytesWorld w e s) :=
  ⟨rfl, rfl, rfl, by rw [Lib.bytesWorld_size]; omega, fun i hi => Lib.bytesWorld_at_old w e s i hi⟩
/-! ### crc_More16: function 14 -/
def crc_More16.l0 : Nat → Int → List Int → Int → Option Int
  | 0, _, _, _ => none
  | k + 1, x0, l, x10 => if x10 < (l.length : Int) then (if 0 ≤ x10 then ((crc_step16.f k (Go.bits .xor .u16 x0 (rd l x10 % 65536 * 256 % 65536))).bind fun t => crc_More16.l0 k t l (wrap64 (x10 + 1))) else none) else some x0
def crc_More16.f (k : Nat) (a0 : Int) (s : ByteArray) : Option Int := if s.size ≤ 9223372036854775807 then crc_More16.l0 k a0 (bytesOf s) 0 else none
theorem crc_More16.mono_l : ∀ k, ∀ y0 y1 y2, LeO (crc_More16.l0 k y0 y1 y2) (crc_More16.l0 (k + 1) y0 y1 y2)
  | 0 => fun _ _ _ r h => by simp [crc_More16.l0] at h
  | k + 1 => by
    have ih0 := crc_More16.mono_l k
    intro y0 y1 y2
    unfold crc_More16.l0
    repeat' first
      | (with_reducible exact ih0 _ _ _)
      | (with_reducible exact crc_step16.mono _ _)
      | (with_reducible exact LeO.refl _)
      | (with_reducible exact LeO.none _)
      | (with_reducible refine LeO.ite ?_ ?_)
      | (with_reducible refine LeO.bind ?_ (fun _ => ?_))
theorem crc_More16.mono : ∀ a0 a1 k, LeO (crc_More16.f k a0 a1) (crc_More16.f (k + 1) a0 a1) := by
  intro a0 a1 k
  unfold crc_More16.f
  exact LeO.ite (crc_More16.mono_l k _ _ _) (LeO.refl _)
set_option maxHeartbeats 8000000 in
set_option maxRecDepth 100000 in
theorem crc_More16.calls (k : Nat) (a0 : Int) (s0 : ByteArray) (r : Int) (w : World) (h : crc_More16.f k a0 s0 = some r) :
    Calls Try.prog 14 #[.int .u16 a0, .string s0] w fun e w' => e = .returned (.int .u16 r) ∧ Below w.heap.size w w' := by
  unfold crc_More16.f at h
  by_cases hs0 : s0.size ≤ 9223372036854775807
  · rw [if_pos hs0] at h
    have H' := Aside0.mk h
    clear h
    have kc := fun (w : World) => Lib.run_convert_string_bytes (P := Try.prog) w 9 38 5 s0 Try.underlying9 Try.underlying38 Try.underlying5
    go_enter Try.func14, Try.ntmps14
    go_wp2
    have HR0 := Aside0.mk (bytes_row w 5 s0 hs0)
    have HB := Aside0.mk (bytes_below w 5 s0)
    have hn := Aside0.mk (show (s0.size : Int) = ((bytesOf s0).length : Int) by rw [bytesOf_length])
    generalize hw1 : Lib.bytesWorld w 5 s0 = w1 at *
    clear hw1
    generalize bytesOf s0 = l0 at *
    generalize ha1 : Addr.mk w.heap.size 0 none = ad at *
    clear ha1
    go_loopg [0, 10] k (fun kq v0 v10 w' => ∃ (x0_1 : Int) (x10_1 : Int), v0 = .int .u16 x0_1 ∧ v10 = .int .i64 x10_1 ∧ Aside0 (crc_More16.l0 kq x0_1 l0 x10_1 = some r) ∧ Aside0 (kq ≤ k) ∧ Aside0 (Below w.heap.size w w') ∧ Aside0 (Kd.C (Kd.int .u8) w' (some ad) l0.length l0))
    case atStart => exact ⟨_, _, rfl, rfl, H', ⟨Nat.le_refl _⟩, HB, HR0⟩
    case round =>
      clear H' HB HR0
      obtain ⟨x0_1, x10_1, rfl, rfl, HA, HK1, HB, HR0⟩ := hrel
      cases gk with
      | zero => exact absurd HA.out (by simp [crc_More16.l0])
      | succ k1 =>
        have H := HA.out
        clear HA
        simp only [crc_More16.l0] at H
        by_cases c2 : x10_1 < (l0.length : Int)
        · rw [if_pos c2] at H
          by_cases c3 : 0 ≤ x10_1
          · rw [if_pos c3] at H
            replace H := Option.bind_eq_some_iff.mp H
            obtain ⟨t17, A50, H⟩ := H
            have A5 := Aside0.mk A50
            clear A50
            have H' := Aside0.mk H
            clear H
            have c2b0 : decide (x10_1 < (s0.size : Int)) = true := decide_eq_true (by rw [hn.out]; exact c2)
            obtain ⟨ad', e, hx_0⟩ := Kd.at_int HR0.out x10_1 c3 c2
            cases e
            replace c3 := eq_true c3
            replace c2 : (x10_1 < (s0.size : Int)) = True := eq_true (by rw [hn.out]; exact c2)
            go_wp2_with (first | ((with_reducible refine gate_callee (f := 24) rfl ?_); refine goesL_ (some 19) rfl rfl Try.func24 (by kernel_rfl) rfl #[.int .u16 (Go.bits .xor .u16 x0_1 (rd l0 x10_1 % 65536 * 256 % 65536))] rfl (by (try simp only [List.map_toArray, List.map_cons, List.map_nil]); first | done | rfl) ?_; (with_reducible refine (crc_step16.calls _ _ t17 _ A5.out).mono ?_); rintro e w7 ⟨rfl, ⟨m, rfl⟩⟩; refine ⟨_, rfl, ?_⟩))
            go_roundg k1
            case measure => have := HK1.out; omega
            case rel => exact ⟨t17, wrap64 (x10_1 + 1), rfl, rfl, H', ⟨by have := HK1.out; omega⟩, ⟨pw_below_drewN HB.out _⟩, HR0⟩
          · rw [if_neg c3] at H
            exact absurd H (by simp)
        · rw [if_neg c2] at H
          have c2b0 : decide (x10_1 < (s0.size : Int)) = false := decide_eq_false (by rw [hn.out]; exact c2)
          clear c2
          obtain rfl := Option.some.inj H
          go_wp2
          go_ret
          exact ⟨rfl, HB.out⟩
  · rw [if_neg hs0] at h
    exact absurd h (by simp)

/-! ### crc_Sum16: function 10 -/
def crc_Sum16.f (k : Nat) (a0 : ByteArray) : Option (Int) := (crc_More16.f k 65535 a0).bind fun t101 => (some t101)
theorem crc_Sum16.mono : ∀ a0 k, LeO (crc_Sum16.f k a0) (crc_Sum16.f (k + 1) a0) := by
  intro a0 k
  unfold crc_Sum16.f
  repeat' first
      | (with_reducible exact crc_More16.mono _ _ _)
      | (with_reducible exact LeO.refl _)
      | (with_reducible exact LeO.none _)
      | (with_reducible refine LeO.ite ?_ ?_)
      | (with_reducible refine LeO.bind ?_ (fun _ => ?_))
      | exact crc_More16.mono _ _ _
      | exact LeO.none _
      | refine LeO.ite ?_ ?_
      | refine LeO.bind ?_ (fun _ => ?_)
set_option maxHeartbeats 8000000 in
set_option maxRecDepth 100000 in
theorem crc_Sum16.calls (k : Nat) (a0 : ByteArray) (r : Int) (w : World) (h : crc_Sum16.f k a0 = some r) :
    Calls Try.prog 10 #[.string a0] w fun e w' => e = .returned (.int .u16 r) ∧ Below w.heap.size w w' := by
  have HB := Aside0.mk (Below.refl w.heap.size w)
  have H : ((crc_More16.f k 65535 a0).bind fun t101 => (some t101)) = some r := h
  clear h
  replace H := Option.bind_eq_some_iff.mp H
  obtain ⟨t101, A20, H⟩ := H
  replace H : (some t101) = some r := H
  have A2 := Aside0.mk A20
  clear A20
  obtain rfl := Option.some.inj H
  go_enter Try.func10, Try.ntmps10
  go_wp2_with (first | ((with_reducible refine gate_callee (f := 14) rfl ?_); refine goesL_ (some 4) rfl rfl Try.func14 (by kernel_rfl) rfl #[.int .u16 65535, .string a0] rfl (by (try simp only [List.map_toArray, List.map_cons, List.map_nil]); first | done | rfl | (simp only [List.length_drop, List.length_take]; rfl)) ?_; (with_reducible refine (crc_More16.calls k 65535 a0 t101 _ A2.out).mono ?_); rintro e w3 ⟨rfl, hb⟩; refine ⟨_, rfl, ?_⟩; have n0_ := Aside0.mk (below_step (by repeat (first | (with_reducible first | exact HB.out | apply below_alloc | apply pw_below_drewN | apply below_drew1) | exact HB.out)) hb); clear HB; have HB := n0_; clear n0_; (try clear hb); (try clear hb2); (try clear hk); (try clear hi)))
  go_ret
  exact ⟨by first | rfl | (simp [errW_none, errW_some] <;> rfl) | (simp [*, errW_none, errW_some] <;> rfl), by repeat (first | (with_reducible first | exact HB.out | apply below_alloc | apply pw_below_drewN | apply below_drew1) | exact HB.out)⟩

/-! ### crc_step32: function 23 -/
def crc_step32.l0 : Nat → Int → Int → Option (Int)
  | 0, _, _ => none
  | k + 1, x0, x4 => if x4 < 8 then (if (Go.bits .and .u32 x0 1) = 0 then (crc_step32.l0 k (x0 / 2) (wrap64 (x4 + 1))) else (crc_step32.l0 k (Go.bits .xor .u32 (x0 / 2) 3988292384) (wrap64 (x4 + 1)))) else (some x0)
def crc_step32.f (k : Nat) (a0 : Int) : Option (Int) := crc_step32.l0 k a0 0
theorem crc_step32.mono_l : ∀ k, (∀ y0 y1, LeO (crc_step32.l0 k y0 y1) (crc_step32.l0 (k + 1) y0 y1))
  | 0 => fun _ _ r h => by simp [crc_step32.l0] at h
  | k + 1 => by
    have ih0 := crc_step32.mono_l k
    · intro y0 y1
      unfold crc_step32.l0
      repeat' first
      | (with_reducible exact ih0 _ _)
      | (with_reducible exact LeO.refl _)
      | (with_reducible exact LeO.none _)
      | (with_reducible refine LeO.ite ?_ ?_)
      | (with_reducible refine LeO.bind ?_ (fun _ => ?_))
      | exact ih0 _ _
      | exact LeO.none _
      | refine LeO.ite ?_ ?_
      | refine LeO.bind ?_ (fun _ => ?_)
theorem crc_step32.mono : ∀ a0 k, LeO (crc_step32.f k a0) (crc_step32.f (k + 1) a0) := by
  intro a0 k
  have ih0 := crc_step32.mono_l k
  unfold crc_step32.f
  repeat' first
      | (with_reducible exact ih0 _ _)
      | (with_reducible exact LeO.refl _)
      | (with_reducible exact LeO.none _)
      | (with_reducible refine LeO.ite ?_ ?_)
      | (with_reducible refine LeO.bind ?_ (fun _ => ?_))
      | exact ih0 _ _
      | exact LeO.none _
      | refine LeO.ite ?_ ?_
      | refine LeO.bind ?_ (fun _ => ?_)
set_option maxHeartbeats 8000000 in
set_option maxRecDepth 100000 in
theorem crc_step32.calls (k : Nat) (a0 : Int) (r : Int) (w : World) (h : crc_step32.f k a0 = some r) :
    Calls Try.prog 23 #[.int .u32 a0] w fun e w' => e = .returned (.int .u32 r) ∧ Drawn0 w w' := by
  have H : (crc_step32.l0 k a0 0) = some r := h
  clear h
  have H' := Aside0.mk H
  clear H
  go_enter Try.func23, Try.ntmps23
  go_wp2
  go_loopg [0, 4] k (fun kq v0 v4 w' => ∃ (x0_1 : Int) (x4_1 : Int), v0 = .int .u32 x0_1 ∧ v4 = .int .i64 x4_1 ∧ Aside0 (crc_step32.l0 kq x0_1 x4_1 = some r) ∧ Aside0 (kq ≤ k) ∧ Drawn0 w w')
  case atStart => exact ⟨(a0), (0), (by first | rfl | (simp; done) | (simp [*]; done)), (by first | rfl | (simp; done) | (simp [*]; done)), H', ⟨Nat.le_refl _⟩, by repeat (first | exact Drawn0.refl _ | apply Drawn0.step)⟩
  case round =>
    clear H'
    obtain ⟨x0_1, x4_1, rfl, rfl, HA, HK1, ⟨m1, rfl⟩⟩ := hrel
    cases gk with
    | zero => exact absurd HA.out (by simp [crc_step32.l0])
    | succ k1 =>
      have H := HA.out
      clear HA
      simp only [crc_step32.l0] at H
      by_cases c2 : x4_1 < 8
      · rw [if_pos c2] at H
        have c2b0 : decide (x4_1 < 8) = true := decide_eq_true c2
        clear c2
        by_cases c3 : (Go.bits .and .u32 x0_1 1) = 0
        · rw [if_pos c3] at H
          have c3b0 : ((Go.bits .and .u32 x0_1 1) == 0) = true := beq_iff_eq.mpr c3
          have c3b1 : ((Go.bits .and .u32 x0_1 1) != 0) = false := bne_eq_false_iff_eq.mpr c3
          clear c3
          have H' := Aside0.mk H
          clear H
          go_wp2
          go_roundg k1
          case measure => have := HK1.out; omega
          case rel => exact ⟨(x0_1 / 2), (wrap64 (x4_1 + 1)), (by first | rfl | (simp; done) | (simp [*]; done)), (by first | rfl | (simp; done) | (simp [*]; done)), H', ⟨by have := HK1.out; omega⟩, by repeat (first | exact Drawn0.refl _ | apply Drawn0.step)⟩
        · rw [if_neg c3] at H
          have c3b0 : ((Go.bits .and .u32 x0_1 1) == 0) = false := beq_eq_false_iff_ne.mpr c3
          have c3b1 : ((Go.bits .and .u32 x0_1 1) != 0) = true := bne_iff_ne.mpr c3
          have H' := Aside0.mk H
          clear H
          go_wp2
          go_roundg k1
          case measure => have := HK1.out; omega
          case rel => exact ⟨(Go.bits .xor .u32 (x0_1 / 2) 3988292384), (wrap64 (x4_1 + 1)), (by first | rfl | (simp; done) | (simp [*]; done)), (by first | rfl | (simp; done) | (simp [*]; done)), H', ⟨by have := HK1.out; omega⟩, by repeat (first | exact Drawn0.refl _ | apply Drawn0.step)⟩
      · rw [if_neg c2] at H
        have c2b0 : decide (x4_1 < 8) = false := decide_eq_false c2
        clear c2
        obtain rfl := Option.some.inj H
        go_wp2
        go_ret
        exact ⟨by first | rfl | (simp; done) | (simp [*]; done), by repeat (first | exact Drawn0.refl _ | apply Drawn0.step)⟩

/-! ### crc_Sum32: function 12 -/
def crc_Sum32.l0 : Nat → Int → List Int → Int → Option Int
  | 0, _, _, _ => none
  | k + 1, x3, l, x9 => if x9 < (l.length : Int) then (if 0 ≤ x9 then ((crc_step32.f k (Go.bits .xor .u32 x3 (rd l x9 % 4294967296))).bind fun t => crc_Sum32.l0 k t l (wrap64 (x9 + 1))) else none) else some (Go.bits .xor .u32 x3 4294967295)
def crc_Sum32.f (k : Nat) (s : ByteArray) : Option Int := if s.size ≤ 9223372036854775807 then crc_Sum32.l0 k 4294967295 (bytesOf s) 0 else none
theorem crc_Sum32.mono_l : ∀ k, ∀ y0 y1 y2, LeO (crc_Sum32.l0 k y0 y1 y2) (crc_Sum32.l0 (k + 1) y0 y1 y2)
  | 0 => fun _ _ _ r h => by simp [crc_Sum32.l0] at h
  | k + 1 => by
    have ih0 := crc_Sum32.mono_l k
    intro y0 y1 y2
    unfold crc_Sum32.l0
    repeat' first
      | (with_reducible exact ih0 _ _ _)
      | (with_reducible exact crc_step32.mono _ _)
      | (with_reducible exact LeO.refl _)
      | (with_reducible exact LeO.none _)
      | (with_reducible refine LeO.ite ?_ ?_)
      | (with_reducible refine LeO.bind ?_ (fun _ => ?_))
theorem crc_Sum32.mono : ∀ a0 k, LeO (crc_Sum32.f k a0) (crc_Sum32.f (k + 1) a0) := by
  intro a0 k
  unfold crc_Sum32.f
  exact LeO.ite (crc_Sum32.mono_l k _ _ _) (LeO.refl _)
set_option maxHeartbeats 8000000 in
set_option maxRecDepth 100000 in
theorem crc_Sum32.calls (k : Nat) (s0 : ByteArray) (r : Int) (w : World) (h : crc_Sum32.f k s0 = some r) :
    Calls Try.prog 12 #[.string s0] w fun e w' => e = .returned (.int .u32 r) ∧ Below w.heap.size w w' := by
  unfold crc_Sum32.f at h
  by_cases hs0 : s0.size ≤ 9223372036854775807
  · rw [if_pos hs0] at h
    have H' := Aside0.mk h
    clear h
    have kc := fun (w : World) => Lib.run_convert_string_bytes (P := Try.prog) w 9 38 5 s0 Try.underlying9 Try.underlying38 Try.underlying5
    go_enter Try.func12, Try.ntmps12
    go_wp2
    have HR0 := Aside0.mk (bytes_row w 5 s0 hs0)
    have HB := Aside0.mk (bytes_below w 5 s0)
    have hn := Aside0.mk (show (s0.size : Int) = ((bytesOf s0).length : Int) by rw [bytesOf_length])
    generalize hw1 : Lib.bytesWorld w 5 s0 = w1 at *
    clear hw1
    generalize bytesOf s0 = l0 at *
    generalize ha1 : Addr.mk w.heap.size 0 none = ad at *
    clear ha1
    go_loopg [3, 9] k (fun kq v3 v9 w' => ∃ (x3_1 : Int) (x9_1 : Int), v3 = .int .u32 x3_1 ∧ v9 = .int .i64 x9_1 ∧ Aside0 (crc_Sum32.l0 kq x3_1 l0 x9_1 = some r) ∧ Aside0 (kq ≤ k) ∧ Aside0 (Below w.heap.size w w') ∧ Aside0 (Kd.C (Kd.int .u8) w' (some ad) l0.length l0))
    case atStart => exact ⟨_, _, rfl, rfl, H', ⟨Nat.le_refl _⟩, HB, HR0⟩
    case round =>
      clear H' HB HR0
      obtain ⟨x3_1, x9_1, rfl, rfl, HA, HK1, HB, HR0⟩ := hrel
      cases gk with
      | zero => exact absurd HA.out (by simp [crc_Sum32.l0])
      | succ k1 =>
        have H := HA.out
        clear HA
        simp only [crc_Sum32.l0] at H
        by_cases c2 : x9_1 < (l0.length : Int)
        · rw [if_pos c2] at H
          by_cases c3 : 0 ≤ x9_1
          · rw [if_pos c3] at H
            replace H := Option.bind_eq_some_iff.mp H
            obtain ⟨t17, A50, H⟩ := H
            have A5 := Aside0.mk A50
            clear A50
            have H' := Aside0.mk H
            clear H
            have c2b0 : decide (x9_1 < (s0.size : Int)) = true := decide_eq_true (by rw [hn.out]; exact c2)
            obtain ⟨ad', e, hx_0⟩ := Kd.at_int HR0.out x9_1 c3 c2
            cases e
            replace c3 := eq_true c3
            replace c2 : (x9_1 < (s0.size : Int)) = True := eq_true (by rw [hn.out]; exact c2)
            go_wp2_with (first | ((with_reducible refine gate_callee (f := 23) rfl ?_); refine goesL_ (some 17) rfl rfl Try.func23 (by kernel_rfl) rfl #[.int .u32 (Go.bits .xor .u32 x3_1 (rd l0 x9_1 % 4294967296))] rfl (by (try simp only [List.map_toArray, List.map_cons, List.map_nil]); first | done | rfl) ?_; (with_reducible refine (crc_step32.calls _ _ t17 _ A5.out).mono ?_); rintro e w7 ⟨rfl, ⟨m, rfl⟩⟩; refine ⟨_, rfl, ?_⟩))
            go_roundg k1
            case measure => have := HK1.out; omega
            case rel => exact ⟨t17, wrap64 (x9_1 + 1), rfl, rfl, H', ⟨by have := HK1.out; omega⟩, ⟨pw_below_drewN HB.out _⟩, HR0⟩
          · rw [if_neg c3] at H
            exact absurd H (by simp)
        · rw [if_neg c2] at H
          have c2b0 : decide (x9_1 < (s0.size : Int)) = false := decide_eq_false (by rw [hn.out]; exact c2)
          clear c2
          obtain rfl := Option.some.inj H
          go_wp2
          go_ret
          exact ⟨rfl, HB.out⟩
  · rw [if_neg hs0] at h
    exact absurd h (by simp)

-- NOT PRINTED: function 15 (crc_New)

-- NOT PRINTED: function 32 (atomic_LoadUint32)

-- NOT PRINTED: function 28 (atomic_Bool_Load)

-- NOT PRINTED: function 41 (race_Disable)

-- NOT PRINTED: function 42 (atomic_CompareAndSwapInt32)

-- NOT PRINTED: function 43 (race_Enable)

-- NOT PRINTED: function 44 (race_Acquire)

-- NOT PRINTED: function 47 (atomic_AddInt32)

-- NOT PRINTED: function 49 (sync_runtime_canSpin)

-- NOT PRINTED: function 50 (sync_runtime_doSpin)

-- NOT PRINTED: function 51 (sync_throw)

-- NOT PRINTED: function 52 (sync_runtime_nanotime)

-- NOT PRINTED: function 53 (sync_runtime_SemacquireMutex)

-- NOT PRINTED: function 45 (sync_Mutex_lockSlow)

-- NOT PRINTED: function 37 (sync_Mutex_Lock_37)

-- NOT PRINTED: function 33 (sync_Mutex_Lock_33)

-- NOT PRINTED: function 46 (race_ReleaseMerge)

-- NOT PRINTED: function 54 (sync_fatal)

-- NOT PRINTED: function 55 (sync_runtime_Semrelease)

-- NOT PRINTED: function 48 (sync_Mutex_unlockSlow)

-- NOT PRINTED: function 38 (sync_Mutex_Unlock_38)

-- NOT PRINTED: function 34 (sync_Mutex_Unlock_34)

-- NOT PRINTED: function 39 (atomic_StoreUint32)

/-! ### atomic_b32: function 40 -/
def atomic_b32.f (a0 : Bool) : Option (Int) := if a0 = true then (some 1) else (some 0)
set_option maxHeartbeats 8000000 in
set_option maxRecDepth 100000 in
theorem atomic_b32.calls (a0 : Bool) (r : Int) (w : World) (h : atomic_b32.f a0 = some r) :
    Calls Try.prog 40 #[.bool a0] w fun e w' => e = .returned (.int .u32 r) ∧ Drawn0 w w' := by
  have H : (if a0 = true then (some 1) else (some 0)) = some r := h
  clear h
  by_cases c2 : a0 = true
  · subst c2
    have H1 : (some 1) = some r := by rw [if_pos rfl] at H; exact H
    clear H
    have H := H1
    clear H1
    obtain rfl := Option.some.inj H
    go_enter Try.func40, Try.ntmps40
    go_wp2
    go_ret
    exact ⟨by first | rfl | (simp; done) | (simp [*]; done), by repeat (first | exact Drawn0.refl _ | apply Drawn0.step)⟩
  · replace c2 := Bool.eq_false_iff.mpr c2
    subst c2
    have H1 : (some 0) = some r := by rw [if_neg (show ¬ (false = true) by decide)] at H; exact H
    clear H
    have H := H1
    clear H1
    obtain rfl := Option.some.inj H
    go_enter Try.func40, Try.ntmps40
    go_wp2
    go_ret
    exact ⟨by first | rfl | (simp; done) | (simp [*]; done), by repeat (first | exact Drawn0.refl _ | apply Drawn0.step)⟩

-- NOT PRINTED: function 35 (atomic_Bool_Store)

-- NOT PRINTED: function 29 (sync_Once_doSlow)

-- NOT PRINTED: function 25 (sync_Once_Do)

-- NOT PRINTED: function 36 (atomic_AddInt64)

-- NOT PRINTED: function 30 (atomic_Int64_Add)

-- NOT PRINTED: function 26 (crc_Table_fill)

-- NOT PRINTED: function 16 (crc_Table_Row16)

-- NOT PRINTED: function 17 (crc_Table_Row32)

-- NOT PRINTED: function 31 (atomic_LoadInt64)

-- NOT PRINTED: function 27 (atomic_Int64_Load)

-- NOT PRINTED: function 20 (crc_Table_Made)

-- NOT PRINTED: function 21 (crc_Table_Sum16)

-- NOT PRINTED: function 9 (apogeelaw04_awake)

/-! ### apogeeref04_Step16: function 18 -/
def apogeeref04_Step16.l0 : Nat → Int → Int → Option (Int)
  | 0, _, _ => none
  | k + 1, x0, x3 => if x3 < 8 then (if x0 ≥ 32768 then (apogeeref04_Step16.l0 k (Go.bits .xor .u16 (IntKind.u16.wrap (x0 * 2)) 4129) (wrap64 (x3 + 1))) else (apogeeref04_Step16.l0 k (IntKind.u16.wrap (x0 * 2)) (wrap64 (x3 + 1)))) else (some x0)
def apogeeref04_Step16.f (k : Nat) (a0 : Int) : Option (Int) := apogeeref04_Step16.l0 k a0 0
theorem apogeeref04_Step16.mono_l : ∀ k, (∀ y0 y1, LeO (apogeeref04_Step16.l0 k y0 y1) (apogeeref04_Step16.l0 (k + 1) y0 y1))
  | 0 => fun _ _ r h => by simp [apogeeref04_Step16.l0] at h
  | k + 1 => by
    have ih0 := apogeeref04_Step16.mono_l k
    · intro y0 y1
      unfold apogeeref04_Step16.l0
      repeat' first
      | (with_reducible exact ih0 _ _)
      | (with_reducible exact LeO.refl _)
      | (with_reducible exact LeO.none _)
      | (with_reducible refine LeO.ite ?_ ?_)
      | (with_reducible refine LeO.bind ?_ (fun _ => ?_))
      | exact ih0 _ _
      | exact LeO.none _
      | refine LeO.ite ?_ ?_
      | refine LeO.bind ?_ (fun _ => ?_)
theorem apogeeref04_Step16.mono : ∀ a0 k, LeO (apogeeref04_Step16.f k a0) (apogeeref04_Step16.f (k + 1) a0) := by
  intro a0 k
  have ih0 := apogeeref04_Step16.mono_l k
  unfold apogeeref04_Step16.f
  repeat' first
      | (with_reducible exact ih0 _ _)
      | (with_reducible exact LeO.refl _)
      | (with_reducible exact LeO.none _)
      | (with_reducible refine LeO.ite ?_ ?_)
      | (with_reducible refine LeO.bind ?_ (fun _ => ?_))
      | exact ih0 _ _
      | exact LeO.none _
      | refine LeO.ite ?_ ?_
      | refine LeO.bind ?_ (fun _ => ?_)
set_option maxHeartbeats 8000000 in
set_option maxRecDepth 100000 in
theorem apogeeref04_Step16.calls (k : Nat) (a0 : Int) (r : Int) (w : World) (h : apogeeref04_Step16.f k a0 = some r) :
    Calls Try.prog 18 #[.int .u16 a0] w fun e w' => e = .returned (.int .u16 r) ∧ Drawn0 w w' := by
  have H : (apogeeref04_Step16.l0 k a0 0) = some r := h
  clear h
  have H' := Aside0.mk H
  clear H
  go_enter Try.func18, Try.ntmps18
  go_wp2
  go_loopg [0, 3] k (fun kq v0 v3 w' => ∃ (x0_1 : Int) (x3_1 : Int), v0 = .int .u16 x0_1 ∧ v3 = .int .i64 x3_1 ∧ Aside0 (apogeeref04_Step16.l0 kq x0_1 x3_1 = some r) ∧ Aside0 (kq ≤ k) ∧ Drawn0 w w')
  case atStart => exact ⟨(a0), (0), (by first | rfl | (simp; done) | (simp [*]; done)), (by first | rfl | (simp; done) | (simp [*]; done)), H', ⟨Nat.le_refl _⟩, by repeat (first | exact Drawn0.refl _ | apply Drawn0.step)⟩
  case round =>
    clear H'
    try clear c1
    try clear p1
    obtain ⟨x0_1, x3_1, rfl, rfl, HA, HK1, ⟨m1, rfl⟩⟩ := hrel
    cases gk with
    | zero => exact absurd HA.out (by simp [apogeeref04_Step16.l0])
    | succ k1 =>
      have H := HA.out
      clear HA
      simp only [apogeeref04_Step16.l0] at H
      by_cases c2 : x3_1 < 8
      · rw [if_pos c2] at H
        have c2b0 : decide (x3_1 < 8) = true := decide_eq_true c2
        clear c2
        by_cases c3 : x0_1 ≥ 32768
        · rw [if_pos c3] at H
          have c3b0 : decide (32768 ≤ x0_1) = true := decide_eq_true c3
          clear c3
          have H' := Aside0.mk H
          clear H
          go_wp2
          go_roundg k1
          case measure => have := HK1.out; omega
          case rel => exact ⟨(Go.bits .xor .u16 (IntKind.u16.wrap (x0_1 * 2)) 4129), (wrap64 (x3_1 + 1)), (by first | rfl | (simp; done) | (simp [*]; done)), (by first | rfl | (simp; done) | (simp [*]; done)), H', ⟨by have := HK1.out; omega⟩, by repeat (first | exact Drawn0.refl _ | apply Drawn0.step)⟩
        · rw [if_neg c3] at H
          have c3b0 : decide (32768 ≤ x0_1) = false := decide_eq_false c3
          clear c3
          have H' := Aside0.mk H
          clear H
          go_wp2
          go_roundg k1
          case measure => have := HK1.out; omega
          case rel => exact ⟨(IntKind.u16.wrap (x0_1 * 2)), (wrap64 (x3_1 + 1)), (by first | rfl | (simp; done) | (simp [*]; done)), (by first | rfl | (simp; done) | (simp [*]; done)), H', ⟨by have := HK1.out; omega⟩, by repeat (first | exact Drawn0.refl _ | apply Drawn0.step)⟩
      · rw [if_neg c2] at H
        have c2b0 : decide (x3_1 < 8) = false := decide_eq_false c2
        clear c2
        obtain rfl := Option.some.inj H
        go_wp2
        go_ret
        exact ⟨by first | rfl | (simp; done) | (simp [*]; done), by repeat (first | exact Drawn0.refl _ | apply Drawn0.step)⟩

/-! ### apogeeref04_More16: function 11 -/
def apogeeref04_More16.l0 : Nat → Int → ByteArray → Int → Option (Int)
  | 0, _, _, _ => none
  | k + 1, x0, x1, x5 => if x5 < (x1.size : Int) then (if 0 ≤ x5 then ((apogeeref04_Step16.f k (Go.bits .xor .u16 x0 (IntKind.u16.wrap ((IntKind.u16.wrap (bt x1 x5)) * 256)))).bind fun t102 => (apogeeref04_More16.l0 k t102 x1 (wrap64 (x5 + 1)))) else (none)) else (some x0)
def apogeeref04_More16.f (k : Nat) (a0 : Int) (a1 : ByteArray) : Option (Int) := apogeeref04_More16.l0 k a0 a1 0
theorem apogeeref04_More16.mono_l : ∀ k, (∀ y0 y1 y2, LeO (apogeeref04_More16.l0 k y0 y1 y2) (apogeeref04_More16.l0 (k + 1) y0 y1 y2))
  | 0 => fun _ _ _ r h => by simp [apogeeref04_More16.l0] at h
  | k + 1 => by
    have ih0 := apogeeref04_More16.mono_l k
    · intro y0 y1 y2
      unfold apogeeref04_More16.l0
      repeat' first
      | (with_reducible exact ih0 _ _ _)
      | (with_reducible exact apogeeref04_Step16.mono _ _)
      | (with_reducible exact LeO.refl _)
      | (with_reducible exact LeO.none _)
      | (with_reducible refine LeO.ite ?_ ?_)
      | (with_reducible refine LeO.bind ?_ (fun _ => ?_))
      | exact ih0 _ _ _
      | exact apogeeref04_Step16.mono _ _
      | exact LeO.none _
      | refine LeO.ite ?_ ?_
      | refine LeO.bind ?_ (fun _ => ?_)
theorem apogeeref04_More16.mono : ∀ a0 a1 k, LeO (apogeeref04_More16.f k a0 a1) (apogeeref04_More16.f (k + 1) a0 a1) := by
  intro a0 a1 k
  have ih0 := apogeeref04_More16.mono_l k
  unfold apogeeref04_More16.f
  repeat' first
      | (with_reducible exact ih0 _ _ _)
      | (with_reducible exact apogeeref04_Step16.mono _ _)
      | (with_reducible exact LeO.refl _)
      | (with_reducible exact LeO.none _)
      | (with_reducible refine LeO.ite ?_ ?_)
      | (with_reducible refine LeO.bind ?_ (fun _ => ?_))
      | exact ih0 _ _ _
      | exact apogeeref04_Step16.mono _ _
      | exact LeO.none _
      | refine LeO.ite ?_ ?_
      | refine LeO.bind ?_ (fun _ => ?_)
set_option maxHeartbeats 8000000 in
set_option maxRecDepth 100000 in
theorem apogeeref04_More16.calls (k : Nat) (a0 : Int) (a1 : ByteArray) (r : Int) (w : World) (h : apogeeref04_More16.f k a0 a1 = some r) :
    Calls Try.prog 11 #[.int .u16 a0, .string a1] w fun e w' => e = .returned (.int .u16 r) ∧ Drawn0 w w' := by
  have H : (apogeeref04_More16.l0 k a0 a1 0) = some r := h
  clear h
  have H' := Aside0.mk H
  clear H
  go_enter Try.func11, Try.ntmps11
  go_wp2
  go_loopg [0, 5] k (fun kq v0 v5 w' => ∃ (x0_1 : Int) (x5_1 : Int), v0 = .int .u16 x0_1 ∧ v5 = .int .i64 x5_1 ∧ Aside0 (apogeeref04_More16.l0 kq x0_1 a1 x5_1 = some r) ∧ Aside0 (kq ≤ k) ∧ Drawn0 w w')
  case atStart => exact ⟨(a0), (0), (by first | rfl | (simp; done) | (simp [*]; done)), (by first | rfl | (simp; done) | (simp [*]; done)), H', ⟨Nat.le_refl _⟩, by repeat (first | exact Drawn0.refl _ | apply Drawn0.step)⟩
  case round =>
    clear H'
    try clear c1
    try clear p2
    obtain ⟨x0_1, x5_1, rfl, rfl, HA, HK1, ⟨m1, rfl⟩⟩ := hrel
    cases gk with
    | zero => exact absurd HA.out (by simp [apogeeref04_More16.l0])
    | succ k1 =>
      have H := HA.out
      clear HA
      simp only [apogeeref04_More16.l0] at H
      by_cases c3 : x5_1 < (a1.size : Int)
      · rw [if_pos c3] at H
        have c3b0 : decide (x5_1 < (a1.size : Int)) = true := decide_eq_true c3
        clear c3
        by_cases c4 : 0 ≤ x5_1
        · rw [if_pos c4] at H
          have c4b0 : decide (0 ≤ x5_1) = true := decide_eq_true c4
          clear c4
          replace H := Option.bind_eq_some_iff.mp H
          obtain ⟨t102, A60, H⟩ := H
          replace H : (apogeeref04_More16.l0 k1 t102 a1 (wrap64 (x5_1 + 1))) = some r := H
          have A6 := Aside0.mk A60
          clear A60
          have H' := Aside0.mk H
          clear H
          have p5 : 0 ≤ (x5_1 : Int) := of_decide_eq_true (by first | (with_reducible assumption) | assumption)
          have q5 : x5_1 < (a1.size : Int) := of_decide_eq_true (by first | (with_reducible assumption) | assumption)
          have hx5 := bt_at a1 x5_1
          replace p5 := eq_true p5
          replace q5 := eq_true q5
          go_wp2_with (first | ((with_reducible refine gate_callee (f := 18) rfl ?_); refine goesL_ (some 19) rfl rfl Try.func18 (by kernel_rfl) rfl #[.int .u16 (Go.bits .xor .u16 x0_1 (IntKind.u16.wrap ((IntKind.u16.wrap (bt a1 x5_1)) * 256)))] rfl (by (try simp only [List.map_toArray, List.map_cons, List.map_nil]); first | done | rfl | (simp only [List.length_drop, List.length_take]; rfl)) ?_; (with_reducible refine (apogeeref04_Step16.calls k1 (Go.bits .xor .u16 x0_1 (IntKind.u16.wrap ((IntKind.u16.wrap (bt a1 x5_1)) * 256))) t102 _ A6.out).mono ?_); rintro e w' ⟨rfl, ⟨nd, rfl⟩⟩; refine ⟨_, rfl, ?_⟩))
          go_roundg k1
          case measure => have := HK1.out; omega
          case rel => exact ⟨(t102), (wrap64 (x5_1 + 1)), (by first | rfl | (simp; done) | (simp [*]; done)), (by first | rfl | (simp; done) | (simp [*]; done)), H', ⟨by have := HK1.out; omega⟩, by repeat (first | exact Drawn0.refl _ | apply Drawn0.step)⟩
        · rw [if_neg c4] at H
          exact absurd H (by simp)
      · rw [if_neg c3] at H
        have c3b0 : decide (x5_1 < (a1.size : Int)) = false := decide_eq_false c3
        clear c3
        obtain rfl := Option.some.inj H
        go_wp2
        go_ret
        exact ⟨by first | rfl | (simp; done) | (simp [*]; done), by repeat (first | exact Drawn0.refl _ | apply Drawn0.step)⟩

/-! ### apogeeref04_Step32: function 19 -/
def apogeeref04_Step32.l0 : Nat → Int → Int → Option (Int)
  | 0, _, _ => none
  | k + 1, x0, x3 => if x3 < 8 then (if (Int.tmod x0 2) = 1 then (apogeeref04_Step32.l0 k (Go.bits .xor .u32 ((Int.tdiv x0 2) % 4294967296) 3988292384) (wrap64 (x3 + 1))) else (apogeeref04_Step32.l0 k ((Int.tdiv x0 2) % 4294967296) (wrap64 (x3 + 1)))) else (some x0)
def apogeeref04_Step32.f (k : Nat) (a0 : Int) : Option (Int) := apogeeref04_Step32.l0 k a0 0
theorem apogeeref04_Step32.mono_l : ∀ k, (∀ y0 y1, LeO (apogeeref04_Step32.l0 k y0 y1) (apogeeref04_Step32.l0 (k + 1) y0 y1))
  | 0 => fun _ _ r h => by simp [apogeeref04_Step32.l0] at h
  | k + 1 => by
    have ih0 := apogeeref04_Step32.mono_l k
    · intro y0 y1
      unfold apogeeref04_Step32.l0
      repeat' first
      | (with_reducible exact ih0 _ _)
      | (with_reducible exact LeO.refl _)
      | (with_reducible exact LeO.none _)
      | (with_reducible refine LeO.ite ?_ ?_)
      | (with_reducible refine LeO.bind ?_ (fun _ => ?_))
      | exact ih0 _ _
      | exact LeO.none _
      | refine LeO.ite ?_ ?_
      | refine LeO.bind ?_ (fun _ => ?_)
theorem apogeeref04_Step32.mono : ∀ a0 k, LeO (apogeeref04_Step32.f k a0) (apogeeref04_Step32.f (k + 1) a0) := by
  intro a0 k
  have ih0 := apogeeref04_Step32.mono_l k
  unfold apogeeref04_Step32.f
  repeat' first
      | (with_reducible exact ih0 _ _)
      | (with_reducible exact LeO.refl _)
      | (with_reducible exact LeO.none _)
      | (with_reducible refine LeO.ite ?_ ?_)
      | (with_reducible refine LeO.bind ?_ (fun _ => ?_))
      | exact ih0 _ _
      | exact LeO.none _
      | refine LeO.ite ?_ ?_
      | refine LeO.bind ?_ (fun _ => ?_)
set_option maxHeartbeats 8000000 in
set_option maxRecDepth 100000 in
theorem apogeeref04_Step32.calls (k : Nat) (a0 : Int) (r : Int) (w : World) (h : apogeeref04_Step32.f k a0 = some r) :
    Calls Try.prog 19 #[.int .u32 a0] w fun e w' => e = .returned (.int .u32 r) ∧ Drawn0 w w' := by
  have H : (apogeeref04_Step32.l0 k a0 0) = some r := h
  clear h
  have H' := Aside0.mk H
  clear H
  go_enter Try.func19, Try.ntmps19
  go_wp2
  go_loopg [0, 3] k (fun kq v0 v3 w' => ∃ (x0_1 : Int) (x3_1 : Int), v0 = .int .u32 x0_1 ∧ v3 = .int .i64 x3_1 ∧ Aside0 (apogeeref04_Step32.l0 kq x0_1 x3_1 = some r) ∧ Aside0 (kq ≤ k) ∧ Drawn0 w w')
  case atStart => exact ⟨(a0), (0), (by first | rfl | (simp; done) | (simp [*]; done)), (by first | rfl | (simp; done) | (simp [*]; done)), H', ⟨Nat.le_refl _⟩, by repeat (first | exact Drawn0.refl _ | apply Drawn0.step)⟩
  case round =>
    clear H'
    try clear c1
    obtain ⟨x0_1, x3_1, rfl, rfl, HA, HK1, ⟨m1, rfl⟩⟩ := hrel
    cases gk with
    | zero => exact absurd HA.out (by simp [apogeeref04_Step32.l0])
    | succ k1 =>
      have H := HA.out
      clear HA
      simp only [apogeeref04_Step32.l0] at H
      by_cases c2 : x3_1 < 8
      · rw [if_pos c2] at H
        have c2b0 : decide (x3_1 < 8) = true := decide_eq_true c2
        clear c2
        by_cases c3 : (Int.tmod x0_1 2) = 1
        · rw [if_pos c3] at H
          have c3b0 : ((Int.tmod x0_1 2) == 1) = true := beq_iff_eq.mpr c3
          have c3b1 : ((Int.tmod x0_1 2) != 1) = false := bne_eq_false_iff_eq.mpr c3
          clear c3
          have H' := Aside0.mk H
          clear H
          go_wp2
          go_roundg k1
          case measure => have := HK1.out; omega
          case rel => exact ⟨(Go.bits .xor .u32 ((Int.tdiv x0_1 2) % 4294967296) 3988292384), (wrap64 (x3_1 + 1)), (by first | rfl | (simp; done) | (simp [*]; done)), (by first | rfl | (simp; done) | (simp [*]; done)), H', ⟨by have := HK1.out; omega⟩, by repeat (first | exact Drawn0.refl _ | apply Drawn0.step)⟩
        · rw [if_neg c3] at H
          have c3b0 : ((Int.tmod x0_1 2) == 1) = false := beq_eq_false_iff_ne.mpr c3
          have c3b1 : ((Int.tmod x0_1 2) != 1) = true := bne_iff_ne.mpr c3
          have H' := Aside0.mk H
          clear H
          go_wp2
          go_roundg k1
          case measure => have := HK1.out; omega
          case rel => exact ⟨((Int.tdiv x0_1 2) % 4294967296), (wrap64 (x3_1 + 1)), (by first | rfl | (simp; done) | (simp [*]; done)), (by first | rfl | (simp; done) | (simp [*]; done)), H', ⟨by have := HK1.out; omega⟩, by repeat (first | exact Drawn0.refl _ | apply Drawn0.step)⟩
      · rw [if_neg c2] at H
        have c2b0 : decide (x3_1 < 8) = false := decide_eq_false c2
        clear c2
        obtain rfl := Option.some.inj H
        go_wp2
        go_ret
        exact ⟨by first | rfl | (simp; done) | (simp [*]; done), by repeat (first | exact Drawn0.refl _ | apply Drawn0.step)⟩

/-! ### apogeeref04_Sum32: function 13 -/
def apogeeref04_Sum32.l0 : Nat → ByteArray → Int → Int → Option (Int)
  | 0, _, _, _ => none
  | k + 1, x0, x3, x4 => if x4 < (x0.size : Int) then (if 0 ≤ x4 then ((apogeeref04_Step32.f k (Go.bits .xor .u32 x3 ((bt x0 x4) % 4294967296))).bind fun t103 => (apogeeref04_Sum32.l0 k x0 t103 (wrap64 (x4 + 1)))) else (none)) else (some (Go.bits .xor .u32 x3 4294967295))
def apogeeref04_Sum32.f (k : Nat) (a0 : ByteArray) : Option (Int) := apogeeref04_Sum32.l0 k a0 4294967295 0
theorem apogeeref04_Sum32.mono_l : ∀ k, (∀ y0 y1 y2, LeO (apogeeref04_Sum32.l0 k y0 y1 y2) (apogeeref04_Sum32.l0 (k + 1) y0 y1 y2))
  | 0 => fun _ _ _ r h => by simp [apogeeref04_Sum32.l0] at h
  | k + 1 => by
    have ih0 := apogeeref04_Sum32.mono_l k
    · intro y0 y1 y2
      unfold apogeeref04_Sum32.l0
      repeat' first
      | (with_reducible exact ih0 _ _ _)
      | (with_reducible exact apogeeref04_Step32.mono _ _)
      | (with_reducible exact LeO.refl _)
      | (with_reducible exact LeO.none _)
      | (with_reducible refine LeO.ite ?_ ?_)
      | (with_reducible refine LeO.bind ?_ (fun _ => ?_))
      | exact ih0 _ _ _
      | exact apogeeref04_Step32.mono _ _
      | exact LeO.none _
      | refine LeO.ite ?_ ?_
      | refine LeO.bind ?_ (fun _ => ?_)
theorem apogeeref04_Sum32.mono : ∀ a0 k, LeO (apogeeref04_Sum32.f k a0) (apogeeref04_Sum32.f (k + 1) a0) := by
  intro a0 k
  have ih0 := apogeeref04_Sum32.mono_l k
  unfold apogeeref04_Sum32.f
  repeat' first
      | (with_reducible exact ih0 _ _ _)
      | (with_reducible exact apogeeref04_Step32.mono _ _)
      | (with_reducible exact LeO.refl _)
      | (with_reducible exact LeO.none _)
      | (with_reducible refine LeO.ite ?_ ?_)
      | (with_reducible refine LeO.bind ?_ (fun _ => ?_))
      | exact ih0 _ _ _
      | exact apogeeref04_Step32.mono _ _
      | exact LeO.none _
      | refine LeO.ite ?_ ?_
      | refine LeO.bind ?_ (fun _ => ?_)
set_option maxHeartbeats 8000000 in
set_option maxRecDepth 100000 in
theorem apogeeref04_Sum32.calls (k : Nat) (a0 : ByteArray) (r : Int) (w : World) (h : apogeeref04_Sum32.f k a0 = some r) :
    Calls Try.prog 13 #[.string a0] w fun e w' => e = .returned (.int .u32 r) ∧ Drawn0 w w' := by
  have H : (apogeeref04_Sum32.l0 k a0 4294967295 0) = some r := h
  clear h
  have H' := Aside0.mk H
  clear H
  go_enter Try.func13, Try.ntmps13
  go_wp2
  go_loopg [3, 4] k (fun kq v3 v4 w' => ∃ (x3_1 : Int) (x4_1 : Int), v3 = .int .u32 x3_1 ∧ v4 = .int .i64 x4_1 ∧ Aside0 (apogeeref04_Sum32.l0 kq a0 x3_1 x4_1 = some r) ∧ Aside0 (kq ≤ k) ∧ Drawn0 w w')
  case atStart => exact ⟨(4294967295), (0), (by first | rfl | (simp; done) | (simp [*]; done)), (by first | rfl | (simp; done) | (simp [*]; done)), H', ⟨Nat.le_refl _⟩, by repeat (first | exact Drawn0.refl _ | apply Drawn0.step)⟩
  case round =>
    clear H'
    try clear c1
    obtain ⟨x3_1, x4_1, rfl, rfl, HA, HK1, ⟨m1, rfl⟩⟩ := hrel
    cases gk with
    | zero => exact absurd HA.out (by simp [apogeeref04_Sum32.l0])
    | succ k1 =>
      have H := HA.out
      clear HA
      simp only [apogeeref04_Sum32.l0] at H
      by_cases c2 : x4_1 < (a0.size : Int)
      · rw [if_pos c2] at H
        have c2b0 : decide (x4_1 < (a0.size : Int)) = true := decide_eq_true c2
        clear c2
        by_cases c3 : 0 ≤ x4_1
        · rw [if_pos c3] at H
          have c3b0 : decide (0 ≤ x4_1) = true := decide_eq_true c3
          clear c3
          replace H := Option.bind_eq_some_iff.mp H
          obtain ⟨t103, A50, H⟩ := H
          replace H : (apogeeref04_Sum32.l0 k1 a0 t103 (wrap64 (x4_1 + 1))) = some r := H
          have A5 := Aside0.mk A50
          clear A50
          have H' := Aside0.mk H
          clear H
          have p4 : 0 ≤ (x4_1 : Int) := of_decide_eq_true (by first | (with_reducible assumption) | assumption)
          have q4 : x4_1 < (a0.size : Int) := of_decide_eq_true (by first | (with_reducible assumption) | assumption)
          have hx4 := bt_at a0 x4_1
          replace p4 := eq_true p4
          replace q4 := eq_true q4
          go_wp2_with (first | ((with_reducible refine gate_callee (f := 19) rfl ?_); refine goesL_ (some 17) rfl rfl Try.func19 (by kernel_rfl) rfl #[.int .u32 (Go.bits .xor .u32 x3_1 ((bt a0 x4_1) % 4294967296))] rfl (by (try simp only [List.map_toArray, List.map_cons, List.map_nil]); first | done | rfl | (simp only [List.length_drop, List.length_take]; rfl)) ?_; (with_reducible refine (apogeeref04_Step32.calls k1 (Go.bits .xor .u32 x3_1 ((bt a0 x4_1) % 4294967296)) t103 _ A5.out).mono ?_); rintro e w' ⟨rfl, ⟨nd, rfl⟩⟩; refine ⟨_, rfl, ?_⟩))
          go_roundg k1
          case measure => have := HK1.out; omega
          case rel => exact ⟨(t103), (wrap64 (x4_1 + 1)), (by first | rfl | (simp; done) | (simp [*]; done)), (by first | rfl | (simp; done) | (simp [*]; done)), H', ⟨by have := HK1.out; omega⟩, by repeat (first | exact Drawn0.refl _ | apply Drawn0.step)⟩
        · rw [if_neg c3] at H
          exact absurd H (by simp)
      · rw [if_neg c2] at H
        have c2b0 : decide (x4_1 < (a0.size : Int)) = false := decide_eq_false c2
        clear c2
        obtain rfl := Option.some.inj H
        go_wp2
        go_ret
        exact ⟨by first | rfl | (simp; done) | (simp [*]; done), by repeat (first | exact Drawn0.refl _ | apply Drawn0.step)⟩

/-! ### apogeelaw04_CrcTells: function 3 -/
def apogeelaw04_CrcTells.f : Option Bool := some true
theorem apogeelaw04_CrcTells.calls : True := trivial

/-! ### apogeelaw04_CrcGoes: function 4 -/
def apogeelaw04_CrcGoes.f : Option Bool := some true
theorem apogeelaw04_CrcGoes.calls : True := trivial

/-! ### apogeelaw04_CrcEnds: function 7 -/
def apogeelaw04_CrcEnds.f : Option Bool := some true
theorem apogeelaw04_CrcEnds.calls : True := trivial

/-! ### apogeelaw04_CrcRows: function 5 -/
def apogeelaw04_CrcRows.f : Option Bool := some true
theorem apogeelaw04_CrcRows.calls : True := trivial

/-! ### apogeelaw04_CrcBits: function 6 -/
def apogeelaw04_CrcBits.f : Option Bool := some true
theorem apogeelaw04_CrcBits.calls : True := trivial

-- NOT PRINTED: function 22 (crc_Table_Sum32)

/-! ### apogeelaw04_CrcTables: function 8 -/
def apogeelaw04_CrcTables.f : Option Bool := some true
theorem apogeelaw04_CrcTables.calls : True := trivial

end Go.Proofs.Ytihbahomnepieaa.PCrc

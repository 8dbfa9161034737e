/- A table's rows are the document's, and linear: the walk; sums by rows are sums by steps: the walk. -/
import Derived.Test.YtihbahomnepieaaTab3
import Derived.Test.YtihbahomnepieaaCrc16
import Derived.Test.YtihbahomnepieaaRCrc
namespace Go.Proofs.Ytihbahomnepieaa.Hand
open Go.RowKit Go.Proofs.YtihbahomnepieaaW.PrintWords Go.Proofs.YtihbahomnepieaaW.PrintLast Go.Proofs.YtihbahomnepieaaW.PrintMore Go.Proofs.Ytihbahomnepieaa.PCrc Go.Proofs.Ytihbahomnepieaa.Tab Go.Proofs.Ytihbahomnepieaa.Plain
set_option linter.unusedVariables false

theorem did_drewN {r16 r32 : Nat → Int} {w : World} {b : Nat} (h : Did r16 r32 w b) (m : Nat) : Did r16 r32 (w.drewN m) b := Tab.drewN h m
theorem did_below {r16 r32 : Nat → Int} {w w' : World} {b B : Nat} (h : Did r16 r32 w b) (hb : Below B w w') (hB : b < B) : Did r16 r32 w' b := Tab.below h hb hB
theorem did_lt {r16 r32 : Nat → Int} {w : World} {b : Nat} (h : Did r16 r32 w b) : b < w.heap.size := Tab.lt h
theorem F16_xor (a b : BitVec 16) : F16 (a ^^^ b) = F16 a ^^^ F16 b := by
  unfold F16
  rw [BitVec.msb_xor, BitVec.shiftLeft_xor_distrib]
  cases a.msb <;> cases b.msb <;> simp
  · rw [BitVec.xor_assoc]
  · rw [BitVec.xor_assoc, BitVec.xor_assoc, BitVec.xor_comm (b <<< 1)]
  · rw [BitVec.xor_assoc, ← BitVec.xor_assoc (0x1021#16), BitVec.xor_comm (0x1021#16), BitVec.xor_assoc, BitVec.xor_self, BitVec.xor_zero]
theorem F16s_xor (n : Nat) : ∀ a b, F16s n (a ^^^ b) = F16s n a ^^^ F16s n b := by
  induction n with
  | zero => intro a b; rfl
  | succ n ih => intro a b; unfold F16s; rw [F16_xor, ih]
theorem half_xor (a b : BitVec 32) : half (a ^^^ b) = half a ^^^ half b := by
  have e : ∀ x : BitVec 32, half x = if x.getLsbD 0 then (x >>> 1) ^^^ 3988292384#32 else x >>> 1 := by
    intro x
    have h0 : x.getLsbD 0 = decide (x.toNat % 2 = 1) := by rw [BitVec.getLsbD, Nat.testBit_zero]
    unfold half I
    rw [h0]
    by_cases c : x.toNat % 2 = 1
    · rw [if_neg (by omega), if_pos (by simp [c])]
    · rw [if_pos (by omega), if_neg (by simp [c])]
  rw [e, e, e, BitVec.getLsbD_xor, BitVec.ushiftRight_xor_distrib]
  cases a.getLsbD 0 <;> cases b.getLsbD 0 <;> simp
  · rw [BitVec.xor_assoc]
  · rw [BitVec.xor_assoc, BitVec.xor_assoc, BitVec.xor_comm (b >>> 1)]
  · rw [BitVec.xor_assoc, ← BitVec.xor_assoc (3988292384#32), BitVec.xor_comm (3988292384#32), BitVec.xor_assoc, BitVec.xor_self, BitVec.xor_zero]
theorem stn_xor (n : Nat) : ∀ a b, stn n (a ^^^ b) = stn n a ^^^ stn n b := by
  induction n with
  | zero => intro a b; rfl
  | succ n ih => intro a b; unfold stn; rw [half_xor, ih]
/-- A row's place, as the number that is stepped. -/
def A16 (j : Nat) : BitVec 16 := BitVec.ofNat 16 (j * 256)
theorem R16_eq (j : Nat) (h : j < 256) : R16 j = J (F16s 8 (A16 j)) := by
  have e : (j : Int) * 256 = J (A16 j) := by unfold J A16; rw [BitVec.toNat_ofNat]; omega
  unfold R16
  rw [e, show (9 : Nat) = 0 + 9 from rfl, step16_ok]
  rfl
theorem R32_eq (j : Nat) (h : j < 256) : R32 j = I (st (BitVec.ofNat 32 j)) := by
  have e : (j : Int) = I (BitVec.ofNat 32 j) := by unfold I; rw [BitVec.toNat_ofNat]; omega
  unfold R32
  rw [e, show (9 : Nat) = 0 + 9 from rfl, step_ok]
  rfl
theorem A16_xor (a b : Nat) (ha : a < 256) (hb : b < 256) : A16 (a ^^^ b) = A16 a ^^^ A16 b := by
  apply BitVec.eq_of_toNat_eq
  have hx : a ^^^ b < 256 := Nat.xor_lt_two_pow (n := 8) ha hb
  unfold A16
  rw [BitVec.toNat_xor, BitVec.toNat_ofNat, BitVec.toNat_ofNat, BitVec.toNat_ofNat, Nat.mod_eq_of_lt (by omega), Nat.mod_eq_of_lt (by omega), Nat.mod_eq_of_lt (by omega)]
  have := Nat.shiftLeft_xor_distrib (a := a) (b := b) (i := 8)
  simpa [Nat.shiftLeft_eq] using this
theorem rows_xor16 (a b : Nat) (ha : a < 256) (hb : b < 256) : Go.bits .xor .u16 (R16 a) (R16 b) = R16 (a ^^^ b) := by
  rw [R16_eq a ha, R16_eq b hb, xor16, R16_eq _ (Nat.xor_lt_two_pow (n := 8) ha hb), A16_xor a b ha hb, F16s_xor]
theorem rows_xor32 (a b : Nat) (ha : a < 256) (hb : b < 256) : Go.bits .xor .u32 (R32 a) (R32 b) = R32 (a ^^^ b) := by
  have e : BitVec.ofNat 32 (a ^^^ b) = BitVec.ofNat 32 a ^^^ BitVec.ofNat 32 b := by
    apply BitVec.eq_of_toNat_eq
    have hx : a ^^^ b < 256 := Nat.xor_lt_two_pow (n := 8) ha hb
    rw [BitVec.toNat_xor, BitVec.toNat_ofNat, BitVec.toNat_ofNat, BitVec.toNat_ofNat, Nat.mod_eq_of_lt (by omega), Nat.mod_eq_of_lt (by omega), Nat.mod_eq_of_lt (by omega)]
  rw [R32_eq a ha, R32_eq b hb, xor32, R32_eq _ (Nat.xor_lt_two_pow (n := 8) ha hb), e]
  unfold st
  rw [stn_xor]
theorem xor_places (a b : Nat) (ha : a < 256) (hb : b < 256) : Go.bits .xor .i64 (a : Int) (b : Int) = ((a ^^^ b : Nat) : Int) := by
  have hx : a ^^^ b < 256 := Nat.xor_lt_two_pow (n := 8) ha hb
  show IntKind.i64.wrap (((BitVec.ofInt 64 (a : Int) ^^^ BitVec.ofInt 64 (b : Int)).toNat : Nat) : Int) = _
  rw [BitVec.ofInt_natCast, BitVec.ofInt_natCast, BitVec.toNat_xor, BitVec.toNat_ofNat, BitVec.toNat_ofNat, Nat.mod_eq_of_lt (by omega), Nat.mod_eq_of_lt (by omega), IntKind.wrap_i64]
  omega

set_option maxHeartbeats 4000000 in
set_option maxRecDepth 100000 in
theorem CrcRows_walk (a0 a1 : Int) (w : World) (w0 : (Lit.int .i64 a0).wf = true) (w1 : (Lit.int .i64 a1).wf = true) :
    Calls Try.prog 5 #[.int .i64 a0, .int .i64 a1] w fun e w' => e = .returned (.bool true) ∧ Below w.heap.size w w' := by
  have HB := Aside0.mk (Below.refl w.heap.size w)
  have ha := mask8 a0
  have hb := mask8 a1
  obtain ⟨x, hx⟩ : ∃ x : Nat, a0 % 256 = (x : Int) := ⟨(a0 % 256).toNat, by omega⟩
  obtain ⟨y, hy⟩ : ∃ y : Nat, a1 % 256 = (y : Int) := ⟨(a1 % 256).toNat, by omega⟩
  rw [hx] at ha
  rw [hy] at hb
  have hx1 : x < 256 := by omega
  have hy1 : y < 256 := by omega
  have hz1 : x ^^^ y < 256 := Nat.xor_lt_two_pow (n := 8) hx1 hy1
  have hp := xor_places x y hx1 hy1
  have q1 := rows_xor16 x y hx1 hy1
  have q2 := rows_xor32 x y hx1 hy1
  have rows_okA : Aside0 (Tab.Rows R16 R32) := ⟨rows_ok⟩
  have q1' : (R16 (x ^^^ y) != R16 (x ^^^ y)) = false := by simp
  by_cases hin : 0 ≤ a0 ∧ a0 < 256
  · obtain ⟨i0, i1⟩ := hin
    obtain rfl : a0 = (x : Int) := by omega
    have k1 : Aside0 (apogeeref04_Step16.f 9 ((x : Int) * 256) = some (R16 x)) := ⟨by
      rw [R16_eq x hx1, show (x : Int) * 256 = J (A16 x) by unfold J A16; rw [BitVec.toNat_ofNat]; omega]; exact ref16_ok 0 _⟩
    have k2 : Aside0 (apogeeref04_Step32.f 9 (x : Int) = some (R32 x)) := ⟨by
      rw [R32_eq x hx1]; conv => lhs; rw [show (x : Int) = I (BitVec.ofNat 32 x) by unfold I; rw [BitVec.toNat_ofNat]; omega]
      exact ref_ok 0 _⟩
    clear hx hy w0 w1
    go_enter Try.func5, Try.ntmps5
    go_wp2_with (first
      | (go_at_call 15; refine (new (r16 := R16) (r32 := R32) _).mono ?_; rintro e w1 ⟨rfl, HT, HB⟩)
      | (go_at_call 9; refine (awake_true _).mono ?_; rintro e w1 ⟨rfl, hb⟩; have HT := Aside0.mk (Tab.below HT.out hb HT.out.lt); have HB := Aside0.mk (HB.out.trans (hb.mono HB.out.size)); clear hb)
      | (go_at_call 16; (first | (with_reducible refine (row16 rows_okA (may_new HT) x hx1).mono ?_) | (with_reducible refine (row16 rows_okA (may_did HT) x hx1).mono ?_) | (with_reducible refine (row16 rows_okA (may_did HT) y hy1).mono ?_) | (with_reducible refine (row16 rows_okA (may_did HT) (x ^^^ y) hz1).mono ?_)); rintro e w2 ⟨rfl, HT, hg⟩; have HB := Aside0.mk (HB.out.trans hg.out); clear hg)
      | (go_at_call 17; (first | (with_reducible refine (row32 rows_okA (may_did HT) x hx1).mono ?_) | (with_reducible refine (row32 rows_okA (may_did HT) y hy1).mono ?_) | (with_reducible refine (row32 rows_okA (may_did HT) (x ^^^ y) hz1).mono ?_)); rintro e w2 ⟨rfl, HT, hg⟩; have HB := Aside0.mk (HB.out.trans hg.out); clear hg)
      | (go_at_call 18; (with_reducible refine (apogeeref04_Step16.calls 9 _ _ _ k1.out).mono ?_); rintro e w1 ⟨rfl, m, rfl⟩; have HT := Aside0.mk (did_drewN HT.out m); have HB := Aside0.mk (pw_below_drewN HB.out m))
      | (go_at_call 19; (with_reducible refine (apogeeref04_Step32.calls 9 _ _ _ k2.out).mono ?_); rintro e w1 ⟨rfl, m, rfl⟩; have HT := Aside0.mk (did_drewN HT.out m); have HB := Aside0.mk (pw_below_drewN HB.out m)))
    go_ret
    exact ⟨rfl, HB.out⟩
  · by_cases i0 : 0 ≤ a0
    · have i1 : 256 ≤ a0 := by omega
      have i2 : ¬ a0 < 256 := by omega
      have ho : Aside0 (a0 < 0 ∨ 256 ≤ a0) := ⟨Or.inr i1⟩
      clear hx hy w0 w1 hin
      go_enter Try.func5, Try.ntmps5
      go_wp2_with (first
      | (go_at_call 15; refine (new (r16 := R16) (r32 := R32) _).mono ?_; rintro e w1 ⟨rfl, HT, HB⟩)
      | (go_at_call 9; refine (awake_true _).mono ?_; rintro e w1 ⟨rfl, hb⟩; have HT := Aside0.mk (Tab.below HT.out hb HT.out.lt); have HB := Aside0.mk (HB.out.trans (hb.mono HB.out.size)); clear hb)
      | (go_at_call 16; (first | (with_reducible refine (row16 rows_okA (may_new HT) x hx1).mono ?_) | (with_reducible refine (row16 rows_okA (may_did HT) x hx1).mono ?_) | (with_reducible refine (row16 rows_okA (may_did HT) y hy1).mono ?_) | (with_reducible refine (row16 rows_okA (may_did HT) (x ^^^ y) hz1).mono ?_)); rintro e w2 ⟨rfl, HT, hg⟩; have HB := Aside0.mk (HB.out.trans hg.out); clear hg)
      | (go_at_call 17; (first | (with_reducible refine (row32 rows_okA (may_did HT) x hx1).mono ?_) | (with_reducible refine (row32 rows_okA (may_did HT) y hy1).mono ?_) | (with_reducible refine (row32 rows_okA (may_did HT) (x ^^^ y) hz1).mono ?_)); rintro e w2 ⟨rfl, HT, hg⟩; have HB := Aside0.mk (HB.out.trans hg.out); clear hg)
      | (go_at_call 16; (with_reducible refine (row16_off a0 ho.out _ _).mono ?_); rintro e w' ⟨rfl, rfl⟩)
      | (go_at_call 17; (with_reducible refine (row32_off a0 ho.out _ _).mono ?_); rintro e w' ⟨rfl, rfl⟩))
      go_ret
      exact ⟨rfl, HB.out⟩
    · have i1 : a0 < 0 := by omega
      have ho : Aside0 (a0 < 0 ∨ 256 ≤ a0) := ⟨Or.inl i1⟩
      clear hx hy w0 w1 hin
      go_enter Try.func5, Try.ntmps5
      go_wp2_with (first
      | (go_at_call 15; refine (new (r16 := R16) (r32 := R32) _).mono ?_; rintro e w1 ⟨rfl, HT, HB⟩)
      | (go_at_call 9; refine (awake_true _).mono ?_; rintro e w1 ⟨rfl, hb⟩; have HT := Aside0.mk (Tab.below HT.out hb HT.out.lt); have HB := Aside0.mk (HB.out.trans (hb.mono HB.out.size)); clear hb)
      | (go_at_call 16; (first | (with_reducible refine (row16 rows_okA (may_new HT) x hx1).mono ?_) | (with_reducible refine (row16 rows_okA (may_did HT) x hx1).mono ?_) | (with_reducible refine (row16 rows_okA (may_did HT) y hy1).mono ?_) | (with_reducible refine (row16 rows_okA (may_did HT) (x ^^^ y) hz1).mono ?_)); rintro e w2 ⟨rfl, HT, hg⟩; have HB := Aside0.mk (HB.out.trans hg.out); clear hg)
      | (go_at_call 17; (first | (with_reducible refine (row32 rows_okA (may_did HT) x hx1).mono ?_) | (with_reducible refine (row32 rows_okA (may_did HT) y hy1).mono ?_) | (with_reducible refine (row32 rows_okA (may_did HT) (x ^^^ y) hz1).mono ?_)); rintro e w2 ⟨rfl, HT, hg⟩; have HB := Aside0.mk (HB.out.trans hg.out); clear hg)
      | (go_at_call 16; (with_reducible refine (row16_off a0 ho.out _ _).mono ?_); rintro e w' ⟨rfl, rfl⟩)
      | (go_at_call 17; (with_reducible refine (row32_off a0 ho.out _ _).mono ?_); rintro e w' ⟨rfl, rfl⟩))
      go_ret
      exact ⟨rfl, HB.out⟩
end Go.Proofs.Ytihbahomnepieaa.Hand

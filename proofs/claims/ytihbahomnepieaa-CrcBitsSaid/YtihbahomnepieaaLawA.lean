/- Three statements on sums: their walks. -/
import Derived.Test.YtihbahomnepieaaTab3
import Derived.Test.YtihbahomnepieaaCrc16
import Derived.Test.YtihbahomnepieaaRCrc
namespace Go.Proofs.Ytihbahomnepieaa.Hand
open Go.RowKit Go.Proofs.YtihbahomnepieaaW.PrintWords Go.Proofs.YtihbahomnepieaaW.PrintLast Go.Proofs.YtihbahomnepieaaW.PrintMore Go.Proofs.Ytihbahomnepieaa.PCrc Go.Proofs.Ytihbahomnepieaa.Tab Go.Proofs.Ytihbahomnepieaa.Plain

set_option maxHeartbeats 4000000 in
set_option maxRecDepth 100000 in
theorem CrcTells_walk (a0 : ByteArray) (a1 : Int) (w : World) (w0 : a0.size ≤ 140737488351232) (w1 : (Lit.int .u16 a1).wf = true) :
    Calls Try.prog 3 #[.string a0, .int .u16 a1] w fun e w' => e = .returned (.bool true) ∧ Below w.heap.size w w' := by
  have HB := Aside0.mk (Below.refl w.heap.size w)
  have hx := wf_u16 w1
  clear w1
  by_cases h : a0.size ≤ 2000
  · have k1 := Aside0.mk (sum16_ok a0 (by omega) 3000 (by omega))
    have k2 := Aside0.mk (rmore_ok 65535#16 a0 (by omega) 3000 (by omega))
    rw [← ones16] at k2
    have k3 := Aside0.mk (sum_ok a0 (by omega) 3000 (by omega))
    have k4 := Aside0.mk (rsum_ok a0 (by omega) 3000 (by omega))
    have hj := J_of hx.1 hx.2
    have k5 := more_ok (BitVec.ofNat 16 a1.toNat) a0 (by omega) 3000 (by omega)
    have k6 := rmore_ok (BitVec.ofNat 16 a1.toNat) a0 (by omega) 3000 (by omega)
    rw [← hj] at k5 k6
    have k5 := Aside0.mk k5
    have k6 := Aside0.mk k6
    have h1 : ¬ (2000 : Int) < (a0.size : Int) := by omega
    have h2 : ¬ (a0.size : Int) > 2000 := by omega
    clear hj hx h
    generalize J (gon16 65535#16 (B a0)) = r1 at *
    generalize I (sum (L a0)) = r2 at *
    generalize J (gon16 (BitVec.ofNat 16 a1.toNat) (B a0)) = r3 at *
    go_enter Try.func3, Try.ntmps3
    go_wp2_with (first
      | (go_at_call 9; refine (awake_true _).mono ?_; rintro e w1 ⟨rfl, hb⟩; have HB := Aside0.mk (HB.out.trans (hb.mono HB.out.size)); clear hb)
      | (go_at_call 10; (with_reducible refine (crc_Sum16.calls 3000 _ _ _ k1.out).mono ?_); rintro e w1 ⟨rfl, hb⟩; have HB := Aside0.mk (HB.out.trans (hb.mono HB.out.size)); clear hb)
      | (go_at_call 12; (with_reducible refine (crc_Sum32.calls 3000 _ _ _ k3.out).mono ?_); rintro e w1 ⟨rfl, hb⟩; have HB := Aside0.mk (HB.out.trans (hb.mono HB.out.size)); clear hb)
      | (go_at_call 14; (with_reducible refine (crc_More16.calls 3000 _ _ _ _ k5.out).mono ?_); rintro e w1 ⟨rfl, hb⟩; have HB := Aside0.mk (HB.out.trans (hb.mono HB.out.size)); clear hb)
      | (go_at_call 11; (with_reducible refine (apogeeref04_More16.calls 3000 _ _ _ _ k2.out).mono ?_); rintro e w1 ⟨rfl, m, rfl⟩; have HB := Aside0.mk (pw_below_drewN HB.out m))
      | (go_at_call 11; (with_reducible refine (apogeeref04_More16.calls 3000 _ _ _ _ k6.out).mono ?_); rintro e w1 ⟨rfl, m, rfl⟩; have HB := Aside0.mk (pw_below_drewN HB.out m))
      | (go_at_call 13; (with_reducible refine (apogeeref04_Sum32.calls 3000 _ _ _ k4.out).mono ?_); rintro e w1 ⟨rfl, m, rfl⟩; have HB := Aside0.mk (pw_below_drewN HB.out m)))
    go_ret
    exact ⟨rfl, HB.out⟩
  · have h1 : (2000 : Int) < (a0.size : Int) := by omega
    have h2 : (a0.size : Int) > 2000 := by omega
    clear hx h
    go_enter Try.func3, Try.ntmps3
    go_wp2_with (go_at_call 9; refine (awake_true _).mono ?_; rintro e w1 ⟨rfl, hb⟩; have HB := Aside0.mk (HB.out.trans (hb.mono HB.out.size)); clear hb)
    go_ret
    exact ⟨rfl, HB.out⟩

theorem B_append (s t : ByteArray) : B (s ++ t) = B s ++ B t := by
  unfold B
  rw [← List.map_append]
  congr 1
set_option maxHeartbeats 4000000 in
set_option maxRecDepth 100000 in
theorem CrcGoes_walk (a0 a1 : ByteArray) (w : World) (w0 : a0.size ≤ 140737488351232) (w1 : a1.size ≤ 140737488351232) :
    Calls Try.prog 4 #[.string a0, .string a1] w fun e w' => e = .returned (.bool true) ∧ Below w.heap.size w w' := by
  have HB := Aside0.mk (Below.refl w.heap.size w)
  by_cases h : a0.size + a1.size ≤ 2000
  · have k1 := Aside0.mk (sum16_ok a0 (by omega) 3000 (by omega))
    have k2 := Aside0.mk (more_ok (gon16 65535#16 (B a0)) a1 (by omega) 3000 (by omega))
    have k3 := sum16_ok (a0 ++ a1) (by rw [ByteArray.size_append]; omega) 3000 (by rw [ByteArray.size_append]; omega)
    rw [B_append, gon16_append] at k3
    have k3 := Aside0.mk k3
    have h1 : ¬ (2000 : Int) < (a0.size : Int) + (a1.size : Int) := by omega
    have h2 : ¬ (a0.size : Int) + (a1.size : Int) > 2000 := by omega
    clear h
    generalize J (gon16 (gon16 65535#16 (B a0)) (B a1)) = r2 at *
    generalize J (gon16 65535#16 (B a0)) = r1 at *
    go_enter Try.func4, Try.ntmps4
    go_wp2_with (first
      | (go_at_call 9; refine (awake_true _).mono ?_; rintro e w1 ⟨rfl, hb⟩; have HB := Aside0.mk (HB.out.trans (hb.mono HB.out.size)); clear hb)
      | (go_at_call 10; (with_reducible refine (crc_Sum16.calls 3000 _ _ _ k1.out).mono ?_); rintro e w1 ⟨rfl, hb⟩; have HB := Aside0.mk (HB.out.trans (hb.mono HB.out.size)); clear hb)
      | (go_at_call 10; (with_reducible refine (crc_Sum16.calls 3000 _ _ _ k3.out).mono ?_); rintro e w1 ⟨rfl, hb⟩; have HB := Aside0.mk (HB.out.trans (hb.mono HB.out.size)); clear hb)
      | (go_at_call 14; (with_reducible refine (crc_More16.calls 3000 _ _ _ _ k2.out).mono ?_); rintro e w1 ⟨rfl, hb⟩; have HB := Aside0.mk (HB.out.trans (hb.mono HB.out.size)); clear hb))
    go_ret
    exact ⟨rfl, HB.out⟩
  · have h1 : (2000 : Int) < (a0.size : Int) + (a1.size : Int) := by omega
    have h2 : (a0.size : Int) + (a1.size : Int) > 2000 := by omega
    clear h
    go_enter Try.func4, Try.ntmps4
    go_wp2_with (go_at_call 9; refine (awake_true _).mono ?_; rintro e w1 ⟨rfl, hb⟩; have HB := Aside0.mk (HB.out.trans (hb.mono HB.out.size)); clear hb)
    go_ret
    exact ⟨rfl, HB.out⟩

theorem lowF (c : BitVec 8) : F16s 8 (c.setWidth 16) = c.setWidth 16 <<< 8 := by
  revert c
  decide
theorem F16s_zero : F16s 8 0#16 = 0#16 := by decide
theorem ends (x : BitVec 16) : gon16 x [x.toNat / 256, x.toNat % 256] = 0#16 := by
  rw [gon16_cons, gon16_cons, gon16_nil]
  have e : x ^^^ (((BitVec.ofNat 8 (x.toNat / 256)).setWidth 16) <<< 8) = (BitVec.ofNat 8 (x.toNat % 256)).setWidth 16 := by
    apply BitVec.eq_of_toNat_eq
    have hx := x.isLt
    rw [BitVec.toNat_xor, BitVec.toNat_shiftLeft, BitVec.toNat_setWidth, BitVec.toNat_setWidth, BitVec.toNat_ofNat, BitVec.toNat_ofNat, Nat.shiftLeft_eq]
    have e1 : x.toNat / 256 % 2 ^ 8 % 2 ^ 16 * 2 ^ 8 % 2 ^ 16 = x.toNat / 2 ^ 8 * 2 ^ 8 := by omega
    have e2 : x.toNat % 256 % 2 ^ 8 % 2 ^ 16 = x.toNat % 2 ^ 8 := by omega
    rw [e1, e2]
    apply Nat.eq_of_testBit_eq
    intro i
    rw [Nat.testBit_xor, Nat.testBit_mod_two_pow, ← Nat.shiftLeft_eq, Nat.testBit_shiftLeft, Nat.testBit_div_two_pow]
    by_cases hi : i < 8
    · rw [decide_eq_false (by omega : ¬ i ≥ 8), decide_eq_true hi]; simp
    · rw [decide_eq_true (by omega : i ≥ 8), decide_eq_false hi, show i - 8 + 8 = i by omega]; simp
  rw [e, lowF, BitVec.xor_self, F16s_zero]
/-- Bytes that lie in memory, as a text. -/
theorem str_of_brow {w : World} {g : Nat} {l : List Int} (h : BRow w g l) (n c : Nat) (hn : l.length = n) : (convert 38 9 (.slice (some ⟨g, 0, none⟩) n c)).run Try.prog w = .ok (.string (strOfNums l)) w :=
  run_convert_bytes_arg w 38 5 Try.underlying38 Try.underlying5 g 0 n c l hn (fun i hi => by rw [Nat.zero_add]; exact (h i (by omega)).1) 9 Try.underlying9
theorem B_str (l : List Int) (h : ∀ x ∈ l, 0 ≤ x ∧ x < 256) : B (strOfNums l) = l.map Int.toNat := by
  unfold B strOfNums
  simp only [List.map_map]
  apply List.map_congr_left
  intro x hx
  have := h x hx
  simp
  omega
theorem str_size (l : List Int) : (strOfNums l).size = l.length := by
  rw [← data_length]
  unfold strOfNums
  simp
theorem cells2 (a b : Int) (w : World) : BRow (w.alloc (.cells #[.int .u8 a, .int .u8 b] 5)) w.heap.size [a, b] := by
  intro j hj
  refine ⟨?_, frozen_new _ _ _ _⟩
  rw [cell_new]
  match j, hj with
  | 0, _ => rfl
  | 1, _ => rfl
theorem ends_ok (a0 : ByteArray) (h : a0.size ≤ 2000) : crc_Sum16.f 3000 (a0 ++ strOfNums [J (gon16 65535#16 (B a0)) / 256, J (gon16 65535#16 (B a0)) % 256]) = some 0 := by
  have hr := J_lt (gon16 65535#16 (B a0))
  have hB := B_str [J (gon16 65535#16 (B a0)) / 256, J (gon16 65535#16 (B a0)) % 256] (by intro x hx; simp at hx; omega)
  have hs : (strOfNums [J (gon16 65535#16 (B a0)) / 256, J (gon16 65535#16 (B a0)) % 256]).size = 2 := by rw [← B_len, hB]; rfl
  rw [sum16_ok _ (by rw [ByteArray.size_append, hs]; omega) 3000 (by rw [ByteArray.size_append, hs]; omega), B_append, gon16_append, hB]
  generalize gon16 65535#16 (B a0) = x
  have e : [J x / 256, J x % 256].map Int.toNat = [x.toNat / 256, x.toNat % 256] := by
    unfold J
    simp only [List.map_cons, List.map_nil]
    congr 1
  rw [e, ends]
  rfl
set_option maxHeartbeats 4000000 in
set_option maxRecDepth 100000 in
theorem CrcEnds_walk (a0 : ByteArray) (w : World) (w0 : a0.size ≤ 140737488351232) :
    Calls Try.prog 7 #[.string a0] w fun e w' => e = .returned (.bool true) ∧ Below w.heap.size w w' := by
  have HB := Aside0.mk (Below.refl w.heap.size w)
  by_cases h : a0.size ≤ 2000
  · have k1 := Aside0.mk (sum16_ok a0 (by omega) 3000 (by omega))
    have h1 : ¬ (2000 : Int) < (a0.size : Int) := by omega
    have h2 : ¬ (a0.size : Int) > 2000 := by omega
    have hr := J_lt (gon16 65535#16 (B a0))
    have hr0 := hr.1
    have hr1 := hr.2
    have k2 := Aside0.mk (ends_ok a0 h)
    clear h hr
    generalize J (gon16 65535#16 (B a0)) = r1 at *
    have hsz : (strOfNums [r1 / 256, r1 % 256]).size ≤ 2 := by rw [str_size]; exact Nat.le_refl _
    have hcv := fun (w1 : World) => str_of_brow (cells2 (r1 / 256) (r1 % 256) w1) 2 2 rfl
    go_enter Try.func7, Try.ntmps7
    go_wp2_with (first
      | (go_at_call 9; refine (awake_true _).mono ?_; rintro e w1 ⟨rfl, hb⟩; have HB := Aside0.mk (HB.out.trans (hb.mono HB.out.size)); clear hb)
      | (go_at_call 10; (with_reducible refine (crc_Sum16.calls 3000 _ _ _ k1.out).mono ?_); rintro e w1 ⟨rfl, hb⟩; have HB := Aside0.mk (HB.out.trans (hb.mono HB.out.size)); clear hb)
      | (go_at_call 10; (with_reducible refine (crc_Sum16.calls 3000 _ _ _ k2.out).mono ?_); rintro e w2 ⟨rfl, hb⟩; have HB := Aside0.mk (Below.trans (Below.alloc HB.out HB.out.size _) (hb.mono (by have := HB.out.size; simp; omega))); clear hb))
    go_ret
    exact ⟨rfl, HB.out⟩
  · have h1 : (2000 : Int) < (a0.size : Int) := by omega
    have h2 : (a0.size : Int) > 2000 := by omega
    clear h
    go_enter Try.func7, Try.ntmps7
    go_wp2_with (go_at_call 9; refine (awake_true _).mono ?_; rintro e w1 ⟨rfl, hb⟩; have HB := Aside0.mk (HB.out.trans (hb.mono HB.out.size)); clear hb)
    go_ret
    exact ⟨rfl, HB.out⟩
end Go.Proofs.Ytihbahomnepieaa.Hand

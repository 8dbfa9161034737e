/- The rows; what 'awake' answers. -/
import Derived.Test.YtihbahomnepieaaTab2
import Derived.Test.YtihbahomnepieaaPCrcx1
namespace Go.Proofs.Ytihbahomnepieaa.Tab
open Go.RowKit Go.Proofs.YtihbahomnepieaaW.PrintWords Go.Proofs.YtihbahomnepieaaW.PrintLast Go.Proofs.YtihbahomnepieaaW.PrintMore Go.Proofs.Ytihbahomnepieaa.PCrc

def R16 (j : Nat) : Int := (crc_step16.f 9 ((j : Int) * 256)).getD 0
def R32 (j : Nat) : Int := (crc_step32.f 9 (j : Int)).getD 0
theorem step16_some (n : Nat) : ∀ (k : Nat) (x i : Int), 0 ≤ i → i + n = 8 → n < k → ∃ r, crc_step16.l0 k x i = some r := by
  induction n with
  | zero =>
    intro k x i h0 hi hk
    obtain ⟨k, rfl⟩ : ∃ m, k = m + 1 := ⟨k - 1, by omega⟩
    exact ⟨x, by rw [crc_step16.l0, if_neg (by omega)]⟩
  | succ n ih =>
    intro k x i h0 hi hk
    obtain ⟨k, rfl⟩ : ∃ m, k = m + 1 := ⟨k - 1, by omega⟩
    have e : wrap64 (i + 1) = i + 1 := by unfold wrap64; omega
    rw [crc_step16.l0, if_pos (by omega), e]
    split
    · exact ih k _ _ (by omega) (by omega) (by omega)
    · exact ih k _ _ (by omega) (by omega) (by omega)
theorem step32_some (n : Nat) : ∀ (k : Nat) (x i : Int), 0 ≤ i → i + n = 8 → n < k → ∃ r, crc_step32.l0 k x i = some r := by
  induction n with
  | zero =>
    intro k x i h0 hi hk
    obtain ⟨k, rfl⟩ : ∃ m, k = m + 1 := ⟨k - 1, by omega⟩
    exact ⟨x, by rw [crc_step32.l0, if_neg (by omega)]⟩
  | succ n ih =>
    intro k x i h0 hi hk
    obtain ⟨k, rfl⟩ : ∃ m, k = m + 1 := ⟨k - 1, by omega⟩
    have e : wrap64 (i + 1) = i + 1 := by unfold wrap64; omega
    rw [crc_step32.l0, if_pos (by omega), e]
    split
    · exact ih k _ _ (by omega) (by omega) (by omega)
    · exact ih k _ _ (by omega) (by omega) (by omega)
theorem rows_ok : Rows R16 R32 := by
  intro j hj
  obtain ⟨r, hr⟩ := step16_some 8 9 ((j : Int) * 256) 0 (by omega) (by omega) (by omega)
  obtain ⟨q, hq⟩ := step32_some 8 9 (j : Int) 0 (by omega) (by omega) (by omega)
  have hr' : crc_step16.f 9 ((j : Int) * 256) = some r := hr
  have hq' : crc_step32.f 9 (j : Int) = some q := hq
  unfold R16 R32
  rw [hr', hq']
  exact ⟨rfl, rfl⟩
def s9 : ByteArray := { data := #[49, 50, 51, 52, 53, 54, 55, 56, 57] }
def s0 : ByteArray := { data := #[] }
theorem a1 : crc_Sum16.f 100 s9 = some 10673 := by kernel_rfl
theorem a2 : crc_Sum32.f 100 s9 = some 3421780262 := by kernel_rfl
theorem a3 : crc_Sum16.f 100 s0 = some 65535 := by kernel_rfl
theorem a4 : crc_Sum32.f 100 s0 = some 0 := by kernel_rfl
theorem a5 : R16 1 = 4129 := by kernel_rfl
theorem a6 : R32 1 = 1996959894 := by kernel_rfl
theorem a7 : (bytesOf s9).foldl (g16 R16) 65535 = 10673 := by kernel_rfl
theorem row16_1 {w : World} {b : Nat} (h : Aside0 (May R16 R32 w b)) : Calls Try.prog 16 #[.pointer (some ⟨b, 0, none⟩), .int .i64 1] w fun e w' => e = .returned (.int .u16 4129) ∧ Aside0 (Did R16 R32 w' b) ∧ Aside0 (Grew b w w') := by
  have := row16 ⟨rows_ok⟩ h 1 (by omega)
  rw [a5] at this
  exact this
theorem row32_1 {w : World} {b : Nat} (h : Aside0 (May R16 R32 w b)) : Calls Try.prog 17 #[.pointer (some ⟨b, 0, none⟩), .int .i64 1] w fun e w' => e = .returned (.int .u32 1996959894) ∧ Aside0 (Did R16 R32 w' b) ∧ Aside0 (Grew b w w') := by
  have := row32 ⟨rows_ok⟩ h 1 (by omega)
  rw [a6] at this
  exact this
theorem sum16_9 {w : World} {b : Nat} (h : Aside0 (May R16 R32 w b)) : Calls Try.prog 21 #[.pointer (some ⟨b, 0, none⟩), .string { data := #[49, 50, 51, 52, 53, 54, 55, 56, 57] }] w fun e w' => e = .returned (.int .u16 10673) ∧ Aside0 (Did R16 R32 w' b) ∧ Aside0 (Grew b w w') := by
  have := sum16 ⟨rows_ok⟩ h s9 ⟨by decide⟩
  rw [a7] at this
  exact this
theorem may_new {w : World} {b : Nat} (h : Aside0 (Tab R16 R32 w b 0 0 0 0)) : Aside0 (May R16 R32 w b) := ⟨Or.inl h.out⟩
theorem may_did {w : World} {b : Nat} (h : Aside0 (Did R16 R32 w b)) : Aside0 (May R16 R32 w b) := ⟨Or.inr h.out⟩
theorem made0 {w : World} {b : Nat} (h : Aside0 (Tab R16 R32 w b 0 0 0 0)) : Calls Try.prog 20 #[.pointer (some ⟨b, 0, none⟩)] w fun e w' => e = .returned (.int .i64 0) ∧ w' = w := made h (by omega) (by omega)
theorem made1 {w : World} {b : Nat} (h : Aside0 (Did R16 R32 w b)) : Calls Try.prog 20 #[.pointer (some ⟨b, 0, none⟩)] w fun e w' => e = .returned (.int .i64 1) ∧ w' = w := made (h : Aside0 (Tab R16 R32 w b 1 0 1 256)) (by omega) (by omega)

set_option maxHeartbeats 4000000 in
set_option maxRecDepth 100000 in
theorem awake_true (w : World) : Calls Try.prog 9 #[] w fun e w' => e = .returned (.bool true) ∧ Below w.heap.size w w' := by
  have k1 := Aside0.mk a1
  have k2 := Aside0.mk a2
  have k3 := Aside0.mk a3
  have k4 := Aside0.mk a4
  unfold s9 at k1 k2
  unfold s0 at k3 k4
  go_enter Try.func9, Try.ntmps9
  go_wp2_with (first
    | (go_at_call 15; refine (new (r16 := R16) (r32 := R32) w).mono ?_; rintro e w1 ⟨rfl, HT, HB⟩)
    | (go_at_call 10; (first | (with_reducible refine (crc_Sum16.calls 100 _ _ _ k1.out).mono ?_) | (with_reducible refine (crc_Sum16.calls 100 _ _ _ k3.out).mono ?_)); rintro e w2 ⟨rfl, hb⟩; have HT := Aside0.mk (Tab.below HT.out hb HT.out.lt); have HB := Aside0.mk (HB.out.trans (hb.mono HB.out.size)); clear hb)
    | (go_at_call 12; (first | (with_reducible refine (crc_Sum32.calls 100 _ _ _ k2.out).mono ?_) | (with_reducible refine (crc_Sum32.calls 100 _ _ _ k4.out).mono ?_)); rintro e w2 ⟨rfl, hb⟩; have HT := Aside0.mk (Tab.below HT.out hb HT.out.lt); have HB := Aside0.mk (HB.out.trans (hb.mono HB.out.size)); clear hb)
    | (go_at_call 20; (with_reducible refine (made0 HT).mono ?_); rintro e w' ⟨rfl, rfl⟩)
    | (go_at_call 20; (with_reducible refine (made1 HT).mono ?_); rintro e w' ⟨rfl, rfl⟩)
    | (go_at_call 16; (with_reducible refine (row16_1 (may_new HT)).mono ?_); rintro e w2 ⟨rfl, HT, hg⟩; have HB := Aside0.mk (HB.out.trans hg.out); clear hg)
    | (go_at_call 17; (with_reducible refine (row32_1 (may_did HT)).mono ?_); rintro e w2 ⟨rfl, HT, hg⟩; have HB := Aside0.mk (HB.out.trans hg.out); clear hg)
    | (go_at_call 16; (with_reducible refine (row16_off (-1) (by omega) _ _).mono ?_); rintro e w' ⟨rfl, rfl⟩)
    | (go_at_call 17; (with_reducible refine (row32_off 256 (by omega) _ _).mono ?_); rintro e w' ⟨rfl, rfl⟩)
    | (go_at_call 21; (with_reducible refine (sum16_9 (may_did HT)).mono ?_); rintro e w2 ⟨rfl, HT, hg⟩; have HB := Aside0.mk (HB.out.trans hg.out); clear hg))
  go_ret
  exact ⟨rfl, HB.out⟩
end Go.Proofs.Ytihbahomnepieaa.Tab

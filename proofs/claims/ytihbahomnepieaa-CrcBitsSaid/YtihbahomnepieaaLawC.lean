/- Sums by rows are sums by steps; a table's rows are made once: the walk. -/
import Derived.Test.YtihbahomnepieaaLawB
namespace Go.Proofs.Ytihbahomnepieaa.Hand
open Go.RowKit Go.Proofs.YtihbahomnepieaaW.PrintWords Go.Proofs.YtihbahomnepieaaW.PrintLast Go.Proofs.YtihbahomnepieaaW.PrintMore Go.Proofs.Ytihbahomnepieaa.PCrc Go.Proofs.Ytihbahomnepieaa.Tab Go.Proofs.Ytihbahomnepieaa.Plain
set_option linter.unusedVariables false

theorem lowF8 (c : BitVec 8) : F16s 8 (c.setWidth 16) = c.setWidth 16 <<< 8 := by
  revert c
  decide
theorem xor8 (a b : BitVec 8) : Go.bits .xor .u8 ((a.toNat : Nat) : Int) ((b.toNat : Nat) : Int) = (((a ^^^ b).toNat : Nat) : Int) := by
  show IntKind.u8.wrap (((BitVec.ofInt 8 ((a.toNat : Nat) : Int) ^^^ BitVec.ofInt 8 ((b.toNat : Nat) : Int)).toNat : Nat) : Int) = _
  rw [BitVec.ofInt_natCast, BitVec.ofInt_natCast, BitVec.ofNat_toNat, BitVec.ofNat_toNat, BitVec.setWidth_eq, BitVec.setWidth_eq]
  have := (a ^^^ b).isLt
  simp only [IntKind.wrap, IntKind.bits, IntKind.signed]
  generalize (a ^^^ b).toNat = z at *
  simp
  omega
theorem split16 (x : BitVec 16) : x = ((BitVec.ofNat 8 (x.toNat / 256)).setWidth 16 <<< 8) ^^^ (BitVec.ofNat 8 x.toNat).setWidth 16 := by
  apply BitVec.eq_of_toNat_eq
  have hx := x.isLt
  rw [BitVec.toNat_xor, BitVec.toNat_shiftLeft, BitVec.toNat_setWidth, BitVec.toNat_setWidth, BitVec.toNat_ofNat, BitVec.toNat_ofNat, Nat.shiftLeft_eq]
  have e1 : x.toNat / 256 % 2 ^ 8 % 2 ^ 16 * 2 ^ 8 % 2 ^ 16 = x.toNat / 2 ^ 8 * 2 ^ 8 := by omega
  have e2 : x.toNat % 2 ^ 8 % 2 ^ 16 = x.toNat % 2 ^ 8 := by omega
  rw [e1, e2]
  apply Nat.eq_of_testBit_eq
  intro i
  rw [Nat.testBit_xor, Nat.testBit_mod_two_pow, ← Nat.shiftLeft_eq, Nat.testBit_shiftLeft, Nat.testBit_div_two_pow]
  by_cases hi : i < 8
  · rw [decide_eq_false (by omega : ¬ i ≥ 8), decide_eq_true hi]; simp
  · rw [decide_eq_true (by omega : i ≥ 8), decide_eq_false hi, show i - 8 + 8 = i by omega]; simp
theorem shl_set (a b : BitVec 8) : ((a ^^^ b).setWidth 16 <<< 8) = (a.setWidth 16 <<< 8) ^^^ (b.setWidth 16 <<< 8) := by
  rw [BitVec.setWidth_xor, BitVec.shiftLeft_xor_distrib]
theorem tab_round16 (x : BitVec 16) (c : Nat) (hc : c < 256) : g16 R16 (J x) (c : Int) = J (F16s 8 (x ^^^ (((BitVec.ofNat 8 c).setWidth 16) <<< 8))) := by
  have hx := x.isLt
  have e1 : J x / 256 % 256 = (((BitVec.ofNat 8 (x.toNat / 256)).toNat : Nat) : Int) := by unfold J; rw [BitVec.toNat_ofNat]; omega
  have e2 : (c : Int) = (((BitVec.ofNat 8 c).toNat : Nat) : Int) := by rw [BitVec.toNat_ofNat]; omega
  have e3 : IntKind.u16.wrap (J x * 256) = J ((BitVec.ofNat 8 x.toNat).setWidth 16 <<< 8) := by
    unfold J; rw [BitVec.toNat_shiftLeft, Nat.shiftLeft_eq, BitVec.toNat_setWidth, BitVec.toNat_ofNat, wu16]; omega
  unfold g16
  rw [e1, e3]
  conv => lhs; rw [e2]
  rw [xor8, Int.toNat_natCast, R16_eq _ (BitVec.isLt _), xor16]
  congr 1
  have e4 : A16 (BitVec.ofNat 8 (x.toNat / 256) ^^^ BitVec.ofNat 8 c).toNat = ((BitVec.ofNat 8 (x.toNat / 256) ^^^ BitVec.ofNat 8 c).setWidth 16) <<< 8 := by
    apply BitVec.eq_of_toNat_eq
    unfold A16
    rw [BitVec.toNat_shiftLeft, Nat.shiftLeft_eq, BitVec.toNat_setWidth, BitVec.toNat_ofNat]
    have := (BitVec.ofNat 8 (x.toNat / 256) ^^^ BitVec.ofNat 8 c).isLt
    omega
  rw [e4, shl_set]
  conv => rhs; rw [split16 x]
  rw [← lowF8, ← F16s_xor]
  congr 1
  rw [BitVec.xor_comm, BitVec.xor_assoc, BitVec.xor_assoc, BitVec.xor_comm (BitVec.setWidth 16 (BitVec.ofNat 8 c) <<< 8)]
theorem tab16_ok (l : List Nat) : ∀ x : BitVec 16, (∀ b ∈ l, b < 256) → (l.map Int.ofNat).foldl (g16 R16) (J x) = J (gon16 x l) := by
  induction l with
  | nil => intro x _; rfl
  | cons b l ih =>
    intro x hb
    rw [List.map_cons, List.foldl_cons, gon16_cons]
    rw [show g16 R16 (J x) (Int.ofNat b) = _ from tab_round16 x b (hb b (by simp)), ih _ (fun c hc => hb c (by simp [hc]))]
theorem bytes_B (s : ByteArray) : bytesOf s = (B s).map Int.ofNat := by
  unfold bytesOf B
  rw [List.map_map]
  rfl
theorem sums16 (s : ByteArray) : (bytesOf s).foldl (g16 R16) 65535 = J (gon16 65535#16 (B s)) := by
  rw [bytes_B, ones16, tab16_ok _ _ (B_lt s)]
theorem half_nat (a : BitVec 32) : (half a).toNat = hN 3988292384 a.toNat := by
  unfold half hN I
  by_cases c : a.toNat % 2 = 0
  · rw [if_pos (by omega), if_pos c, BitVec.toNat_ushiftRight, Nat.shiftRight_eq_div_pow]
  · rw [if_neg (by omega), if_neg c, BitVec.toNat_xor, BitVec.toNat_ushiftRight, Nat.shiftRight_eq_div_pow]
    rfl
theorem stn_nat (n : Nat) : ∀ a, (stn n a).toNat = hNs 3988292384 n a.toNat := by
  induction n with
  | zero => intro a; rfl
  | succ n ih => intro a; unfold stn hNs; rw [ih, half_nat]
theorem st_high (x : BitVec 32) : st ((x >>> 8) <<< 8) = x >>> 8 := by
  apply BitVec.eq_of_toNat_eq
  have hx := x.isLt
  unfold st
  rw [stn_nat, BitVec.toNat_shiftLeft, BitVec.toNat_ushiftRight, Nat.shiftLeft_eq, Nat.shiftRight_eq_div_pow, Nat.mod_eq_of_lt (by omega), hNs_pow]
theorem split32 (x : BitVec 32) : x = ((x >>> 8) <<< 8) ^^^ (BitVec.ofNat 8 x.toNat).setWidth 32 := by
  apply BitVec.eq_of_toNat_eq
  have hx := x.isLt
  rw [BitVec.toNat_xor, BitVec.toNat_shiftLeft, BitVec.toNat_setWidth, BitVec.toNat_ofNat, Nat.shiftLeft_eq, BitVec.toNat_ushiftRight, Nat.shiftRight_eq_div_pow]
  have e1 : x.toNat / 2 ^ 8 * 2 ^ 8 % 2 ^ 32 = x.toNat / 2 ^ 8 * 2 ^ 8 := by omega
  have e2 : x.toNat % 2 ^ 8 % 2 ^ 32 = x.toNat % 2 ^ 8 := by omega
  rw [e1, e2]
  apply Nat.eq_of_testBit_eq
  intro i
  rw [Nat.testBit_xor, Nat.testBit_mod_two_pow, ← Nat.shiftLeft_eq, Nat.testBit_shiftLeft, Nat.testBit_div_two_pow]
  by_cases hi : i < 8
  · rw [decide_eq_false (by omega : ¬ i ≥ 8), decide_eq_true hi]; simp
  · rw [decide_eq_true (by omega : i ≥ 8), decide_eq_false hi, show i - 8 + 8 = i by omega]; simp
theorem and255 (x : BitVec 32) : Go.bits .and .u32 (I x) 255 % 256 = (((BitVec.ofNat 8 x.toNat).toNat : Nat) : Int) := by
  show IntKind.u32.wrap (((BitVec.ofInt 32 (I x) &&& BitVec.ofInt 32 255).toNat : Nat) : Int) % 256 = _
  rw [ofInt_I, wu32, BitVec.toNat_and, show (BitVec.ofInt 32 255).toNat = 2 ^ 8 - 1 from rfl, Nat.and_two_pow_sub_one_eq_mod, BitVec.toNat_ofNat]
  omega
theorem tab_round32 (x : BitVec 32) (c : UInt8) : g32 R32 (I x) ((c.toNat : Nat) : Int) = I (st (x ^^^ BitVec.ofNat 32 c.toNat)) := by
  have hx := x.isLt
  have hc := c.toNat_lt
  have e2 : ((c.toNat : Nat) : Int) = (((BitVec.ofNat 8 c.toNat).toNat : Nat) : Int) := by rw [BitVec.toNat_ofNat]; omega
  have e3 : I x / (256 : Int) = I (x >>> 8) := by unfold I; rw [BitVec.toNat_ushiftRight, Nat.shiftRight_eq_div_pow]; omega
  unfold g32
  rw [and255, e3]
  conv => lhs; rw [e2]
  rw [xor8, Int.toNat_natCast, R32_eq _ (BitVec.isLt _), xor32]
  congr 1
  have e4 : BitVec.ofNat 32 (BitVec.ofNat 8 x.toNat ^^^ BitVec.ofNat 8 c.toNat).toNat = (BitVec.ofNat 8 x.toNat).setWidth 32 ^^^ BitVec.ofNat 32 c.toNat := by
    apply BitVec.eq_of_toNat_eq
    have h := (BitVec.ofNat 8 x.toNat ^^^ BitVec.ofNat 8 c.toNat).isLt
    rw [BitVec.toNat_ofNat, Nat.mod_eq_of_lt (by omega), BitVec.toNat_xor, BitVec.toNat_xor, BitVec.toNat_setWidth, BitVec.toNat_ofNat, BitVec.toNat_ofNat, BitVec.toNat_ofNat]
    rw [Nat.mod_eq_of_lt (show x.toNat % 2 ^ 8 < 2 ^ 32 by omega), Nat.mod_eq_of_lt (show c.toNat < 2 ^ 8 by omega), Nat.mod_eq_of_lt (show c.toNat < 2 ^ 32 by omega)]
  rw [e4]
  conv => rhs; rw [split32 x]
  conv => lhs; rw [← st_high x]
  unfold st
  rw [← stn_xor]
  congr 1
  rw [BitVec.xor_assoc]
theorem tab32_ok (l : List UInt8) : ∀ x : BitVec 32, (l.map fun b => ((b.toNat : Nat) : Int)).foldl (g32 R32) (I x) = I (gon x l) := by
  induction l with
  | nil => intro x; rfl
  | cons b l ih => intro x; rw [List.map_cons, List.foldl_cons, gon_cons, tab_round32, ih]
theorem sums32 (s : ByteArray) : Go.bits .xor .u32 ((bytesOf s).foldl (g32 R32) 4294967295) 4294967295 = I (sum (L s)) := by
  unfold bytesOf
  rw [ones, tab32_ok, xor32]
  rfl

/-- Ahead of round k. -/
def At (w : World) (b k : Nat) : Prop := (k = 0 → Tab R16 R32 w b 0 0 0 0) ∧ (k ≠ 0 → Did R16 R32 w b)
theorem at_zero {w : World} {b : Nat} (h : At w b 0) : Tab R16 R32 w b 0 0 0 0 := h.1 rfl
theorem at_next {w : World} {b k : Nat} (h : At w b k) (hk : k ≠ 0) : Did R16 R32 w b := h.2 hk
theorem sum16_tab {w : World} {b : Nat} (h : Aside0 (May R16 R32 w b)) (s : ByteArray) (hs : Aside0 (s.size ≤ 500)) :
    Calls Try.prog 21 #[.pointer (some ⟨b, 0, none⟩), .string s] w fun e w' => e = .returned (.int .u16 (J (gon16 65535#16 (B s)))) ∧ Aside0 (Did R16 R32 w' b) ∧ Aside0 (Grew b w w') := by
  have := sum16 ⟨rows_ok⟩ h s ⟨by have := hs.out; omega⟩
  rw [sums16] at this
  exact this
theorem sum32_tab {w : World} {b : Nat} (h : Aside0 (May R16 R32 w b)) (s : ByteArray) (hs : Aside0 (s.size ≤ 500)) :
    Calls Try.prog 22 #[.pointer (some ⟨b, 0, none⟩), .string s] w fun e w' => e = .returned (.int .u32 (I (sum (L s)))) ∧ Aside0 (Did R16 R32 w' b) ∧ Aside0 (Grew b w w') := by
  have := sum32 ⟨rows_ok⟩ h s ⟨by have := hs.out; omega⟩
  rw [sums32] at this
  exact this
theorem sum16_step (s : ByteArray) (hs : Aside0 (s.size ≤ 500)) (w : World) : Calls Try.prog 10 #[.string s] w fun e w' => e = .returned (.int .u16 (J (gon16 65535#16 (B s)))) ∧ Below w.heap.size w w' :=
  crc_Sum16.calls 3000 _ _ _ (sum16_ok s (by have := hs.out; omega) 3000 (by have := hs.out; omega))
theorem sum32_step (s : ByteArray) (hs : Aside0 (s.size ≤ 500)) (w : World) : Calls Try.prog 12 #[.string s] w fun e w' => e = .returned (.int .u32 (I (sum (L s)))) ∧ Below w.heap.size w w' :=
  crc_Sum32.calls 3000 _ _ _ (sum_ok s (by have := hs.out; omega) 3000 (by have := hs.out; omega))
set_option maxHeartbeats 8000000 in
set_option maxRecDepth 100000 in
theorem CrcTables_walk (A0 : Option Addr) (c0 : Nat) (l0 : List ByteArray) (w : World) (hr0 : Kd.C Kd.string w A0 l0.length l0) (hc0 : l0.length ≤ c0) (w0 : (l0.length ≤ maxLen ∧ ∀ y_ ∈ l0, y_.size ≤ maxLen)) :
    Calls Try.prog 8 #[.slice A0 l0.length c0] w fun e w' => e = .returned (.bool true) ∧ Below w.heap.size w w' := by
  have HB := Aside0.mk (Below.refl w.heap.size w)
  have HR := Aside0.mk hr0
  have W0 := Aside0.mk w0.2
  clear hr0 w0
  by_cases h : l0.length ≤ 50
  · have h1 : ¬ (50 : Int) < (l0.length : Int) := by omega
    have h2 : ¬ (l0.length : Int) > 50 := by omega
    go_enter Try.func8, Try.ntmps8
    go_wp2_with (first
      | (go_at_call 9; refine (awake_true _).mono ?_; rintro e w1 ⟨rfl, hb⟩; have HB := Aside0.mk (HB.out.trans (hb.mono HB.out.size)); clear hb)
      | (go_at_call 15; refine (new (r16 := R16) (r32 := R32) _).mono ?_; rintro e w2 ⟨rfl, HT, hb⟩; have HG := Aside0.mk (HB.out.trans (hb.out.mono HB.out.size)); have HS := Aside0.mk HB.out.size; clear hb))
    have H0 : Aside0 (At w2 w1.heap.size 0) := ⟨⟨fun _ => HT.out, fun e => absurd rfl e⟩⟩
    clear HT HB
    generalize w1.heap.size = b at *
    go_loopw [18] (fun i wr => ∃ k : Nat, k ≤ l0.length ∧ i = .int .i64 (k : Int) ∧ Aside0 (At wr b k) ∧ Aside0 (Below w.heap.size w wr)) (fun i _ => l0.length - (intOf i).toNat)
    case atStart => exact ⟨0, Nat.zero_le _, rfl, H0, HG⟩
    case round =>
      clear H0 HG
      obtain ⟨k, hk, rfl, HA, HG⟩ := hrel
      by_cases hlt : k < l0.length
      · have j0 : (0 : Int) ≤ (k : Int) := by omega
        have j1 : (k : Int) < (l0.length : Int) := by omega
        obtain ⟨ad, e, hx⟩ := Kd.at_string (Kd.C_below HR.out HG.out) (k : Int) j0 j1
        subst e
        rw [Int.toNat_natCast] at hx
        have hs := W0.out (rdOf ByteArray.empty l0 (k : Int)) (by unfold rdOf; rw [Int.toNat_natCast, List.getD_eq_getElem?_getD, List.getElem?_eq_getElem hlt]; exact List.getElem_mem hlt)
        generalize rdOf ByteArray.empty l0 (k : Int) = s at *
        unfold maxLen at hs
        by_cases h5 : s.size ≤ 500
        · have hs5 := Aside0.mk h5
          have s1 : ¬ (500 : Int) < (s.size : Int) := by omega
          have s2 : ¬ (s.size : Int) > 500 := by omega
          clear h5
          have e16 : (J (gon16 65535#16 (B s)) != J (gon16 65535#16 (B s))) = false := by simp
          have e32 : (I (sum (L s)) != I (sum (L s))) = false := by simp
          rcases Nat.eq_zero_or_pos k with hz | hz
          · subst hz
            have HT := Aside0.mk (at_zero HA.out)
            clear HA
            have hx0 : wr.cell? ad = some (.string s) := by simpa [Addr.add] using hx
            clear hx
            go_wp2_with (first
              | (go_at_call 20; (with_reducible refine (made0 HT).mono ?_); rintro e w' ⟨rfl, rfl⟩)
              | (go_at_call 21; (with_reducible refine (sum16_tab (may_new HT) s hs5).mono ?_); rintro e w3 ⟨rfl, HD, hg⟩; have HG := Aside0.mk (HG.out.trans (hg.out.mono HS.out)); clear hg)
              | (go_at_call 10; (with_reducible refine (sum16_step s hs5 _).mono ?_); rintro e w3 ⟨rfl, hb⟩; have HD := Aside0.mk (did_below HD.out hb (did_lt HD.out)); have HG := Aside0.mk (HG.out.trans (hb.mono HG.out.size)); clear hb)
              | (go_at_call 22; (with_reducible refine (sum32_tab (may_did HD) s hs5).mono ?_); rintro e w3 ⟨rfl, HD, hg⟩; have HG := Aside0.mk (HG.out.trans (hg.out.mono HS.out)); clear hg)
              | (go_at_call 12; (with_reducible refine (sum32_step s hs5 _).mono ?_); rintro e w3 ⟨rfl, hb⟩; have HD := Aside0.mk (did_below HD.out hb (did_lt HD.out)); have HG := Aside0.mk (HG.out.trans (hb.mono HG.out.size)); clear hb)
              | (go_at_call 20; (with_reducible refine (made1 HD).mono ?_); rintro e w' ⟨rfl, rfl⟩))
            exact ⟨⟨1, by omega, rfl, ⟨⟨fun e => absurd e (by omega), fun _ => HD.out⟩⟩, HG⟩, by simp [intOf]; omega⟩
          · have HD := Aside0.mk (at_next HA.out (by omega))
            clear HA
            have z1 : (1 : Int) ≤ (k : Int) := by omega
            have z2 : 1 ≤ k := hz
            go_wp2_with (first
              | (go_at_call 21; (with_reducible refine (sum16_tab (may_did HD) s hs5).mono ?_); rintro e w3 ⟨rfl, HD, hg⟩; have HG := Aside0.mk (HG.out.trans (hg.out.mono HS.out)); clear hg)
              | (go_at_call 10; (with_reducible refine (sum16_step s hs5 _).mono ?_); rintro e w3 ⟨rfl, hb⟩; have HD := Aside0.mk (did_below HD.out hb (did_lt HD.out)); have HG := Aside0.mk (HG.out.trans (hb.mono HG.out.size)); clear hb)
              | (go_at_call 22; (with_reducible refine (sum32_tab (may_did HD) s hs5).mono ?_); rintro e w3 ⟨rfl, HD, hg⟩; have HG := Aside0.mk (HG.out.trans (hg.out.mono HS.out)); clear hg)
              | (go_at_call 12; (with_reducible refine (sum32_step s hs5 _).mono ?_); rintro e w3 ⟨rfl, hb⟩; have HD := Aside0.mk (did_below HD.out hb (did_lt HD.out)); have HG := Aside0.mk (HG.out.trans (hb.mono HG.out.size)); clear hb)
              | (go_at_call 20; (with_reducible refine (made1 HD).mono ?_); rintro e w' ⟨rfl, rfl⟩))
            exact ⟨⟨k + 1, by omega, by go_num, ⟨⟨fun e => absurd e (by omega), fun _ => HD.out⟩⟩, HG⟩, by simp [intOf]; omega⟩
        · have s1 : (500 : Int) < (s.size : Int) := by omega
          have s2 : (s.size : Int) > 500 := by omega
          clear h5
          go_wp2
          go_ret
          exact ⟨rfl, HG.out⟩
      · obtain rfl : k = l0.length := by omega
        rcases Nat.eq_zero_or_pos l0.length with hz | hz
        · obtain rfl : l0 = [] := List.eq_nil_of_length_eq_zero hz
          have HT := Aside0.mk (at_zero HA.out)
          clear HA hz
          go_wp2_with (first
          | (go_at_call 20; (with_reducible refine (made0 HT).mono ?_); rintro e w' ⟨rfl, rfl⟩)
          | (go_at_call 20; (with_reducible refine (made_nil _).mono ?_); rintro e w' ⟨rfl, rfl⟩)
          | (go_at_call 16; (with_reducible refine (row16_nil _ _).mono ?_); rintro e w' ⟨rfl, rfl⟩)
          | (go_at_call 17; (with_reducible refine (row32_nil _ _).mono ?_); rintro e w' ⟨rfl, rfl⟩)
          | (go_at_call 21; (with_reducible refine (sum16_nil _ _).mono ?_); rintro e w' ⟨rfl, rfl⟩)
          | (go_at_call 22; (with_reducible refine (sum32_nil _ _).mono ?_); rintro e w' ⟨rfl, rfl⟩))
          all_goals
            go_ret
            exact ⟨rfl, HG.out⟩
        · have HD := Aside0.mk (at_next HA.out (by omega))
          have z1 : (1 : Int) ≤ (l0.length : Int) := by omega
          clear HA
          go_wp2_with (first
          | (go_at_call 20; (with_reducible refine (made1 HD).mono ?_); rintro e w' ⟨rfl, rfl⟩)
          | (go_at_call 20; (with_reducible refine (made_nil _).mono ?_); rintro e w' ⟨rfl, rfl⟩)
          | (go_at_call 16; (with_reducible refine (row16_nil _ _).mono ?_); rintro e w' ⟨rfl, rfl⟩)
          | (go_at_call 17; (with_reducible refine (row32_nil _ _).mono ?_); rintro e w' ⟨rfl, rfl⟩)
          | (go_at_call 21; (with_reducible refine (sum16_nil _ _).mono ?_); rintro e w' ⟨rfl, rfl⟩)
          | (go_at_call 22; (with_reducible refine (sum32_nil _ _).mono ?_); rintro e w' ⟨rfl, rfl⟩))
          all_goals
            go_ret
            exact ⟨rfl, HG.out⟩
  · have h1 : (50 : Int) < (l0.length : Int) := by omega
    have h2 : (l0.length : Int) > 50 := by omega
    clear h
    go_enter Try.func8, Try.ntmps8
    go_wp2_with (go_at_call 9; refine (awake_true _).mono ?_; rintro e w1 ⟨rfl, hb⟩; have HB := Aside0.mk (HB.out.trans (hb.mono HB.out.size)); clear hb)
    go_ret
    exact ⟨rfl, HB.out⟩
end Go.Proofs.Ytihbahomnepieaa.Hand

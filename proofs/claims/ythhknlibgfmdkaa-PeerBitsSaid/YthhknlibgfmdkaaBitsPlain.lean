/- Sealed bytes with some of 32 neighbouring bits turned, ahead of the sum, or with one bit turned, are not read. -/
import Derived.Test.YthhknlibgfmdkaaByteRow
import Derived.Test.YthhknlibgfmdkaaPrintBoth
import Derived.Test.YthhknlibgfmdkaaCmd0
import Derived.Test.YthhknlibgfmdkaaPPeerBitsx8
namespace Go.Proofs.Ythhknlibgfmdkaa.Plain
open Go.RowKit Go.Proofs.YthhknlibgfmdkaaW.PrintWords Go.Proofs.YthhknlibgfmdkaaW.PrintLast Go.Proofs.YthhknlibgfmdkaaW.PrintMore Go.Proofs.Ythhknlibgfmdkaa.PPeerBits Go.Proofs.Ythhknlibgfmdkaa.Bytes
set_option linter.unusedVariables false

theorem rwithin_ok (n most : Int) : apogeeref07_within.f n most = some (within n most) := by
  unfold apogeeref07_within.f within
  by_cases h : n ≥ 0
  · rw [if_pos h]; congr 1; rw [decide_eq_decide]; omega
  · rw [if_neg h]; congr 1; rw [decide_eq_false (by omega)]
theorem rrightW_ok (c p s w : Int) : apogeeref07_RightWord.f c p s w = some (rightW c p s w) := by
  unfold apogeeref07_RightWord.f rightW where3
  simp only [rwithin_ok, Option.bind_some]
  cases within c 1000000 <;> cases within p 3 <;> cases within s 2 <;> cases within w 15 <;> rfl
theorem rrightR_ok (c p s v d i a b f : Int) : apogeeref07_RightReport.f c p s v d i a b f = some (rightR c p s v d i a b f) := by
  unfold apogeeref07_RightReport.f rightR where3
  simp only [rwithin_ok, Option.bind_some]
  cases within c 1000000 <;> cases within p 3 <;> cases within s 2 <;> cases within v 255 <;> cases within d 255 <;> cases within i 255 <;> cases within a 4 <;> cases within b 4 <;> cases within f 255 <;> rfl
theorem half_nat (a : BitVec 32) : (half a).toNat = hN 3988292384 a.toNat := by
  unfold half hN I
  by_cases c : a.toNat % 2 = 0
  · rw [if_pos (by omega), if_pos c, BitVec.toNat_ushiftRight, Nat.shiftRight_eq_div_pow]
  · rw [if_neg (by omega), if_neg c, BitVec.toNat_xor, BitVec.toNat_ushiftRight, Nat.shiftRight_eq_div_pow]
    rfl
theorem stn_nat (n : Nat) : ∀ a, (stn n a).toNat = hNs 3988292384 n a.toNat := by
  induction n with
  | zero => intro a; rfl
  | succ n ih => intro a; unfold stn hNs; rw [ih, half_nat]
theorem gon_nat (l : List UInt8) : ∀ x : BitVec 32, (gon x l).toNat = gN 3988292384 x.toNat (l.map UInt8.toNat) := by
  induction l with
  | nil => intro x; rw [gon_nil, List.map_nil, gN_nil]
  | cons b l ih =>
    intro x
    have hb := b.toNat_lt
    rw [gon_cons, List.map_cons, gN_cons, ih, st, stn_nat, BitVec.toNat_xor, BitVec.toNat_ofNat, Nat.mod_eq_of_lt (by omega)]
theorem xor_eq_self {a b : Nat} (h : a ^^^ b = a) : b = 0 := by
  have := congrArg (a ^^^ ·) h
  simp only [← Nat.xor_assoc, Nat.xor_self, Nat.zero_xor] at this
  exact this
theorem gN_turn (P x : Nat) (l m : List Nat) (hl : ∀ b ∈ l, b < 256) (hm : ∀ b ∈ m, b < 256) (hlen : m.length = l.length) (E : Nat) (h : whole m = whole l ^^^ E) : gN P x m = gN P x l ^^^ hNs P (8 * l.length) E := by
  rw [gN_whole P m x hm, gN_whole P l x hl, h, hlen, ← Nat.xor_assoc, hNs_xor]
/-- The bytes of a text, as numbers. -/
def nat (l : List UInt8) : List Nat := l.map UInt8.toNat
theorem nat_lt (l : List UInt8) : ∀ b ∈ nat l, b < 256 := by
  intro b hb
  obtain ⟨c, _, rfl⟩ := List.mem_map.1 hb
  exact c.toNat_lt
theorem nat_inj {l m : List UInt8} (h : nat l = nat m) : l = m := by
  have e : ∀ l : List UInt8, (nat l).map UInt8.ofNat = l := by
    intro l; unfold nat; rw [List.map_map]; conv => rhs; rw [← List.map_id l]
    apply List.map_congr_left
    intro b _
    simp
  rw [← e l, h, e m]
theorem whole_split (l : List Nat) (n : Nat) (hn : n ≤ l.length) (h : ∀ b ∈ l, b < 256) : whole l = whole (l.take n) + 2 ^ (8 * n) * whole (l.drop n) ∧ whole (l.take n) < 2 ^ (8 * n) := by
  induction n generalizing l with
  | zero => simp [whole]
  | succ n ih => cases l with
    | nil => simp at hn
    | cons b l =>
      have hb := h b (by simp)
      obtain ⟨e, f⟩ := ih l (by simpa using hn) (fun x hx => h x (by simp [hx]))
      have hp : 2 ^ (8 * (n + 1)) = 256 * 2 ^ (8 * n) := by rw [show 8 * (n + 1) = 8 * n + 8 by omega, Nat.pow_add]; omega
      simp only [List.take_succ_cons, List.drop_succ_cons, whole]
      rw [hp, e]
      refine ⟨?_, by omega⟩
      rw [Nat.mul_add, Nat.mul_assoc]
      omega
theorem xor_low {A B E n : Nat} (hA : A < 2 ^ n) (hE : E < 2 ^ n) : (A + 2 ^ n * B) ^^^ E = (A ^^^ E) + 2 ^ n * B := by
  have h1 : ∀ a b : Nat, a < 2 ^ n → a + 2 ^ n * b = (2 ^ n * b) ||| a := by
    intro a b ha
    have := Nat.two_pow_add_eq_or_of_lt ha b
    omega
  rw [h1 A B hA, h1 (A ^^^ E) B (Nat.xor_lt_two_pow hA hE)]
  apply Nat.eq_of_testBit_eq
  intro i
  rw [Nat.testBit_xor, Nat.testBit_or, Nat.testBit_or, Nat.testBit_xor, Nat.mul_comm, ← Nat.shiftLeft_eq, Nat.testBit_shiftLeft]
  by_cases hi : n ≤ i
  · rw [Nat.testBit_lt_two_pow (Nat.lt_of_lt_of_le hE (Nat.pow_le_pow_right (by decide) hi)), Nat.testBit_lt_two_pow (Nat.lt_of_lt_of_le hA (Nat.pow_le_pow_right (by decide) hi))]
    simp
  · simp [hi]
/-- What is turned ahead of bit 8n leaves the rest. -/
theorem turned_parts (S m : List Nat) (n E : Nat) (hS : ∀ b ∈ S, b < 256) (hm : ∀ b ∈ m, b < 256) (hlen : m.length = S.length) (hn : n ≤ S.length) (hE : E < 2 ^ (8 * n)) (h : whole m = whole S ^^^ E) :
    whole (m.take n) = whole (S.take n) ^^^ E ∧ m.drop n = S.drop n := by
  obtain ⟨s1, s2⟩ := whole_split S n hn hS
  obtain ⟨m1, m2⟩ := whole_split m n (by omega) hm
  rw [s1, m1, xor_low s2 hE] at h
  have hx : whole (S.take n) ^^^ E < 2 ^ (8 * n) := Nat.xor_lt_two_pow s2 hE
  have hpos := Nat.two_pow_pos (8 * n)
  have a : whole (m.take n) = whole (S.take n) ^^^ E := by
    have := congrArg (· % 2 ^ (8 * n)) h
    simpa [Nat.add_mul_mod_self_left, Nat.mod_eq_of_lt m2, Nat.mod_eq_of_lt hx] using this
  refine ⟨a, ?_⟩
  have b : whole (m.drop n) = whole (S.drop n) := by
    rw [a] at h
    exact Nat.eq_of_mul_eq_mul_left hpos (Nat.add_left_cancel h)
  exact whole_inj _ _ (by rw [List.length_drop, List.length_drop, hlen]) (fun c hc => hm c (List.mem_of_mem_drop hc)) (fun c hc => hS c (List.mem_of_mem_drop hc)) b
theorem nat_take (l : List UInt8) (n : Nat) : nat (l.take n) = (nat l).take n := by unfold nat; rw [List.map_take]
theorem nat_drop (l : List UInt8) (n : Nat) : nat (l.drop n) = (nat l).drop n := by unfold nat; rw [List.map_drop]
theorem nat_len (l : List UInt8) : (nat l).length = l.length := by unfold nat; rw [List.length_map]
theorem four_inj {a b : BitVec 32} (h : four a = four b) : a = b := by
  have h1 := (num_four a (four a) rfl).2 rfl
  have h2 := (num_four b (four b) rfl).2 rfl
  rw [h] at h1
  exact I_inj (h1.trans h2.symm)
/-- A kind of payload: how long it is, what reading it says, and one that is read. -/
structure Knd (n : Nat) (E : List UInt8 → Int) (S : List UInt8) : Prop where
  len : S.length = n + 4
  seal_ : S = sealed (S.take n)
  ok : E S = 0
  only : ∀ l, E l = 0 → l.length = n + 4 ∧ l = sealed (l.take n)
theorem drop_sealed {l : List UInt8} {n : Nat} (h1 : l.length = n + 4) (h : l = sealed (l.take n)) : l.drop n = four (sum (l.take n)) := by
  conv => lhs; rw [h]
  unfold sealed
  rw [List.drop_left' (by rw [List.length_take]; omega)]
theorem not_read {n : Nat} {E : List UInt8 → Int} {S x : List UInt8} (k : Knd n E S) {W p : Nat} (hx : x.length = S.length) (hW : W < 2 ^ 32) (hp : p < 8 * n) (hl : W * 2 ^ p < 2 ^ (8 * n)) (hw : whole (nat x) = whole (nat S) ^^^ (W * 2 ^ p)) (h0 : W ≠ 0) : E x ≠ 0 := by
  intro he
  obtain ⟨g1, g2⟩ := k.only x he
  obtain ⟨t1, t2⟩ := turned_parts (nat S) (nat x) n (W * 2 ^ p) (nat_lt S) (nat_lt x) (by rw [nat_len, nat_len, hx]) (by rw [nat_len, k.len]; omega) hl hw
  rw [← nat_drop, ← nat_drop] at t2
  have d := nat_inj t2
  rw [drop_sealed g1 g2, drop_sealed k.len k.seal_] at d
  have e := four_inj d
  rw [← nat_take, ← nat_take] at t1
  have e3 := gN_turn 3988292384 (4294967295#32).toNat (nat (S.take n)) (nat (x.take n)) (nat_lt _) (nat_lt _) (by rw [nat_len, nat_len, List.length_take, List.length_take, hx]) (W * 2 ^ p) t1
  unfold nat at e3
  rw [← gon_nat, ← gon_nat] at e3
  have e4 : gon 4294967295#32 (x.take n) = gon 4294967295#32 (S.take n) := by
    unfold sum at e
    have := congrArg (· ^^^ 4294967295#32) e
    simpa [BitVec.xor_assoc] using this
  rw [e4] at e3
  have hlen : (List.map UInt8.toNat (S.take n)).length = n := by rw [List.length_map, List.length_take, k.len]; omega
  rw [hlen] at e3
  exact burst (P := 3988292384) (N := 32) (by decide) (by decide) (by decide) W p (8 * n) hW h0 (by omega) (xor_eq_self e3.symm)
/-- One bit of all turned. -/
theorem one_not_read {n : Nat} {E : List UInt8 → Int} {S x : List UInt8} (k : Knd n E S) {q : Nat} (hx : x.length = S.length) (hq : q < 8 * (n + 4)) (hw : whole (nat x) = whole (nat S) ^^^ 2 ^ q) : E x ≠ 0 ∧ x ≠ S := by
  have hpq := Nat.two_pow_pos q
  have hne : x ≠ S := by
    intro e
    rw [e] at hw
    have := xor_eq_self hw.symm
    omega
  refine ⟨?_, hne⟩
  by_cases h8 : q < 8 * n
  · exact not_read k (W := 1) (p := q) hx (by decide) h8 (by rw [Nat.one_mul]; exact Nat.pow_lt_pow_right (by decide) h8) (by rw [Nat.one_mul]; exact hw) (by decide)
  · intro he
    obtain ⟨g1, g2⟩ := k.only x he
    have nS : n ≤ (nat S).length := by rw [nat_len, k.len]; omega
    have nX : n ≤ (nat x).length := by rw [nat_len, hx, k.len]; omega
    obtain ⟨s1, s2⟩ := whole_split (nat S) n nS (nat_lt S)
    obtain ⟨m1, m2⟩ := whole_split (nat x) n nX (nat_lt x)
    have hmod : ∀ z : Nat, (z ^^^ 2 ^ q) % 2 ^ (8 * n) = z % 2 ^ (8 * n) := by
      intro z
      apply Nat.eq_of_testBit_eq
      intro i
      rw [Nat.testBit_mod_two_pow, Nat.testBit_mod_two_pow, Nat.testBit_xor, Nat.testBit_two_pow]
      by_cases hi : i < 8 * n
      · rw [decide_eq_false (by omega : ¬ q = i)]; simp
      · simp [hi]
    have t : whole ((nat x).take n) = whole ((nat S).take n) := by
      have := congrArg (· % 2 ^ (8 * n)) hw
      simp only [hmod] at this
      rw [m1, s1] at this
      simpa [Nat.add_mul_mod_self_left, Nat.mod_eq_of_lt m2, Nat.mod_eq_of_lt s2] using this
    have e : x.take n = S.take n := by
      apply nat_inj
      rw [nat_take, nat_take]
      exact whole_inj _ _ (by rw [List.length_take, List.length_take, nat_len, nat_len, hx]) (fun c hc => nat_lt x c (List.mem_of_mem_take hc)) (fun c hc => nat_lt S c (List.mem_of_mem_take hc)) t
    exact hne (by rw [g2, e, ← k.seal_])
theorem Err_of_RW {l : List UInt8} (h : (RW l).2.2.2.2 = 0) : Err l 6 = 0 := by
  unfold RW at h
  by_cases e : Err l 6 = 0
  · exact e
  · rw [if_neg e] at h; exact absurd h e
theorem Err_of_RR {l : List UInt8} (h : (RR l).2.2.2.2.2.2.2.2.2 = 0) : Err l 10 = 0 := by
  unfold RR at h
  by_cases e : Err l 10 = 0
  · exact e
  · rw [if_neg e] at h; exact absurd h e
theorem Err_of_RC {l : List UInt8} (h : (RC l).2 = 0) : Err l 4 = 0 := by
  unfold RC at h
  by_cases e : Err l 4 = 0
  · exact e
  · rw [if_neg e] at h; exact absurd h e
theorem knd_w (c p s w : Int) (h : rightW c p s w = true) : Knd 6 (fun l => (RW l).2.2.2.2) (PW c p s w) := by
  have e := RW_PW c p s w h
  have e0 : (RW (PW c p s w)).2.2.2.2 = 0 := by rw [e]
  have g := Err_len (Err_of_RW e0)
  exact ⟨g.1, g.2, e0, fun l hl => Err_len (Err_of_RW hl)⟩
theorem knd_r (c p s v d i a b f : Int) (h : rightR c p s v d i a b f = true) : Knd 10 (fun l => (RR l).2.2.2.2.2.2.2.2.2) (PR c p s v d i a b f) := by
  have e := RR_PR c p s v d i a b f h
  have e0 : (RR (PR c p s v d i a b f)).2.2.2.2.2.2.2.2.2 = 0 := by rw [e]
  have g := Err_len (Err_of_RR e0)
  exact ⟨g.1, g.2, e0, fun l hl => Err_len (Err_of_RR hl)⟩
theorem knd_c (c : Int) (h : 1 ≤ c ∧ c ≤ 3) : Knd 4 (fun l => (RC l).2) (PC c) := by
  have hne : PC c ≠ [] := by
    unfold PC
    rw [if_pos h]
    intro e
    have := sealed_len ((PB c).map nb)
    rw [e] at this
    simp at this
  have e := RC_PC c hne
  have e0 : (RC (PC c)).2 = 0 := by rw [e]
  have g := Err_len (Err_of_RC e0)
  exact ⟨g.1, g.2, e0, fun l hl => Err_len (Err_of_RC hl)⟩
end Go.Proofs.Ythhknlibgfmdkaa.Plain

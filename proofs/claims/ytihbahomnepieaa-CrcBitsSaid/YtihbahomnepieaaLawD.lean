/- Some bits turned: another sum: the walk. -/
import Derived.Test.YtihbahomnepieaaLawC
import Derived.Test.YtihbahomnepieaaLawA
import Derived.RegionTactic
namespace Go.Proofs.Ytihbahomnepieaa.Hand
open Go.RowKit Go.Proofs.YtihbahomnepieaaW.PrintWords Go.Proofs.YtihbahomnepieaaW.PrintLast Go.Proofs.YtihbahomnepieaaW.PrintMore Go.Proofs.Ytihbahomnepieaa.PCrc Go.Proofs.Ytihbahomnepieaa.Tab Go.Proofs.Ytihbahomnepieaa.Plain
set_option linter.unusedVariables false

theorem brow_below {w w' : World} {g B : Nat} {l : List Int} (h : BRow w g l) (hb : Below B w w') (hg : g < B) : BRow w' g l :=
  fun j hj => ⟨(hb.cell (p := ⟨g, j, none⟩) hg).trans (h j hj).1, (hb.frozen (p := ⟨g, j, none⟩) hg).trans (h j hj).2⟩
theorem brow_nat {w : World} {g : Nat} {l : List Nat} (h : BRow w g (l.map Int.ofNat)) (j : Nat) (hj : j < l.length) : w.cell? ⟨g, j, none⟩ = some (.int .u8 ((l.getD j 0 : Nat) : Int)) ∧ w.frozen? ⟨g, j, none⟩ = false := by
  have := h j (by rw [List.length_map]; exact hj)
  refine ⟨this.1.trans ?_, this.2⟩
  simp [List.getD_eq_getElem?_getD, List.getElem?_eq_getElem hj]
theorem and_one32 (t i : Nat) (h : t < 4294967296) : Go.bits .and .u32 ((t : Int) / 2 ^ i) 1 = ((t / 2 ^ i % 2 : Nat) : Int) := by
  have e : (t : Int) / 2 ^ i = ((t / 2 ^ i : Nat) : Int) := by rw [Int.natCast_ediv, Int.natCast_pow]; rfl
  have hd : t / 2 ^ i ≤ t := Nat.div_le_self _ _
  rw [e]
  show IntKind.u32.wrap (((BitVec.ofInt 32 ((t / 2 ^ i : Nat) : Int) &&& BitVec.ofInt 32 1).toNat : Nat) : Int) = _
  rw [BitVec.ofInt_natCast, wu32, BitVec.toNat_and, show (BitVec.ofInt 32 1).toNat = 2 ^ 1 - 1 from rfl, Nat.and_two_pow_sub_one_eq_mod, BitVec.toNat_ofNat, Nat.mod_eq_of_lt (show t / 2 ^ i < 2 ^ 32 by omega)]
  omega
theorem whole_inj : ∀ (l m : List Nat), l.length = m.length → (∀ b ∈ l, b < 256) → (∀ b ∈ m, b < 256) → whole l = whole m → l = m := by
  intro l
  induction l with
  | nil => intro m h _ _ _; cases m with
    | nil => rfl
    | cons _ _ => simp at h
  | cons b l ih => intro m h hl hm e; cases m with
    | nil => simp at h
    | cons c m =>
      have hb := hl b (by simp)
      have hc := hm c (by simp)
      simp only [whole] at e
      have e1 : b = c := by omega
      have e2 : whole l = whole m := by omega
      rw [e1, ih m (by simpa using h) (fun x hx => hl x (by simp [hx])) (fun x hx => hm x (by simp [hx])) e2]
/-- Of bytes the k-th bit turned is of their number the k-th bit turned. -/
theorem whole_turn : ∀ (l : List Nat) (k : Nat), k < 8 * l.length → (∀ b ∈ l, b < 256) → whole (l.set (k / 8) (l.getD (k / 8) 0 ^^^ 2 ^ (k % 8))) = whole l ^^^ 2 ^ k := by
  intro l
  induction l with
  | nil => intro k h; simp at h
  | cons b l ih =>
    intro k hk hl
    have hb := hl b (by simp)
    have sum : ∀ (c n : Nat), c < 256 → c + 256 * n = c ^^^ (n * 2 ^ 8) := by
      intro c n hc
      have h1 : n * 2 ^ 8 + c = (n * 2 ^ 8) ||| c := by rw [← Nat.shiftLeft_eq]; exact Nat.shiftLeft_add_eq_or_of_lt (show c < 2 ^ 8 from hc) _
      have h2 : (n * 2 ^ 8) ^^^ c = (n * 2 ^ 8) ||| c := by
        apply Nat.eq_of_testBit_eq
        intro i
        rw [Nat.testBit_xor, Nat.testBit_or]
        by_cases hi : i < 8
        · have : (n * 2 ^ 8).testBit i = false := by rw [← Nat.shiftLeft_eq, Nat.testBit_shiftLeft]; simp; omega
          rw [this]; simp
        · have : c.testBit i = false := Nat.testBit_lt_two_pow (Nat.lt_of_lt_of_le (show c < 2 ^ 8 from hc) (Nat.pow_le_pow_right (by decide) (by omega)))
          rw [this]; simp
      rw [Nat.xor_comm, h2, ← h1]; omega
    by_cases h8 : k < 8
    · have e : k / 8 = 0 := by omega
      have e2 : k % 8 = k := by omega
      have hp : 2 ^ k < 2 ^ 8 := Nat.pow_lt_pow_right (by decide) h8
      have hx : b ^^^ 2 ^ k < 256 := Nat.xor_lt_two_pow (n := 8) hb hp
      rw [e, e2]
      simp only [List.set_cons_zero, List.getD_cons_zero, whole]
      rw [sum _ _ hx, sum _ _ hb, Nat.xor_assoc, Nat.xor_assoc, Nat.xor_comm (2 ^ k)]
    · obtain ⟨j, rfl⟩ : ∃ j, k = j + 8 := ⟨k - 8, by omega⟩
      have e : (j + 8) / 8 = j / 8 + 1 := by omega
      have e2 : (j + 8) % 8 = j % 8 := by omega
      rw [e, e2]
      simp only [List.set_cons_succ, List.getD_cons_succ, whole]
      rw [ih j (by simp at hk; omega) (fun x hx => hl x (by simp [hx])), sum _ _ hb, sum _ _ hb, Nat.xor_assoc]
      congr 1
      rw [← Nat.shiftLeft_eq, ← Nat.shiftLeft_eq, Nat.shiftLeft_xor_distrib, Nat.shiftLeft_eq (2 ^ j), ← Nat.pow_add]
theorem rev8_xor (b m : Nat) (hb : b < 256) (hm : m < 8) : rev8 (b ^^^ 2 ^ (7 - m)) = rev8 b ^^^ 2 ^ m := by
  have e : ∀ (c : BitVec 8) (m : Fin 8), (c ^^^ BitVec.ofNat 8 (2 ^ (7 - m.val))).reverse = c.reverse ^^^ BitVec.ofNat 8 (2 ^ m.val) := by decide
  have h := congrArg BitVec.toNat (e (BitVec.ofNat 8 b) ⟨m, hm⟩)
  have hp : 2 ^ (7 - m) < 2 ^ 8 := Nat.pow_lt_pow_right (by decide) (by omega)
  have hq : 2 ^ m < 2 ^ 8 := Nat.pow_lt_pow_right (by decide) hm
  have hx : BitVec.ofNat 8 (b ^^^ 2 ^ (7 - m)) = BitVec.ofNat 8 b ^^^ BitVec.ofNat 8 (2 ^ (7 - m)) := by
    apply BitVec.eq_of_toNat_eq
    rw [BitVec.toNat_xor, BitVec.toNat_ofNat, BitVec.toNat_ofNat, BitVec.toNat_ofNat, Nat.mod_eq_of_lt hp, Nat.mod_eq_of_lt (show b < 2 ^ 8 from hb), Nat.mod_eq_of_lt (Nat.xor_lt_two_pow (n := 8) hb hp)]
  unfold rev8
  rw [hx, h, BitVec.toNat_xor, BitVec.toNat_ofNat, Nat.mod_eq_of_lt hq]
/-- What i rounds have turned: some bits of the lowest i, from bit p on. -/
structure Turned (s : ByteArray) (p t i : Nat) (nb nc : List Nat) (x y : Bool) : Prop where
  lb : nb.length = s.size
  lc : nc.length = s.size
  bb : ∀ b ∈ nb, b < 256
  bc : ∀ b ∈ nc, b < 256
  wb : ∃ W, W < 2 ^ 16 ∧ W < 2 ^ i ∧ whole (nb.map rev8) = whole ((B s).map rev8) ^^^ (W * 2 ^ p) ∧ (x = true ↔ W ≠ 0)
  wc : ∃ W, W < 2 ^ i ∧ whole nc = whole (B s) ^^^ (W * 2 ^ p) ∧ (y = true ↔ W ≠ 0)
theorem turned_start (s : ByteArray) (p t : Nat) : Turned s p t 0 (B s) (B s) false false :=
  ⟨B_len s, B_len s, B_lt s, B_lt s, ⟨0, by simp, by simp, by simp, by simp⟩, ⟨0, by simp, by simp, by simp⟩⟩
theorem pow_step {W i : Nat} (h : W < 2 ^ i) : W < 2 ^ (i + 1) := by rw [Nat.pow_succ]; omega
theorem turned_skip {s : ByteArray} {p t i : Nat} {nb nc : List Nat} {x y : Bool} (h : Turned s p t i nb nc x y) : Turned s p t (i + 1) nb nc x y := by
  obtain ⟨lb, lc, bb, bc, ⟨W, h1, h2, h3, h4⟩, ⟨V, g1, g2, g3⟩⟩ := h
  exact ⟨lb, lc, bb, bc, ⟨W, h1, pow_step h2, h3, h4⟩, ⟨V, pow_step g1, g2, g3⟩⟩
theorem add_top {W i : Nat} (h : W < 2 ^ i) : W ^^^ 2 ^ i = W + 2 ^ i := by
  have h1 : 2 ^ i * 1 + W = 2 ^ i * 1 ||| W := by have := Nat.two_pow_add_eq_or_of_lt h 1; exact this
  have h2 : W ^^^ 2 ^ i = W ||| 2 ^ i := by
    apply Nat.eq_of_testBit_eq
    intro j
    rw [Nat.testBit_xor, Nat.testBit_or, Nat.testBit_two_pow]
    by_cases e : i = j
    · subst e; rw [Nat.testBit_lt_two_pow h]; simp
    · simp [e]
  rw [Nat.mul_one] at h1
  rw [h2, Nat.or_comm]
  omega
theorem turn_num {S W i p : Nat} (h : W < 2 ^ i) : (S ^^^ (W * 2 ^ p)) ^^^ 2 ^ (p + i) = S ^^^ ((W + 2 ^ i) * 2 ^ p) := by
  rw [Nat.xor_assoc, ← add_top h, ← Nat.shiftLeft_eq, ← Nat.shiftLeft_eq, Nat.shiftLeft_xor_distrib, Nat.shiftLeft_eq (2 ^ i), ← Nat.pow_add, Nat.add_comm i p]
theorem turned_c {s : ByteArray} {p t i : Nat} {nb nc : List Nat} {x y : Bool} (h : Turned s p t i nb nc x y) (hk : p + i < 8 * s.size) : Turned s p t (i + 1) nb (nc.set ((p + i) / 8) (nc.getD ((p + i) / 8) 0 ^^^ 2 ^ ((p + i) % 8))) x true := by
  obtain ⟨lb, lc, bb, bc, ⟨W, h1, h2, h3, h4⟩, ⟨V, g1, g2, g3⟩⟩ := h
  have hx : nc.getD ((p + i) / 8) 0 < 256 := by
    rw [List.getD_eq_getElem?_getD, List.getElem?_eq_getElem (by omega)]; exact bc _ (List.getElem_mem _)
  refine ⟨lb, by rw [List.length_set]; exact lc, bb, ?_, ⟨W, h1, pow_step h2, h3, h4⟩, ⟨V + 2 ^ i, by rw [Nat.pow_succ]; omega, ?_, ?_⟩⟩
  · intro b hb
    rcases List.mem_or_eq_of_mem_set hb with hb | rfl
    · exact bc b hb
    · exact Nat.xor_lt_two_pow (n := 8) hx (Nat.pow_lt_pow_right (by decide) (by omega))
  · rw [whole_turn nc (p + i) (by omega) bc, g2, turn_num g1]
  · have := Nat.two_pow_pos i
    first
      | (simp; done)
      | (simp; omega)
theorem turned_b {s : ByteArray} {p t i : Nat} {nb nc : List Nat} {x y : Bool} (h : Turned s p t i nb nc x y) (hk : p + i < 8 * s.size) (hi : i < 16) :
    Turned s p t (i + 1) (nb.set ((p + i) / 8) (nb.getD ((p + i) / 8) 0 ^^^ 2 ^ (7 - (p + i) % 8))) nc true y := by
  obtain ⟨lb, lc, bb, bc, ⟨W, h1, h2, h3, h4⟩, ⟨V, g1, g2, g3⟩⟩ := h
  have hq : (p + i) / 8 < nb.length := by omega
  have hg : nb.getD ((p + i) / 8) 0 = nb[(p + i) / 8] := by rw [List.getD_eq_getElem?_getD, List.getElem?_eq_getElem hq]; rfl
  have hx : nb.getD ((p + i) / 8) 0 < 256 := by rw [hg]; exact bb _ (List.getElem_mem _)
  have hpw : 2 ^ (i + 1) ≤ 2 ^ 16 := Nat.pow_le_pow_right (by decide) (by omega)
  have hW : W + 2 ^ i < 2 ^ (i + 1) := by rw [Nat.pow_succ]; omega
  refine ⟨by rw [List.length_set]; exact lb, lc, ?_, bc, ⟨W + 2 ^ i, by omega, hW, ?_, ?_⟩, ⟨V, pow_step g1, g2, g3⟩⟩
  · intro b hb
    rcases List.mem_or_eq_of_mem_set hb with hb | rfl
    · exact bb b hb
    · exact Nat.xor_lt_two_pow (n := 8) hx (Nat.pow_lt_pow_right (by decide) (by omega))
  · have e : (nb.set ((p + i) / 8) (nb.getD ((p + i) / 8) 0 ^^^ 2 ^ (7 - (p + i) % 8))).map rev8 = (nb.map rev8).set ((p + i) / 8) ((nb.map rev8).getD ((p + i) / 8) 0 ^^^ 2 ^ ((p + i) % 8)) := by
      rw [List.map_set, rev8_xor _ _ hx (by omega)]
      congr 2
      rw [hg, List.getD_eq_getElem?_getD, List.getElem?_eq_getElem (by rw [List.length_map]; exact hq), List.getElem_map]
      rfl
    rw [e, whole_turn (nb.map rev8) (p + i) (by rw [List.length_map]; omega) (by intro b hb; obtain ⟨c, _, rfl⟩ := List.mem_map.1 hb; exact rev8_lt c), h3, turn_num h2]
  · have := Nat.two_pow_pos i
    first
      | (simp; done)
      | (simp; omega)
theorem turned_both {s : ByteArray} {p t i : Nat} {nb nc : List Nat} {x y : Bool} (h : Turned s p t i nb nc x y) (hk : p + i < 8 * s.size) (hi : i < 16) :
    Turned s p t (i + 1) (nb.set ((p + i) / 8) (nb.getD ((p + i) / 8) 0 ^^^ 2 ^ (7 - (p + i) % 8))) (nc.set ((p + i) / 8) (nc.getD ((p + i) / 8) 0 ^^^ 2 ^ ((p + i) % 8))) true true :=
  ⟨(turned_b h hk hi).lb, (turned_c h hk).lc, (turned_b h hk hi).bb, (turned_c h hk).bc, (turned_b h hk hi).wb, (turned_c h hk).wc⟩
theorem gon_nat (l : List UInt8) : ∀ x : BitVec 32, (gon x l).toNat = gN 3988292384 x.toNat (l.map UInt8.toNat) := by
  induction l with
  | nil => intro x; rw [gon_nil, List.map_nil, gN_nil]
  | cons b l ih =>
    intro x
    have hb := b.toNat_lt
    rw [gon_cons, List.map_cons, gN_cons, ih, st, stn_nat, BitVec.toNat_xor, BitVec.toNat_ofNat, Nat.mod_eq_of_lt (by omega)]
theorem xor_eq_self {a b : Nat} (h : a ^^^ b = a) : b = 0 := by
  have := congrArg (a ^^^ ·) h
  simp only [← Nat.xor_assoc, Nat.xor_self, Nat.zero_xor] at this
  exact this
theorem gN_turn (P x : Nat) (l m : List Nat) (hl : ∀ b ∈ l, b < 256) (hm : ∀ b ∈ m, b < 256) (hlen : m.length = l.length) (E : Nat) (h : whole m = whole l ^^^ E) : gN P x m = gN P x l ^^^ hNs P (8 * l.length) E := by
  rw [gN_whole P m x hm, gN_whole P l x hl, h, hlen, ← Nat.xor_assoc, hNs_xor]
theorem sums_apart16 {s : ByteArray} {p t i : Nat} {nb nc : List Nat} {x y : Bool} (h : Turned s p t i nb nc x y) (hp : p < 8 * s.size) : (J (gon16 65535#16 nb) == J (gon16 65535#16 (B s))) = !x := by
  obtain ⟨lb, lc, bb, bc, ⟨W, h1, h2, h3, h4⟩, _⟩ := h
  have hr : ∀ l : List Nat, ∀ b ∈ l.map rev8, b < 256 := by intro l b hb; obtain ⟨c, _, rfl⟩ := List.mem_map.1 hb; exact rev8_lt c
  have e := gN_turn 0x8408 (65535#16).reverse.toNat ((B s).map rev8) (nb.map rev8) (hr _) (hr _) (by rw [List.length_map, List.length_map, lb, B_len]) (W * 2 ^ p) h3
  rw [← rev_gon16, ← rev_gon16, List.length_map, B_len] at e
  by_cases hW : W = 0
  · subst hW
    rw [Nat.zero_mul, hNs_zero, Nat.xor_zero] at e
    have : x = false := by cases x <;> simp_all
    rw [rev_inj e, this]
    simp
  · have hx : x = true := h4.2 hW
    have hb := burst (P := 0x8408) (N := 16) (by decide) (by decide) (by decide) W p (8 * s.size) h1 hW (by omega)
    have hne : J (gon16 65535#16 nb) ≠ J (gon16 65535#16 (B s)) := by
      intro e2
      rw [J_inj e2] at e
      exact hb (xor_eq_self e.symm)
    rw [hx]
    simpa using hne
theorem sums_apart32 {s c : ByteArray} {p t : Nat} {nb nc : List Nat} {x y : Bool} (h : Turned s p t 32 nb nc x y) (hp : p < 8 * s.size) (hc : B c = nc) : (I (sum (L c)) == I (sum (L s))) = !y := by
  obtain ⟨lb, lc, bb, bc, _, ⟨W, h2, h3, h4⟩⟩ := h
  have e := gN_turn 3988292384 (4294967295#32).toNat (B s) nc (B_lt s) bc (by rw [lc, B_len]) (W * 2 ^ p) h3
  rw [← hc] at e
  unfold B at e
  rw [← gon_nat, ← gon_nat] at e
  rw [show (List.map UInt8.toNat s.data.toList).length = s.size from B_len s] at e
  by_cases hW : W = 0
  · subst hW
    rw [Nat.zero_mul, hNs_zero, Nat.xor_zero] at e
    have : y = false := by cases y <;> simp_all
    unfold sum
    rw [BitVec.eq_of_toNat_eq e, this]
    simp
  · have hx : y = true := h4.2 hW
    have hb := burst (P := 3988292384) (N := 32) (by decide) (by decide) (by decide) W p (8 * s.size) h2 hW (by omega)
    have hne : I (sum (L c)) ≠ I (sum (L s)) := by
      intro e2
      have e3 := I_inj e2
      unfold sum at e3
      have e4 : gon 4294967295#32 (L c) = gon 4294967295#32 (L s) := by
        have := congrArg (· ^^^ 4294967295#32) e3
        simpa [BitVec.xor_assoc] using this
      rw [e4] at e
      exact hb (xor_eq_self e.symm)
    rw [hx]
    simpa using hne
theorem xor8n (a m : Nat) (ha : a < 256) (hm : m < 256) : Go.bits .xor .u8 (a : Int) (m : Int) = ((a ^^^ m : Nat) : Int) := by
  have h := xor8 (BitVec.ofNat 8 a) (BitVec.ofNat 8 m)
  rw [BitVec.toNat_xor, BitVec.toNat_ofNat, BitVec.toNat_ofNat, Nat.mod_eq_of_lt ha, Nat.mod_eq_of_lt hm] at h
  exact h
theorem top_bit (m : Nat) (h : m < 8) : 128 / 2 ^ m = 2 ^ (7 - m) := by
  rw [show 128 = 2 ^ 7 from rfl, Nat.pow_div (by omega) (by decide)]
theorem brow_set {w : World} {g : Nat} {l : List Nat} (h : BRow w g (l.map Int.ofNat)) (j v : Nat) (hj : j < l.length) : BRow (w.setCell ⟨g, j, none⟩ (.int .u8 (v : Int))) g ((l.set j v).map Int.ofNat) := by
  intro k hk
  have hk' : k < l.length := by simpa using hk
  have h1 := h k (by rw [List.length_map]; exact hk')
  refine ⟨?_, by rw [World.frozen?_setCell]; exact h1.2⟩
  by_cases e : k = j
  · subst e
    rw [World.cell?_setCell_same w _ _ h1.1]
    simp [List.getD_eq_getElem?_getD, hk']
  · rw [World.cell?_setCell_other w ⟨g, j, none⟩ ⟨g, k, none⟩ _ (ne_off (fun e2 => e e2.symm)), h1.1]
    simp [List.getD_eq_getElem?_getD, hk', Ne.symm e]
theorem brow_far {w : World} {g g' o : Nat} {l : List Int} {v : Value} (h : BRow w g l) (hg : g' ≠ g) : BRow (w.setCell ⟨g', o, none⟩ v) g l :=
  fun j hj => ⟨(World.cell?_setCell_other w ⟨g', o, none⟩ ⟨g, j, none⟩ v (fun e => hg (congrArg Addr.block e))).trans (h j hj).1, by rw [World.frozen?_setCell]; exact (h j hj).2⟩
theorem brow_drew {w : World} {g : Nat} {l : List Int} (h : BRow w g l) : BRow w.drew g l := h
set_option maxHeartbeats 8000000 in
set_option maxRecDepth 100000 in
theorem CrcBits_walk (a0 : ByteArray) (a1 a2 : Int) (w : World) (w0 : a0.size ≤ 140737488351232) (w1 : (Lit.int .i64 a1).wf = true) (w2 : (Lit.int .u32 a2).wf = true) :
    Calls Try.prog 6 #[.string a0, .int .i64 a1, .int .u32 a2] w fun e w' => e = .returned (.bool true) ∧ Below w.heap.size w w' := by
  have HB := Aside0.mk (Below.refl w.heap.size w)
  by_cases h : 1 ≤ a0.size ∧ a0.size ≤ 300
  · have h1 : ¬ (a0.size : Int) < 1 := by omega
    have h2 : ¬ (300 : Int) < (a0.size : Int) := by omega
    have h3 : ¬ (a0.size : Int) > 300 := by omega
    have h4 : 1 ≤ a0.size := h.1
    have h5 : a0.size ≤ 300 := h.2
    obtain ⟨p, hp, hp1⟩ : ∃ p : Nat, wrap64 ((IntKind.u64.wrap a1).tmod (8 * (a0.size : Int))) = (p : Int) ∧ p < 8 * a0.size := by
      refine ⟨(IntKind.u64.wrap a1 % (8 * (a0.size : Int))).toNat, ?_, ?_⟩
      · have e1 := Int.emod_nonneg (IntKind.u64.wrap a1) (show 8 * (a0.size : Int) ≠ 0 by omega)
        have e2 := Int.emod_lt_of_pos (IntKind.u64.wrap a1) (show 0 < 8 * (a0.size : Int) by omega)
        rw [Int.tmod_eq_emod_of_nonneg (by rw [wu64]; omega)]
        generalize IntKind.u64.wrap a1 % (8 * (a0.size : Int)) = z at *
        unfold wrap64
        omega
      · have e1 := Int.emod_nonneg (IntKind.u64.wrap a1) (show 8 * (a0.size : Int) ≠ 0 by omega)
        have e2 := Int.emod_lt_of_pos (IntKind.u64.wrap a1) (show 0 < 8 * (a0.size : Int) by omega)
        generalize IntKind.u64.wrap a1 % (8 * (a0.size : Int)) = z at *
        omega
    have hp := Aside0.mk hp
    obtain ⟨t, ht⟩ : ∃ t : Nat, a2 = (t : Int) := ⟨a2.toNat, by have := wf_u32 w2; omega⟩
    subst ht
    have ht1 : t < 4294967296 := by have := wf_u32 w2; omega
    clear w1 w2
    have kc := fun (w : World) => Lib.run_convert_string_bytes (P := Try.prog) w 9 38 5 a0 Try.underlying9 Try.underlying38 Try.underlying5
    go_enter Try.func6, Try.ntmps6
    go_wp2_with (first
      | (go_at_call 9; refine (awake_true _).mono ?_; rintro e w1 ⟨rfl, hb⟩; have HB := Aside0.mk (HB.out.trans (hb.mono HB.out.size)); clear hb))
    rw [hp.out]
    clear h
    have D1 := Aside0.mk (bytes_below w1 5 a0)
    have D2 := Aside0.mk (bytes_below (Lib.bytesWorld w1 5 a0) 5 a0)
    have E1 := Aside0.mk (brow_below (brow_new w1 5 a0) D2.out (by rw [Lib.bytesWorld_size]; omega))
    have E2 := Aside0.mk (brow_new (Lib.bytesWorld w1 5 a0) 5 a0)
    have HG := Aside0.mk ((HB.out.trans (D1.out.mono HB.out.size)).trans (D2.out.mono (Nat.le_trans HB.out.size D1.out.size)))
    have G1 := Aside0.mk HB.out.size
    have G2 := Aside0.mk (Nat.le_trans HB.out.size D1.out.size)
    have G3 := Aside0.mk (show w1.heap.size ≠ (Lib.bytesWorld w1 5 a0).heap.size by rw [Lib.bytesWorld_size]; omega)
    have HS := Aside0.mk (show (Lib.bytesWorld w1 5 a0).heap.size < (Lib.bytesWorld (Lib.bytesWorld w1 5 a0) 5 a0).heap.size by rw [Lib.bytesWorld_size (Lib.bytesWorld w1 5 a0)]; omega)
    rw [bytes_B] at E1 E2
    clear D1 D2 HB kc
    generalize grownCap (Lib.bytesWorld w1 5 a0) a0.size 0 5 = cap2 at *
    generalize grownCap w1 a0.size 0 5 = cap1 at *
    generalize Lib.bytesWorld (Lib.bytesWorld w1 5 a0) 5 a0 = w3 at *
    generalize (Lib.bytesWorld w1 5 a0).heap.size = g2 at *
    generalize w1.heap.size = g1 at *
    have H0 : Aside0 (Turned a0 p t 0 (B a0) (B a0) false false) := ⟨turned_start a0 p t⟩
    go_loopw [9, 10, 38] (fun v9 v10 v38 wr => ∃ (i : Nat) (nb nc : List Nat) (x y : Bool), i ≤ 32 ∧ v9 = .bool x ∧ v10 = .bool y ∧ v38 = .int .i64 (i : Int) ∧ Aside0 (Turned a0 p t i nb nc x y) ∧ Aside0 (BRow wr g1 (nb.map Int.ofNat)) ∧ Aside0 (BRow wr g2 (nc.map Int.ofNat)) ∧ Aside0 (Below w.heap.size w wr) ∧ Aside0 (g2 < wr.heap.size)) (fun _ _ i _ => 32 - (intOf i).toNat)
    case atStart => exact ⟨0, B a0, B a0, false, false, Nat.zero_le _, rfl, rfl, rfl, H0, E1, E2, HG, HS⟩
    case round =>
      clear H0 E1 E2 HG HS
      obtain ⟨i, nb, nc, x, y, hi, rfl, rfl, rfl, HT, E1, E2, HG, HS⟩ := hrel
      by_cases hlt : i < 32
      · have j0 : (0 : Int) ≤ (i : Int) := by omega
        have j1 : (i : Int) < 32 := by omega
        have p0 : (0 : Int) ≤ (p : Int) := by omega
        have p1 : (p : Int) < 8 * (a0.size : Int) := by omega
        by_cases hbit : t / 2 ^ i % 2 = 1
        · have q : Go.bits .and .u32 ((t : Int) / 2 ^ i) 1 = 1 := by rw [and_one32 t i ht1]; omega
          by_cases hin : p + i < 8 * a0.size
          · have p4 := hin
            have p2 : (p : Int) + (i : Int) < 8 * (a0.size : Int) := by omega
            have hk : (p + i) / 8 < a0.size := by omega
            have cb := brow_nat E1.out ((p + i) / 8) (by rw [HT.out.lb]; exact hk)
            have cc := brow_nat E2.out ((p + i) / 8) (by rw [HT.out.lc]; exact hk)
            have cb1 := cb.1
            have cb2 := cb.2
            have cc1 := cc.1
            have cc2 := cc.2
            clear cb cc
            have hm8 : (p + i) % 8 < 8 := by omega
            have vb8 : nb.getD ((p + i) / 8) 0 < 256 := by rw [List.getD_eq_getElem?_getD, List.getElem?_eq_getElem (by rw [HT.out.lb]; exact hk)]; exact HT.out.bb _ (List.getElem_mem _)
            have vc8 : nc.getD ((p + i) / 8) 0 < 256 := by rw [List.getD_eq_getElem?_getD, List.getElem?_eq_getElem (by rw [HT.out.lc]; exact hk)]; exact HT.out.bc _ (List.getElem_mem _)
            have TB := Aside0.mk (fun h16 => turned_both HT.out p4 h16)
            have TC := Aside0.mk (turned_c HT.out p4)
            generalize hvb : nb.getD ((p + i) / 8) 0 = vb at *
            generalize hvc : nc.getD ((p + i) / 8) 0 = vc at *
            have qb : Go.bits .xor .u8 (vb : Int) ((128 : Int) / 2 ^ ((p + i) % 8)) = ((vb ^^^ 2 ^ (7 - (p + i) % 8) : Nat) : Int) := by
              rw [show (128 : Int) / 2 ^ ((p + i) % 8) = ((128 / 2 ^ ((p + i) % 8) : Nat) : Int) by rw [Int.natCast_ediv, Int.natCast_pow]; rfl, top_bit _ hm8]
              exact xor8n _ _ vb8 (show 2 ^ (7 - (p + i) % 8) < 2 ^ 8 from Nat.pow_lt_pow_right (by decide) (by omega))
            have qc : Go.bits .xor .u8 (vc : Int) ((2 : Int) ^ ((p + i) % 8) % 256) = ((vc ^^^ 2 ^ ((p + i) % 8) : Nat) : Int) := by
              have hq : 2 ^ ((p + i) % 8) < 2 ^ 8 := Nat.pow_lt_pow_right (by decide) hm8
              rw [show (2 : Int) ^ ((p + i) % 8) % 256 = ((2 ^ ((p + i) % 8) : Nat) : Int) by
                have e : (2 : Int) ^ ((p + i) % 8) = ((2 ^ ((p + i) % 8) : Nat) : Int) := by rw [Int.natCast_pow]; rfl
                rw [e]
                generalize 2 ^ ((p + i) % 8) = z at hq ⊢
                omega]
              exact xor8n _ _ vc8 hq
            have B1 := Aside0.mk (brow_set E1.out ((p + i) / 8) (vb ^^^ 2 ^ (7 - (p + i) % 8)) (by rw [HT.out.lb]; exact hk))
            have hkc : Aside0 ((p + i) / 8 < nc.length) := ⟨by rw [HT.out.lc]; exact hk⟩
            have Hvb := Aside0.mk hvb
            have Hvc := Aside0.mk hvc
            clear hvb hvc hm8 vb8 vc8 hk
            have p3 : ¬ 8 * (a0.size : Int) ≤ (p : Int) + (i : Int) := by omega
            by_cases h16 : i < 16
            · have i16 : (i : Int) < 16 := by omega
              have YG := Aside0.mk ((HG.out.setCell (p := ⟨g1, (p + i) / 8, none⟩) G1.out (.int .u8 ((vb ^^^ 2 ^ (7 - (p + i) % 8) : Nat) : Int))).drew)
              have Y2 := Aside0.mk (brow_drew (brow_far (g' := g1) (o := (p + i) / 8) (v := .int .u8 ((vb ^^^ 2 ^ (7 - (p + i) % 8) : Nat) : Int)) E2.out G3.out))
              have Y1 := Aside0.mk (brow_drew B1.out)
              have YS : Aside0 (g2 < ((wr.setCell ⟨g1, (p + i) / 8, none⟩ (.int .u8 ((vb ^^^ 2 ^ (7 - (p + i) % 8) : Nat) : Int))).drew).heap.size) := ⟨by simpa [World.setCell] using HS.out⟩
              have TT := Aside0.mk (TB.out h16)
              go_wp2
              go_region
              clear qb cb1 cb2 cc1 cc2 B1 TB TC HT E1 E2 HG HS
              generalize (wr.setCell ⟨g1, (p + i) / 8, none⟩ (.int .u8 ((vb ^^^ 2 ^ (7 - (p + i) % 8) : Nat) : Int))).drew = W1 at *
              have cc := brow_nat Y2.out ((p + i) / 8) hkc.out
              rw [Hvc.out] at cc
              have cc1 := cc.1
              have cc2 := cc.2
              clear cc
              have ZG := Aside0.mk ((YG.out.setCell (p := ⟨g2, (p + i) / 8, none⟩) G2.out (.int .u8 ((vc ^^^ 2 ^ ((p + i) % 8) : Nat) : Int))).drew)
              have Z1 := Aside0.mk (brow_drew (brow_far (g' := g2) (o := (p + i) / 8) (v := .int .u8 ((vc ^^^ 2 ^ ((p + i) % 8) : Nat) : Int)) Y1.out (Ne.symm G3.out)))
              have Z2 := Aside0.mk (brow_drew (brow_set Y2.out ((p + i) / 8) (vc ^^^ 2 ^ ((p + i) % 8)) hkc.out))
              have ZS : Aside0 (g2 < ((W1.setCell ⟨g2, (p + i) / 8, none⟩ (.int .u8 ((vc ^^^ 2 ^ ((p + i) % 8) : Nat) : Int))).drew).heap.size) := ⟨by simpa [World.setCell] using YS.out⟩
              go_wp2
              go_region
              clear qc cc1 cc2 Y1 Y2 YG YS
              go_wp2
              go_roundw
              case rel => exact ⟨i + 1, _, _, true, true, by omega, rfl, rfl, by go_num, TT, Z1, Z2, ZG, ZS⟩
              case measure => simp [intOf]; omega
            · have i16 : ¬ (i : Int) < 16 := by omega
              have ZG := Aside0.mk ((HG.out.setCell (p := ⟨g2, (p + i) / 8, none⟩) G2.out (.int .u8 ((vc ^^^ 2 ^ ((p + i) % 8) : Nat) : Int))).drew)
              have Z1 := Aside0.mk (brow_drew (brow_far (g' := g2) (o := (p + i) / 8) (v := .int .u8 ((vc ^^^ 2 ^ ((p + i) % 8) : Nat) : Int)) E1.out (Ne.symm G3.out)))
              have Z2 := Aside0.mk (brow_drew (brow_set E2.out ((p + i) / 8) (vc ^^^ 2 ^ ((p + i) % 8)) hkc.out))
              have ZS : Aside0 (g2 < ((wr.setCell ⟨g2, (p + i) / 8, none⟩ (.int .u8 ((vc ^^^ 2 ^ ((p + i) % 8) : Nat) : Int))).drew).heap.size) := ⟨by simpa [World.setCell] using HS.out⟩
              go_wp2
              go_region
              clear qb qc cb1 cb2 cc1 cc2 B1 TB HT E1 E2 HG HS
              go_wp2
              go_roundw
              case rel => exact ⟨i + 1, _, _, x, true, by omega, rfl, rfl, by go_num, TC, Z1, Z2, ZG, ZS⟩
              case measure => simp [intOf]; omega
          · have p3 : 8 * (a0.size : Int) ≤ (p : Int) + (i : Int) := by omega
            have TN := Aside0.mk (turned_skip HT.out)
            go_wp2
            go_roundw
            case rel => exact ⟨i + 1, _, _, x, y, by omega, rfl, rfl, by go_num, TN, E1, E2, HG, HS⟩
            case measure => simp [intOf]; omega
        · have q : Go.bits .and .u32 ((t : Int) / 2 ^ i) 1 = 0 := by rw [and_one32 t i ht1]; omega
          have TN := Aside0.mk (turned_skip HT.out)
          go_wp2
          go_roundw
          case rel => exact ⟨i + 1, _, _, x, y, by omega, rfl, rfl, by go_num, TN, E1, E2, HG, HS⟩
          case measure => simp [intOf]; omega
      · obtain rfl : i = 32 := by omega
        have hcB := B_str (nb.map Int.ofNat) (by intro z hz; obtain ⟨c, hc, rfl⟩ := List.mem_map.1 hz; have := HT.out.bb c hc; show 0 ≤ (c : Int) ∧ (c : Int) < 256; omega)
        have hcC := B_str (nc.map Int.ofNat) (by intro z hz; obtain ⟨c, hc, rfl⟩ := List.mem_map.1 hz; have := HT.out.bc c hc; show 0 ≤ (c : Int) ∧ (c : Int) < 256; omega)
        rw [List.map_map, show (Int.toNat ∘ Int.ofNat) = id from rfl, List.map_id] at hcB hcC
        have szB : (strOfNums (nb.map Int.ofNat)).size = a0.size := by rw [str_size, List.length_map]; exact HT.out.lb
        have szC : (strOfNums (nc.map Int.ofNat)).size = a0.size := by rw [str_size, List.length_map]; exact HT.out.lc
        have k1 := sum16_ok (strOfNums (nb.map Int.ofNat)) (by omega) 3000 (by omega)
        rw [hcB] at k1
        have k1 := Aside0.mk k1
        have k2 := Aside0.mk (sum16_ok a0 (by omega) 3000 (by omega))
        have k3 := Aside0.mk (sum_ok (strOfNums (nc.map Int.ofNat)) (by omega) 3000 (by omega))
        have k4 := Aside0.mk (sum_ok a0 (by omega) 3000 (by omega))
        have e16 := sums_apart16 HT.out hp1
        have e32 := sums_apart32 HT.out hp1 hcC
        have v1 := str_of_brow E1.out a0.size cap1 (by rw [List.length_map]; exact HT.out.lb)
        have l2 : Aside0 ((nc.map Int.ofNat).length = a0.size) := ⟨by rw [List.length_map]; exact HT.out.lc⟩
        clear hcB hcC szB szC HT E1
        generalize J (gon16 65535#16 nb) = r1 at *
        generalize J (gon16 65535#16 (B a0)) = r2 at *
        generalize I (sum (L (strOfNums (nc.map Int.ofNat)))) = r3 at *
        generalize I (sum (L a0)) = r4 at *
        cases x <;> cases y
        all_goals
          simp only [Bool.not_true, Bool.not_false] at e16 e32
          go_wp2_with (first
            | (go_at_call 10; (first | (with_reducible refine (crc_Sum16.calls 3000 _ _ _ k1.out).mono ?_) | (with_reducible refine (crc_Sum16.calls 3000 _ _ _ k2.out).mono ?_)); rintro e w5 ⟨rfl, hb⟩; have E2 := Aside0.mk (brow_below E2.out hb HS.out); have HS := Aside0.mk (Nat.lt_of_lt_of_le HS.out hb.size); have HG := Aside0.mk (HG.out.trans (hb.mono HG.out.size)); have v2 := str_of_brow E2.out a0.size cap2 l2.out; clear hb)
            | (go_at_call 12; (first | (with_reducible refine (crc_Sum32.calls 3000 _ _ _ k3.out).mono ?_) | (with_reducible refine (crc_Sum32.calls 3000 _ _ _ k4.out).mono ?_)); rintro e w5 ⟨rfl, hb⟩; have HG := Aside0.mk (HG.out.trans (hb.mono HG.out.size)); clear hb))
          go_ret
          exact ⟨rfl, HG.out⟩
  · by_cases h1 : (a0.size : Int) < 1
    · clear h
      go_enter Try.func6, Try.ntmps6
      go_wp2_with (go_at_call 9; refine (awake_true _).mono ?_; rintro e w1 ⟨rfl, hb⟩; have HB := Aside0.mk (HB.out.trans (hb.mono HB.out.size)); clear hb)
      go_ret
      exact ⟨rfl, HB.out⟩
    · have h2 : (300 : Int) < (a0.size : Int) := by omega
      have h3 : (a0.size : Int) > 300 := by omega
      clear h
      go_enter Try.func6, Try.ntmps6
      go_wp2_with (go_at_call 9; refine (awake_true _).mono ?_; rintro e w1 ⟨rfl, hb⟩; have HB := Aside0.mk (HB.out.trans (hb.mono HB.out.size)); clear hb)
      go_ret
      exact ⟨rfl, HB.out⟩
end Go.Proofs.Ytihbahomnepieaa.Hand

/- Bytes that lie in memory and are written to; bits of them turned, as of one number. -/
import Derived.Test.YthhknlibgfmdkaaBurstG
import Derived.Test.YthhknlibgfmdkaaBase
import Derived.Test.YthhknlibgfmdkaaWWords
import Derived.Test.YthhknlibgfmdkaaWLast
import Derived.Test.YthhknlibgfmdkaaWMore
import Derived.WalkKit
import Derived.Below
import Derived.Lib.ConvBytes
import Derived.Laws.BytesArg
namespace Go.Proofs.Ythhknlibgfmdkaa.Bytes
open Go.RowKit Go.Proofs.YthhknlibgfmdkaaW.PrintWords Go.Proofs.YthhknlibgfmdkaaW.PrintLast Go.Proofs.YthhknlibgfmdkaaW.PrintMore Go.Proofs.Ythhknlibgfmdkaa.Plain
set_option linter.unusedVariables false

/-- Bytes that lie in memory. -/
def BRow (w : World) (g : Nat) (l : List Int) : Prop := ∀ j, j < l.length → w.cell? ⟨g, j, none⟩ = some (.int .u8 (l.getD j 0)) ∧ w.frozen? ⟨g, j, none⟩ = false
theorem brow_new (w : World) (e : Nat) (s : ByteArray) : BRow (Lib.bytesWorld w e s) w.heap.size (bytesOf s) := by
  intro j hj
  rw [bytesOf_length] at hj
  refine ⟨?_, ?_⟩
  · rw [Lib.bytesWorld_cell w e s j hj]
    simp [bytesOf, List.getD, hj]
  · unfold World.frozen?
    rw [Lib.bytesWorld_at_new]
    simp [Lib.bytesCells]
    omega
theorem bytes_below (w : World) (e : Nat) (s : ByteArray) : Below w.heap.size w (Lib.bytesWorld w e s) :=
  ⟨rfl, rfl, rfl, by rw [Lib.bytesWorld_size]; omega, fun i hi => Lib.bytesWorld_at_old w e s i hi⟩
theorem brow_below {w w' : World} {g B : Nat} {l : List Int} (h : BRow w g l) (hb : Below B w w') (hg : g < B) : BRow w' g l :=
  fun j hj => ⟨(hb.cell (p := ⟨g, j, none⟩) hg).trans (h j hj).1, (hb.frozen (p := ⟨g, j, none⟩) hg).trans (h j hj).2⟩
theorem brow_nat {w : World} {g : Nat} {l : List Nat} (h : BRow w g (l.map Int.ofNat)) (j : Nat) (hj : j < l.length) : w.cell? ⟨g, j, none⟩ = some (.int .u8 ((l.getD j 0 : Nat) : Int)) ∧ w.frozen? ⟨g, j, none⟩ = false := by
  have := h j (by rw [List.length_map]; exact hj)
  refine ⟨this.1.trans ?_, this.2⟩
  simp [List.getD_eq_getElem?_getD, List.getElem?_eq_getElem hj]
theorem ne_off {b o p : Nat} (h : o ≠ p) : (⟨b, o, none⟩ : Addr) ≠ ⟨b, p, none⟩ := fun e => h (congrArg Addr.off e)
theorem brow_set {w : World} {g : Nat} {l : List Nat} (h : BRow w g (l.map Int.ofNat)) (j v : Nat) (hj : j < l.length) : BRow (w.setCell ⟨g, j, none⟩ (.int .u8 (v : Int))) g ((l.set j v).map Int.ofNat) := by
  intro k hk
  have hk' : k < l.length := by simpa using hk
  have h1 := h k (by rw [List.length_map]; exact hk')
  refine ⟨?_, by rw [World.frozen?_setCell]; exact h1.2⟩
  by_cases e : k = j
  · subst e
    rw [World.cell?_setCell_same w _ _ h1.1]
    simp [List.getD_eq_getElem?_getD, hk']
  · rw [World.cell?_setCell_other w ⟨g, j, none⟩ ⟨g, k, none⟩ _ (ne_off (fun e2 => e e2.symm)), h1.1]
    simp [List.getD_eq_getElem?_getD, hk', Ne.symm e]
theorem brow_far {w : World} {g g' o : Nat} {l : List Int} {v : Value} (h : BRow w g l) (hg : g' ≠ g) : BRow (w.setCell ⟨g', o, none⟩ v) g l :=
  fun j hj => ⟨(World.cell?_setCell_other w ⟨g', o, none⟩ ⟨g, j, none⟩ v (fun e => hg (congrArg Addr.block e))).trans (h j hj).1, by rw [World.frozen?_setCell]; exact (h j hj).2⟩
theorem brow_drew {w : World} {g : Nat} {l : List Int} (h : BRow w g l) : BRow w.drew g l := h
theorem str_of_brow {P : Program} {S T U : TypeId} (hs : P.underlying S = some (.slice U)) (he : P.underlying U = some (.int .u8)) (hd : P.underlying T = some .string) {w : World} {g : Nat} {l : List Int} (h : BRow w g l) (n c : Nat) (hn : l.length = n) :
    (convert S T (.slice (some ⟨g, 0, none⟩) n c)).run P w = .ok (.string (strOfNums l)) w :=
  run_convert_bytes_arg w S U hs he g 0 n c l hn (fun i hi => by rw [Nat.zero_add]; exact (h i (by omega)).1) T hd
theorem xor8n (a m : Nat) (ha : a < 256) (hm : m < 256) : Go.bits .xor .u8 (a : Int) (m : Int) = ((a ^^^ m : Nat) : Int) := by
  have hx : a ^^^ m < 256 := Nat.xor_lt_two_pow (n := 8) ha hm
  show IntKind.u8.wrap (((BitVec.ofInt 8 (a : Int) ^^^ BitVec.ofInt 8 (m : Int)).toNat : Nat) : Int) = _
  rw [BitVec.ofInt_natCast, BitVec.ofInt_natCast, BitVec.toNat_xor, BitVec.toNat_ofNat, BitVec.toNat_ofNat, Nat.mod_eq_of_lt ha, Nat.mod_eq_of_lt hm]
  simp only [IntKind.wrap, IntKind.bits, IntKind.signed]
  generalize a ^^^ m = z at *
  simp
  omega
theorem pow_bit (m : Nat) (h : m < 8) : (2 : Int) ^ m % 256 = ((2 ^ m : Nat) : Int) := by
  have hq : 2 ^ m < 2 ^ 8 := Nat.pow_lt_pow_right (by decide) h
  have e : (2 : Int) ^ m = ((2 ^ m : Nat) : Int) := by rw [Int.natCast_pow]; rfl
  rw [e]
  generalize 2 ^ m = z at hq ⊢
  omega
theorem and_one32 (t i : Nat) (h : t < 4294967296) : Go.bits .and .u32 ((t : Int) / 2 ^ i) 1 = ((t / 2 ^ i % 2 : Nat) : Int) := by
  have e : (t : Int) / 2 ^ i = ((t / 2 ^ i : Nat) : Int) := by rw [Int.natCast_ediv, Int.natCast_pow]; rfl
  have hd : t / 2 ^ i ≤ t := Nat.div_le_self _ _
  rw [e]
  show IntKind.u32.wrap (((BitVec.ofInt 32 ((t / 2 ^ i : Nat) : Int) &&& BitVec.ofInt 32 1).toNat : Nat) : Int) = _
  rw [BitVec.ofInt_natCast, wu32, BitVec.toNat_and, show (BitVec.ofInt 32 1).toNat = 2 ^ 1 - 1 from rfl, Nat.and_two_pow_sub_one_eq_mod, BitVec.toNat_ofNat, Nat.mod_eq_of_lt (show t / 2 ^ i < 2 ^ 32 by omega)]
  omega
theorem whole_inj : ∀ (l m : List Nat), l.length = m.length → (∀ b ∈ l, b < 256) → (∀ b ∈ m, b < 256) → whole l = whole m → l = m := by
  intro l
  induction l with
  | nil => intro m h _ _ _; cases m with
    | nil => rfl
    | cons _ _ => simp at h
  | cons b l ih => intro m h hl hm e; cases m with
    | nil => simp at h
    | cons c m =>
      have hb := hl b (by simp)
      have hc := hm c (by simp)
      simp only [whole] at e
      have e1 : b = c := by omega
      have e2 : whole l = whole m := by omega
      rw [e1, ih m (by simpa using h) (fun x hx => hl x (by simp [hx])) (fun x hx => hm x (by simp [hx])) e2]
theorem byte_xor : ∀ (c n : Nat), c < 256 → c + 256 * n = c ^^^ (n * 2 ^ 8) := by
  intro c n hc
  have h1 : n * 2 ^ 8 + c = (n * 2 ^ 8) ||| c := by rw [← Nat.shiftLeft_eq]; exact Nat.shiftLeft_add_eq_or_of_lt (show c < 2 ^ 8 from hc) _
  have h2 : (n * 2 ^ 8) ^^^ c = (n * 2 ^ 8) ||| c := by
    apply Nat.eq_of_testBit_eq
    intro i
    rw [Nat.testBit_xor, Nat.testBit_or]
    by_cases hi : i < 8
    · have : (n * 2 ^ 8).testBit i = false := by rw [← Nat.shiftLeft_eq, Nat.testBit_shiftLeft]; simp; omega
      rw [this]; simp
    · have : c.testBit i = false := Nat.testBit_lt_two_pow (Nat.lt_of_lt_of_le (show c < 2 ^ 8 from hc) (Nat.pow_le_pow_right (by decide) (by omega)))
      rw [this]; simp
  rw [Nat.xor_comm, h2, ← h1]; omega
/-- Of bytes the k-th bit turned is of their number the k-th bit turned. -/
theorem whole_turn : ∀ (l : List Nat) (k : Nat), k < 8 * l.length → (∀ b ∈ l, b < 256) → whole (l.set (k / 8) (l.getD (k / 8) 0 ^^^ 2 ^ (k % 8))) = whole l ^^^ 2 ^ k := by
  intro l
  induction l with
  | nil => intro k h; simp at h
  | cons b l ih =>
    intro k hk hl
    have hb := hl b (by simp)
    by_cases h8 : k < 8
    · have e : k / 8 = 0 := by omega
      have e2 : k % 8 = k := by omega
      have hp : 2 ^ k < 2 ^ 8 := Nat.pow_lt_pow_right (by decide) h8
      have hx : b ^^^ 2 ^ k < 256 := Nat.xor_lt_two_pow (n := 8) hb hp
      rw [e, e2]
      simp only [List.set_cons_zero, List.getD_cons_zero, whole]
      rw [byte_xor _ _ hx, byte_xor _ _ hb, Nat.xor_assoc, Nat.xor_assoc, Nat.xor_comm (2 ^ k)]
    · obtain ⟨j, rfl⟩ : ∃ j, k = j + 8 := ⟨k - 8, by omega⟩
      have e : (j + 8) / 8 = j / 8 + 1 := by omega
      have e2 : (j + 8) % 8 = j % 8 := by omega
      rw [e, e2]
      simp only [List.set_cons_succ, List.getD_cons_succ, whole]
      rw [ih j (by simp at hk; omega) (fun x hx => hl x (by simp [hx])), byte_xor _ _ hb, byte_xor _ _ hb, Nat.xor_assoc]
      congr 1
      rw [← Nat.shiftLeft_eq, ← Nat.shiftLeft_eq, Nat.shiftLeft_xor_distrib, Nat.shiftLeft_eq (2 ^ j), ← Nat.pow_add]
theorem add_top {W i : Nat} (h : W < 2 ^ i) : W ^^^ 2 ^ i = W + 2 ^ i := by
  have h1 : 2 ^ i * 1 + W = 2 ^ i * 1 ||| W := by have := Nat.two_pow_add_eq_or_of_lt h 1; exact this
  have h2 : W ^^^ 2 ^ i = W ||| 2 ^ i := by
    apply Nat.eq_of_testBit_eq
    intro j
    rw [Nat.testBit_xor, Nat.testBit_or, Nat.testBit_two_pow]
    by_cases e : i = j
    · subst e; rw [Nat.testBit_lt_two_pow h]; simp
    · simp [e]
  rw [Nat.mul_one] at h1
  rw [h2, Nat.or_comm]
  omega
theorem turn_num {S W i p : Nat} (h : W < 2 ^ i) : (S ^^^ (W * 2 ^ p)) ^^^ 2 ^ (p + i) = S ^^^ ((W + 2 ^ i) * 2 ^ p) := by
  rw [Nat.xor_assoc, ← add_top h, ← Nat.shiftLeft_eq, ← Nat.shiftLeft_eq, Nat.shiftLeft_xor_distrib, Nat.shiftLeft_eq (2 ^ i), ← Nat.pow_add, Nat.add_comm i p]
/-- What i rounds have turned: some bits of the lowest i, from bit p on, all ahead of bit n. -/
structure Turned (S : List Nat) (p n i : Nat) (l : List Nat) (y : Bool) : Prop where
  len : l.length = S.length
  lt : ∀ b ∈ l, b < 256
  num : ∃ W, W < 2 ^ i ∧ W * 2 ^ p < 2 ^ n ∧ whole l = whole S ^^^ (W * 2 ^ p) ∧ (y = true ↔ W ≠ 0)
theorem turned_start (S : List Nat) (p n : Nat) (h : ∀ b ∈ S, b < 256) : Turned S p n 0 S false := ⟨rfl, h, ⟨0, by simp, by simp [Nat.two_pow_pos], by simp, by simp⟩⟩
theorem pow_step {W i : Nat} (h : W < 2 ^ i) : W < 2 ^ (i + 1) := by rw [Nat.pow_succ]; omega
theorem turned_skip {S l : List Nat} {p n i : Nat} {y : Bool} (h : Turned S p n i l y) : Turned S p n (i + 1) l y := by
  obtain ⟨h1, h2, ⟨W, g1, g2, g3, g4⟩⟩ := h
  exact ⟨h1, h2, ⟨W, pow_step g1, g2, g3, g4⟩⟩
theorem turned_put {S l : List Nat} {p n i : Nat} {y : Bool} (h : Turned S p n i l y) (hk : p + i < n) (hn : n ≤ 8 * S.length) : Turned S p n (i + 1) (l.set ((p + i) / 8) (l.getD ((p + i) / 8) 0 ^^^ 2 ^ ((p + i) % 8))) true := by
  obtain ⟨h1, h2, ⟨W, g1, g2, g3, g4⟩⟩ := h
  have hx : l.getD ((p + i) / 8) 0 < 256 := by
    rw [List.getD_eq_getElem?_getD, List.getElem?_eq_getElem (by omega)]; exact h2 _ (List.getElem_mem _)
  have hp : 2 ^ (p + i + 1) ≤ 2 ^ n := Nat.pow_le_pow_right (by decide) (by omega)
  have hm : W * 2 ^ p + 2 ^ i * 2 ^ p < 2 ^ (p + i + 1) := by
    have a : W * 2 ^ p < 2 ^ i * 2 ^ p := Nat.mul_lt_mul_of_pos_right g1 (Nat.two_pow_pos p)
    have b : 2 ^ i * 2 ^ p = 2 ^ (p + i) := by rw [← Nat.pow_add, Nat.add_comm]
    rw [Nat.pow_succ]
    omega
  refine ⟨by rw [List.length_set]; exact h1, ?_, ⟨W + 2 ^ i, by rw [Nat.pow_succ]; omega, by rw [Nat.add_mul]; omega, ?_, ?_⟩⟩
  · intro b hb
    rcases List.mem_or_eq_of_mem_set hb with hb | rfl
    · exact h2 b hb
    · exact Nat.xor_lt_two_pow (n := 8) hx (Nat.pow_lt_pow_right (by decide) (by omega))
  · rw [whole_turn l (p + i) (by omega) h2, g3, turn_num g1]
  · have := Nat.two_pow_pos i
    first
      | (simp; done)
      | (simp; omega)
end Go.Proofs.Ythhknlibgfmdkaa.Bytes

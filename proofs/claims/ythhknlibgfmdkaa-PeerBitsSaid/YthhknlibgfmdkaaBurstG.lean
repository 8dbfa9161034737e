/- A burst of at most N bits changes a sum of N bits (P: its polynomial, the lowest bit first): the step is linear, and takes nothing to 0 but 0. -/
namespace Go.Proofs.Ythhknlibgfmdkaa.Plain
def hN (P x : Nat) : Nat := if x % 2 = 0 then x / 2 else (x / 2) ^^^ P
def hNs (P : Nat) : Nat → Nat → Nat
  | 0, x => x
  | n + 1, x => hNs P n (hN P x)
theorem xor_half (x y : Nat) : (x ^^^ y) / 2 = (x / 2) ^^^ (y / 2) := Nat.xor_div_two
theorem xor_par (x y : Nat) : (x ^^^ y) % 2 = (x + y) % 2 := by
  have e : (x ^^^ y) % 2 ^ 1 = (x % 2 ^ 1) ^^^ (y % 2 ^ 1) := Nat.xor_mod_two_pow
  rw [Nat.pow_one] at e
  rw [e]
  rcases Nat.mod_two_eq_zero_or_one x with hx | hx <;> rcases Nat.mod_two_eq_zero_or_one y with hy | hy <;> rw [hx, hy] <;> simp <;> omega
theorem hN_xor (P : Nat) (x y : Nat) : hN P (x ^^^ y) = hN P x ^^^ hN P y := by
  unfold hN
  rw [xor_half, xor_par]
  generalize x / 2 = a
  generalize y / 2 = b
  rcases Nat.mod_two_eq_zero_or_one x with hx | hx <;> rcases Nat.mod_two_eq_zero_or_one y with hy | hy
  · rw [if_pos (by omega), if_pos hx, if_pos hy]
  · rw [if_neg (by omega), if_pos hx, if_neg (by omega), Nat.xor_assoc]
  · rw [if_neg (by omega), if_neg (by omega), if_pos hy, Nat.xor_assoc, Nat.xor_assoc, Nat.xor_comm b]
  · rw [if_pos (by omega), if_neg (by omega), if_neg (by omega)]
    rw [Nat.xor_assoc, Nat.xor_comm b, ← Nat.xor_assoc P, Nat.xor_self, Nat.zero_xor]
theorem hN_two (P : Nat) (y : Nat) : hN P (y * 2) = y := by unfold hN; rw [if_pos (by omega)]; omega
theorem hN_zero (P : Nat) : hN P 0 = 0 := rfl
theorem hNs_xor (P : Nat) (n : Nat) : ∀ x y, hNs P n (x ^^^ y) = hNs P n x ^^^ hNs P n y := by
  induction n with
  | zero => intro x y; rfl
  | succ n ih => intro x y; unfold hNs; rw [hN_xor, ih]
theorem hNs_zero (P : Nat) (n : Nat) : hNs P n 0 = 0 := by
  induction n with
  | zero => rfl
  | succ n ih => unfold hNs; rw [hN_zero, ih]
theorem hNs_pow (P : Nat) (n : Nat) : ∀ y, hNs P n (y * 2 ^ n) = y := by
  induction n with
  | zero => intro y; simp [hNs]
  | succ n ih => intro y; unfold hNs; rw [Nat.pow_succ, ← Nat.mul_assoc, hN_two, ih]
theorem hNs_add (P : Nat) (m n x : Nat) : hNs P (m + n) x = hNs P n (hNs P m x) := by
  induction m generalizing x with
  | zero => simp [hNs]
  | succ m ih => rw [show m + 1 + n = (m + n) + 1 by omega]; exact ih (hN P x)
theorem hN_lt {P N : Nat} (hP : P < 2 ^ N) (x : Nat) (h : x < 2 ^ N) : hN P x < 2 ^ N := by
  unfold hN
  split
  · omega
  · exact Nat.xor_lt_two_pow (n := N) (by omega) hP
theorem hN_ne {P N : Nat} (hN1 : 1 ≤ N) (hQ : 2 ^ (N - 1) ≤ P) (x : Nat) (h : x < 2 ^ N) (h0 : x ≠ 0) : hN P x ≠ 0 := by
  unfold hN
  split
  · omega
  · intro e
    have e2 : x / 2 = P := by
      have := congrArg (· ^^^ P) e
      simpa [Nat.xor_assoc] using this
    have : N = (N - 1) + 1 := by omega
    rw [this, Nat.pow_succ] at h
    omega
theorem hNs_ne {P N : Nat} (hN1 : 1 ≤ N) (hP : P < 2 ^ N) (hQ : 2 ^ (N - 1) ≤ P) (n : Nat) : ∀ x, x < 2 ^ N → x ≠ 0 → hNs P n x ≠ 0 := by
  induction n with
  | zero => intro x _ h0; exact h0
  | succ n ih => intro x h h0; unfold hNs; exact ih _ (hN_lt hP x h) (hN_ne hN1 hQ x h h0)
/-- A burst, wherever it lies: never nothing. -/
theorem burst {P N : Nat} (hN1 : 1 ≤ N) (hP : P < 2 ^ N) (hQ : 2 ^ (N - 1) ≤ P) (W o n : Nat) (hW : W < 2 ^ N) (h0 : W ≠ 0) (ho : o ≤ n) : hNs P n (W * 2 ^ o) ≠ 0 := by
  obtain ⟨m, rfl⟩ : ∃ m, n = o + m := ⟨n - o, by omega⟩
  rw [hNs_add, hNs_pow]
  exact hNs_ne hN1 hP hQ m W hW h0
/-- The bytes taken one by one from the lowest on are the number taken as a whole. -/
def gN (P x : Nat) (l : List Nat) : Nat := l.foldl (fun x b => hNs P 8 (x ^^^ b)) x
theorem gN_nil (P : Nat) (x : Nat) : gN P x [] = x := by unfold gN; rw [List.foldl_nil]
theorem gN_cons (P : Nat) (x b : Nat) (l : List Nat) : gN P x (b :: l) = gN P (hNs P 8 (x ^^^ b)) l := by unfold gN; rw [List.foldl_cons]
def whole : List Nat → Nat
  | [] => 0
  | b :: l => b + 256 * whole l
theorem gN_whole (P : Nat) (l : List Nat) : ∀ x, (∀ b ∈ l, b < 256) → gN P x l = hNs P (8 * l.length) (x ^^^ whole l) := by
  induction l with
  | nil => intro x _; rw [gN_nil]; simp [whole, hNs]
  | cons b l ih =>
    intro x hb
    have hb0 : b < 2 ^ 8 := hb b (by simp)
    have e : b + 256 * whole l = b ^^^ (whole l * 2 ^ 8) := by
      have h1 : whole l * 2 ^ 8 + b = (whole l * 2 ^ 8) ||| b := by
        rw [← Nat.shiftLeft_eq]; exact Nat.shiftLeft_add_eq_or_of_lt hb0 _
      have h2 : (whole l * 2 ^ 8) ^^^ b = (whole l * 2 ^ 8) ||| b := by
        apply Nat.eq_of_testBit_eq
        intro i
        rw [Nat.testBit_xor, Nat.testBit_or]
        by_cases hi : i < 8
        · have : (whole l * 2 ^ 8).testBit i = false := by rw [← Nat.shiftLeft_eq, Nat.testBit_shiftLeft]; simp; omega
          rw [this]; simp
        · have : b.testBit i = false := Nat.testBit_lt_two_pow (Nat.lt_of_lt_of_le hb0 (Nat.pow_le_pow_right (by decide) (by omega)))
          rw [this]; simp
      rw [Nat.xor_comm, h2, ← h1]; omega
    rw [gN_cons, ih _ (fun c hc => hb c (by simp [hc])), whole, e, List.length_cons, show 8 * (l.length + 1) = 8 + 8 * l.length by omega, hNs_add]
    congr 1
    rw [← Nat.xor_assoc, hNs_xor P 8 (x ^^^ b), hNs_pow]
theorem xor4 (x y b c : Nat) : (x ^^^ y) ^^^ (b ^^^ c) = (x ^^^ b) ^^^ (y ^^^ c) := by
  rw [Nat.xor_assoc, Nat.xor_assoc, ← Nat.xor_assoc y, ← Nat.xor_assoc b, Nat.xor_comm y b]
theorem gN_xor (P : Nat) (l : List Nat) : ∀ (m : List Nat) (x y : Nat), l.length = m.length → gN P (x ^^^ y) (List.zipWith (· ^^^ ·) l m) = gN P x l ^^^ gN P y m := by
  induction l with
  | nil => intro m x y h; cases m with
    | nil => rw [List.zipWith_nil_left, gN_nil, gN_nil, gN_nil]
    | cons _ _ => simp at h
  | cons b l ih => intro m x y h; cases m with
    | nil => simp at h
    | cons c m =>
      rw [List.zipWith_cons_cons, gN_cons, gN_cons, gN_cons, ← ih m _ _ (by simpa using h), ← hNs_xor]
      congr 2
      exact xor4 x y b c
end Go.Proofs.Ythhknlibgfmdkaa.Plain

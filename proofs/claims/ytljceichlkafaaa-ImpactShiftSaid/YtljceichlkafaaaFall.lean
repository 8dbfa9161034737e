/- Plain facts on the times of a fall: the root, and that they grow with height and speed. -/
import Derived.Test.YtljceichlkafaaaSqrt
import Derived.Test.YtljceichlkafaaaPImpactx4
import Derived.Test.YtljceichlkafaaaPImpactx7
namespace Go.Proofs.Ytljceichlkafaaa.Plain
open Go.RowKit Go.Proofs.YtljceichlkafaaaW.PrintWords Go.Proofs.YtljceichlkafaaaW.PrintLast Go.Proofs.Ytljceichlkafaaa.PImpact

def IsRoot (n r : Int) : Prop := 0 ≤ r ∧ r * r ≤ n ∧ n < (r + 1) * (r + 1)
theorem sq_lt {s t : Int} (ht : 0 ≤ t) (h : s * s < t * t) : s < t := by
  rcases ilt_or_ge s t with h1 | h1
  · exact h1
  · have := sq_le ht h1; omega
theorem sq_le_of {s t : Int} (ht : 0 ≤ t) (h : s * s ≤ t * t) : s ≤ t := by
  rcases ilt_or_ge t s with h1 | h1
  · have := mul_lt_sq ht h1; omega
  · exact h1
theorem root_upto {n r B : Int} (h : IsRoot n r) (hB : 0 ≤ B) (hn : n ≤ B * B) : r ≤ B := sq_le_of hB (by have := h.2.1; omega)
theorem fix_sqrt (n : Int) (h0 : 0 ≤ n) (h1 : n < 9223372036854775808) : ∃ r, IsRoot n r ∧ ∀ k, 80 ≤ k → fix_Sqrt.f k n = some (r, true) := by
  have key : ∀ k, 80 ≤ k → ∃ r, wide_Wide_Sqrt.l0 k 0 (2 ^ 63) 0 n = some (r, true) ∧ 0 ≤ r ∧ r * r ≤ n ∧ n < (r + 1) * (r + 1) ∧ r < 18446744073709551616 :=
    fun k hk => sqrt_loop n h0 (by omega) 63 k 0 (by omega) (by omega) (by omega) (by omega) (by decide) (by omega) (by omega)
  have one : ∀ r q : Int, IsRoot n r → IsRoot n q → r = q := fun r q hr hq => by
    have a1 : r < q + 1 := sq_lt (by have := hq.1; omega) (by have := hr.2.1; have := hq.2.2; omega)
    have a2 : q < r + 1 := sq_lt (by have := hr.1; omega) (by have := hq.2.1; have := hr.2.2; omega)
    omega
  obtain ⟨r, _, hr0, hr1, hr2, _⟩ := key 80 (by omega)
  refine ⟨r, ⟨hr0, hr1, hr2⟩, fun k hk => ?_⟩
  obtain ⟨q, hq, hq0, hq1, hq2, _⟩ := key k hk
  obtain rfl := one r q ⟨hr0, hr1, hr2⟩ ⟨hq0, hq1, hq2⟩
  have hsmall : r ≤ 4294967296 := root_upto ⟨hr0, hr1, hr2⟩ (by omega) (by omega)
  obtain ⟨k, rfl⟩ : ∃ m, k = m + 1 := ⟨k - 1, by omega⟩
  have e0 : n / 9223372036854775808 = 0 := by omega
  have e1 : n % 18446744073709551616 = n := by omega
  have hq' : wide_Wide_Sqrt.l0 (k + 1) 0 9223372036854775808 0 n = some (r, true) := hq
  unfold fix_Sqrt.f wide_Of.f fix_root.f wide_Wide_Sqrt.f
  simp only [Option.bind_some, wu64, e0, e1, if_true]
  rw [if_neg (by decide), hq']
  simp only [Option.bind_some, if_true, fix_root.j0]
  rw [if_neg (by simp; omega)]
  simp only [Option.bind_some]
  rw [w64 (by omega) (by omega)]
/-- How many whole cycles till it is on the ground. -/
def Falls (z v g t : Int) : Prop := (z < 0 ∧ t = 0) ∨ (0 ≤ z ∧ ∃ r, IsRoot (v * v + 2 * g * z) r ∧ t = (v + r) / g)
theorem root_abs {v c r : Int} (hc : 0 ≤ c) (h : IsRoot (v * v + c) r) : 0 ≤ v + r ∧ 0 ≤ r - v := by
  have h1 : v < r + 1 := sq_lt (by have := h.1; omega) (by have := h.2.2; omega)
  have h2 : -v < r + 1 := sq_lt (by have := h.1; omega) (by have := h.2.2; rw [Int.neg_mul_neg]; omega)
  omega
theorem falls_ge {z v g t : Int} (hg : 0 < g) (h : Falls z v g t) : 0 ≤ t := by
  rcases h with ⟨_, rfl⟩ | ⟨hz, r, hr, rfl⟩
  · omega
  · have hc : 0 ≤ 2 * g * z := Int.mul_nonneg (by omega) hz
    exact Int.ediv_nonneg (root_abs hc hr).1 (by omega)
theorem sum_le {v v' r r' c c' : Int} (hc : 0 ≤ c) (hcc : c ≤ c') (hv : v ≤ v') (h : IsRoot (v * v + c) r) (h' : IsRoot (v' * v' + c') r') : v + r ≤ v' + r' := by
  rcases ilt_or_ge (v' + r') (v + r) with hlt | hge
  · exfalso
    obtain ⟨d, rfl⟩ : ∃ d, v' = v + d := ⟨v' - v, by omega⟩
    have hd : 0 ≤ d := by omega
    have ha := (root_abs (by omega) h').1
    have h1 := h.2.1
    have h2 := h'.2.2
    have h3 : (r' + 1 + d) * (r' + 1 + d) ≤ r * r := sq_le (by have := h'.1; omega) (by omega)
    have e1 : (r' + 1 + d) * (r' + 1 + d) = (r' + 1) * (r' + 1) + 2 * (d * (r' + 1)) + d * d := by grind
    have e2 : (v + d) * (v + d) = v * v + 2 * (d * v) + d * d := by grind
    have h4 : 0 ≤ d * (r' + 1 + (v + d)) := Int.mul_nonneg hd (by omega)
    have e3 : d * (r' + 1 + (v + d)) = d * (r' + 1) + d * v + d * d := by grind
    omega
  · exact hge
theorem falls_mono {z z' v v' g t t' : Int} (hg : 0 < g) (hz : z ≤ z') (hv : v ≤ v') (h : Falls z v g t) (h' : Falls z' v' g t') : t ≤ t' := by
  have h0 := falls_ge hg h'
  rcases h with ⟨_, rfl⟩ | ⟨hz0, r, hr, rfl⟩
  · exact h0
  · rcases h' with ⟨hz1, _⟩ | ⟨hz1, r', hr', rfl⟩
    · omega
    · exact Int.ediv_le_ediv hg (sum_le (Int.mul_nonneg (by omega) hz0) (Int.mul_le_mul_of_nonneg_left hz (by omega)) hv hr hr')
/-- What the code tells of it. -/
theorem fallen (z v g : Int) (hz : z ≤ 4294967296) (hz' : -4294967296 ≤ z) (hv : -262144 ≤ v) (hv' : v ≤ 262144) (hg : 1 ≤ g) (hg' : g ≤ 100) :
    ∃ t, Falls z v g t ∧ 0 ≤ t ∧ t ≤ 4194304 ∧ ∀ k, 80 ≤ k → fall_fallen.f k z v g = some (t, true) := by
  by_cases h : z < 0
  · exact ⟨0, .inl ⟨h, rfl⟩, by omega, by omega, fun k hk => by unfold fall_fallen.f; rw [if_pos h]⟩
  · have hc : 0 ≤ 2 * g * z := Int.mul_nonneg (by omega) (by omega)
    have hc' : 2 * g * z ≤ 200 * 4294967296 := by
      have a1 : 2 * g * z ≤ 200 * z := Int.mul_le_mul_of_nonneg_right (by omega) (by omega)
      omega
    have hvv : 0 ≤ v * v := by rcases Int.le_total 0 v with h | h
                               · exact Int.mul_nonneg h h
                               · exact Int.mul_nonneg_of_nonpos_of_nonpos h h
    have hvv' : v * v ≤ 68719476736 := by
      rcases Int.le_total 0 v with h | h
      · have := sq_le h hv'; omega
      · have := sq_le (s := -v) (t := 262144) (by omega) (by omega); rw [Int.neg_mul_neg] at this; omega
    obtain ⟨r, hr, hk⟩ := fix_sqrt (v * v + 2 * g * z) (by omega) (by omega)
    have ha := root_abs hc hr
    have hr' : r ≤ 1048576 := root_upto hr (by omega) (by omega)
    have hq : 0 ≤ (v + r) / g := Int.ediv_nonneg ha.1 (by omega)
    have hq' : (v + r) / g ≤ 1310720 := Int.le_trans (Int.ediv_le_self _ ha.1) (by omega)
    refine ⟨(v + r) / g, .inr ⟨by omega, r, hr, rfl⟩, hq, by omega, fun k hk2 => ?_⟩
    unfold fall_fallen.f
    rw [if_neg h, w64 (x := v * v) (by omega) (by omega), w64 (x := 2 * g) (by omega) (by omega), w64 (x := 2 * g * z) (by omega) (by omega), w64 (x := v * v + 2 * g * z) (by omega) (by omega), hk k hk2]
    simp only [Option.bind_some]
    rw [if_neg (by omega), w64 (x := v + r) (by omega) (by omega), Int.tdiv_eq_ediv_of_nonneg ha.1, w64 (by omega) (by omega)]
end Go.Proofs.Ytljceichlkafaaa.Plain

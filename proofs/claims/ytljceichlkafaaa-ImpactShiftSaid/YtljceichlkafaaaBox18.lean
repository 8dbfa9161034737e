/- Plain facts on a box of impact: what it is of numbers that may be reckoned with. -/
import Derived.Test.YtljceichlkafaaaFall
import Derived.Test.YtljceichlkafaaaPImpactx6
import Derived.Test.YtljceichlkafaaaPImpactx7
namespace Go.Proofs.Ytljceichlkafaaa.Plain
open Go.RowKit Go.Proofs.YtljceichlkafaaaW.PrintWords Go.Proofs.YtljceichlkafaaaW.PrintLast Go.Proofs.YtljceichlkafaaaW.PrintMore Go.Proofs.Ytljceichlkafaaa.PImpact

theorem mn_le (a b : Int) : mn a b ≤ a ∧ mn a b ≤ b ∧ (mn a b = a ∨ mn a b = b) := by unfold mn; omega
theorem mx_ge (a b : Int) : a ≤ mx a b ∧ b ≤ mx a b ∧ (mx a b = a ∨ mx a b = b) := by unfold mx; omega
theorem near2 (B a b : Int) (hB : 0 ≤ B) (hB' : B ≤ 4294967296) (ha : -B ≤ a) (ha' : a ≤ B) (hb : -B ≤ b) (hb' : b ≤ B) : ∀ k, 20 ≤ k → impact_within.f k B [a, b] = some true := by
  intro k hk
  obtain ⟨k, rfl⟩ : ∃ m, k = m + 8 := ⟨k - 8, by omega⟩
  have e1 : wrap64 (0 + 1) = 1 := w64 (by omega) (by omega)
  have e2 : wrap64 (1 + 1) = 2 := w64 (by omega) (by omega)
  have eB : wrap64 (-B) = -B := w64 (by omega) (by omega)
  have r0 : rd [a, b] 0 = a := rfl
  have r1 : rd [a, b] 1 = b := rfl
  unfold impact_within.f
  simp only [List.length_cons, List.length_nil, impact_within.l0]
  rw [if_pos (by decide), if_pos (by decide), if_pos (by decide), r0, eB, if_neg (by omega), decide_eq_false (by omega)]
  simp only [impact_within.j1]
  rw [if_neg (by decide), e1]
  simp only [impact_within.l0]
  rw [if_pos (by omega), if_pos (by omega), if_pos (by simp), r1, eB, if_neg (by omega), decide_eq_false (by omega)]
  simp only [impact_within.j1]
  rw [if_neg (by decide), e2]
  simp only [impact_within.l0]
  rw [if_neg (by decide)]
/-- Numbers that may be reckoned with. -/
structure Fine (x y z vx vy vz g eps : Int) : Prop where
  x0 : -2147483648 ≤ x
  x1 : x ≤ 2147483648
  y0 : -2147483648 ≤ y
  y1 : y ≤ 2147483648
  z0 : -2147483648 ≤ z
  z1 : z ≤ 2147483648
  vx0 : -131072 ≤ vx
  vx1 : vx ≤ 131072
  vy0 : -131072 ≤ vy
  vy1 : vy ≤ 131072
  vz0 : -131072 ≤ vz
  vz1 : vz ≤ 131072
  g0 : 1 ≤ g
  g1 : g ≤ 100
  e0 : 0 ≤ eps
  e1 : eps ≤ 2048
theorem may_fine {x y z vx vy vz g eps : Int} (h : Fine x y z vx vy vz g eps) : fall_may.f z vz g = some true := by
  obtain ⟨x0, x1, y0, y1, z0, z1, vx0, vx1, vy0, vy1, vz0, vz1, g0, g1, e0, e1⟩ := h
  unfold fall_may.f fall_within.f
  rw [if_pos (by omega)]; simp only [Option.bind_some]
  rw [decide_eq_true (by omega), if_pos rfl, if_pos (by omega)]; simp only [Option.bind_some]
  rw [decide_eq_true (by omega), if_pos rfl, if_pos (by omega)]; simp only [Option.bind_some]
  rw [decide_eq_true (by omega)]
theorem span_fine {x y z vx vy vz g eps : Int} (h : Fine x y z vx vy vz g eps) : ∃ lo hi, Falls (z - eps) (vz - eps) g lo ∧ Falls (z + eps) (vz + eps) g hi ∧ 0 ≤ lo ∧ lo ≤ hi ∧ hi ≤ 4194304 ∧
    ∀ k, 100 ≤ k → fall_Span.f k z vz g eps = some (lo, hi + 2, true) := by
  have hm := may_fine h
  obtain ⟨x0, x1, y0, y1, z0, z1, vx0, vx1, vy0, vy1, vz0, vz1, g0, g1, e0, e1⟩ := h
  obtain ⟨lo, hlo, l0, l1, lk⟩ := fallen (z - eps) (vz - eps) g (by omega) (by omega) (by omega) (by omega) g0 g1
  obtain ⟨hi, hhi, h0, h1, hk⟩ := fallen (z + eps) (vz + eps) g (by omega) (by omega) (by omega) (by omega) g0 g1
  refine ⟨lo, hi, hlo, hhi, l0, falls_mono (by omega) (by omega) (by omega) hlo hhi, h1, fun k hk2 => ?_⟩
  obtain ⟨k, rfl⟩ : ∃ m, k = m + 4 := ⟨k - 4, by omega⟩
  unfold fall_Span.f fall_within.f
  rw [if_pos (by omega)]; simp only [Option.bind_some]
  rw [decide_eq_true (by omega), if_pos rfl, hm]; simp only [Option.bind_some, fall_Span.j0]
  rw [if_neg (by decide), w64 (x := z - eps) (by omega) (by omega), w64 (x := vz - eps) (by omega) (by omega), lk (k + 3) (by omega)]; simp only [Option.bind_some]
  rw [w64 (x := z + eps) (by omega) (by omega), w64 (x := vz + eps) (by omega) (by omega), hk (k + 3) (by omega)]; simp only [Option.bind_some, if_true, fall_Span.j1]
  rw [if_neg (by decide), w64 (x := hi + 2) (by omega) (by omega)]
theorem prod_bd {s t S T : Int} (hs : -S ≤ s) (hs' : s ≤ S) (ht : 0 ≤ t) (ht' : t ≤ T) (hS : 0 ≤ S) : -(S * T) ≤ s * t ∧ s * t ≤ S * T := by
  have hT : S * t ≤ S * T := Int.mul_le_mul_of_nonneg_left ht' hS
  have h1 : s * t ≤ S * t := Int.mul_le_mul_of_nonneg_right hs' ht
  have h2 : -S * t ≤ s * t := Int.mul_le_mul_of_nonneg_right hs ht
  rw [Int.neg_mul] at h2
  omega
/-- A side of the box, and what is known of it. -/
theorem side_fine {x v eps lo hi : Int} (x0 : -2147483648 ≤ x) (x1 : x ≤ 2147483648) (v0 : -131072 ≤ v) (v1 : v ≤ 131072) (e0 : 0 ≤ eps) (e1 : eps ≤ 2048) (l0 : 0 ≤ lo) (l1 : lo ≤ hi) (h1 : hi ≤ 4194306) :
    impact_side.f x v eps lo hi = some (x - eps + mn ((v - eps) * lo) ((v - eps) * hi), x + eps + mx ((v + eps) * lo) ((v + eps) * hi)) ∧
      -1099511627776 ≤ x - eps + mn ((v - eps) * lo) ((v - eps) * hi) ∧ x - eps + mn ((v - eps) * lo) ((v - eps) * hi) ≤ x + eps + mx ((v + eps) * lo) ((v + eps) * hi) ∧ x + eps + mx ((v + eps) * lo) ((v + eps) * hi) ≤ 1099511627776 := by
  have a1 := prod_bd (s := v - eps) (t := lo) (S := 133120) (T := 4194306) (by omega) (by omega) l0 (by omega) (by omega)
  have a2 := prod_bd (s := v - eps) (t := hi) (S := 133120) (T := 4194306) (by omega) (by omega) (by omega) h1 (by omega)
  have a3 := prod_bd (s := v + eps) (t := lo) (S := 133120) (T := 4194306) (by omega) (by omega) l0 (by omega) (by omega)
  have a4 := prod_bd (s := v + eps) (t := hi) (S := 133120) (T := 4194306) (by omega) (by omega) (by omega) h1 (by omega)
  have a5 : (v - eps) * lo ≤ (v + eps) * lo := Int.mul_le_mul_of_nonneg_right (by omega) l0
  unfold impact_side.f
  rw [w64 (x := v - eps) (by omega) (by omega), w64 (x := v + eps) (by omega) (by omega), w64 (x := x - eps) (by omega) (by omega), w64 (x := x + eps) (by omega) (by omega)]
  generalize (v - eps) * lo = p1 at *
  generalize (v - eps) * hi = p2 at *
  generalize (v + eps) * lo = p3 at *
  generalize (v + eps) * hi = p4 at *
  have b1 := mn_le p1 p2
  have b2 := mx_ge p3 p4
  rw [w64 (x := p1) (by omega) (by omega), w64 (x := p2) (by omega) (by omega), w64 (x := p3) (by omega) (by omega), w64 (x := p4) (by omega) (by omega)]
  rw [w64 (x := x - eps + mn p1 p2) (by omega) (by omega), w64 (x := x + eps + mx p3 p4) (by omega) (by omega)]
  exact ⟨rfl, by omega, by omega, by omega⟩
theorem right_point {x y : Int} (x0 : -1099511627776 ≤ x) (x1 : x ≤ 1099511627776) (y0 : -1099511627776 ≤ y) (y1 : y ≤ 1099511627776) : point_Right.f x y = some true := by
  unfold point_Right.f point_within.f
  rw [if_pos (by omega)]; simp only [Option.bind_some]
  rw [decide_eq_true (by omega), if_pos rfl, if_pos (by omega)]; simp only [Option.bind_some]
  rw [decide_eq_true (by omega)]
theorem right_box {a b c d : Int} (a0 : -1099511627776 ≤ a) (ac : a ≤ c) (c1 : c ≤ 1099511627776) (b0 : -1099511627776 ≤ b) (bd : b ≤ d) (d1 : d ≤ 1099511627776) : box_Right.f a b c d = some true := by
  unfold box_Right.f
  rw [right_point a0 (by omega) b0 (by omega)]; simp only [Option.bind_some, if_true]
  rw [right_point (by omega) c1 (by omega) d1]; simp only [Option.bind_some, if_true]
  rw [if_pos ac, decide_eq_true bd]
theorem near_fine {x y z vx vy vz g eps : Int} (h : Fine x y z vx vy vz g eps) (c f : Int) : ∀ k, 30 ≤ k → impact_may.f k c f x y z vx vy vz = some true := by
  obtain ⟨x0, x1, y0, y1, z0, z1, vx0, vx1, vy0, vy1, vz0, vz1, g0, g1, e0, e1⟩ := h
  intro k hk
  unfold impact_may.f
  rw [near2 2147483648 x y (by omega) (by omega) x0 x1 y0 y1 k (by omega)]; simp only [Option.bind_some, if_true]
  rw [near2 131072 vx vy (by omega) (by omega) vx0 vx1 vy0 vy1 k (by omega)]; simp only [Option.bind_some]
/-- The box, and what is known of it. -/
def low (x v eps lo hi : Int) : Int := x - eps + mn ((v - eps) * lo) ((v - eps) * hi)
def high (x v eps lo hi : Int) : Int := x + eps + mx ((v + eps) * lo) ((v + eps) * hi)
theorem box_fine {x y z vx vy vz g eps : Int} (h : Fine x y z vx vy vz g eps) : ∃ lo hi, Falls (z - eps) (vz - eps) g lo ∧ Falls (z + eps) (vz + eps) g hi ∧ 0 ≤ lo ∧ lo ≤ hi ∧ hi ≤ 4194304 ∧
    ∀ k c f, 110 ≤ k → impact_Box.f k c f x y z vx vy vz g eps = some (low x vx eps lo (hi + 2), low y vy eps lo (hi + 2), high x vx eps lo (hi + 2), high y vy eps lo (hi + 2), true) := by
  obtain ⟨lo, hi, hlo, hhi, l0, lh, h1, hk⟩ := span_fine h
  have hn := near_fine h
  obtain ⟨x0, x1, y0, y1, z0, z1, vx0, vx1, vy0, vy1, vz0, vz1, g0, g1, e0, e1⟩ := h
  have hx := side_fine x0 x1 vx0 vx1 e0 e1 l0 (hi := hi + 2) (by omega) (by omega)
  have hy := side_fine y0 y1 vy0 vy1 e0 e1 l0 (hi := hi + 2) (by omega) (by omega)
  refine ⟨lo, hi, hlo, hhi, l0, lh, h1, fun k c f hk2 => ?_⟩
  obtain ⟨k, rfl⟩ : ∃ m, k = m + 4 := ⟨k - 4, by omega⟩
  unfold impact_Box.f
  rw [hk (k + 4) (by omega)]; simp only [Option.bind_some, if_true]
  rw [hn c f (k + 4) (by omega)]; simp only [Option.bind_some, impact_Box.j0]
  rw [if_neg (by decide), hx.1]; simp only [Option.bind_some]
  rw [hy.1]; simp only [Option.bind_some]
  rw [right_box hx.2.1 hx.2.2.1 hx.2.2.2 hy.2.1 hy.2.2.1 hy.2.2.2]; simp only [Option.bind_some]
  rfl
end Go.Proofs.Ytljceichlkafaaa.Plain

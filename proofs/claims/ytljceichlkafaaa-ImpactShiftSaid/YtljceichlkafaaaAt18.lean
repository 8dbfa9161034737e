/- Plain facts on the place of an impact, and on how far it may be off. -/
import Derived.Test.YtljceichlkafaaaBox18
import Derived.Test.YtljceichlkafaaaWAdd
import Derived.Test.YtljceichlkafaaaPImpactx7
import Derived.Test.YtljceichlkafaaaPImpactx9
namespace Go.Proofs.Ytljceichlkafaaa.Plain
open Go.RowKit Go.Proofs.YtljceichlkafaaaW.PrintWords Go.Proofs.YtljceichlkafaaaW.PrintLast Go.Proofs.YtljceichlkafaaaW.PrintMore Go.Proofs.Ytljceichlkafaaa.PImpact

theorem aw1 : fall_Span.f 200 100 0 2 0 = some (10, 12, true) := by decide +kernel
theorem aw2 : fall_Time.f 200 100 0 2 = some (10, true) := by decide +kernel
theorem aw3 : impact_Box.f 200 0 0 0 0 100 3 0 0 2 0 = some (30, 0, 36, 0, true) := by unfold impact_Box.f; rw [aw1]; decide +kernel
theorem aw4 : impact_At.f 200 0 0 0 0 100 3 0 0 2 = some (30, 0, true) := by unfold impact_At.f; rw [aw2]; decide +kernel
theorem aw5 : impact_Slack.f 200 0 0 0 0 100 3 0 0 2 0 = some (6, true) := by unfold impact_Slack.f; rw [aw3, aw4]; decide +kernel
theorem aw6 : impact_Way.f 200 0 0 0 0 100 3 0 0 2 4 = some (12, 0, true) := by decide +kernel
theorem aw7 : impact_Box.f 200 0 0 0 0 100 3 0 0 0 0 = some (0, 0, 0, 0, false) := by decide +kernel
theorem aw8 : impact_Way.f 200 0 0 0 0 100 3 0 0 2 (-1) = some (0, 0, false) := by decide +kernel
theorem awake_of (k : Nat) (h3 : impact_Box.f k 0 0 0 0 100 3 0 0 2 0 = some (30, 0, 36, 0, true)) (h4 : impact_At.f k 0 0 0 0 100 3 0 0 2 = some (30, 0, true)) (h5 : impact_Slack.f k 0 0 0 0 100 3 0 0 2 0 = some (6, true))
    (h6 : impact_Way.f k 0 0 0 0 100 3 0 0 2 4 = some (12, 0, true)) (h7 : impact_Box.f k 0 0 0 0 100 3 0 0 0 0 = some (0, 0, 0, 0, false)) (h8 : impact_Way.f k 0 0 0 0 100 3 0 0 2 (-1) = some (0, 0, false)) : apogeelaw18_awake.f k = some true := by
  unfold apogeelaw18_awake.f
  rw [h3, h4, h5, h6, h7, h8]
  rfl
theorem awake_ok : apogeelaw18_awake.f 200 = some true := awake_of 200 aw3 aw4 aw5 aw6 aw7 aw8
theorem sum_go (k : Nat) (vs : List Int) (acc i n s j v : Int) (i0 : 0 ≤ i) (i1 : i < n) (hn : n = (vs.length : Int)) (hi : i ≤ 1000) (hv : rd vs i = v)
    (ha : -9223372036854775808 ≤ acc) (ha' : acc ≤ 9223372036854775807) (hb : -9223372036854775808 ≤ v) (hb' : v ≤ 9223372036854775807)
    (hs : -9223372036854775808 ≤ acc + v) (hs' : acc + v ≤ 9223372036854775807) (es : acc + v = s) (ej : i + 1 = j) :
    fix_Sum.l0 (k + 1) acc vs n i = fix_Sum.l0 k s vs n j := by
  rw [fix_Sum.l0, if_pos i1, if_pos i0, if_pos (by omega), hv, add_fine acc v ha ha' hb hb' hs hs', Option.bind_some, if_pos rfl, w64 (by omega) (by omega), es, ej]
theorem sum_end (k : Nat) (vs : List Int) (acc n : Int) : fix_Sum.l0 (k + 1) acc vs n n = some (acc, true) := by
  rw [fix_Sum.l0, if_neg (by omega)]
theorem sum3 (a b c : Int) (ha : -1152921504606846976 ≤ a) (ha' : a ≤ 1152921504606846976) (hb : -1152921504606846976 ≤ b) (hb' : b ≤ 1152921504606846976) (hc : -1152921504606846976 ≤ c) (hc' : c ≤ 1152921504606846976) :
    ∀ k, 20 ≤ k → fix_Sum.f k [a, b, c] = some (a + b + c, true) := by
  intro k hk
  obtain ⟨k, rfl⟩ : ∃ m, k = m + 1 + 1 + 1 + 1 := ⟨k - 4, by omega⟩
  have hl : (([a, b, c] : List Int).length : Int) = 3 := by simp
  have r0 : rd [a, b, c] 0 = a := by simp [rd]
  have r1 : rd [a, b, c] 1 = b := by simp [rd]
  have r2 : rd [a, b, c] 2 = c := by simp [rd]
  rw [fix_Sum.f, hl]
  rw [sum_go _ _ 0 0 3 a 1 a (by omega) (by omega) hl.symm (by omega) r0 (by omega) (by omega) (by omega) (by omega) (by omega) (by omega) (by omega) (by omega)]
  rw [sum_go _ _ a 1 3 (a + b) 2 b (by omega) (by omega) hl.symm (by omega) r1 (by omega) (by omega) (by omega) (by omega) (by omega) (by omega) (by omega) (by omega)]
  rw [sum_go _ _ (a + b) 2 3 (a + b + c) 3 c (by omega) (by omega) hl.symm (by omega) r2 (by omega) (by omega) (by omega) (by omega) (by omega) (by omega) (by omega) (by omega)]
  exact sum_end _ _ _ _
theorem above_fine {x y z vx vy vz g eps t : Int} (h : Fine x y z vx vy vz g eps) (t0 : 0 ≤ t) (t1 : t ≤ 4194304) : ∃ r, ∀ k, 40 ≤ k → fall_Above.f k z vz g t = some (r, true) := by
  have hm := may_fine h
  obtain ⟨x0, x1, y0, y1, z0, z1, vx0, vx1, vy0, vy1, vz0, vz1, g0, g1, e0, e1⟩ := h
  refine ⟨2 * z + 2 * vz * t + -g * t * t, fun k hk => ?_⟩
  obtain ⟨k, rfl⟩ : ∃ m, k = m + 4 := ⟨k - 4, by omega⟩
  have a1 := prod_bd (s := 2 * vz) (t := t) (S := 262144) (T := 4194304) (by omega) (by omega) t0 t1 (by omega)
  have a2 := prod_bd (s := -g) (t := t) (S := 100) (T := 4194304) (by omega) (by omega) t0 t1 (by omega)
  have a3 := prod_bd (s := -g * t) (t := t) (S := 419430400) (T := 4194304) (by omega) (by omega) t0 t1 (by omega)
  unfold fall_Above.f fall_within.f
  rw [hm]; simp only [Option.bind_some, if_true]
  rw [if_pos (by omega)]; simp only [Option.bind_some, fall_Above.j0]
  rw [decide_eq_true (by omega), if_neg (by decide), w64 (x := 2 * z) (by omega) (by omega), w64 (x := 2 * vz) (by omega) (by omega), w64 (x := 2 * vz * t) (by omega) (by omega), w64 (x := -g) (by omega) (by omega), w64 (x := -g * t) (by omega) (by omega), w64 (x := -g * t * t) (by omega) (by omega)]
  rw [sum3 _ _ _ (by omega) (by omega) (by omega) (by omega) (by omega) (by omega) _ (by omega)]
  simp only [Option.bind_some]
theorem fine_falls {x y z vx vy vz g eps : Int} (h : Fine x y z vx vy vz g eps) : ∃ t, Falls z vz g t ∧ 0 ≤ t ∧ t ≤ 4194304 ∧ ∀ k c f, 110 ≤ k → impact_At.f k c f x y z vx vy vz g = some (x + vx * t, y + vy * t, true) := by
  have hm := may_fine h
  have hn := near_fine h
  have hf := h
  obtain ⟨x0, x1, y0, y1, z0, z1, vx0, vx1, vy0, vy1, vz0, vz1, g0, g1, e0, e1⟩ := h
  obtain ⟨t, ht, t0, t1, hk⟩ := fallen z vz g (by omega) (by omega) (by omega) (by omega) g0 g1
  obtain ⟨r, hr⟩ := above_fine hf t0 t1
  have a1 := prod_bd (s := vx) (t := t) (S := 131072) (T := 4194304) (by omega) (by omega) t0 t1 (by omega)
  have a2 := prod_bd (s := vy) (t := t) (S := 131072) (T := 4194304) (by omega) (by omega) t0 t1 (by omega)
  refine ⟨t, ht, t0, t1, fun k c f hk2 => ?_⟩
  obtain ⟨k, rfl⟩ : ∃ m, k = m + 4 := ⟨k - 4, by omega⟩
  unfold impact_At.f fall_Time.f
  rw [hm]; simp only [Option.bind_some, if_true]
  rw [hk _ (by omega)]; simp only [Option.bind_some, if_true]
  unfold impact_Way.f
  rw [hr _ (by omega)]; simp only [Option.bind_some, if_true]
  rw [hn c f _ (by omega)]; simp only [Option.bind_some, impact_Way.j0]
  rw [if_neg (by decide), w64 (x := vx * t) (by omega) (by omega), w64 (x := vy * t) (by omega) (by omega), w64 (x := x + vx * t) (by omega) (by omega), w64 (x := y + vy * t) (by omega) (by omega)]
  rfl
/-- With less eps a box is in the one with more. -/
theorem low_mono {x v eps eps' lo hi lo' hi' : Int} (he : eps ≤ eps') (l0 : 0 ≤ lo') (l1 : lo' ≤ lo) (lh : lo ≤ hi) (h1 : hi ≤ hi') : low x v eps' lo' hi' ≤ low x v eps lo hi := by
  unfold low
  have b1 := mn_le ((v - eps') * lo') ((v - eps') * hi')
  have b2 := mn_le ((v - eps) * lo) ((v - eps) * hi)
  have key : ∀ s, lo' ≤ s → s ≤ hi' → mn ((v - eps') * lo') ((v - eps') * hi') ≤ (v - eps) * s := by
    intro s hs0 hs1
    have c1 : (v - eps') * s ≤ (v - eps) * s := Int.mul_le_mul_of_nonneg_right (by omega) (by omega)
    rcases Int.le_total 0 (v - eps') with h | h
    · have := Int.mul_le_mul_of_nonneg_left hs0 h; omega
    · have := Int.mul_le_mul_of_nonpos_left h hs1; omega
  have k1 := key lo l1 (by omega)
  have k2 := key hi (by omega) h1
  rcases b2.2.2 with e | e <;> rw [e] <;> omega
theorem high_mono {x v eps eps' lo hi lo' hi' : Int} (he : eps ≤ eps') (l0 : 0 ≤ lo') (l1 : lo' ≤ lo) (lh : lo ≤ hi) (h1 : hi ≤ hi') : high x v eps lo hi ≤ high x v eps' lo' hi' := by
  unfold high
  have b1 := mx_ge ((v + eps') * lo') ((v + eps') * hi')
  have b2 := mx_ge ((v + eps) * lo) ((v + eps) * hi)
  have key : ∀ s, lo' ≤ s → s ≤ hi' → (v + eps) * s ≤ mx ((v + eps') * lo') ((v + eps') * hi') := by
    intro s hs0 hs1
    have c1 : (v + eps) * s ≤ (v + eps') * s := Int.mul_le_mul_of_nonneg_right (by omega) (by omega)
    rcases Int.le_total 0 (v + eps') with h | h
    · have := Int.mul_le_mul_of_nonneg_left hs1 h; omega
    · have := Int.mul_le_mul_of_nonpos_left h hs0; omega
  have k1 := key lo l1 (by omega)
  have k2 := key hi (by omega) h1
  rcases b2.2.2 with e | e <;> rw [e] <;> omega
/-- A place at a time of the box's is in it. -/
theorem in_low {x v eps lo hi t : Int} (he : 0 ≤ eps) (l0 : 0 ≤ lo) (l1 : lo ≤ t) (h1 : t ≤ hi) : low x v eps lo hi ≤ x + v * t := by
  have := low_mono (x := x) (v := v) (eps := 0) (lo := t) (hi := t) he l0 l1 (by omega) h1
  have e : low x v 0 t t = x + v * t := by unfold low mn; simp
  omega
theorem in_high {x v eps lo hi t : Int} (he : 0 ≤ eps) (l0 : 0 ≤ lo) (l1 : lo ≤ t) (h1 : t ≤ hi) : x + v * t ≤ high x v eps lo hi := by
  have := high_mono (x := x) (v := v) (eps := 0) (lo := t) (hi := t) he l0 l1 (by omega) h1
  have e : high x v 0 t t = x + v * t := by unfold high mx; simp
  omega
theorem low_bd {x v eps lo hi : Int} (x0 : -2147483648 ≤ x) (x1 : x ≤ 2147483648) (v0 : -131072 ≤ v) (v1 : v ≤ 131072) (e0 : 0 ≤ eps) (e1 : eps ≤ 2048) (l0 : 0 ≤ lo) (l1 : lo ≤ hi) (h1 : hi ≤ 4194306) :
    -1099511627776 ≤ low x v eps lo hi ∧ low x v eps lo hi ≤ high x v eps lo hi ∧ high x v eps lo hi ≤ 1099511627776 := (side_fine x0 x1 v0 v1 e0 e1 l0 l1 h1).2
theorem falls_one {z v g t t' : Int} (hg : 0 < g) (h : Falls z v g t) (h' : Falls z v g t') : t = t' := by
  have a := falls_mono hg (Int.le_refl _) (Int.le_refl _) h h'
  have b := falls_mono hg (Int.le_refl _) (Int.le_refl _) h' h
  omega
theorem slack_fine {x y z vx vy vz g eps lo hi t : Int} (h : Fine x y z vx vy vz g eps)
    (hlo : 0 ≤ lo) (hh : hi ≤ 4194304) (l1 : lo ≤ t) (h1 : t ≤ hi)
    (hb : ∀ k c f, 110 ≤ k → impact_Box.f k c f x y z vx vy vz g eps = some (low x vx eps lo (hi + 2), low y vy eps lo (hi + 2), high x vx eps lo (hi + 2), high y vy eps lo (hi + 2), true))
    (ha : ∀ k c f, 110 ≤ k → impact_At.f k c f x y z vx vy vz g = some (x + vx * t, y + vy * t, true)) :
    ∀ k c f, 120 ≤ k → impact_Slack.f k c f x y z vx vy vz g eps = some (mx (mx (mx (x + vx * t - low x vx eps lo (hi + 2)) (high x vx eps lo (hi + 2) - (x + vx * t))) (y + vy * t - low y vy eps lo (hi + 2))) (high y vy eps lo (hi + 2) - (y + vy * t)), true) := by
  obtain ⟨x0, x1, y0, y1, z0, z1, vx0, vx1, vy0, vy1, vz0, vz1, g0, g1, e0, e1⟩ := h
  have c1 := low_bd x0 x1 vx0 vx1 e0 e1 hlo (hi := hi + 2) (by omega) (by omega)
  have c2 := low_bd y0 y1 vy0 vy1 e0 e1 hlo (hi := hi + 2) (by omega) (by omega)
  have i1 := in_low (x := x) (v := vx) e0 hlo l1 (hi := hi + 2) (by omega)
  have i2 := in_high (x := x) (v := vx) e0 hlo l1 (hi := hi + 2) (by omega)
  have i3 := in_low (x := y) (v := vy) e0 hlo l1 (hi := hi + 2) (by omega)
  have i4 := in_high (x := y) (v := vy) e0 hlo l1 (hi := hi + 2) (by omega)
  intro k c f hk
  obtain ⟨k, rfl⟩ : ∃ m, k = m + 4 := ⟨k - 4, by omega⟩
  unfold impact_Slack.f
  rw [hb _ c f (by omega)]; simp only [Option.bind_some]
  rw [ha _ c f (by omega)]; simp only [Option.bind_some, if_true, impact_Slack.j0]
  rw [if_neg (by decide)]
  generalize x + vx * t = px at *
  generalize y + vy * t = py at *
  generalize low x vx eps lo (hi + 2) = a at *
  generalize high x vx eps lo (hi + 2) = b at *
  generalize low y vy eps lo (hi + 2) = c' at *
  generalize high y vy eps lo (hi + 2) = d at *
  rw [w64 (x := px - a) (by omega) (by omega), w64 (x := b - px) (by omega) (by omega), w64 (x := py - c') (by omega) (by omega), w64 (x := d - py) (by omega) (by omega)]
  have m1 := mx_ge (px - a) (b - px)
  have m2 := mx_ge (mx (px - a) (b - px)) (py - c')
  have m3 := mx_ge (mx (mx (px - a) (b - px)) (py - c')) (d - py)
  unfold fix_Clamp.f
  rw [if_neg (by omega), if_neg (by omega)]
  simp only [Option.bind_some]
theorem ref_point {x y : Int} (x0 : -1099511627776 ≤ x) (x1 : x ≤ 1099511627776) (y0 : -1099511627776 ≤ y) (y1 : y ≤ 1099511627776) : apogeeref10_Right.f x y = some true := by
  unfold apogeeref10_Right.f
  rw [if_pos (by omega), if_pos (by omega), if_pos (by omega), decide_eq_true (by omega)]
theorem ref_box {a b c d : Int} (a0 : -1099511627776 ≤ a) (ac : a ≤ c) (c1 : c ≤ 1099511627776) (b0 : -1099511627776 ≤ b) (bd : b ≤ d) (d1 : d ≤ 1099511627776) : apogeeref12_Right.f a b c d = some true := by
  unfold apogeeref12_Right.f
  rw [ref_point a0 (by omega) b0 (by omega)]; simp only [Option.bind_some, if_true]
  rw [ref_point (by omega) c1 (by omega) d1]; simp only [Option.bind_some, if_true]
  rw [if_pos ac, decide_eq_true bd]
theorem ref_has {a b c d x y : Int} (a0 : -1099511627776 ≤ a) (ax : a ≤ x) (xc : x ≤ c) (c1 : c ≤ 1099511627776) (b0 : -1099511627776 ≤ b) (byy : b ≤ y) (yd : y ≤ d) (d1 : d ≤ 1099511627776) : apogeeref12_Has.f a b c d x y = some true := by
  unfold apogeeref12_Has.f
  rw [ref_box a0 (by omega) c1 b0 (by omega) d1]; simp only [Option.bind_some, if_true]
  rw [ref_point (by omega) (by omega) (by omega) (by omega)]; simp only [Option.bind_some, if_true]
  rw [if_pos (by omega), if_pos (by omega), if_pos (by omega), decide_eq_true (by omega)]
end Go.Proofs.Ytljceichlkafaaa.Plain

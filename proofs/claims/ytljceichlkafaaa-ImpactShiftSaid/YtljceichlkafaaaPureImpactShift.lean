/- ImpactShift: a box moved or mirrored is the box of the thing moved or mirrored. -/
import Derived.Test.YtljceichlkafaaaStmImpactShift
import Derived.Test.YtljceichlkafaaaAt18
namespace Go.Proofs.Ytljceichlkafaaa.Pure
open Go.RowKit Go.Proofs.YtljceichlkafaaaW.PrintWords Go.Proofs.YtljceichlkafaaaW.PrintLast Go.Proofs.YtljceichlkafaaaW.PrintMore Go.Proofs.Ytljceichlkafaaa.PImpact Go.Proofs.Ytljceichlkafaaa.Plain

theorem low_move (x p v e lo hi : Int) : low (x + p) v e lo hi = low x v e lo hi + p := by unfold low; omega
theorem high_move (x p v e lo hi : Int) : high (x + p) v e lo hi = high x v e lo hi + p := by unfold high; omega
theorem mn_neg (a b : Int) : mn (-a) (-b) = -(mx a b) := by unfold mn mx; omega
theorem mx_neg (a b : Int) : mx (-a) (-b) = -(mn a b) := by unfold mn mx; omega
theorem low_neg (x v e lo hi : Int) : low (-x) (-v) e lo hi = -(high x v e lo hi) := by
  unfold low high
  rw [show (-v - e) * lo = -((v + e) * lo) by grind, show (-v - e) * hi = -((v + e) * hi) by grind, mn_neg]
  omega
theorem high_neg (x v e lo hi : Int) : high (-x) (-v) e lo hi = -(low x v e lo hi) := by
  unfold low high
  rw [show (-v + e) * lo = -((v - e) * lo) by grind, show (-v + e) * hi = -((v - e) * hi) by grind, mx_neg]
  omega
theorem ImpactShift : apogeelaw18_ImpactShift.Pure := by
  intro c f x y z vx vy vz g eps p q _ _ hx hy hz hvx hvy hvz hg he hp hq
  have x1 := tmod_bd x 1073741824 (by decide)
  have y1 := tmod_bd y 1073741824 (by decide)
  have p1 := tmod_bd p 1073741824 (by decide)
  have q1 := tmod_bd q 1073741824 (by decide)
  have vx1 := tmod_bd vx 65536 (by decide)
  have vy1 := tmod_bd vy 65536 (by decide)
  have vz1 := tmod_bd vz 65536 (by decide)
  refine ⟨200, ?_⟩
  unfold apogeelaw18_ImpactShift.f apogeelaw18_Held.f
  simp only [Option.bind_some]
  rw [g_eq, mask30, mask10, awake_ok]
  generalize Int.tmod x 1073741824 = x' at *
  generalize Int.tmod y 1073741824 = y' at *
  generalize Int.tmod p 1073741824 = p' at *
  generalize Int.tmod q 1073741824 = q' at *
  have z0 : 0 ≤ z % 1073741824 ∧ z % 1073741824 ≤ 1073741823 := by omega
  generalize z % 1073741824 = z' at *
  generalize Int.tmod vx 65536 = vx' at *
  generalize Int.tmod vy 65536 = vy' at *
  generalize Int.tmod vz 65536 = vz' at *
  have g1 : 1 ≤ 1 + g % 18446744073709551616 % 100 ∧ 1 + g % 18446744073709551616 % 100 ≤ 100 := by omega
  generalize 1 + g % 18446744073709551616 % 100 = g' at *
  have e1 : 0 ≤ eps % 1024 ∧ eps % 1024 ≤ 1023 := by omega
  generalize eps % 1024 = e at *
  clear hx hy hz hvx hvy hvz hg he hp hq
  rw [w64 (x := x' + p') (by omega) (by omega), w64 (x := y' + q') (by omega) (by omega), w64 (x := -x') (by omega) (by omega), w64 (x := -vx') (by omega) (by omega)]
  have F1 : Fine x' y' z' vx' vy' vz' g' e := by constructor <;> omega
  have F2 : Fine (x' + p') (y' + q') z' vx' vy' vz' g' e := by constructor <;> omega
  have F3 : Fine (-x') y' z' (-vx') vy' vz' g' e := by constructor <;> omega
  obtain ⟨lo, hi, hlo, hhi, l0, lh, h1, hbox⟩ := box_fine F1
  obtain ⟨lo2, hi2, hlo2, hhi2, _, _, _, hbox2⟩ := box_fine F2
  obtain ⟨lo3, hi3, hlo3, hhi3, _, _, _, hbox3⟩ := box_fine F3
  obtain rfl := falls_one (by omega) hlo hlo2
  obtain rfl := falls_one (by omega) hhi hhi2
  obtain rfl := falls_one (by omega) hlo hlo3
  obtain rfl := falls_one (by omega) hhi hhi3
  rw [hbox 200 c f (by omega), hbox2 200 c f (by omega), hbox3 200 c f (by omega)]
  simp only [Option.bind_some, if_true]
  have b1 := low_bd (x := x') (v := vx') (eps := e) (lo := lo) (hi := hi + 2) (by omega) (by omega) (by omega) (by omega) (by omega) (by omega) l0 (by omega) (by omega)
  have b2 := low_bd (x := y') (v := vy') (eps := e) (lo := lo) (hi := hi + 2) (by omega) (by omega) (by omega) (by omega) (by omega) (by omega) l0 (by omega) (by omega)
  rw [low_move, low_move, high_move, high_move, low_neg, high_neg]
  generalize low x' vx' e lo (hi + 2) = A at *
  generalize high x' vx' e lo (hi + 2) = B at *
  generalize low y' vy' e lo (hi + 2) = C at *
  generalize high y' vy' e lo (hi + 2) = D at *
  rw [w64 (x := A + p') (by omega) (by omega), w64 (x := C + q') (by omega) (by omega), w64 (x := B + p') (by omega) (by omega), w64 (x := D + q') (by omega) (by omega), w64 (x := -A) (by omega) (by omega), w64 (x := -B) (by omega) (by omega)]
  simp
end Go.Proofs.Ytljceichlkafaaa.Pure

/- ImpactSlack: the place is in the box, and with more eps it may be off no less. -/
import Derived.Test.YtljceichlkafaaaStmImpactSlack
import Derived.Test.YtljceichlkafaaaAt18
namespace Go.Proofs.Ytljceichlkafaaa.Pure
open Go.RowKit Go.Proofs.YtljceichlkafaaaW.PrintWords Go.Proofs.YtljceichlkafaaaW.PrintLast Go.Proofs.YtljceichlkafaaaW.PrintMore Go.Proofs.Ytljceichlkafaaa.PImpact Go.Proofs.Ytljceichlkafaaa.Plain

theorem ImpactSlack : apogeelaw18_ImpactSlack.Pure := by
  intro c f x y z vx vy vz g eps more _ _ hx hy hz hvx hvy hvz hg he hm
  have x1 := tmod_bd x 1073741824 (by decide)
  have y1 := tmod_bd y 1073741824 (by decide)
  have vx1 := tmod_bd vx 65536 (by decide)
  have vy1 := tmod_bd vy 65536 (by decide)
  have vz1 := tmod_bd vz 65536 (by decide)
  refine ⟨200, ?_⟩
  unfold apogeelaw18_ImpactSlack.f apogeelaw18_Held.f
  simp only [Option.bind_some]
  rw [g_eq, mask30, mask10, mask10, w64 (x := eps % 1024 + more % 1024) (by omega) (by omega), awake_ok]
  generalize Int.tmod x 1073741824 = x' at *
  generalize Int.tmod y 1073741824 = y' at *
  have z0 : 0 ≤ z % 1073741824 ∧ z % 1073741824 ≤ 1073741823 := by omega
  generalize z % 1073741824 = z' at *
  generalize Int.tmod vx 65536 = vx' at *
  generalize Int.tmod vy 65536 = vy' at *
  generalize Int.tmod vz 65536 = vz' at *
  have g1 : 1 ≤ 1 + g % 18446744073709551616 % 100 ∧ 1 + g % 18446744073709551616 % 100 ≤ 100 := by omega
  generalize 1 + g % 18446744073709551616 % 100 = g' at *
  have e1 : 0 ≤ eps % 1024 ∧ eps % 1024 ≤ 1023 := by omega
  generalize eps % 1024 = e at *
  have m1 : 0 ≤ more % 1024 ∧ more % 1024 ≤ 1023 := by omega
  generalize more % 1024 = m at *
  clear hx hy hz hvx hvy hvz hg he hm
  have F1 : Fine x' y' z' vx' vy' vz' g' e := by constructor <;> omega
  have F2 : Fine x' y' z' vx' vy' vz' g' (e + m) := by constructor <;> omega
  obtain ⟨t, ht, t0, t1, hat⟩ := fine_falls F1
  obtain ⟨lo, hi, hlo, hhi, l0, lh, h1, hbox⟩ := box_fine F1
  obtain ⟨lo2, hi2, hlo2, hhi2, l02, lh2, h12, hbox2⟩ := box_fine F2
  have a1 := falls_mono (by omega) (by omega) (by omega) hlo ht
  have a2 := falls_mono (by omega) (by omega) (by omega) ht hhi
  have a3 := falls_mono (by omega) (by omega) (by omega) hlo2 hlo
  have a4 := falls_mono (by omega) (by omega) (by omega) hhi hhi2
  have hs1 := slack_fine F1 l0 h1 a1 a2 hbox hat
  have hs2 := slack_fine F2 l02 h12 (by omega) (by omega) hbox2 hat
  rw [hs1 200 c f (by omega), hs2 200 c f (by omega), hat 200 c f (by omega), hbox 200 c f (by omega)]
  simp only [Option.bind_some, if_true]
  have b1 := low_bd (x := x') (v := vx') (eps := e) (lo := lo) (hi := hi + 2) (by omega) (by omega) (by omega) (by omega) (by omega) (by omega) l0 (by omega) (by omega)
  have b2 := low_bd (x := y') (v := vy') (eps := e) (lo := lo) (hi := hi + 2) (by omega) (by omega) (by omega) (by omega) (by omega) (by omega) l0 (by omega) (by omega)
  have i1 := in_low (x := x') (v := vx') (eps := e) (by omega) l0 a1 (hi := hi + 2) (by omega)
  have i2 := in_high (x := x') (v := vx') (eps := e) (by omega) l0 a1 (hi := hi + 2) (by omega)
  have i3 := in_low (x := y') (v := vy') (eps := e) (by omega) l0 a1 (hi := hi + 2) (by omega)
  have i4 := in_high (x := y') (v := vy') (eps := e) (by omega) l0 a1 (hi := hi + 2) (by omega)
  have c1 := low_mono (x := x') (v := vx') (eps := e) (eps' := e + m) (by omega) l02 a3 (show lo ≤ hi + 2 by omega) (show hi + 2 ≤ hi2 + 2 by omega)
  have c2 := high_mono (x := x') (v := vx') (eps := e) (eps' := e + m) (by omega) l02 a3 (show lo ≤ hi + 2 by omega) (show hi + 2 ≤ hi2 + 2 by omega)
  have c3 := low_mono (x := y') (v := vy') (eps := e) (eps' := e + m) (by omega) l02 a3 (show lo ≤ hi + 2 by omega) (show hi + 2 ≤ hi2 + 2 by omega)
  have c4 := high_mono (x := y') (v := vy') (eps := e) (eps' := e + m) (by omega) l02 a3 (show lo ≤ hi + 2 by omega) (show hi + 2 ≤ hi2 + 2 by omega)
  generalize x' + vx' * t = px at *
  generalize y' + vy' * t = py at *
  generalize low x' vx' e lo (hi + 2) = A at *
  generalize high x' vx' e lo (hi + 2) = B at *
  generalize low y' vy' e lo (hi + 2) = C at *
  generalize high y' vy' e lo (hi + 2) = D at *
  generalize low x' vx' (e + m) lo2 (hi2 + 2) = A2 at *
  generalize high x' vx' (e + m) lo2 (hi2 + 2) = B2 at *
  generalize low y' vy' (e + m) lo2 (hi2 + 2) = C2 at *
  generalize high y' vy' (e + m) lo2 (hi2 + 2) = D2 at *
  rw [if_pos (by unfold mx; omega), if_pos (by unfold mx; omega), ref_has b1.1 i1 i2 b1.2.2 b2.1 i3 i4 b2.2.2]
  rfl
end Go.Proofs.Ytljceichlkafaaa.Pure

/- PeerApart: a payload is of one of the three alone; cut off it is of none. -/
import Derived.Test.YthhknlibgfmdkaaStmPeerApart
import Derived.Test.YthhknlibgfmdkaaReadBoth
namespace Go.Proofs.Ythhknlibgfmdkaa.Pure
open Go.RowKit Go.Proofs.YthhknlibgfmdkaaW.PrintWords Go.Proofs.YthhknlibgfmdkaaW.PrintLast Go.Proofs.YthhknlibgfmdkaaW.PrintMore Go.Proofs.Ythhknlibgfmdkaa.PPeerApart Go.Proofs.Ythhknlibgfmdkaa.Plain

theorem one_apart (k : Nat) (s : ByteArray) (a1 x6 x8 x10 x11 : Int) (l : List Int) (n i j b : Int) (hn : (l.length : Int) = n) (h0 : 0 ≤ i) (h : i < n) (hi : i ≤ 100) (hb : rd l i = b) (hj : i + 1 = j) (hx : 0 ≤ x11) (hx1 : x11 ≤ 100) :
    apogeelaw07_PeerApart.l0 (k + 1) s a1 x6 x8 x10 x11 l n i = apogeelaw07_PeerApart.l0 k s a1 x6 x8 x10 (x11 + if b = 0 then 1 else 0) l n j := by
  rw [apogeelaw07_PeerApart.l0, if_pos h, if_pos h0, if_pos (by omega), hb, w64 (x := i + 1) (by omega) (by omega), w64 (x := x11 + 1) (by omega) (by omega), hj]
  by_cases c : b = 0
  · rw [if_pos c, if_pos c]
  · rw [if_neg c, if_neg c, Int.add_zero]
theorem end_apart (k : Nat) (s : ByteArray) (a1 x6 x8 x10 x11 : Int) (l : List Int) (n : Int) :
    apogeelaw07_PeerApart.l0 (k + 1) s a1 x6 x8 x10 x11 l n n = if x11 = 0 then (apogeelaw07_PeerApart.j2 k s a1 x6 x8 x10 x11 true) else (apogeelaw07_PeerApart.j2 k s a1 x6 x8 x10 x11 ((s.size : Int) == 0)) := by
  rw [apogeelaw07_PeerApart.l0, if_neg (by omega)]
theorem PeerApart : apogeelaw07_PeerApart.Pure := by
  intro s c hs hc
  refine ⟨2007, ?_⟩
  unfold apogeelaw07_PeerApart.f
  rw [awake_ok 2007 (by omega)]
  simp only [Option.bind_some, if_true]
  rw [apogeelaw07_PeerApart.j0]
  by_cases h : (s.size : Int) > 100
  · rw [decide_eq_true h, if_pos rfl, awake_ok 2006 (by omega)]
    rfl
  rw [decide_eq_false h, if_neg (by decide)]
  obtain ⟨l, rfl⟩ : ∃ l, s = mk l := ⟨L s, (mk_L s).symm⟩
  rw [mk_size] at h
  rw [rw_ok l (by omega) 2006 (by omega), rr_ok l (by omega) 2006 (by omega), rc_ok l (by omega) 2006 (by omega)]
  simp only [Option.bind_some]
  have lw := @RW_len l
  have lr := @RR_len l
  have lc := @RC_len l
  generalize (RW l).2.2.2.2 = a at *
  generalize (RR l).2.2.2.2.2.2.2.2.2 = b at *
  generalize (RC l).2 = d at *
  rw [show (([a, b, d] : List Int).length : Int) = 3 from rfl]
  have i1 : ∀ x : Int, 0 ≤ (if x = 0 then (1 : Int) else 0) ∧ (if x = 0 then (1 : Int) else 0) ≤ 1 := by intro x; split <;> omega
  have ia := i1 a
  have ib := i1 b
  have id := i1 d
  rw [one_apart _ _ _ _ _ _ _ _ 3 0 1 a rfl (by omega) (by omega) (by omega) rfl (by omega) (by omega) (by omega)]
  rw [one_apart _ _ _ _ _ _ _ _ 3 1 2 b rfl (by omega) (by omega) (by omega) rfl (by omega) (by omega) (by omega)]
  rw [one_apart _ _ _ _ _ _ _ _ 3 2 3 d rfl (by omega) (by omega) (by omega) rfl (by omega) (by omega) (by omega), end_apart]
  by_cases hn : 0 + (if a = 0 then (1 : Int) else 0) + (if b = 0 then (1 : Int) else 0) + (if d = 0 then (1 : Int) else 0) = 0
  · rw [if_pos hn, apogeelaw07_PeerApart.j2, if_pos rfl, hn]
    rfl
  rw [if_neg hn, apogeelaw07_PeerApart.j2, mk_size]
  by_cases hl : (l.length : Int) = 0
  · exfalso
    apply hn
    rw [if_neg (fun e => by have := lw e; omega), if_neg (fun e => by have := lr e; omega), if_neg (fun e => by have := lc e; omega)]
    rfl
  have hm : IntKind.u64.wrap (l.length : Int) = (l.length : Int) := by rw [wu64]; omega
  have hp : 0 ≤ IntKind.u64.wrap c := by rw [wu64]; omega
  have ht := Int.tmod_eq_emod_of_nonneg (b := (l.length : Int)) hp
  have hq0 := Int.emod_nonneg (IntKind.u64.wrap c) (b := (l.length : Int)) hl
  have hq1 := Int.emod_lt_of_pos (IntKind.u64.wrap c) (b := (l.length : Int)) (by omega)
  rw [hm, ht]
  generalize IntKind.u64.wrap c % (l.length : Int) = q at *
  rw [w64 (x := q) (by omega) (by omega), if_neg (by simpa using hl), if_neg hl, if_pos hq0, if_pos (by omega), cut_mk, List.drop_zero, Nat.sub_zero]
  have hlen : (l.take q.toNat).length = q.toNat := by rw [List.length_take]; omega
  rw [rw_ok _ (by omega) 2001 (by omega), rr_ok _ (by omega) 2001 (by omega), rc_ok _ (by omega) 2001 (by omega)]
  simp only [Option.bind_some]
  have sw := @RW_short (l.take q.toNat)
  have sr := @RR_short (l.take q.toNat)
  have sc := @RC_short (l.take q.toNat)
  by_cases ca : a = 0
  · have := lw ca
    have nb : b ≠ 0 := fun e => by have := lr e; omega
    have nd : d ≠ 0 := fun e => by have := lc e; omega
    rw [if_pos ca, if_neg nb, if_neg nd, if_pos (by omega), if_pos ca, if_pos (sw (by omega)), if_neg nb, if_neg nd]
  by_cases cb : b = 0
  · have := lr cb
    have nd : d ≠ 0 := fun e => by have := lc e; omega
    rw [if_neg ca, if_pos cb, if_neg nd, if_pos (by omega), if_neg ca, if_pos cb, if_pos (sr (by omega)), if_neg nd]
  by_cases cd : d = 0
  · have := lc cd
    rw [if_neg ca, if_neg cb, if_pos cd, if_pos (by omega), if_neg ca, if_neg cb, if_pos cd, sc (by omega)]
    rfl
  · exfalso
    apply hn
    rw [if_neg ca, if_neg cb, if_neg cd]
    rfl
end Go.Proofs.Ythhknlibgfmdkaa.Pure

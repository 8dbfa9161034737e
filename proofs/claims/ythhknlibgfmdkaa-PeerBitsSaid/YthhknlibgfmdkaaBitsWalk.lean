/- PeerBits: the walk. -/
import Derived.Test.YthhknlibgfmdkaaBitsPlain
import Derived.Test.YthhknlibgfmdkaaPPeerBitsx8
import Derived.Test.YthhknlibgfmdkaaPPeerBitsx7
import Derived.Test.YthhknlibgfmdkaaPPeerBitsx5
import Derived.Test.YthhknlibgfmdkaaPPeerBitsx6
import Derived.Test.YthhknlibgfmdkaaPPeerBitsx3
import Derived.Deep.RegionHeld3
import Derived.RegionTactic
import Derived.Deep.DeepCutAuto
import Derived.Laws.NewBlocks
namespace Go.Proofs.Ythhknlibgfmdkaa.Hand
open Go.RowKit Go.Proofs.YthhknlibgfmdkaaW.PrintWords Go.Proofs.YthhknlibgfmdkaaW.PrintLast Go.Proofs.YthhknlibgfmdkaaW.PrintMore Go.Proofs.Ythhknlibgfmdkaa.PPeerBits Go.Proofs.Ythhknlibgfmdkaa.Plain Go.Proofs.Ythhknlibgfmdkaa.Bytes
set_option linter.unusedVariables false

/-- The cells of a word and of a report. -/
structure Two (w : World) (b : Nat) (x0 x1 x2 x3 y0 y1 y2 y3 y4 y5 y6 y7 y8 : Int) : Prop where
  c0 : w.cell? ⟨b, 0, none⟩ = some (.int .i64 x0)
  c1 : w.cell? ⟨b, 1, none⟩ = some (.int .i64 x1)
  c2 : w.cell? ⟨b, 2, none⟩ = some (.int .i64 x2)
  c3 : w.cell? ⟨b, 3, none⟩ = some (.int .i64 x3)
  d0 : w.cell? ⟨b + 1, 0, none⟩ = some (.int .i64 y0)
  d1 : w.cell? ⟨b + 1, 1, none⟩ = some (.int .i64 y1)
  d2 : w.cell? ⟨b + 1, 2, none⟩ = some (.int .i64 y2)
  d3 : w.cell? ⟨b + 1, 3, none⟩ = some (.int .i64 y3)
  d4 : w.cell? ⟨b + 1, 4, none⟩ = some (.int .i64 y4)
  d5 : w.cell? ⟨b + 1, 5, none⟩ = some (.int .i64 y5)
  d6 : w.cell? ⟨b + 1, 6, none⟩ = some (.int .i64 y6)
  d7 : w.cell? ⟨b + 1, 7, none⟩ = some (.int .i64 y7)
  d8 : w.cell? ⟨b + 1, 8, none⟩ = some (.int .i64 y8)
  sz : b + 1 < w.heap.size
theorem Two.below {w w' : World} {b : Nat} {x0 x1 x2 x3 y0 y1 y2 y3 y4 y5 y6 y7 y8 : Int} (h : Two w b x0 x1 x2 x3 y0 y1 y2 y3 y4 y5 y6 y7 y8) (hb : Below w.heap.size w w') : Two w' b x0 x1 x2 x3 y0 y1 y2 y3 y4 y5 y6 y7 y8 := by
  have z := h.sz
  have l0 : b < w.heap.size := by omega
  exact ⟨(hb.cell (p := ⟨b, 0, none⟩) l0).trans h.c0, (hb.cell (p := ⟨b, 1, none⟩) l0).trans h.c1, (hb.cell (p := ⟨b, 2, none⟩) l0).trans h.c2, (hb.cell (p := ⟨b, 3, none⟩) l0).trans h.c3,
    (hb.cell (p := ⟨b + 1, 0, none⟩) z).trans h.d0, (hb.cell (p := ⟨b + 1, 1, none⟩) z).trans h.d1, (hb.cell (p := ⟨b + 1, 2, none⟩) z).trans h.d2, (hb.cell (p := ⟨b + 1, 3, none⟩) z).trans h.d3, (hb.cell (p := ⟨b + 1, 4, none⟩) z).trans h.d4, (hb.cell (p := ⟨b + 1, 5, none⟩) z).trans h.d5, (hb.cell (p := ⟨b + 1, 6, none⟩) z).trans h.d6, (hb.cell (p := ⟨b + 1, 7, none⟩) z).trans h.d7, (hb.cell (p := ⟨b + 1, 8, none⟩) z).trans h.d8, Nat.lt_of_lt_of_le z hb.size⟩
theorem two_drew {w : World} {b : Nat} {x0 x1 x2 x3 y0 y1 y2 y3 y4 y5 y6 y7 y8 : Int} (h : Two w b x0 x1 x2 x3 y0 y1 y2 y3 y4 y5 y6 y7 y8) : Two w.drew b x0 x1 x2 x3 y0 y1 y2 y3 y4 y5 y6 y7 y8 := ⟨h.c0, h.c1, h.c2, h.c3, h.d0, h.d1, h.d2, h.d3, h.d4, h.d5, h.d6, h.d7, h.d8, h.sz⟩
theorem two_new (w : World) (x0 x1 x2 x3 y0 y1 y2 y3 y4 y5 y6 y7 y8 : Int) : Two ((w.alloc (.cells #[.int .i64 x0, .int .i64 x1, .int .i64 x2, .int .i64 x3] 23)).alloc (.cells #[.int .i64 y0, .int .i64 y1, .int .i64 y2, .int .i64 y3, .int .i64 y4, .int .i64 y5, .int .i64 y6, .int .i64 y7, .int .i64 y8] 37)) w.heap.size x0 x1 x2 x3 y0 y1 y2 y3 y4 y5 y6 y7 y8 := by
  constructor <;> simp
/-- A list of texts that lies in memory. -/
def LRow (w : World) (g : Nat) (l : List ByteArray) : Prop := g < w.heap.size ∧ ∀ j s, l[j]? = some s → w.cell? ⟨g, j, none⟩ = some (.string s)
theorem lrow_below {w w' : World} {g : Nat} {l : List ByteArray} (h : LRow w g l) (hb : Below w.heap.size w w') : LRow w' g l :=
  ⟨Nat.lt_of_lt_of_le h.1 hb.size, fun j s hj => (hb.cell (p := ⟨g, j, none⟩) h.1).trans (h.2 j s hj)⟩
theorem heap_new (w : World) (o : Obj) : (w.alloc o).heap[w.heap.size]? = some o := by
  show (w.heap.push o)[w.heap.size]? = some o
  simp
theorem cell_new (w : World) (cs : Array Value) (T : Nat) (o : Nat) : (w.alloc (.cells cs T)).cell? ⟨w.heap.size, o, none⟩ = cs[o]? := by
  unfold World.cell?
  rw [heap_new]
  simp
theorem lrow3 (w : World) (a b c : ByteArray) : LRow (w.alloc (.cells #[.string a, .string b, .string c] 9)) w.heap.size [a, b, c] := by
  refine ⟨by simp, fun j s hj => ?_⟩
  rw [cell_new]
  match j, hj with
  | 0, hj => injection hj with e; subst e; rfl
  | 1, hj => injection hj with e; subst e; rfl
  | 2, hj => injection hj with e; subst e; rfl
theorem lrow2 (w : World) (a b : ByteArray) : LRow (w.alloc (.cells #[.string a, .string b] 9)) w.heap.size [a, b] := by
  refine ⟨by simp, fun j s hj => ?_⟩
  rw [cell_new]
  match j, hj with
  | 0, hj => injection hj with e; subst e; rfl
  | 1, hj => injection hj with e; subst e; rfl
/-- Each of the three: a payload, how long it is, what reading it says. -/
theorem pick {S0 S1 S2 : List UInt8} (j : Nat) (hj : j < 3) (k0 : Aside0 (Knd 6 (fun l => (RW l).2.2.2.2) S0)) (k1 : Aside0 (Knd 10 (fun l => (RR l).2.2.2.2.2.2.2.2.2) S1)) (k2 : Aside0 (Knd 4 (fun l => (RC l).2) S2)) :
    ∃ S n E, Aside0 (([mk S0, mk S1, mk S2] : List ByteArray)[j]? = some (mk S)) ∧ Aside0 (Knd n E S ∧ 4 ≤ n ∧ n ≤ 10) ∧ Aside0 (j = 0 → E = fun l => (RW l).2.2.2.2) ∧ Aside0 (j = 1 → E = fun l => (RR l).2.2.2.2.2.2.2.2.2) ∧ Aside0 (j = 2 → E = fun l => (RC l).2) := by
  match j, hj with
  | 0, _ => exact ⟨S0, 6, _, ⟨rfl⟩, ⟨k0.out, by omega, by omega⟩, ⟨fun _ => rfl⟩, ⟨fun h => by omega⟩, ⟨fun h => by omega⟩⟩
  | 1, _ => exact ⟨S1, 10, _, ⟨rfl⟩, ⟨k1.out, by omega, by omega⟩, ⟨fun h => by omega⟩, ⟨fun _ => rfl⟩, ⟨fun h => by omega⟩⟩
  | 2, _ => exact ⟨S2, 4, _, ⟨rfl⟩, ⟨k2.out, by omega, by omega⟩, ⟨fun h => by omega⟩, ⟨fun h => by omega⟩, ⟨fun _ => rfl⟩⟩
theorem lrow_far {w : World} {g g' o : Nat} {l : List ByteArray} {v : Value} (h : LRow w g l) (hg : g' ≠ g) : LRow (w.setCell ⟨g', o, none⟩ v).drew g l :=
  ⟨by simpa [World.setCell] using h.1, fun j s hj => (World.cell?_setCell_other w ⟨g', o, none⟩ ⟨g, j, none⟩ v (fun e => hg (congrArg Addr.block e))).trans (h.2 j s hj)⟩
theorem place (a : Int) (m : Int) (n : Nat) (h : m = (n : Int)) (h0 : 0 < n) (h1 : n < 1000) : ∃ p : Nat, Aside0 (wrap64 ((IntKind.u64.wrap a).tmod m) = (p : Int)) ∧ Aside0 (p < n) := by
  subst h
  have e1 := Int.emod_nonneg (IntKind.u64.wrap a) (show (n : Int) ≠ 0 by omega)
  have e2 := Int.emod_lt_of_pos (IntKind.u64.wrap a) (show 0 < (n : Int) by omega)
  refine ⟨(IntKind.u64.wrap a % (n : Int)).toNat, ⟨?_⟩, ⟨?_⟩⟩
  · rw [Int.tmod_eq_emod_of_nonneg (by rw [wu64]; omega)]
    generalize IntKind.u64.wrap a % (n : Int) = z at *
    unfold wrap64
    omega
  · generalize IntKind.u64.wrap a % (n : Int) = z at *
    omega
/-- What is read in the end: what it was, or nothing. -/
theorem pickX {n : Nat} {E : List UInt8 → Int} {S : List UInt8} {p q : Nat} {l l2 : List Nat} {y : Bool} (k : Knd n E S) (h : Turned (nat S) p (8 * n) 32 l y) (h2 : whole l2 = whole (nat S) ^^^ 2 ^ q) (h3 : ∀ b ∈ l2, b < 256) (hp : p < 8 * n) (hq : q < 8 * (n + 4)) (hl2 : l2.length = (nat S).length) :
    ((((l.map Int.ofNat).map nb = S ∧ y = false) ∨ ((l.map Int.ofNat).map nb ≠ S ∧ E ((l.map Int.ofNat).map nb) ≠ 0)) ∧ ((l.map Int.ofNat).map nb).length = n + 4) ∧
    (((l2.map Int.ofNat).map nb ≠ S ∧ E ((l2.map Int.ofNat).map nb) ≠ 0) ∧ ((l2.map Int.ofNat).map nb).length = n + 4) := by
  have back : ∀ m : List Nat, (∀ b ∈ m, b < 256) → nat ((m.map Int.ofNat).map nb) = m := by
    intro m hm
    unfold nat
    rw [List.map_map, List.map_map]
    conv => rhs; rw [← List.map_id m]
    apply List.map_congr_left
    intro b hb
    have := hm b hb
    show (nb (b : Int)).toNat = b
    unfold nb
    rw [Int.toNat_natCast, UInt8.toNat_ofNat']
    omega
  have b1 := back l h.lt
  have b2 := back l2 h3
  have n1 : ((l.map Int.ofNat).map nb).length = n + 4 := by rw [List.length_map, List.length_map, h.len, nat_len, k.len]
  have n2 : ((l2.map Int.ofNat).map nb).length = n + 4 := by rw [List.length_map, List.length_map, hl2, nat_len, k.len]
  refine ⟨⟨?_, n1⟩, ?_, n2⟩
  · obtain ⟨W, w1, w2, w3, w4⟩ := h.num
    by_cases hW : W = 0
    · refine Or.inl ⟨?_, by cases y with | false => rfl | true => exact absurd (w4.1 rfl) (by simp [hW])⟩
      apply nat_inj
      rw [b1]
      rw [hW, Nat.zero_mul, Nat.xor_zero] at w3
      exact whole_inj _ _ h.len h.lt (nat_lt S) w3
    · have := not_read k (x := (l.map Int.ofNat).map nb) (by rw [n1, k.len]) w1 hp w2 (by rw [b1]; exact w3) hW
      exact Or.inr ⟨fun e => this (by rw [e]; exact k.ok), this⟩
  · have := one_not_read k (x := (l2.map Int.ofNat).map nb) (by rw [n2, k.len]) hq (by rw [b2]; exact h2)
    exact ⟨this.2, this.1⟩
theorem pickM {n : Nat} {E : List UInt8 → Int} {S X1 X2 : List UInt8} {y : Bool} (m : Nat) (hm : m < 2) (h : Aside0 ((((X1 = S ∧ y = false) ∨ (X1 ≠ S ∧ E X1 ≠ 0)) ∧ X1.length = n + 4) ∧ ((X2 ≠ S ∧ E X2 ≠ 0) ∧ X2.length = n + 4))) :
    ∃ X, Aside0 (([mk X1, mk X2] : List ByteArray)[m]? = some (mk X)) ∧ Aside0 ((X = S ∧ y = false) ∨ (X ≠ S ∧ E X ≠ 0)) ∧ Aside0 (X.length = n + 4) := by
  match m, hm with
  | 0, _ => exact ⟨X1, ⟨rfl⟩, ⟨h.out.1.1⟩, ⟨h.out.1.2⟩⟩
  | 1, _ => exact ⟨X2, ⟨rfl⟩, ⟨Or.inr h.out.2.1⟩, ⟨h.out.2.2⟩⟩
theorem list_ne {x s : ByteArray} (h : x ≠ s) : ¬ x.toList = s.toList := by
  intro e
  rw [toList_L, toList_L] at e
  exact h (by rw [← mk_L x, e, mk_L])
theorem awake_any (w : World) : Calls Try.prog 8 #[] w fun e w' => e = .returned (.bool true) ∧ Below w.heap.size w w' := apogeelaw07_awake.calls 200 true w awake_200

set_option maxHeartbeats 16000000 in
set_option maxRecDepth 100000 in
theorem PeerBits_walk (a0_0 : Int) (a0_1 : Int) (a0_2 : Int) (a0_3 : Int) (a1_0 : Int) (a1_1 : Int) (a1_2 : Int) (a1_3 : Int) (a1_4 : Int) (a1_5 : Int) (a1_6 : Int) (a1_7 : Int) (a1_8 : Int) (a2 : Int) (a3 : Int) (a4 : Int) (w : World) (w0_0 : (Lit.int .i64 a0_0).wf = true) (w0_1 : (Lit.int .i64 a0_1).wf = true) (w0_2 : (Lit.int .i64 a0_2).wf = true) (w0_3 : (Lit.int .i64 a0_3).wf = true) (w1_0 : (Lit.int .i64 a1_0).wf = true) (w1_1 : (Lit.int .i64 a1_1).wf = true) (w1_2 : (Lit.int .i64 a1_2).wf = true) (w1_3 : (Lit.int .i64 a1_3).wf = true) (w1_4 : (Lit.int .i64 a1_4).wf = true) (w1_5 : (Lit.int .i64 a1_5).wf = true) (w1_6 : (Lit.int .i64 a1_6).wf = true) (w1_7 : (Lit.int .i64 a1_7).wf = true) (w1_8 : (Lit.int .i64 a1_8).wf = true) (w2 : (Lit.int .i64 a2).wf = true) (w3 : (Lit.int .i64 a3).wf = true) (w4 : (Lit.int .u32 a4).wf = true) :
    Calls Try.prog 6 #[.agg #[.int .i64 a0_0, .int .i64 a0_1, .int .i64 a0_2, .int .i64 a0_3], .agg #[.int .i64 a1_0, .int .i64 a1_1, .int .i64 a1_2, .int .i64 a1_3, .int .i64 a1_4, .int .i64 a1_5, .int .i64 a1_6, .int .i64 a1_7, .int .i64 a1_8], .int .i64 a2, .int .i64 a3, .int .u32 a4] w fun e w' => e = .returned (.bool true) ∧ Below w.heap.size w w' := by
  obtain ⟨t, ht⟩ : ∃ t : Nat, a4 = (t : Int) := ⟨a4.toNat, by have := wf_u32 w4; omega⟩
  subst ht
  have ht1 : t < 4294967296 := by have := wf_u32 w4; omega
  clear w0_0 w0_1 w0_2 w0_3 w1_0 w1_1 w1_2 w1_3 w1_4 w1_5 w1_6 w1_7 w1_8 w2 w3 w4
  have hl1 : Aside0 (apogeelaw07_likeWord.f a0_0 a0_1 a0_2 a0_3 = some (a0_0, a0_1, a0_2, a0_3)) := ⟨rfl⟩
  have hl2 : Aside0 (apogeelaw07_likeReport.f a1_0 a1_1 a1_2 a1_3 a1_4 a1_5 a1_6 a1_7 a1_8 = some (a1_0, a1_1, a1_2, a1_3, a1_4, a1_5, a1_6, a1_7, a1_8)) := ⟨rfl⟩
  have hr1 := Aside0.mk (rrightW_ok a0_0 a0_1 a0_2 a0_3)
  have hr2 := Aside0.mk (rrightR_ok a1_0 a1_1 a1_2 a1_3 a1_4 a1_5 a1_6 a1_7 a1_8)
  by_cases cw : rightW a0_0 a0_1 a0_2 a0_3 = true
  · have KW := Aside0.mk (knd_w _ _ _ _ cw)
    rw [cw] at hr1
    by_cases cr : rightR a1_0 a1_1 a1_2 a1_3 a1_4 a1_5 a1_6 a1_7 a1_8 = true
    · have KR := Aside0.mk (knd_r _ _ _ _ _ _ _ _ _ cr)
      rw [cr] at hr2
      clear cw cr
      have pw := Aside0.mk (pw_ok a0_0 a0_1 a0_2 a0_3 (k := 1200) (Nat.le_refl _))
      have pr := Aside0.mk (pr_ok a1_0 a1_1 a1_2 a1_3 a1_4 a1_5 a1_6 a1_7 a1_8 (k := 1200) (Nat.le_refl _))
      go_enter Try.func6, Try.ntmps6
      obtain ⟨cc, hcc, hc3⟩ : ∃ cc : Int, Aside0 (wrap64 (1 + wrap64 ((IntKind.u64.wrap a2).tmod 3)) = cc) ∧ Aside0 (1 ≤ cc ∧ cc ≤ 3) := by
        refine ⟨_, ⟨rfl⟩, ⟨?_⟩⟩
        have e : (IntKind.u64.wrap a2).tmod 3 = IntKind.u64.wrap a2 % 3 := Int.tmod_eq_emod_of_nonneg (by rw [wu64]; omega)
        rw [e]
        generalize IntKind.u64.wrap a2 = z
        unfold wrap64
        omega
      have KC := Aside0.mk (knd_c cc hc3.out)
      have pc := Aside0.mk (pc_ok cc (k := 1200) (Nat.le_refl _))
      have HT0 := Aside0.mk (two_new w a0_0 a0_1 a0_2 a0_3 a1_0 a1_1 a1_2 a1_3 a1_4 a1_5 a1_6 a1_7 a1_8)
      have HB0 : Aside0 (Below w.heap.size w ((w.alloc (.cells #[.int .i64 a0_0, .int .i64 a0_1, .int .i64 a0_2, .int .i64 a0_3] 23)).alloc (.cells #[.int .i64 a1_0, .int .i64 a1_1, .int .i64 a1_2, .int .i64 a1_3, .int .i64 a1_4, .int .i64 a1_5, .int .i64 a1_6, .int .i64 a1_7, .int .i64 a1_8] 37))) := ⟨((Below.refl w.heap.size w).alloc (Nat.le_refl _) _).alloc (by simp) _⟩
      go_upto_region 4 with (first
        | (go_at_call 8; refine (awake_any _).mono ?_; rintro e w1 ⟨rfl, hb⟩; have HB := Aside0.mk (HB0.out.trans (hb.mono HB0.out.size)); have HT := Aside0.mk (Two.below HT0.out hb); clear hb; obtain ⟨c0, c1, c2, c3, d0, d1, d2, d3, d4, d5, d6, d7, d8, dz⟩ := HT.out; clear dz)
        | (go_at_call 13; (with_reducible refine (apogeelaw07_likeWord.calls _ _ _ _ _ _ _ _ _ hl1.out).mono ?_); rintro e w1 ⟨rfl, hb⟩; have HB := Aside0.mk (HB.out.trans (hb.mono HB.out.size)); have HT := Aside0.mk (Two.below HT.out hb); clear hb c0 c1 c2 c3 d0 d1 d2 d3 d4 d5 d6 d7 d8; obtain ⟨c0, c1, c2, c3, d0, d1, d2, d3, d4, d5, d6, d7, d8, dz⟩ := HT.out; clear dz)
        | (go_at_call 18; (with_reducible refine (apogeelaw07_likeReport.calls _ _ _ _ _ _ _ _ _ _ _ _ _ _ _ _ _ _ _ hl2.out).mono ?_); rintro e w1 ⟨rfl, hb⟩; have HB := Aside0.mk (HB.out.trans (hb.mono HB.out.size)); have HT := Aside0.mk (Two.below HT.out hb); clear hb c0 c1 c2 c3 d0 d1 d2 d3 d4 d5 d6 d7 d8; obtain ⟨c0, c1, c2, c3, d0, d1, d2, d3, d4, d5, d6, d7, d8, dz⟩ := HT.out; clear dz)
        | (go_at_call 23; (with_reducible refine (apogeeref07_RightWord.calls _ _ _ _ _ _ hr1.out).mono ?_); rintro e w1 ⟨rfl, hb⟩; have HB := Aside0.mk (HB.out.trans (hb.mono HB.out.size)); have HT := Aside0.mk (Two.below HT.out hb); clear hb c0 c1 c2 c3 d0 d1 d2 d3 d4 d5 d6 d7 d8; obtain ⟨c0, c1, c2, c3, d0, d1, d2, d3, d4, d5, d6, d7, d8, dz⟩ := HT.out; clear dz)
        | (go_at_call 24; (with_reducible refine (apogeeref07_RightReport.calls _ _ _ _ _ _ _ _ _ _ _ hr2.out).mono ?_); rintro e w1 ⟨rfl, hb⟩; have HB := Aside0.mk (HB.out.trans (hb.mono HB.out.size)); have HT := Aside0.mk (Two.below HT.out hb); clear hb c0 c1 c2 c3 d0 d1 d2 d3 d4 d5 d6 d7 d8; obtain ⟨c0, c1, c2, c3, d0, d1, d2, d3, d4, d5, d6, d7, d8, dz⟩ := HT.out; clear dz))
      rw [hcc.out]
      go_cut [50, 51, 52] (fun s50 s51 s52 wx => ∃ g : Nat, s50 = .slice (some ⟨g, 0, none⟩) 3 3 ∧ s51 = .int .i64 3 ∧ s52 = .int .i64 0 ∧ Aside0 (LRow wx g [mk (PW a0_0 a0_1 a0_2 a0_3), mk (PR a1_0 a1_1 a1_2 a1_3 a1_4 a1_5 a1_6 a1_7 a1_8), mk (PC cc)]) ∧ Aside0 (Below w.heap.size w wx))
      case first =>
        go_region_with (first
          | (go_at_call 9; (with_reducible refine (peer_PrintWord.calls 1200 _ _ _ _ _ _ pw.out).mono ?_); rintro e w5 ⟨rfl, hb⟩; have HB := Aside0.mk (by first | exact HB.out.trans (hb.mono HB.out.size) | exact (HB.out.drew).trans (hb.mono HB.out.size)); have HT := Aside0.mk (by first | exact Two.below HT.out hb | exact Two.below (two_drew HT.out) hb); clear hb c0 c1 c2 c3 d0 d1 d2 d3 d4 d5 d6 d7 d8; obtain ⟨c0, c1, c2, c3, d0, d1, d2, d3, d4, d5, d6, d7, d8, dz⟩ := HT.out; clear dz)
          | (go_at_call 14; (with_reducible refine (peer_PrintReport.calls 1200 _ _ _ _ _ _ _ _ _ _ _ pr.out).mono ?_); rintro e w5 ⟨rfl, hb⟩; have HB := Aside0.mk (by first | exact HB.out.trans (hb.mono HB.out.size) | exact (HB.out.drew).trans (hb.mono HB.out.size)); have HT := Aside0.mk (by first | exact Two.below HT.out hb | exact Two.below (two_drew HT.out) hb); clear hb c0 c1 c2 c3 d0 d1 d2 d3 d4 d5 d6 d7 d8; obtain ⟨c0, c1, c2, c3, d0, d1, d2, d3, d4, d5, d6, d7, d8, dz⟩ := HT.out; clear dz)
          | (go_at_call 19; (with_reducible refine (peer_PrintCommand.calls 1200 _ _ _ pc.out).mono ?_); rintro e w5 ⟨rfl, hb⟩; have HB := Aside0.mk (by first | exact HB.out.trans (hb.mono HB.out.size) | exact (HB.out.drew).trans (hb.mono HB.out.size)); have HT := Aside0.mk (by first | exact Two.below HT.out hb | exact Two.below (two_drew HT.out) hb); clear hb c0 c1 c2 c3 d0 d1 d2 d3 d4 d5 d6 d7 d8; obtain ⟨c0, c1, c2, c3, d0, d1, d2, d3, d4, d5, d6, d7, d8, dz⟩ := HT.out; clear dz))
        all_goals
          go_wp2_with fail
          go_meet
          exact ⟨w5.heap.size, rfl, rfl, rfl, ⟨lrow3 w5 _ _ _⟩, ⟨HB.out.alloc HB.out.size _⟩⟩
      case rest =>
        obtain ⟨g, rfl, rfl, rfl, HL, HB⟩ := hcut
        clear HT0 HB0 hl1 hl2 hr1 hr2 pw pr pc hcc
        generalize hS0 : PW a0_0 a0_1 a0_2 a0_3 = S0 at *
        generalize hS1 : PR a1_0 a1_1 a1_2 a1_3 a1_4 a1_5 a1_6 a1_7 a1_8 = S1 at *
        generalize hS2 : PC cc = S2 at *
        clear hS0 hS1 hS2
        go_wp2
        go_loopw [52] (fun v52 wr => ∃ j : Nat, j ≤ 3 ∧ v52 = .int .i64 (j : Int) ∧ Aside0 (LRow wr g [mk S0, mk S1, mk S2]) ∧ Aside0 (Below w.heap.size w wr)) (fun i _ => 3 - (intOf i).toNat)
        case atStart => exact ⟨0, by omega, rfl, HL, HB⟩
        case round =>
          clear HL HB
          obtain ⟨j, hj, rfl, HL, HB⟩ := hrel
          by_cases hlt : j < 3
          · have j0 : (0 : Int) ≤ (j : Int) := by omega
            have j1 : (j : Int) < 3 := by omega
            obtain ⟨S, n, E, hS, hK, h0, h1, h2⟩ := pick j hlt KW KR KC
            have hx := HL.out.2 j (mk S) hS.out
            have hsz := Aside0.mk (show (mk S).size = n + 4 by rw [mk_size]; exact hK.out.1.len)
            have z1 : (8 : Int) ≤ ((mk S).size : Int) := by have := hsz.out; have := hK.out.2; omega
            have z2 : ((mk S).size : Int) ≤ 14 := by have := hsz.out; have := hK.out.2; omega
            generalize hs : mk S = s at *
            have Hs := Aside0.mk hs
            clear hs
            have kc := fun (w : World) => Lib.run_convert_string_bytes (P := Try.prog) w 9 58 5 s Try.underlying9 Try.underlying58 Try.underlying5
            obtain ⟨p, hp, hp1⟩ := place a3 (8 * ((s.size : Int) - 4)) (8 * n) (by have := hsz.out; omega) (by have := hK.out.2; omega) (by have := hK.out.2; omega)
            go_wp2
            rw [hp.out]
            have D1 := Aside0.mk (Bytes.bytes_below wr 5 s)
            have D2 := Aside0.mk (Bytes.bytes_below (Lib.bytesWorld wr 5 s) 5 s)
            have E1 := Aside0.mk (brow_below (brow_new wr 5 s) D2.out (by rw [Lib.bytesWorld_size]; omega))
            have E2 := Aside0.mk (brow_new (Lib.bytesWorld wr 5 s) 5 s)
            have HB2 := Aside0.mk ((HB.out.trans (D1.out.mono HB.out.size)).trans (D2.out.mono (Nat.le_trans HB.out.size D1.out.size)))
            have HL2 := Aside0.mk (lrow_below (lrow_below HL.out D1.out) D2.out)
            have G1 := Aside0.mk HB.out.size
            have G2 := Aside0.mk (Nat.le_trans HB.out.size D1.out.size)
            have G3 := Aside0.mk (show wr.heap.size ≠ (Lib.bytesWorld wr 5 s).heap.size by rw [Lib.bytesWorld_size]; omega)
            have G4 := Aside0.mk (show (Lib.bytesWorld wr 5 s).heap.size < (Lib.bytesWorld (Lib.bytesWorld wr 5 s) 5 s).heap.size by rw [Lib.bytesWorld_size (Lib.bytesWorld wr 5 s)]; omega)
            have G5 : Aside0 (g < wr.heap.size) := ⟨HL.out.1⟩
            have G6 : Aside0 (g < (Lib.bytesWorld wr 5 s).heap.size) := ⟨Nat.lt_of_lt_of_le HL.out.1 D1.out.size⟩
            have hbs : Aside0 (bytesOf s = (nat S).map Int.ofNat) := ⟨by rw [← Hs.out]; unfold bytesOf nat; rw [show (mk S).data.toList = S from L_mk S, List.map_map]; rfl⟩
            rw [hbs.out] at E1 E2
            clear D1 D2 kc hx
            generalize grownCap (Lib.bytesWorld wr 5 s) s.size 0 5 = cap2 at *
            generalize grownCap wr s.size 0 5 = cap1 at *
            generalize Lib.bytesWorld (Lib.bytesWorld wr 5 s) 5 s = w3 at *
            generalize (Lib.bytesWorld wr 5 s).heap.size = g2 at *
            generalize wr.heap.size = g1 at *
            have H0 : Aside0 (Turned (nat S) p (8 * n) 0 (nat S) false) := ⟨turned_start (nat S) p (8 * n) (nat_lt S)⟩
            have hlen : Aside0 ((nat S).length = n + 4) := ⟨by rw [nat_len]; exact hK.out.1.len⟩
            go_loopw [17, 71] (fun v17 v71 wq => ∃ (i : Nat) (l : List Nat) (y : Bool), i ≤ 32 ∧ v17 = .bool y ∧ v71 = .int .i64 (i : Int) ∧ Aside0 (Turned (nat S) p (8 * n) i l y) ∧ Aside0 (BRow wq g1 (l.map Int.ofNat)) ∧ Aside0 (BRow wq g2 ((nat S).map Int.ofNat)) ∧ Aside0 (Below w.heap.size w wq) ∧ Aside0 (LRow wq g [mk S0, mk S1, mk S2]) ∧ Aside0 (g2 < wq.heap.size)) (fun _ i _ => 32 - (intOf i).toNat)
            case atStart => exact ⟨0, nat S, false, by omega, rfl, rfl, H0, E1, E2, HB2, HL2, G4⟩
            case round =>
              clear H0 E1 E2 HB2 HL2 G4
              obtain ⟨i, l, y, hi, rfl, rfl, HT, E1, E2, HG, HL, HS⟩ := hrel
              by_cases hlt2 : i < 32
              · have k0 : (0 : Int) ≤ (i : Int) := by omega
                have k1 : (i : Int) < 32 := by omega
                have p0 : (0 : Int) ≤ (p : Int) := by omega
                have p1 : (p : Int) ≤ 80 := by have := hp1.out; have := hK.out.2; omega
                by_cases hbit : t / 2 ^ i % 2 = 1
                · have q : Go.bits .and .u32 ((t : Int) / 2 ^ i) 1 = 1 := by rw [and_one32 t i ht1]; omega
                  by_cases hin : p + i < 8 * n
                  · have p2 : (p : Int) + (i : Int) < 8 * ((s.size : Int) - 4) := by have := hsz.out; omega
                    have hk := Aside0.mk (show (p + i) / 8 < l.length by have := hlen.out; have := HT.out.len; omega)
                    have hk2 : (p + i) / 8 < s.size := by have := hsz.out; omega
                    have cb := brow_nat E1.out ((p + i) / 8) hk.out
                    have cb1 := cb.1
                    have cb2 := cb.2
                    clear cb
                    have hm8 : (p + i) % 8 < 8 := by omega
                    have vb8 : l.getD ((p + i) / 8) 0 < 256 := by rw [List.getD_eq_getElem?_getD, List.getElem?_eq_getElem hk.out]; exact HT.out.lt _ (List.getElem_mem _)
                    have TB := Aside0.mk (turned_put HT.out hin (by have := hlen.out; omega))
                    generalize hvb : l.getD ((p + i) / 8) 0 = vb at *
                    have qb : Go.bits .xor .u8 (vb : Int) ((2 : Int) ^ ((p + i) % 8) % 256) = ((vb ^^^ 2 ^ ((p + i) % 8) : Nat) : Int) := by
                      rw [pow_bit _ hm8]
                      exact xor8n _ _ vb8 (show 2 ^ ((p + i) % 8) < 2 ^ 8 from Nat.pow_lt_pow_right (by decide) hm8)
                    have ZG := Aside0.mk ((HG.out.setCell (p := ⟨g1, (p + i) / 8, none⟩) G1.out (.int .u8 ((vb ^^^ 2 ^ ((p + i) % 8) : Nat) : Int))).drew)
                    have Z1 := Aside0.mk (brow_drew (brow_set E1.out ((p + i) / 8) (vb ^^^ 2 ^ ((p + i) % 8)) hk.out))
                    have Z2 := Aside0.mk (brow_drew (brow_far (g' := g1) (o := (p + i) / 8) (v := .int .u8 ((vb ^^^ 2 ^ ((p + i) % 8) : Nat) : Int)) E2.out G3.out))
                    have ZL := Aside0.mk (lrow_far (g' := g1) (o := (p + i) / 8) (v := .int .u8 ((vb ^^^ 2 ^ ((p + i) % 8) : Nat) : Int)) HL.out (by have := G5.out; omega))
                    have ZS : Aside0 (g2 < ((wr.setCell ⟨g1, (p + i) / 8, none⟩ (.int .u8 ((vb ^^^ 2 ^ ((p + i) % 8) : Nat) : Int))).drew).heap.size) := ⟨by simpa [World.setCell] using HS.out⟩
                    clear hvb hm8 vb8
                    go_wp2
                    go_region
                    clear qb cb1 cb2 HT E1 E2 HG HS HL
                    go_wp2
                    go_roundw
                    case rel => exact ⟨i + 1, _, true, by omega, rfl, by go_num, TB, Z1, Z2, ZG, ZL, ZS⟩
                    case measure => simp [intOf]; omega
                  · have p2 : ¬ (p : Int) + (i : Int) < 8 * ((s.size : Int) - 4) := by have := hsz.out; omega
                    have TN := Aside0.mk (turned_skip HT.out)
                    go_wp2
                    go_roundw
                    case rel => exact ⟨i + 1, _, y, by omega, rfl, by go_num, TN, E1, E2, HG, HL, HS⟩
                    case measure => simp [intOf]; omega
                · have q : Go.bits .and .u32 ((t : Int) / 2 ^ i) 1 = 0 := by rw [and_one32 t i ht1]; omega
                  have TN := Aside0.mk (turned_skip HT.out)
                  go_wp2
                  go_roundw
                  case rel => exact ⟨i + 1, _, y, by omega, rfl, by go_num, TN, E1, E2, HG, HL, HS⟩
                  case measure => simp [intOf]; omega
              · obtain rfl : i = 32 := by omega
                obtain ⟨q, hq, hq1⟩ := place a3 (8 * (s.size : Int)) (8 * (n + 4)) (by have := hsz.out; omega) (by omega) (by have := hK.out.2; omega)
                have q0 : (0 : Int) ≤ (q : Int) := by omega
                have q1 : (q : Int) ≤ 112 := by have := hq1.out; have := hK.out.2; omega
                have hk := Aside0.mk (show q / 8 < (nat S).length by have := hlen.out; have := hq1.out; omega)
                have hk2 : q / 8 < s.size := by have := hsz.out; have := hq1.out; omega
                have cb := brow_nat E2.out (q / 8) hk.out
                have cb1 := cb.1
                have cb2 := cb.2
                clear cb
                have hm8 : q % 8 < 8 := by omega
                have vb8 : (nat S).getD (q / 8) 0 < 256 := by rw [List.getD_eq_getElem?_getD, List.getElem?_eq_getElem hk.out]; exact nat_lt S _ (List.getElem_mem _)
                have TB := Aside0.mk (whole_turn (nat S) q (by have := hlen.out; have := hq1.out; omega) (nat_lt S))
                have TV : Aside0 (∀ b ∈ (nat S).set (q / 8) ((nat S).getD (q / 8) 0 ^^^ 2 ^ (q % 8)), b < 256) := ⟨by
                  intro b hb
                  rcases List.mem_or_eq_of_mem_set hb with hb | rfl
                  · exact nat_lt S b hb
                  · exact Nat.xor_lt_two_pow (n := 8) vb8 (Nat.pow_lt_pow_right (by decide) hm8)⟩
                generalize hvb : (nat S).getD (q / 8) 0 = vb at *
                have qb : Go.bits .xor .u8 (vb : Int) ((2 : Int) ^ (q % 8) % 256) = ((vb ^^^ 2 ^ (q % 8) : Nat) : Int) := by
                  rw [pow_bit _ hm8]
                  exact xor8n _ _ vb8 (show 2 ^ (q % 8) < 2 ^ 8 from Nat.pow_lt_pow_right (by decide) hm8)
                have ZG := Aside0.mk ((HG.out.setCell (p := ⟨g2, q / 8, none⟩) G2.out (.int .u8 ((vb ^^^ 2 ^ (q % 8) : Nat) : Int))).drew)
                have Z2 := Aside0.mk (brow_drew (brow_set E2.out (q / 8) (vb ^^^ 2 ^ (q % 8)) hk.out))
                have Z1 := Aside0.mk (brow_drew (brow_far (g' := g2) (o := q / 8) (v := .int .u8 ((vb ^^^ 2 ^ (q % 8) : Nat) : Int)) E1.out (Ne.symm G3.out)))
                have ZL := Aside0.mk (lrow_far (g' := g2) (o := q / 8) (v := .int .u8 ((vb ^^^ 2 ^ (q % 8) : Nat) : Int)) HL.out (by have := G6.out; omega))
                clear hvb hm8 vb8
                go_wp2
                rw [hq.out]
                go_region
                clear qb cb1 cb2 E1 E2 HG HS HL
                generalize (wr.setCell ⟨g2, q / 8, none⟩ (.int .u8 ((vb ^^^ 2 ^ (q % 8) : Nat) : Int))).drew = W at *
                have v1 := str_of_brow Try.underlying58 Try.underlying5 Try.underlying9 Z1.out s.size cap1 (by rw [List.length_map, HT.out.len, hlen.out, hsz.out])
                have v2 := str_of_brow Try.underlying58 Try.underlying5 Try.underlying9 Z2.out s.size cap2 (by rw [List.length_map, List.length_set, hlen.out, hsz.out])
                have P1 := Aside0.mk (pickX hK.out.1 HT.out TB.out TV.out hp1.out hq1.out (by rw [List.length_set]))
                rw [nums_mk] at v1 v2
                generalize (l.map Int.ofNat).map nb = X1 at *
                generalize (((nat S).set (q / 8) (vb ^^^ 2 ^ (q % 8))).map Int.ofNat).map nb = X2 at *
                clear TB TV
                go_wp2
                have L2 := Aside0.mk (lrow2 W (mk X1) (mk X2))
                have HG := Aside0.mk (ZG.out.alloc ZG.out.size (.cells #[.string (mk X1), .string (mk X2)] 9))
                have HL := Aside0.mk (lrow_below ZL.out ((Below.refl W.heap.size W).alloc (Nat.le_refl _) (.cells #[.string (mk X1), .string (mk X2)] 9)))
                generalize W.alloc (.cells #[.string (mk X1), .string (mk X2)] 9) = W2 at *
                generalize W.heap.size = g3 at *
                clear ZG ZL Z1 Z2 v1 v2
                obtain ⟨Y, hY⟩ : ∃ Y : Prop, Aside0 (Y ↔ y = false) := ⟨_, ⟨Iff.rfl⟩⟩
                cases y
                all_goals
                  go_loopw [122] (fun v122 wq => ∃ m : Nat, m ≤ 2 ∧ v122 = .int .i64 (m : Int) ∧ Aside0 (LRow wq g3 [mk X1, mk X2]) ∧ Aside0 (LRow wq g [mk S0, mk S1, mk S2]) ∧ Aside0 (Below w.heap.size w wq)) (fun i _ => 2 - (intOf i).toNat)
                  case atStart => exact ⟨0, by omega, rfl, L2, HL, HG⟩
                  case round =>
                    clear L2 HL HG
                    obtain ⟨m, hm, rfl, L2, HL, HG⟩ := hrel
                    by_cases hlt3 : m < 2
                    · have m0 : (0 : Int) ≤ (m : Int) := by omega
                      have m1 : (m : Int) < 2 := by omega
                      obtain ⟨X, hX, hXs, hXl⟩ := pickM m hlt3 P1
                      have hx := L2.out.2 m (mk X) hX.out
                      have hXS := Aside0.mk (fun (e : mk X = s) => (mk_inj (e.trans Hs.out.symm) : X = S))
                      have hXS2 := Aside0.mk (fun (e : X = S) => (by rw [e]; exact Hs.out : mk X = s))
                      obtain ⟨er, her⟩ : ∃ er, Aside0 (E X = er) := ⟨_, ⟨rfl⟩⟩
                      have c1 := Aside0.mk (rw_ok X (by have := hXl.out; have := hK.out.2; omega) 1200 (Nat.le_refl _))
                      have c2 := Aside0.mk (rr_ok X (by have := hXl.out; have := hK.out.2; omega) 1200 (Nat.le_refl _))
                      have c3 := Aside0.mk (rc_ok X (by have := hXl.out; have := hK.out.2; omega) 1200 (Nat.le_refl _))
                      have hres : Aside0 ((mk X = s ∧ er = 0 ∧ Y) ∨ (mk X ≠ s ∧ er ≠ 0)) := ⟨by
                        rcases hXs.out with ⟨e, f⟩ | ⟨e, f⟩
                        · exact Or.inl ⟨hXS2.out e, by rw [← her.out, e]; exact hK.out.1.ok, hY.out.2 f⟩
                        · exact Or.inr ⟨fun e2 => e (hXS.out e2), by rw [← her.out]; exact f⟩⟩
                      have h0' : Aside0 (j = 0 → (RW X).2.2.2.2 = er) := ⟨fun e => by rw [← her.out, h0.out e]⟩
                      have h1' : Aside0 (j = 1 → (RR X).2.2.2.2.2.2.2.2.2 = er) := ⟨fun e => by rw [← her.out, h1.out e]⟩
                      have h2' : Aside0 (j = 2 → (RC X).2 = er) := ⟨fun e => by rw [← her.out, h2.out e]⟩
                      generalize mk X = x at *
                      clear hXS hXS2 her
                      rcases (show j = 0 ∨ j = 1 ∨ j = 2 by omega) with hjj | hjj | hjj
                      · have h0' := Aside0.mk (h0'.out hjj)
                        have jt0 : ((j : Int) == 0) = true := by simpa using (show (j : Int) = 0 by omega)
                        have jt1 : ((j : Int) == 1) = false := by simpa using (show ¬ (j : Int) = 1 by omega)
                        rcases hres.out with ⟨hxe, her0, hy⟩ | ⟨hne, her0⟩
                        · first
                          | exact absurd (hY.out.1 hy) (by decide)
                          | (have ne2 : (x.toList == s.toList) = true := by rw [hxe]; simp
                             have ne3 : (x.toList != s.toList) = false := by rw [hxe]; simp
                             have ne1 := Aside0.mk hxe
                             clear hxe hy hjj
                             have er1 : (er == 0) = true := by simpa using her0
                             have er2 : (er != 0) = false := by simpa using her0
                             clear her0
                             go_wp2_with (first | (go_at_call 10; (with_reducible refine (peer_ReadWord.calls 1200 _ _ _ _ _ _ _ c1.out).mono ?_); rintro e w9 ⟨rfl, hb⟩; rw [h0'.out]; have L2 := Aside0.mk (lrow_below L2.out hb); have HL := Aside0.mk (lrow_below HL.out hb); have HG := Aside0.mk (HG.out.trans (hb.mono HG.out.size)); clear hb))
                             refine ⟨?_, ?_⟩
                             · (repeat apply Exists.intro)
                               exact ⟨⟨m + 1, by omega, by go_num, L2, HL, HG⟩, rfl⟩
                             · show 2 - (intOf (.int .i64 ((m : Int) + 1))).toNat < 2 - (intOf (.int .i64 (m : Int))).toNat
                               simp [intOf]
                               omega)
                        · have ne1 := list_ne hne
                          have ne2 : (x.toList == s.toList) = false := by simpa using ne1
                          have ne3 : (x.toList != s.toList) = true := by simpa using ne1
                          have ne0 := Aside0.mk hne
                          clear hne hjj
                          have er1 : (er == 0) = false := by simpa using her0
                          have er2 : (er != 0) = true := by simpa using her0
                          go_wp2_with (first | (go_at_call 10; (with_reducible refine (peer_ReadWord.calls 1200 _ _ _ _ _ _ _ c1.out).mono ?_); rintro e w9 ⟨rfl, hb⟩; rw [h0'.out]; have L2 := Aside0.mk (lrow_below L2.out hb); have HL := Aside0.mk (lrow_below HL.out hb); have HG := Aside0.mk (HG.out.trans (hb.mono HG.out.size)); clear hb))
                          refine ⟨?_, ?_⟩
                          · (repeat apply Exists.intro)
                            exact ⟨⟨m + 1, by omega, by go_num, L2, HL, HG⟩, rfl⟩
                          · show 2 - (intOf (.int .i64 ((m : Int) + 1))).toNat < 2 - (intOf (.int .i64 (m : Int))).toNat
                            simp [intOf]
                            omega
                      · have h1' := Aside0.mk (h1'.out hjj)
                        have jt0 : ((j : Int) == 0) = false := by simpa using (show ¬ (j : Int) = 0 by omega)
                        have jt1 : ((j : Int) == 1) = true := by simpa using (show (j : Int) = 1 by omega)
                        rcases hres.out with ⟨hxe, her0, hy⟩ | ⟨hne, her0⟩
                        · first
                          | exact absurd (hY.out.1 hy) (by decide)
                          | (have ne2 : (x.toList == s.toList) = true := by rw [hxe]; simp
                             have ne3 : (x.toList != s.toList) = false := by rw [hxe]; simp
                             have ne1 := Aside0.mk hxe
                             clear hxe hy hjj
                             have er1 : (er == 0) = true := by simpa using her0
                             have er2 : (er != 0) = false := by simpa using her0
                             clear her0
                             go_wp2_with (first | (go_at_call 15; (with_reducible refine (peer_ReadReport.calls 1200 _ _ _ _ _ _ _ _ _ _ _ _ c2.out).mono ?_); rintro e w9 ⟨rfl, hb⟩; rw [h1'.out]; have L2 := Aside0.mk (lrow_below L2.out hb); have HL := Aside0.mk (lrow_below HL.out hb); have HG := Aside0.mk (HG.out.trans (hb.mono HG.out.size)); clear hb))
                             refine ⟨?_, ?_⟩
                             · (repeat apply Exists.intro)
                               exact ⟨⟨m + 1, by omega, by go_num, L2, HL, HG⟩, rfl⟩
                             · show 2 - (intOf (.int .i64 ((m : Int) + 1))).toNat < 2 - (intOf (.int .i64 (m : Int))).toNat
                               simp [intOf]
                               omega)
                        · have ne1 := list_ne hne
                          have ne2 : (x.toList == s.toList) = false := by simpa using ne1
                          have ne3 : (x.toList != s.toList) = true := by simpa using ne1
                          have ne0 := Aside0.mk hne
                          clear hne hjj
                          have er1 : (er == 0) = false := by simpa using her0
                          have er2 : (er != 0) = true := by simpa using her0
                          go_wp2_with (first | (go_at_call 15; (with_reducible refine (peer_ReadReport.calls 1200 _ _ _ _ _ _ _ _ _ _ _ _ c2.out).mono ?_); rintro e w9 ⟨rfl, hb⟩; rw [h1'.out]; have L2 := Aside0.mk (lrow_below L2.out hb); have HL := Aside0.mk (lrow_below HL.out hb); have HG := Aside0.mk (HG.out.trans (hb.mono HG.out.size)); clear hb))
                          refine ⟨?_, ?_⟩
                          · (repeat apply Exists.intro)
                            exact ⟨⟨m + 1, by omega, by go_num, L2, HL, HG⟩, rfl⟩
                          · show 2 - (intOf (.int .i64 ((m : Int) + 1))).toNat < 2 - (intOf (.int .i64 (m : Int))).toNat
                            simp [intOf]
                            omega
                      · have h2' := Aside0.mk (h2'.out hjj)
                        have jt0 : ((j : Int) == 0) = false := by simpa using (show ¬ (j : Int) = 0 by omega)
                        have jt1 : ((j : Int) == 1) = false := by simpa using (show ¬ (j : Int) = 1 by omega)
                        rcases hres.out with ⟨hxe, her0, hy⟩ | ⟨hne, her0⟩
                        · first
                          | exact absurd (hY.out.1 hy) (by decide)
                          | (have ne2 : (x.toList == s.toList) = true := by rw [hxe]; simp
                             have ne3 : (x.toList != s.toList) = false := by rw [hxe]; simp
                             have ne1 := Aside0.mk hxe
                             clear hxe hy hjj
                             have er1 : (er == 0) = true := by simpa using her0
                             have er2 : (er != 0) = false := by simpa using her0
                             clear her0
                             go_wp2_with (first | (go_at_call 20; (with_reducible refine (peer_ReadCommand.calls 1200 _ _ _ _ c3.out).mono ?_); rintro e w9 ⟨rfl, hb⟩; rw [h2'.out]; have L2 := Aside0.mk (lrow_below L2.out hb); have HL := Aside0.mk (lrow_below HL.out hb); have HG := Aside0.mk (HG.out.trans (hb.mono HG.out.size)); clear hb))
                             refine ⟨?_, ?_⟩
                             · (repeat apply Exists.intro)
                               exact ⟨⟨m + 1, by omega, by go_num, L2, HL, HG⟩, rfl⟩
                             · show 2 - (intOf (.int .i64 ((m : Int) + 1))).toNat < 2 - (intOf (.int .i64 (m : Int))).toNat
                               simp [intOf]
                               omega)
                        · have ne1 := list_ne hne
                          have ne2 : (x.toList == s.toList) = false := by simpa using ne1
                          have ne3 : (x.toList != s.toList) = true := by simpa using ne1
                          have ne0 := Aside0.mk hne
                          clear hne hjj
                          have er1 : (er == 0) = false := by simpa using her0
                          have er2 : (er != 0) = true := by simpa using her0
                          go_wp2_with (first | (go_at_call 20; (with_reducible refine (peer_ReadCommand.calls 1200 _ _ _ _ c3.out).mono ?_); rintro e w9 ⟨rfl, hb⟩; rw [h2'.out]; have L2 := Aside0.mk (lrow_below L2.out hb); have HL := Aside0.mk (lrow_below HL.out hb); have HG := Aside0.mk (HG.out.trans (hb.mono HG.out.size)); clear hb))
                          refine ⟨?_, ?_⟩
                          · (repeat apply Exists.intro)
                            exact ⟨⟨m + 1, by omega, by go_num, L2, HL, HG⟩, rfl⟩
                          · show 2 - (intOf (.int .i64 ((m : Int) + 1))).toNat < 2 - (intOf (.int .i64 (m : Int))).toNat
                            simp [intOf]
                            omega
                    · obtain rfl : m = 2 := by omega
                      go_wp2
                      go_roundw
                      case rel => exact ⟨j + 1, by omega, by go_num, HL, HG⟩
                      case measure => simp [intOf]; omega
          · obtain rfl : j = 3 := by omega
            go_wp2
            go_ret
            exact ⟨rfl, HB.out⟩
    · rw [show rightR a1_0 a1_1 a1_2 a1_3 a1_4 a1_5 a1_6 a1_7 a1_8 = false by simpa using cr] at hr2
      clear cw cr
      have HT0 := Aside0.mk (two_new w a0_0 a0_1 a0_2 a0_3 a1_0 a1_1 a1_2 a1_3 a1_4 a1_5 a1_6 a1_7 a1_8)
      have HB0 : Aside0 (Below w.heap.size w ((w.alloc (.cells #[.int .i64 a0_0, .int .i64 a0_1, .int .i64 a0_2, .int .i64 a0_3] 23)).alloc (.cells #[.int .i64 a1_0, .int .i64 a1_1, .int .i64 a1_2, .int .i64 a1_3, .int .i64 a1_4, .int .i64 a1_5, .int .i64 a1_6, .int .i64 a1_7, .int .i64 a1_8] 37))) := ⟨((Below.refl w.heap.size w).alloc (Nat.le_refl _) _).alloc (by simp) _⟩
      go_enter Try.func6, Try.ntmps6
      go_wp2_with (first
        | (go_at_call 8; refine (awake_any _).mono ?_; rintro e w1 ⟨rfl, hb⟩; have HB := Aside0.mk (HB.out.trans (hb.mono HB.out.size)); clear hb)
        | (go_at_call 8; refine (awake_any _).mono ?_; rintro e w1 ⟨rfl, hb⟩; have HB := Aside0.mk (HB0.out.trans (hb.mono HB0.out.size)); have HT := Aside0.mk (Two.below HT0.out hb); clear hb; obtain ⟨c0, c1, c2, c3, d0, d1, d2, d3, d4, d5, d6, d7, d8, dz⟩ := HT.out; clear dz)
        | (go_at_call 13; (with_reducible refine (apogeelaw07_likeWord.calls _ _ _ _ _ _ _ _ _ hl1.out).mono ?_); rintro e w1 ⟨rfl, hb⟩; have HB := Aside0.mk (HB.out.trans (hb.mono HB.out.size)); have HT := Aside0.mk (Two.below HT.out hb); clear hb c0 c1 c2 c3 d0 d1 d2 d3 d4 d5 d6 d7 d8; obtain ⟨c0, c1, c2, c3, d0, d1, d2, d3, d4, d5, d6, d7, d8, dz⟩ := HT.out; clear dz)
        | (go_at_call 18; (with_reducible refine (apogeelaw07_likeReport.calls _ _ _ _ _ _ _ _ _ _ _ _ _ _ _ _ _ _ _ hl2.out).mono ?_); rintro e w1 ⟨rfl, hb⟩; have HB := Aside0.mk (HB.out.trans (hb.mono HB.out.size)); have HT := Aside0.mk (Two.below HT.out hb); clear hb c0 c1 c2 c3 d0 d1 d2 d3 d4 d5 d6 d7 d8; obtain ⟨c0, c1, c2, c3, d0, d1, d2, d3, d4, d5, d6, d7, d8, dz⟩ := HT.out; clear dz)
        | (go_at_call 23; (with_reducible refine (apogeeref07_RightWord.calls _ _ _ _ _ _ hr1.out).mono ?_); rintro e w1 ⟨rfl, hb⟩; have HB := Aside0.mk (HB.out.trans (hb.mono HB.out.size)); have HT := Aside0.mk (Two.below HT.out hb); clear hb c0 c1 c2 c3 d0 d1 d2 d3 d4 d5 d6 d7 d8; obtain ⟨c0, c1, c2, c3, d0, d1, d2, d3, d4, d5, d6, d7, d8, dz⟩ := HT.out; clear dz)
        | (go_at_call 24; (with_reducible refine (apogeeref07_RightReport.calls _ _ _ _ _ _ _ _ _ _ _ hr2.out).mono ?_); rintro e w1 ⟨rfl, hb⟩; have HB := Aside0.mk (HB.out.trans (hb.mono HB.out.size)); have HT := Aside0.mk (Two.below HT.out hb); clear hb c0 c1 c2 c3 d0 d1 d2 d3 d4 d5 d6 d7 d8; obtain ⟨c0, c1, c2, c3, d0, d1, d2, d3, d4, d5, d6, d7, d8, dz⟩ := HT.out; clear dz))
      go_ret
      exact ⟨rfl, HB.out⟩
  · rw [show rightW a0_0 a0_1 a0_2 a0_3 = false by simpa using cw] at hr1
    clear cw hr2
    have HT0 := Aside0.mk (two_new w a0_0 a0_1 a0_2 a0_3 a1_0 a1_1 a1_2 a1_3 a1_4 a1_5 a1_6 a1_7 a1_8)
    have HB0 : Aside0 (Below w.heap.size w ((w.alloc (.cells #[.int .i64 a0_0, .int .i64 a0_1, .int .i64 a0_2, .int .i64 a0_3] 23)).alloc (.cells #[.int .i64 a1_0, .int .i64 a1_1, .int .i64 a1_2, .int .i64 a1_3, .int .i64 a1_4, .int .i64 a1_5, .int .i64 a1_6, .int .i64 a1_7, .int .i64 a1_8] 37))) := ⟨((Below.refl w.heap.size w).alloc (Nat.le_refl _) _).alloc (by simp) _⟩
    go_enter Try.func6, Try.ntmps6
    go_wp2_with (first
      | (go_at_call 8; refine (awake_any _).mono ?_; rintro e w1 ⟨rfl, hb⟩; have HB := Aside0.mk (HB.out.trans (hb.mono HB.out.size)); clear hb)
      | (go_at_call 8; refine (awake_any _).mono ?_; rintro e w1 ⟨rfl, hb⟩; have HB := Aside0.mk (HB0.out.trans (hb.mono HB0.out.size)); have HT := Aside0.mk (Two.below HT0.out hb); clear hb; obtain ⟨c0, c1, c2, c3, d0, d1, d2, d3, d4, d5, d6, d7, d8, dz⟩ := HT.out; clear dz)
      | (go_at_call 13; (with_reducible refine (apogeelaw07_likeWord.calls _ _ _ _ _ _ _ _ _ hl1.out).mono ?_); rintro e w1 ⟨rfl, hb⟩; have HB := Aside0.mk (HB.out.trans (hb.mono HB.out.size)); have HT := Aside0.mk (Two.below HT.out hb); clear hb c0 c1 c2 c3 d0 d1 d2 d3 d4 d5 d6 d7 d8; obtain ⟨c0, c1, c2, c3, d0, d1, d2, d3, d4, d5, d6, d7, d8, dz⟩ := HT.out; clear dz)
      | (go_at_call 18; (with_reducible refine (apogeelaw07_likeReport.calls _ _ _ _ _ _ _ _ _ _ _ _ _ _ _ _ _ _ _ hl2.out).mono ?_); rintro e w1 ⟨rfl, hb⟩; have HB := Aside0.mk (HB.out.trans (hb.mono HB.out.size)); have HT := Aside0.mk (Two.below HT.out hb); clear hb c0 c1 c2 c3 d0 d1 d2 d3 d4 d5 d6 d7 d8; obtain ⟨c0, c1, c2, c3, d0, d1, d2, d3, d4, d5, d6, d7, d8, dz⟩ := HT.out; clear dz)
      | (go_at_call 23; (with_reducible refine (apogeeref07_RightWord.calls _ _ _ _ _ _ hr1.out).mono ?_); rintro e w1 ⟨rfl, hb⟩; have HB := Aside0.mk (HB.out.trans (hb.mono HB.out.size)); have HT := Aside0.mk (Two.below HT.out hb); clear hb c0 c1 c2 c3 d0 d1 d2 d3 d4 d5 d6 d7 d8; obtain ⟨c0, c1, c2, c3, d0, d1, d2, d3, d4, d5, d6, d7, d8, dz⟩ := HT.out; clear dz)
      | (go_at_call 24; (with_reducible refine (apogeeref07_RightReport.calls _ _ _ _ _ _ _ _ _ _ _ hr2.out).mono ?_); rintro e w1 ⟨rfl, hb⟩; have HB := Aside0.mk (HB.out.trans (hb.mono HB.out.size)); have HT := Aside0.mk (Two.below HT.out hb); clear hb c0 c1 c2 c3 d0 d1 d2 d3 d4 d5 d6 d7 d8; obtain ⟨c0, c1, c2, c3, d0, d1, d2, d3, d4, d5, d6, d7, d8, dz⟩ := HT.out; clear dz))
    go_ret
    exact ⟨rfl, HB.out⟩
end Go.Proofs.Ythhknlibgfmdkaa.Hand

/- A table of rows: what its cells hold; its rows are made once. -/
import Derived.Test.YtihbahomnepieaaTab0
import Derived.Test.YtihbahomnepieaaPCrcx1
import Derived.Laws.NewBlocks
import Derived.Deep.RegionWith
namespace Go.Proofs.Ytihbahomnepieaa.Tab
open Go.RowKit Go.Proofs.YtihbahomnepieaaW.PrintWords Go.Proofs.YtihbahomnepieaaW.PrintLast Go.Proofs.Ytihbahomnepieaa.PCrc

/-- A table's cells: whether its rows were made, its lock, how often they were made, and so many rows. -/
structure Tab (r16 r32 : Nat → Int) (w : World) (b : Nat) (dn st md : Int) (n : Nat) : Prop where
  c0 : w.cell? ⟨b, 0, none⟩ = some (.int .u32 dn)
  c1 : w.cell? ⟨b, 1, none⟩ = some (.int .i32 st)
  c3 : w.cell? ⟨b, 3, none⟩ = some (.int .i64 md)
  a16 : ∀ j, j < 256 → w.cell? ⟨b, 4 + j, none⟩ = some (.int .u16 (if j < n then r16 j else 0))
  a32 : ∀ j, j < 256 → w.cell? ⟨b, 260 + j, none⟩ = some (.int .u32 (if j < n then r32 j else 0))
  fr : ∀ o, o < 516 → w.frozen? ⟨b, o, none⟩ = false
  lt : b < w.heap.size
/-- Below every number up to b nothing has turned. -/
def Grew (b : Nat) (w w' : World) : Prop := Below b w w'

theorem ne_off {b o p : Nat} (h : o ≠ p) : (⟨b, o, none⟩ : Addr) ≠ ⟨b, p, none⟩ := fun e => h (congrArg Addr.off e)
theorem cell_other {w : World} {b o p : Nat} {v u : Value} (h : o ≠ p) (hc : w.cell? ⟨b, p, none⟩ = some u) : (w.setCell ⟨b, o, none⟩ v).cell? ⟨b, p, none⟩ = some u :=
  (World.cell?_setCell_other w ⟨b, o, none⟩ ⟨b, p, none⟩ v (ne_off h)).trans hc
variable {r16 r32 : Nat → Int} {w w' : World} {b : Nat} {dn st md : Int} {n : Nat}
theorem Tab.set0 (h : Tab r16 r32 w b dn st md n) (x : Int) : Tab r16 r32 (w.setCell ⟨b, 0, none⟩ (.int .u32 x)) b x st md n :=
  ⟨World.cell?_setCell_same w _ _ h.c0, cell_other (by omega) h.c1, cell_other (by omega) h.c3, fun j hj => cell_other (by omega) (h.a16 j hj), fun j hj => cell_other (by omega) (h.a32 j hj), fun o ho => by rw [World.frozen?_setCell]; exact h.fr o ho, by simpa [World.setCell] using h.lt⟩
theorem Tab.set1 (h : Tab r16 r32 w b dn st md n) (x : Int) : Tab r16 r32 (w.setCell ⟨b, 1, none⟩ (.int .i32 x)) b dn x md n :=
  ⟨cell_other (by omega) h.c0, World.cell?_setCell_same w _ _ h.c1, cell_other (by omega) h.c3, fun j hj => cell_other (by omega) (h.a16 j hj), fun j hj => cell_other (by omega) (h.a32 j hj), fun o ho => by rw [World.frozen?_setCell]; exact h.fr o ho, by simpa [World.setCell] using h.lt⟩
theorem Tab.set3 (h : Tab r16 r32 w b dn st md n) (x : Int) : Tab r16 r32 (w.setCell ⟨b, 3, none⟩ (.int .i64 x)) b dn st x n :=
  ⟨cell_other (by omega) h.c0, cell_other (by omega) h.c1, World.cell?_setCell_same w _ _ h.c3, fun j hj => cell_other (by omega) (h.a16 j hj), fun j hj => cell_other (by omega) (h.a32 j hj), fun o ho => by rw [World.frozen?_setCell]; exact h.fr o ho, by simpa [World.setCell] using h.lt⟩
theorem Tab.below (h : Tab r16 r32 w b dn st md n) {B : Nat} (hb : Below B w w') (hB : b < B) : Tab r16 r32 w' b dn st md n :=
  ⟨(hb.cell hB).trans h.c0, (hb.cell hB).trans h.c1, (hb.cell hB).trans h.c3, fun j hj => (hb.cell hB).trans (h.a16 j hj), fun j hj => (hb.cell hB).trans (h.a32 j hj), fun o ho => (hb.frozen hB).trans (h.fr o ho), Nat.lt_of_lt_of_le h.lt hb.size⟩
theorem Tab.drew (h : Tab r16 r32 w b dn st md n) : Tab r16 r32 w.drew b dn st md n := ⟨h.c0, h.c1, h.c3, h.a16, h.a32, h.fr, h.lt⟩
theorem Tab.drewN (h : Tab r16 r32 w b dn st md n) (m : Nat) : Tab r16 r32 (w.drewN m) b dn st md n := ⟨h.c0, h.c1, h.c3, h.a16, h.a32, h.fr, h.lt⟩
theorem put_if {r : Nat → Int} {n j : Nat} (h : j ≠ n) : (if j < n + 1 then r j else 0) = if j < n then r j else 0 := by
  by_cases e : j < n
  · rw [if_pos e, if_pos (by omega)]
  · rw [if_neg e, if_neg (by omega)]
theorem Tab.put (h : Tab r16 r32 w b dn st md n) (hn : n < 256) : Tab r16 r32 ((w.setCell ⟨b, 4 + n, none⟩ (.int .u16 (r16 n))).setCell ⟨b, 260 + n, none⟩ (.int .u32 (r32 n))) b dn st md (n + 1) := by
  refine ⟨cell_other (by omega) (cell_other (by omega) h.c0), cell_other (by omega) (cell_other (by omega) h.c1), cell_other (by omega) (cell_other (by omega) h.c3), fun j hj => ?_, fun j hj => ?_, fun o ho => by rw [World.frozen?_setCell, World.frozen?_setCell]; exact h.fr o ho, by simpa [World.setCell] using h.lt⟩
  · refine cell_other (by omega) ?_
    by_cases e : j = n
    · subst e; rw [if_pos (by omega)]; exact World.cell?_setCell_same w _ _ (h.a16 j hj)
    · rw [put_if e]; exact cell_other (by omega) (h.a16 j hj)
  · by_cases e : j = n
    · subst e; rw [if_pos (by omega)]; exact World.cell?_setCell_same _ _ _ (cell_other (by omega) (h.a32 j hj))
    · rw [put_if e]; exact cell_other (by omega) (cell_other (by omega) (h.a32 j hj))
theorem Tab.put' (h : Tab r16 r32 w b dn st md n) (hn : n < 256) : Tab r16 r32 ((w.setCell ⟨b, 260 + n, none⟩ (.int .u32 (r32 n))).setCell ⟨b, 4 + n, none⟩ (.int .u16 (r16 n))) b dn st md (n + 1) := by
  refine ⟨cell_other (by omega) (cell_other (by omega) h.c0), cell_other (by omega) (cell_other (by omega) h.c1), cell_other (by omega) (cell_other (by omega) h.c3), fun j hj => ?_, fun j hj => ?_, fun o ho => by rw [World.frozen?_setCell, World.frozen?_setCell]; exact h.fr o ho, by simpa [World.setCell] using h.lt⟩
  · by_cases e : j = n
    · subst e; rw [if_pos (by omega)]; exact World.cell?_setCell_same _ _ _ (cell_other (by omega) (h.a16 j hj))
    · rw [put_if e]; exact cell_other (by omega) (cell_other (by omega) (h.a16 j hj))
  · refine cell_other (by omega) ?_
    by_cases e : j = n
    · subst e; rw [if_pos (by omega)]; exact World.cell?_setCell_same w _ _ (h.a32 j hj)
    · rw [put_if e]; exact cell_other (by omega) (h.a32 j hj)
/-- What the rows are: what the steps tell. -/
def Rows (r16 r32 : Nat → Int) : Prop := ∀ j : Nat, j < 256 → crc_step16.f 9 ((j : Int) * 256) = some (r16 j) ∧ crc_step32.f 9 (j : Int) = some (r32 j)

set_option maxHeartbeats 4000000 in
set_option maxRecDepth 100000 in
theorem fill (hR : Aside0 (Rows r16 r32)) (h : Tab r16 r32 w b dn st 0 0) :
    Calls Try.prog 26 #[.pointer (some ⟨b, 0, none⟩)] w fun e w' => e = .returned (.tuple #[]) ∧ Tab r16 r32 w' b dn st 1 256 ∧ Grew b w w' := by
  have h3 := h.c3
  have f3 := h.fr 3 (by omega)
  have H1 := Aside0.mk (h.set3 1)
  have HB := Aside0.mk (show Grew b w (w.setCell ⟨b, 3, none⟩ (.int .i64 1)) from (Below.refl b w).setCell (Nat.le_refl _) _)
  clear h
  go_enter Try.func26, Try.ntmps26
  go_wp2_with (go_at_call 30; refine (add64 ⟨b, 3, none⟩ 0 _ h3 f3 (by omega) (by omega)).mono ?_; rintro e w' ⟨rfl, rfl⟩)
  go_loopw [7] (fun i wr => ∃ k : Nat, k ≤ 256 ∧ i = .int .i64 k ∧ Aside0 (Tab r16 r32 wr b dn st 1 k) ∧ Aside0 (Grew b w wr)) (fun i _ => 256 - (intOf i).toNat)
  case atStart => exact ⟨0, Nat.zero_le _, rfl, H1, HB⟩
  case round =>
    clear H1 HB h3 f3
    obtain ⟨k, hk, rfl, HT, HG⟩ := hrel
    by_cases hlt : k < 256
    · have hk0 : (0 : Int) ≤ (k : Int) := by omega
      have hk1 : (k : Int) < 256 := by omega
      obtain ⟨x16, c16⟩ : ∃ x, wr.cell? ⟨b, 4 + k, none⟩ = some x := ⟨_, HT.out.a16 k hlt⟩
      obtain ⟨x32, c32⟩ : ∃ x, wr.cell? ⟨b, 260 + k, none⟩ = some x := ⟨_, HT.out.a32 k hlt⟩
      have f16 := HT.out.fr (4 + k) (by omega)
      have f32 := HT.out.fr (260 + k) (by omega)
      have hr16 : Aside0 (crc_step16.f 9 (IntKind.u16.wrap (IntKind.u16.wrap (k : Int) * 256)) = some (r16 k)) := ⟨by rw [show IntKind.u16.wrap (IntKind.u16.wrap (k : Int) * 256) = (k : Int) * 256 by simp [IntKind.wrap, IntKind.bits, IntKind.signed]; omega]; exact (hR.out k hlt).1⟩
      have hr32 : Aside0 (crc_step32.f 9 (IntKind.u32.wrap (k : Int)) = some (r32 k)) := ⟨by rw [show IntKind.u32.wrap (k : Int) = (k : Int) by simp [IntKind.wrap, IntKind.bits, IntKind.signed]; omega]; exact (hR.out k hlt).2⟩
      have hr33 : Aside0 (crc_step32.f 9 ((k : Int) % 4294967296) = some (r32 k)) := ⟨by rw [show (k : Int) % 4294967296 = (k : Int) by omega]; exact (hR.out k hlt).2⟩
      go_wp2
      go_region_with (first | (go_at_call 24; ((with_reducible refine (crc_step16.calls 9 _ _ _ hr16.out).mono ?_)); rintro e w' ⟨rfl, m, rfl⟩) | (go_at_call 23; (first | (with_reducible refine (crc_step32.calls 9 _ _ _ hr32.out).mono ?_) | (with_reducible refine (crc_step32.calls 9 _ _ _ hr33.out).mono ?_)); rintro e w' ⟨rfl, m2, rfl⟩))
      have HT' := Aside0.mk ((HT.out.drewN (1 + m + m2)).put hlt)
      have HG' := Aside0.mk (show Grew b w _ from ((pw_below_drewN HG.out (1 + m + m2)).setCell (p := ⟨b, 4 + k, none⟩) (Nat.le_refl _) (.int .u16 (r16 k))).setCell (p := ⟨b, 260 + k, none⟩) (Nat.le_refl _) (.int .u32 (r32 k)))
      clear HT HG c16 c32 f16 f32 hr16 hr32 hr33
      go_wp2
      go_roundw
      case rel => exact ⟨k + 1, by omega, by go_num, HT', HG'⟩
      case measure => simp [intOf]; omega
    · obtain rfl : k = 256 := by omega
      go_wp2
      go_end0
      exact ⟨rfl, HT.out, HG.out⟩

set_option maxHeartbeats 4000000 in
set_option maxRecDepth 100000 in
theorem slow (hR : Aside0 (Rows r16 r32)) (h : Tab r16 r32 w b 0 0 0 0) :
    Calls Try.prog 29 #[.pointer (some ⟨b, 0, none⟩), .func (.func 26) #[.pointer (some ⟨b, 0, none⟩)] #[]] w fun e w' => e = .returned (.tuple #[]) ∧ Tab r16 r32 w' b 1 0 1 256 ∧ Grew b w w' := by
  have h0 := h.c0
  have h1 := h.c1
  have f0 := h.fr 0 (by omega)
  have f1 := h.fr 1 (by omega)
  have H1 := Aside0.mk (h.set1 1)
  have HB := Aside0.mk (show Grew b w (w.setCell ⟨b, 1, none⟩ (.int .i32 1)) from (Below.refl b w).setCell (Nat.le_refl _) _)
  clear h
  have hl := run_call_load (P := Try.prog) Try.func32 (by kernel_rfl) (by kernel_rfl) (by kernel_rfl) .u32 (by kernel_rfl) (w := w.setCell ⟨b, 1, none⟩ (.int .i32 1)) (a := ⟨b, 0, none⟩) (x := 0) H1.out.c0
  have hnot : ∀ (x : Bool) (w : World), (Op.unary .not (.bool x)).run Try.prog w = .ok (.bool (!x)) w := fun _ _ => rfl
  go_enter_defers Try.func29, Try.ntmps29
  go_wp2_with (go_at_call 33; refine (lock_free ⟨b, 1, none⟩ _ (by go_simp) (by go_simp)).mono ?_; rintro e w' ⟨rfl, rfl⟩)
  go_wp2_with (first | (go_at_call 26; ((with_reducible refine (fill hR H1.out).mono ?_)); rintro e w' ⟨rfl, HT, HG⟩) | (go_at_call 28; go_in))
  have HG1 := HB.out.trans HG
  clear HG hl hnot H1 HB h0 h1 f0 f1
  refine leaves_cons (f := 35) (args := #[.pointer (some ⟨b, 0, none⟩), .bool true]) (by simp) (by simp [go_sem]) ?_
  refine (store_deferred ⟨b, 0, none⟩ (.int .u32 0) .returning _ HT.c0 (HT.fr 0 (by omega))).mono ?_
  rintro e u' w'' ⟨rfl, rfl, rfl⟩
  have HT2 := HT.drew.set0 1
  refine leaves_cons (f := 34) (args := #[.pointer (some ⟨b, 1, none⟩)]) (by simp [settle]) (by simp [go_sem]) ?_
  refine (unlock_deferred ⟨b, 1, none⟩ _ _ HT2.c1 (HT2.fr 1 (by omega))).mono ?_
  rintro e u' w'' ⟨rfl, rfl, rfl⟩
  have HT3 := HT2.set1 0
  have HG3 := ((HG1.drew).setCell (p := ⟨b, 0, none⟩) (Nat.le_refl _) (.int .u32 1)).setCell (p := ⟨b, 1, none⟩) (Nat.le_refl _) (.int .i32 0)
  clear HT HT2 HG1
  simp [Leaves, settle, results, Try.results29]
  exact ⟨HT3, HG3⟩

set_option maxHeartbeats 4000000 in
set_option maxRecDepth 100000 in
theorem do_first (hR : Aside0 (Rows r16 r32)) (h : Tab r16 r32 w b 0 0 0 0) :
    Calls Try.prog 25 #[.pointer (some ⟨b, 0, none⟩), .func (.func 26) #[.pointer (some ⟨b, 0, none⟩)] #[]] w fun e w' => e = .returned (.tuple #[]) ∧ Tab r16 r32 w' b 1 0 1 256 ∧ Grew b w w' := by
  have H1 := Aside0.mk h
  have hl := run_call_load (P := Try.prog) Try.func32 (by kernel_rfl) (by kernel_rfl) (by kernel_rfl) .u32 (by kernel_rfl) h.c0
  have hnot : ∀ (x : Bool) (w : World), (Op.unary .not (.bool x)).run Try.prog w = .ok (.bool (!x)) w := fun _ _ => rfl
  clear h
  go_enter Try.func25, Try.ntmps25
  go_wp2_with (first | (go_at_call 29; ((with_reducible refine (slow hR H1.out).mono ?_)); rintro e w' ⟨rfl, HT, HG⟩) | (go_at_call 28; go_in))
  go_end0
  exact ⟨rfl, HT, HG⟩

theorem do_done (h : Tab r16 r32 w b 1 0 1 256) (fv : Value) :
    Calls Try.prog 25 #[.pointer (some ⟨b, 0, none⟩), fv] w fun e w' => e = .returned (.tuple #[]) ∧ w' = w := by
  have hl := run_call_load (P := Try.prog) Try.func32 (by kernel_rfl) (by kernel_rfl) (by kernel_rfl) .u32 (by kernel_rfl) h.c0
  have hnot : ∀ (x : Bool) (w : World), (Op.unary .not (.bool x)).run Try.prog w = .ok (.bool (!x)) w := fun _ _ => rfl
  clear h
  go_enter Try.func25, Try.ntmps25
  go_wp2
  go_end0
  exact ⟨rfl, rfl⟩
/-- Made or not yet made. -/
def May (r16 r32 : Nat → Int) (w : World) (b : Nat) : Prop := Tab r16 r32 w b 0 0 0 0 ∨ Tab r16 r32 w b 1 0 1 256
def Did (r16 r32 : Nat → Int) (w : World) (b : Nat) : Prop := Tab r16 r32 w b 1 0 1 256
theorem do_any (hR : Aside0 (Rows r16 r32)) (h : May r16 r32 w b) :
    Calls Try.prog 25 #[.pointer (some ⟨b, 0, none⟩), .func (.func 26) #[.pointer (some ⟨b, 0, none⟩)] #[]] w fun e w' => e = .returned (.tuple #[]) ∧ Aside0 (Did r16 r32 w' b) ∧ Aside0 (Grew b w w') := by
  rcases h with h | h
  · exact (do_first hR h).mono fun e w' ⟨a, c, d⟩ => ⟨a, ⟨c⟩, ⟨d⟩⟩
  · refine (do_done h _).mono ?_
    rintro e w' ⟨rfl, rfl⟩
    exact ⟨rfl, ⟨h⟩, ⟨Below.refl _ _⟩⟩

set_option maxHeartbeats 4000000 in
set_option maxRecDepth 100000 in
theorem row16 (hR : Aside0 (Rows r16 r32)) (h : Aside0 (May r16 r32 w b)) (i : Nat) (hi : i < 256) :
    Calls Try.prog 16 #[.pointer (some ⟨b, 0, none⟩), .int .i64 (i : Int)] w fun e w' => e = .returned (.int .u16 (r16 i)) ∧ Aside0 (Did r16 r32 w' b) ∧ Aside0 (Grew b w w') := by
  have i0 : (0 : Int) ≤ (i : Int) := by omega
  have i1 : (i : Int) < 256 := by omega
  have i2 : ¬ (i : Int) < 0 := by omega
  have i3 : ¬ (256 : Int) ≤ (i : Int) := by omega
  have hmf : ∀ (fn : Fn) (first cap : Array Value) (w : World), (Instr.makeFunc fn first cap).run Try.prog w = .ok (.func fn first cap) w := fun _ _ _ _ => rfl
  go_enter Try.func16, Try.ntmps16
  go_wp2_with (go_at_call 25; ((with_reducible refine (do_any hR h.out).mono ?_)); rintro e w' ⟨rfl, HT, HG⟩; have hc := HT.out.a16 i hi; rw [if_pos hi] at hc)
  go_ret
  exact ⟨rfl, HT, HG⟩
end Go.Proofs.Ytihbahomnepieaa.Tab

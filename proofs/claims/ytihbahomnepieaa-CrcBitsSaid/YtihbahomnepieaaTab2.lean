/- A table's methods. -/
import Derived.Test.YtihbahomnepieaaTab1
import Derived.Test.YtihbahomnepieaaPCrcx1
namespace Go.Proofs.Ytihbahomnepieaa.Tab
open Go.RowKit Go.Proofs.YtihbahomnepieaaW.PrintWords Go.Proofs.YtihbahomnepieaaW.PrintLast Go.Proofs.YtihbahomnepieaaW.PrintMore Go.Proofs.Ytihbahomnepieaa.PCrc
variable {r16 r32 : Nat → Int} {w w' : World} {b : Nat} {dn st md : Int} {n : Nat}

set_option maxHeartbeats 4000000 in
set_option maxRecDepth 100000 in
theorem row32 (hR : Aside0 (Rows r16 r32)) (h : Aside0 (May r16 r32 w b)) (i : Nat) (hi : i < 256) :
    Calls Try.prog 17 #[.pointer (some ⟨b, 0, none⟩), .int .i64 (i : Int)] w fun e w' => e = .returned (.int .u32 (r32 i)) ∧ Aside0 (Did r16 r32 w' b) ∧ Aside0 (Grew b w w') := by
  have i0 : (0 : Int) ≤ (i : Int) := by omega
  have i1 : (i : Int) < 256 := by omega
  have i2 : ¬ (i : Int) < 0 := by omega
  have i3 : ¬ (256 : Int) ≤ (i : Int) := by omega
  have hmf : ∀ (fn : Fn) (first cap : Array Value) (w : World), (Instr.makeFunc fn first cap).run Try.prog w = .ok (.func fn first cap) w := fun _ _ _ _ => rfl
  go_enter Try.func17, Try.ntmps17
  go_wp2_with (go_at_call 25; ((with_reducible refine (do_any hR h.out).mono ?_)); rintro e w' ⟨rfl, HT, HG⟩; have hc := HT.out.a32 i hi; rw [if_pos hi] at hc)
  go_ret
  exact ⟨rfl, HT, HG⟩
theorem row16_off (i : Int) (hi : i < 0 ∨ 256 ≤ i) (b : Nat) (w : World) : Calls Try.prog 16 #[.pointer (some ⟨b, 0, none⟩), .int .i64 i] w fun e w' => e = .returned (.int .u16 0) ∧ w' = w := by
  by_cases h : i < 0
  · clear hi
    go_enter Try.func16, Try.ntmps16
    go_wp2
    go_ret
    exact ⟨rfl, rfl⟩
  · have h2 : 256 ≤ i := by omega
    clear hi
    go_enter Try.func16, Try.ntmps16
    go_wp2
    go_ret
    exact ⟨rfl, rfl⟩
theorem row32_off (i : Int) (hi : i < 0 ∨ 256 ≤ i) (b : Nat) (w : World) : Calls Try.prog 17 #[.pointer (some ⟨b, 0, none⟩), .int .i64 i] w fun e w' => e = .returned (.int .u32 0) ∧ w' = w := by
  by_cases h : i < 0
  · clear hi
    go_enter Try.func17, Try.ntmps17
    go_wp2
    go_ret
    exact ⟨rfl, rfl⟩
  · have h2 : 256 ≤ i := by omega
    clear hi
    go_enter Try.func17, Try.ntmps17
    go_wp2
    go_ret
    exact ⟨rfl, rfl⟩
theorem row16_nil (i : Int) (w : World) : Calls Try.prog 16 #[.pointer none, .int .i64 i] w fun e w' => e = .returned (.int .u16 0) ∧ w' = w := by
  go_enter Try.func16, Try.ntmps16
  go_wp2
  go_ret
  exact ⟨rfl, rfl⟩
theorem row32_nil (i : Int) (w : World) : Calls Try.prog 17 #[.pointer none, .int .i64 i] w fun e w' => e = .returned (.int .u32 0) ∧ w' = w := by
  go_enter Try.func17, Try.ntmps17
  go_wp2
  go_ret
  exact ⟨rfl, rfl⟩
theorem sum16_nil (s : ByteArray) (w : World) : Calls Try.prog 21 #[.pointer none, .string s] w fun e w' => e = .returned (.int .u16 0) ∧ w' = w := by
  go_enter Try.func21, Try.ntmps21
  go_wp2
  go_ret
  exact ⟨rfl, rfl⟩
theorem sum32_nil (s : ByteArray) (w : World) : Calls Try.prog 22 #[.pointer none, .string s] w fun e w' => e = .returned (.int .u32 0) ∧ w' = w := by
  go_enter Try.func22, Try.ntmps22
  go_wp2
  go_ret
  exact ⟨rfl, rfl⟩
theorem made_nil (w : World) : Calls Try.prog 20 #[.pointer none] w fun e w' => e = .returned (.int .i64 0) ∧ w' = w := by
  go_enter Try.func20, Try.ntmps20
  go_wp2
  go_ret
  exact ⟨rfl, rfl⟩
theorem made (h : Aside0 (Tab r16 r32 w b dn st md n)) (m0 : 0 ≤ md) (m1 : md ≤ 1) : Calls Try.prog 20 #[.pointer (some ⟨b, 0, none⟩)] w fun e w' => e = .returned (.int .i64 md) ∧ w' = w := by
  have m2 : -9223372036854775808 ≤ md := by omega
  have m3 : md ≤ 9223372036854775807 := by omega
  go_enter Try.func20, Try.ntmps20
  go_wp2_with (go_at_call 27; refine (load64 ⟨b, 3, none⟩ md _ h.out.c3).mono ?_; rintro e w' ⟨rfl, rfl⟩)
  go_ret
  exact ⟨rfl, rfl⟩
/-- What a new table's cells hold. -/
def zcells : Array Value := #[.int .u32 0, .int .i32 0, .int .u32 0, .int .i64 0] ++ Array.replicate 256 (.int .u16 0) ++ Array.replicate 256 (.int .u32 0)
theorem zero61 (w : World) : (zeroValue 61).run Try.prog w = .ok (.agg zcells) w := by kernel_rfl
theorem z_at (o : Nat) (h : o < 516) : zcells[o]? = some (if o = 0 then .int .u32 0 else if o = 1 then .int .i32 0 else if o = 2 then .int .u32 0 else if o = 3 then .int .i64 0 else if o < 260 then .int .u16 0 else .int .u32 0) := by
  unfold zcells
  have s1 : (#[.int .u32 0, .int .i32 0, .int .u32 0, .int .i64 0] : Array Value).size = 4 := rfl
  have s2 : (#[.int .u32 0, .int .i32 0, .int .u32 0, .int .i64 0] ++ Array.replicate 256 (.int .u16 0) : Array Value).size = 260 := by rw [Array.size_append, s1, Array.size_replicate]
  rw [Array.getElem?_append, Array.getElem?_append, s2, s1]
  by_cases h4 : o < 4
  · rw [if_pos (by omega), if_pos h4]
    match o, h4 with
    | 0, _ => rfl
    | 1, _ => rfl
    | 2, _ => rfl
    | 3, _ => rfl
  · rw [if_neg (c := o = 0) (by omega), if_neg (c := o = 1) (by omega), if_neg (c := o = 2) (by omega), if_neg (c := o = 3) (by omega)]
    by_cases h5 : o < 260
    · rw [if_pos h5, if_neg h4, if_pos h5, Array.getElem?_replicate, if_pos (by omega)]
    · rw [if_neg h5, if_neg h5, Array.getElem?_replicate, if_pos (by omega)]
theorem heap_new (w : World) (o : Obj) : (w.alloc o).heap[w.heap.size]? = some o := by
  show (w.heap.push o)[w.heap.size]? = some o
  simp
theorem cell_new (w : World) (cs : Array Value) (T : Nat) (o : Nat) : (w.alloc (.cells cs T)).cell? ⟨w.heap.size, o, none⟩ = cs[o]? := by
  unfold World.cell?
  rw [heap_new]
  simp
theorem frozen_new (w : World) (cs : Array Value) (T : Nat) (o : Nat) : (w.alloc (.cells cs T)).frozen? ⟨w.heap.size, o, none⟩ = false := by
  unfold World.frozen?
  rw [heap_new]
  simp
theorem tab_new (w : World) : Tab r16 r32 (w.alloc (.cells zcells 61)) w.heap.size 0 0 0 0 := by
  refine ⟨?_, ?_, ?_, fun j hj => ?_, fun j hj => ?_, fun o _ => frozen_new _ _ _ _, by simp⟩
  · rw [cell_new, z_at _ (by omega)]; rfl
  · rw [cell_new, z_at _ (by omega)]; rfl
  · rw [cell_new, z_at _ (by omega)]; rfl
  · rw [cell_new, z_at _ (by omega), if_neg (by omega), if_neg (by omega), if_neg (by omega), if_neg (by omega), if_pos (by omega), if_neg (by omega)]
  · rw [cell_new, z_at _ (by omega), if_neg (by omega), if_neg (by omega), if_neg (by omega), if_neg (by omega), if_neg (by omega), if_neg (by omega)]
theorem new (w : World) : Calls Try.prog 15 #[] w fun e w' => e = .returned (.pointer (some ⟨w.heap.size, 0, none⟩)) ∧ Aside0 (Tab r16 r32 w' w.heap.size 0 0 0 0) ∧ Aside0 (Below w.heap.size w w') := by
  have hz := zero61
  have HT := Aside0.mk (tab_new (r16 := r16) (r32 := r32) w)
  generalize zcells = zc at *
  go_enter Try.func15, Try.ntmps15
  go_wp2
  go_ret
  exact ⟨rfl, HT, ⟨(Below.refl _ _).alloc (Nat.le_refl _) _⟩⟩

/-- Bytes that lie in memory. -/
def BRow (w : World) (g : Nat) (l : List Int) : Prop := ∀ j, j < l.length → w.cell? ⟨g, j, none⟩ = some (.int .u8 (l.getD j 0)) ∧ w.frozen? ⟨g, j, none⟩ = false
theorem brow_new (w : World) (e : Nat) (s : ByteArray) : BRow (Lib.bytesWorld w e s) w.heap.size (bytesOf s) := by
  intro j hj
  rw [bytesOf_length] at hj
  refine ⟨?_, ?_⟩
  · rw [Lib.bytesWorld_cell w e s j hj]
    simp [bytesOf, List.getD, hj]
  · unfold World.frozen?
    rw [Lib.bytesWorld_at_new]
    simp [Lib.bytesCells]
    omega
/-- One round of a sum by rows. -/
def g16 (r16 : Nat → Int) (x : Int) (c : Int) : Int := Go.bits .xor .u16 (IntKind.u16.wrap (x * 256)) (r16 (Go.bits .xor .u8 (x / 256 % 256) c).toNat)
theorem bits8_range (a c : Int) : 0 ≤ Go.bits .xor .u8 a c ∧ Go.bits .xor .u8 a c < 256 := by
  show 0 ≤ IntKind.u8.wrap (((BitVec.ofInt 8 a ^^^ BitVec.ofInt 8 c).toNat : Nat) : Int) ∧ IntKind.u8.wrap (((BitVec.ofInt 8 a ^^^ BitVec.ofInt 8 c).toNat : Nat) : Int) < 256
  have := (BitVec.ofInt 8 a ^^^ BitVec.ofInt 8 c).isLt
  simp only [IntKind.wrap, IntKind.bits, IntKind.signed]
  generalize (BitVec.ofInt 8 a ^^^ BitVec.ofInt 8 c).toNat = z at *
  simp
  omega
set_option maxHeartbeats 4000000 in
set_option maxRecDepth 100000 in
theorem sum16 (hR : Aside0 (Rows r16 r32)) (h : Aside0 (May r16 r32 w b)) (s : ByteArray) (hs : Aside0 (s.size ≤ 100000)) :
    Calls Try.prog 21 #[.pointer (some ⟨b, 0, none⟩), .string s] w fun e w' => e = .returned (.int .u16 ((bytesOf s).foldl (g16 r16) 65535)) ∧ Aside0 (Did r16 r32 w' b) ∧ Aside0 (Grew b w w') := by
  have hmf : ∀ (fn : Fn) (first cap : Array Value) (w : World), (Instr.makeFunc fn first cap).run Try.prog w = .ok (.func fn first cap) w := fun _ _ _ _ => rfl
  have kc := fun (w : World) => Lib.run_convert_string_bytes (P := Try.prog) w 9 38 5 s Try.underlying9 Try.underlying38 Try.underlying5
  go_enter Try.func21, Try.ntmps21
  go_wp2_with (go_at_call 25; ((with_reducible refine (do_any hR h.out).mono ?_)); rintro e w1 ⟨rfl, HT, HG⟩)
  have HR0 := Aside0.mk (brow_new w1 5 s)
  have HB := Aside0.mk (bytes_below w1 5 s)
  have hn : (s.size : Int) = ((bytesOf s).length : Int) := by rw [bytesOf_length]
  have hlen := hs.out
  have HT1 := Aside0.mk (HT.out.below HB.out HT.out.lt)
  have HG1 := Aside0.mk (HG.out.trans (HB.out.mono (Nat.le_of_lt HT.out.lt)))
  generalize hw2 : Lib.bytesWorld w1 5 s = w2 at *
  generalize hl0 : bytesOf s = l0 at *
  generalize hg1 : w1.heap.size = g at *
  have HL := Aside0.mk hl0
  clear HT HG HB kc hmf hw2 hg1 hl0
  have hn' := Aside0.mk (show s.size = l0.length by omega)
  clear hn
  go_loopw [5, 19] (fun x i wr => ∃ k : Nat, k ≤ s.size ∧ x = .int .u16 ((l0.take k).foldl (g16 r16) 65535) ∧ i = .int .i64 k ∧ Aside0 (wr = w2)) (fun _ i _ => s.size - (intOf i).toNat)
  case atStart => exact ⟨0, Nat.zero_le _, rfl, rfl, ⟨rfl⟩⟩
  case round =>
    obtain ⟨k, hk, rfl, rfl, hw⟩ := hrel
    obtain rfl := hw.out
    clear hw
    by_cases hlt : k < s.size
    · have k0 : (0 : Int) ≤ (k : Int) := by omega
      have k1 : (k : Int) < (s.size : Int) := by omega
      have hl := hn'.out
      have hc := (HR0.out k (by omega)).1
      have hf := Aside0.mk (show (l0.take (k + 1)).foldl (g16 r16) 65535 = g16 r16 ((l0.take k).foldl (g16 r16) 65535) (l0.getD k 0) by rw [List.take_succ_eq_append_getElem (by omega), List.foldl_append, List.foldl_cons, List.foldl_nil, List.getD_eq_getElem?_getD, List.getElem?_eq_getElem (by omega)]; rfl)
      generalize (l0.take k).foldl (g16 r16) 65535 = x at *
      generalize l0.getD k 0 = c at *
      clear hl
      have q := bits8_range (x / 256 % 256) c
      have q0 := q.1
      have q1 := q.2
      clear q
      have ct : wr.cell? ⟨b, 4 + (Go.bits .xor .u8 (x / 256 % 256) c).toNat, none⟩ = some (.int .u16 (r16 (Go.bits .xor .u8 (x / 256 % 256) c).toNat)) := by
        have := HT1.out.a16 (Go.bits .xor .u8 (x / 256 % 256) c).toNat (by omega)
        rw [if_pos (by omega)] at this
        exact this
      go_wp2
      go_roundw
      case rel => exact ⟨k + 1, by omega, by rw [hf.out]; rfl, by go_num, ⟨by first | rfl | trivial⟩⟩
      case measure => simp [intOf]; omega
    · have hl := hn'.out
      obtain rfl : k = s.size := by omega
      have ht := Aside0.mk (show l0.take s.size = l0 by rw [hl]; exact List.take_length)
      clear hl hk
      go_wp2
      go_ret
      exact ⟨by rw [HL.out]; first | rfl | (rw [ht.out]; rfl), HT1, HG1⟩
/-- One round of a sum by rows. -/
def g32 (r32 : Nat → Int) (x : Int) (c : Int) : Int := Go.bits .xor .u32 (x / 256) (r32 (Go.bits .xor .u8 (Go.bits .and .u32 x 255 % 256) c).toNat)
set_option maxHeartbeats 4000000 in
set_option maxRecDepth 100000 in
theorem sum32 (hR : Aside0 (Rows r16 r32)) (h : Aside0 (May r16 r32 w b)) (s : ByteArray) (hs : Aside0 (s.size ≤ 100000)) :
    Calls Try.prog 22 #[.pointer (some ⟨b, 0, none⟩), .string s] w fun e w' => e = .returned (.int .u32 (Go.bits .xor .u32 ((bytesOf s).foldl (g32 r32) 4294967295) 4294967295)) ∧ Aside0 (Did r16 r32 w' b) ∧ Aside0 (Grew b w w') := by
  have hmf : ∀ (fn : Fn) (first cap : Array Value) (w : World), (Instr.makeFunc fn first cap).run Try.prog w = .ok (.func fn first cap) w := fun _ _ _ _ => rfl
  have kc := fun (w : World) => Lib.run_convert_string_bytes (P := Try.prog) w 9 38 5 s Try.underlying9 Try.underlying38 Try.underlying5
  go_enter Try.func22, Try.ntmps22
  go_wp2_with (go_at_call 25; ((with_reducible refine (do_any hR h.out).mono ?_)); rintro e w1 ⟨rfl, HT, HG⟩)
  have HR0 := Aside0.mk (brow_new w1 5 s)
  have HB := Aside0.mk (bytes_below w1 5 s)
  have hn : (s.size : Int) = ((bytesOf s).length : Int) := by rw [bytesOf_length]
  have hlen := hs.out
  have HT1 := Aside0.mk (HT.out.below HB.out HT.out.lt)
  have HG1 := Aside0.mk (HG.out.trans (HB.out.mono (Nat.le_of_lt HT.out.lt)))
  generalize hw2 : Lib.bytesWorld w1 5 s = w2 at *
  generalize hl0 : bytesOf s = l0 at *
  generalize hg1 : w1.heap.size = g at *
  have HL := Aside0.mk hl0
  clear HT HG HB kc hmf hw2 hg1 hl0
  have hn' := Aside0.mk (show s.size = l0.length by omega)
  clear hn
  go_loopw [5, 19] (fun x i wr => ∃ k : Nat, k ≤ s.size ∧ x = .int .u32 ((l0.take k).foldl (g32 r32) 4294967295) ∧ i = .int .i64 k ∧ Aside0 (wr = w2)) (fun _ i _ => s.size - (intOf i).toNat)
  case atStart => exact ⟨0, Nat.zero_le _, rfl, rfl, ⟨rfl⟩⟩
  case round =>
    obtain ⟨k, hk, rfl, rfl, hw⟩ := hrel
    obtain rfl := hw.out
    clear hw
    by_cases hlt : k < s.size
    · have k0 : (0 : Int) ≤ (k : Int) := by omega
      have k1 : (k : Int) < (s.size : Int) := by omega
      have hl := hn'.out
      have hc := (HR0.out k (by omega)).1
      have hf := Aside0.mk (show (l0.take (k + 1)).foldl (g32 r32) 4294967295 = g32 r32 ((l0.take k).foldl (g32 r32) 4294967295) (l0.getD k 0) by rw [List.take_succ_eq_append_getElem (by omega), List.foldl_append, List.foldl_cons, List.foldl_nil, List.getD_eq_getElem?_getD, List.getElem?_eq_getElem (by omega)]; rfl)
      generalize (l0.take k).foldl (g32 r32) 4294967295 = x at *
      generalize l0.getD k 0 = c at *
      clear hl
      have q := bits8_range (Go.bits .and .u32 x 255 % 256) c
      have q0 := q.1
      have q1 := q.2
      clear q
      have ct : wr.cell? ⟨b, 260 + (Go.bits .xor .u8 (Go.bits .and .u32 x 255 % 256) c).toNat, none⟩ = some (.int .u32 (r32 (Go.bits .xor .u8 (Go.bits .and .u32 x 255 % 256) c).toNat)) := by
        have := HT1.out.a32 (Go.bits .xor .u8 (Go.bits .and .u32 x 255 % 256) c).toNat (by omega)
        rw [if_pos (by omega)] at this
        exact this
      go_wp2
      go_roundw
      case rel => exact ⟨k + 1, by omega, by rw [hf.out]; rfl, by go_num, ⟨by first | rfl | trivial⟩⟩
      case measure => simp [intOf]; omega
    · have hl := hn'.out
      obtain rfl : k = s.size := by omega
      have ht := Aside0.mk (show l0.take s.size = l0 by rw [hl]; exact List.take_length)
      clear hl hk
      go_wp2
      go_ret
      exact ⟨by rw [HL.out]; first | rfl | (rw [ht.out]; rfl), HT1, HG1⟩
end Go.Proofs.Ytihbahomnepieaa.Tab

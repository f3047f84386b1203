/- The walk of flumelaw1's begun: what every statement of layer 1 asks ahead holds. -/
import Derived.Test.YtmkljmljbbijeaaWireMethods
import Derived.Test.YtmkljmljbbijeaaWireString
import Derived.Test.YtmkljmljbbijeaaWireEq
import Derived.Lib.SlBytesConst
namespace Go.Proofs.Ytmkljmljbbijeaa
open Go.RowKit

theorem OwnB.slice {w : World} {base : Nat} {v : Value} {bs : List (BitVec 8)} (h : OwnB w base v bs) : ∃ ao cap, v = .slice ao bs.length cap ∧ BytesAt w ao bs ∧ (ao = none → cap = 0) ∧ bs.length ≤ cap ∧ cap ≤ 9223372036854775807 ∧ ∀ g off, ao = some ⟨g, off, none⟩ → base ≤ g ∧ g < w.heap.size := by
  obtain ⟨ao, cap, hv, hn, hl, hm, hb, hs⟩ := h.shape
  refine ⟨ao, cap, hv, hb, hn, hl, by unfold maxLen at hm; omega, fun g off e => ?_⟩
  subst e
  rcases hs with h | ⟨g', h, h1, h2, _⟩
  · cases h
  · injection h with h; injection h with h3 h4; subst h3; exact ⟨h1, h2⟩
theorem eq_bytes_of (a b : Option Addr) (xs ys : List (BitVec 8)) (n m ca cb : Nat) (t : Bool) (w : World) (ha : BytesAt w a xs) (hb : BytesAt w b ys) (hn : xs.length = n) (hk : ys.length = m) (hm : xs.length ≤ 140737488355328) (ht : decide (xs = ys) = t) :
    Calls Try.prog 23 #[.slice a n ca, .slice b m cb] w fun e w' => e = .returned (.bool t) ∧ ∃ n, w' = w.drewN n := by
  subst hn hk ht; exact eq_bytes a b xs ys ca cb w ha hb hm
theorem read_string_to (ao : Option Addr) (bs : List (BitVec 8)) (n cap : Nat) (most : Int) (w : World) (r : List (BitVec 8) × Nat × Nat) (hb : BytesAt w ao bs) (hl : bs.length = n) (hc : n ≤ cap) (hn : ao = none → cap = 0) (hm : cap ≤ 9223372036854775807) (hlen : n ≤ 140737488355328) (hmost : -9223372036854775808 ≤ most ∧ most ≤ 9223372036854775807) (hr : rs bs most = r) :
    Calls Try.prog 56 #[.slice ao n cap, .int .i64 most] w (RsOut w r) := by
  subst hl hr; exact read_string ao bs cap most w hb hc hn hm hlen hmost
theorem new_reader_to (ao : Option Addr) (bs : List (BitVec 8)) (n ca : Nat) (w : World) (hb : BytesAt w ao bs) (hl : bs.length = n) (hn : ao = none → ca = 0) (hm : n ≤ 70368744177664) :
    Calls Try.prog 66 #[.slice ao n ca] w fun e w' => ∃ b, e = .returned (.pointer (some ⟨b, 0, none⟩)) ∧ w.heap.size ≤ b ∧ RdAt w' b bs 0 0 ∧ Below w.heap.size w w' := by
  subst hl; exact new_reader ao bs ca w hb hn hm

theorem v300 : varint 300#64 = [172#8, 2#8] := by decide +kernel
theorem r300 : rvVal (rv [172#8, 2#8]) = .tuple #[.int .u64 300, .int .i64 2, .int .i64 0] := by
  have h : rv [172#8, 2#8] = (300#64, 2, 0) := by decide +kernel
  rw [h]; rfl
theorem r128 : rvVal (rv [128#8, 0#8]) = .tuple #[.int .u64 0, .int .i64 0, .int .i64 4] := by
  have h : rv [128#8, 0#8] = (0#64, 0, 4) := by decide +kernel
  rw [h]; rfl
theorem r510 : rv ([5#8, 1#8, 0#8].drop 0) = (5#64, 1, 0) := by decide +kernel
theorem s297 : rs [2#8, 97#8, 98#8, 99#8] 9 = ([97#8, 98#8], 3, 0) := by decide +kernel

set_option maxHeartbeats 1000000 in
set_option maxRecDepth 100000 in
theorem wire_begun (w : World) :
    Calls Try.prog 51 #[] w fun e w' => e = .returned (.bool true) ∧ Below w.heap.size w w' := by
  have kc := fun (w : World) (C : Array Value) (n c : Nat) => Lib.run_convert_bytes_const (P := Try.prog) w 31 5 C n c Try.underlying31 Try.underlying5
  go_enter Try.func51, Try.ntmps51
  go_wp2_with fail
  refine (wire_varint 300#64 _).mono ?_
  rintro x w1 ⟨v1, rfl, hO, hB⟩
  rw [v300] at hO
  obtain ⟨a1, c1, rfl, hb1, -, -, -, hg1⟩ := hO.slice
  have B1 := Lib.hid hB
  have D1 := Lib.hid hb1
  have G1 := Lib.hid hg1
  clear hO hB hb1 hg1
  go_wp2_with fail
  refine (read_varint_to _ _ _ _ _ _ D1.out rfl r300).mono ?_
  rintro x w2 ⟨rfl, rfl⟩
  have D2 := Lib.hid (bytes_new w1 [128#8, 0#8] 5 (0, 0))
  have B2 := Lib.hid (below_trans B1.out (below_alloc w1 (.cells (bvals [128#8, 0#8]).toArray 5 (0, 0))))
  have E2 := Lib.hid (D1.out.below (below_alloc w1 (.cells (bvals [128#8, 0#8]).toArray 5 (0, 0))))
  go_wp2_with fail
  refine (read_varint_to _ [128#8, 0#8] _ _ _ _ D2.out rfl r128).mono ?_
  rintro x w3 ⟨rfl, rfl⟩
  have hgl : Hid (∀ g off, a1 = some ⟨g, off, none⟩ → w.heap.size ≤ g ∧ g < (w1.alloc (.cells (bvals [128#8, 0#8]).toArray 5 (0, 0))).heap.size) := fun g off e => ⟨(G1.out g off e).1, Nat.lt_of_lt_of_le (G1.out g off e).2 (below_alloc w1 _).size⟩
  clear D2 B1 D1 G1
  generalize hw2 : w1.alloc (.cells (bvals [128#8, 0#8]).toArray 5 (0, 0)) = w2 at B2 E2 hgl ⊢
  clear hw2
  have D3 := Lib.hid (bytes_new w2 [2#8, 97#8, 98#8, 99#8] 5 (0, 0))
  have B3 := Lib.hid (below_trans B2.out (below_alloc w2 (.cells (bvals [2#8, 97#8, 98#8, 99#8]).toArray 5 (0, 0))))
  have E3 := Lib.hid (E2.out.below (below_alloc w2 (.cells (bvals [2#8, 97#8, 98#8, 99#8]).toArray 5 (0, 0))))
  have S3 : Hid (w2.heap.size ≤ (w2.alloc (.cells (bvals [2#8, 97#8, 98#8, 99#8]).toArray 5 (0, 0))).heap.size) := (below_alloc w2 _).size
  go_wp2_with fail
  refine (read_string_to _ [2#8, 97#8, 98#8, 99#8] _ _ 9 _ _ D3.out rfl (by decide) (fun h => by cases h) (by decide) (by decide) (by omega) s297).mono ?_
  rintro x w4 ⟨v4, rfl, hO4, hb4⟩
  obtain ⟨a4, c4, rfl, hd4, -, -, -, hg4⟩ := hO4.slice
  have B4 := Lib.hid (below_trans B3.out hb4)
  have E4 := Lib.hid (E3.out.below hb4)
  have D4 := Lib.hid hd4
  have G4 := Lib.hid hg4
  have G1 : Hid (∀ g off, a1 = some ⟨g, off, none⟩ → w.heap.size ≤ g ∧ g < w4.heap.size) := fun g off e => ⟨(hgl.out g off e).1, Nat.lt_of_lt_of_le (hgl.out g off e).2 (Nat.le_trans S3.out hb4.size)⟩
  clear hd4 hg4 hO4 hb4 hgl B2 E2 D3 B3 E3 S3
  have D5 := Lib.hid (bytes_new w4 [5#8, 1#8, 0#8] 5 (0, 0))
  have B5 := Lib.hid (below_alloc w4 (.cells (bvals [5#8, 1#8, 0#8]).toArray 5 (0, 0)))
  go_wp2_with fail
  refine (new_reader_to _ [5#8, 1#8, 0#8] _ _ _ D5.out rfl (fun h => by cases h) (by decide)).mono ?_
  rintro x w5 ⟨b, rfl, hbs, hR, hb5⟩
  have HB : Hid (w4.heap.size ≤ b) := Nat.le_trans B5.out.size hbs
  have B45 := Lib.hid (below_trans B5.out hb5)
  have R5 := Lib.hid hR
  clear hbs hR hb5 D5 B5
  go_wp2_with fail
  refine (varint_ok b [5#8, 1#8, 0#8] 0 9#64 _ R5.out (by decide) 5#64 1 r510 (by decide)).mono ?_
  rintro x w6 ⟨rfl, hU⟩
  rw [show bv 5#64 = 5 from rfl]
  have R6 := Lib.hid (R5.out.moved (0 + 1) (by decide) hU)
  have U6 := Lib.hid hU.but
  clear hU
  go_wp2_with fail
  refine (fixed32_stop b [5#8, 1#8, 0#8] (0 + 1) 0 _ R6.out 2 (by decide) (.inl ⟨rfl, by decide, rfl⟩)).mono ?_
  rintro x w7 ⟨rfl, hU⟩
  have R7 := Lib.hid (R6.out.stopped 2 hU)
  have U7 := Lib.hid (U6.out.trans hU.but)
  clear hU U6 R5 R6
  go_wp2_with fail
  refine (reader_err b [5#8, 1#8, 0#8] (0 + 1) 2 _ R7.out).mono ?_
  rintro x w8 ⟨rfl, n8, hw8⟩
  rw [if_neg (by decide)]
  have hb78 : Below w7.heap.size w7 w8 := by rw [hw8]; exact below_drewN _ _
  have R8 := Lib.hid (R7.out.on hb78)
  have U8 := Lib.hid (U7.out.of_below hb78)
  have E8 : Hid (BytesAt w8 a1 [172#8, 2#8]) := U8.out.bytes (E4.out.below B45.out) (fun g off e h => by have := (G1.out g off e).2; have := HB.out; omega)
  have D8 : Hid (BytesAt w8 a4 [97#8, 98#8]) := U8.out.bytes (D4.out.below B45.out) (fun g off e h => by have := (G4.out g off e).2; have := HB.out; omega)
  have B8 : Hid (Below w.heap.size w w8) := U8.out.below (below_trans B4.out B45.out) (by have := B4.out.size; have := HB.out; omega) (by have := B4.out.size; have := B45.out.size; omega)
  clear hw8 hb78 R7 U7 U8 E4 D4 B4 B45 G1 G4 HB
  have F8 := Lib.hid (bytes_new w8 [172#8, 2#8] 5 (0, 0))
  have A8 := Lib.hid (below_alloc w8 (.cells (bvals [172#8, 2#8]).toArray 5 (0, 0)))
  go_wp2_with fail
  refine (eq_bytes_of _ _ [172#8, 2#8] [172#8, 2#8] _ _ _ _ true _ (E8.out.below A8.out) F8.out rfl rfl (by decide) (by decide)).mono ?_
  rintro x w9 ⟨rfl, n9, hw9⟩
  have hb89 := Lib.hid (show Below w8.heap.size w8 w9 by rw [hw9]; exact below_trans A8.out (below_drewN _ _))
  clear hw9 A8 F8
  have F9 := Lib.hid (bytes_new w9 [97#8, 98#8] 5 (2, 3))
  have A9 := Lib.hid (below_trans hb89.out (below_alloc w9 (.cells (bvals [97#8, 98#8]).toArray 5 (2, 3))))
  go_wp2_with fail
  refine (eq_bytes_of _ _ [97#8, 98#8] [97#8, 98#8] _ _ _ _ true _ (D8.out.below A9.out) F9.out rfl rfl (by decide) (by decide)).mono ?_
  rintro x w10 ⟨rfl, n10, hw10⟩
  have hb10 := Lib.hid (show Below w8.heap.size w8 w10 by rw [hw10]; exact below_trans A9.out (below_drewN _ _))
  clear hw10 A9 F9 hb89
  go_wp2_with fail
  refine (reader_left b [5#8, 1#8, 0#8] (0 + 1) 2 _ (R8.out.on hb10.out) (by decide)).mono ?_
  rintro x w11 ⟨rfl, n11, hw11⟩
  rw [show (([5#8, 1#8, 0#8] : List (BitVec 8)).length - (0 + 1) : Nat) = 2 from rfl]
  have B11 := Lib.hid (show Below w.heap.size w w11 by rw [hw11]; exact below_trans (below_trans B8.out hb10.out) (below_drewN _ _))
  clear hw11
  go_wp2_with fail
  go_ret
  exact ⟨rfl, B11.out⟩
end Go.Proofs.Ytmkljmljbbijeaa

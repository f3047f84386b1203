/- The walk of catalog.next. -/
import Derived.Test.YtmkljmljbbijeaaSegsOwn
namespace Go.Proofs.Ytmkljmljbbijeaa
open Go.RowKit

theorem put3 {W : World} {b : Nat} {a0 a1 a2 : Value} {T : TypeId} {fr : Nat × Nat} (h : W.heap[b]? = some (.cells #[a0, a1, a2] T fr)) (x y z : Value) :
    (((W.setCell ⟨b, 0, none⟩ x).setCell ⟨b, 1, none⟩ y).setCell ⟨b, 2, none⟩ z).heap[b]? = some (.cells #[x, y, z] T fr) :=
  Go.Joins.block_setCell (Go.Joins.block_setCell (Go.Joins.block_setCell h x (i := 0)) y (i := 1)) z (i := 2)
theorem put3_below {n b : Nat} {w W : World} (h : Below n w W) (hb : n ≤ b) (x y z : Value) : Below n w (((W.setCell ⟨b, 0, none⟩ x).setCell ⟨b, 1, none⟩ y).setCell ⟨b, 2, none⟩ z) :=
  ((h.setCell (p := ⟨b, 0, none⟩) hb _).setCell (p := ⟨b, 1, none⟩) hb _).setCell (p := ⟨b, 2, none⟩) hb _
theorem put3_off {n b : Nat} {W : World} (hb : b ≠ n) (x y z : Value) : (((W.setCell ⟨b, 0, none⟩ x).setCell ⟨b, 1, none⟩ y).setCell ⟨b, 2, none⟩ z).heap[n]? = W.heap[n]? := by
  rw [Below.heap_setCell _ _ _ _ (by simpa using hb.symm), Below.heap_setCell _ _ _ _ (by simpa using hb.symm), Below.heap_setCell _ _ _ _ (by simpa using hb.symm)]

set_option maxRecDepth 100000 in
set_option maxHeartbeats 2000000 in
theorem cat_next (gen f0 first : Int) (a0 : Option Addr) (n0 c0 : Nat) (ao : Option Addr) (n ca : Nat) (L : List SegV) (w : World) (hA : CatAt w (.agg #[.int .i64 (gen + 1), .int .i64 first, .slice ao n ca]) ⟨gen + 1, first, L⟩) (hg : -9223372036854775808 ≤ gen ∧ gen < 9223372036854775807) (t : Bool) (ht : t = true ↔ MayC ⟨gen + 1, first, L⟩) :
    Calls Try.prog 79 #[.agg #[.int .i64 gen, .int .i64 f0, .slice a0 n0 c0], .int .i64 first, .slice ao n ca] w fun e w' => e = .returned (.tuple #[.agg #[.int .i64 (gen + 1), .int .i64 first, .slice ao n ca], .bool t]) ∧ Below w.heap.size w w' := by
  obtain ⟨g1, g2⟩ := hg
  have b1 := below_alloc w (.cells #[.int .i64 gen, .int .i64 f0, .slice a0 n0 c0] 29)
  have hn1 := heap_alloc_new w (.cells #[.int .i64 gen, .int .i64 f0, .slice a0 n0 c0] 29)
  obtain ⟨w1, hw1⟩ : ∃ w1, w.alloc (.cells #[.int .i64 gen, .int .i64 f0, .slice a0 n0 c0] 29) = w1 := ⟨_, rfl⟩
  rw [hw1] at b1 hn1
  have b2 := below_alloc w1 (.cells #[.int .i64 0, .int .i64 0, .slice none 0 0] 29)
  have hn2 := heap_alloc_new w1 (.cells #[.int .i64 0, .int .i64 0, .slice none 0 0] 29)
  obtain ⟨w2, hw2⟩ : ∃ w2, w1.alloc (.cells #[.int .i64 0, .int .i64 0, .slice none 0 0] 29) = w2 := ⟨_, rfl⟩
  rw [hw2] at b2 hn2
  have b3 := below_alloc w2 (.cells #[.int .i64 (gen + 1), .int .i64 first, .slice ao n ca] 29)
  have hn3 := heap_alloc_new w2 (.cells #[.int .i64 (gen + 1), .int .i64 first, .slice ao n ca] 29)
  obtain ⟨w3, hw3⟩ : ∃ w3, w2.alloc (.cells #[.int .i64 (gen + 1), .int .i64 first, .slice ao n ca] 29) = w3 := ⟨_, rfl⟩
  rw [hw3] at b3 hn3
  have k0 := cell_keep b2 (cell_of_row _ _ 0 _ _ _ hn1)
  have j0 := cell_regrown (cell_of_row _ _ 0 _ _ _ hn3)
  have j1 := cell_regrown (cell_of_row _ _ 1 _ _ _ hn3)
  have j2 := cell_regrown (cell_of_row _ _ 2 _ _ _ hn3)
  have hn23 : w3.heap[w1.heap.size]? = _ := (b3.block _ (heap_lt hn2)).trans hn2
  have HN := Lib.hid hn23
  have HB3 := Lib.hid (below_trans b1 (below_trans b2 b3))
  have HL := Lib.hid (b1.size)
  have HA := Lib.hid (hA.below HB3.out)
  have HT := Lib.hid ht
  have bg : (gen == 9223372036854775807) = false := beq_false_of_ne (by omega)
  clear b1 b2 b3 hn1 hn2 hn3 hn23 hA ht
  go_enter Try.func79, Try.ntmps79
  go_wp2_with fail
  refine wp_region_tail_below 3 (by kernel_rfl) (by kernel_rfl) ?_
  simp only [List.take_succ_cons, List.take_zero, List.drop_succ_cons, List.drop_zero]
  repeat (quiet_step ((go_at_call 21; exact Calls.regrown_of (cat_may _ _ _ (HA.out.below (below_regrown _ _ _)) t HT.out))))
  refine wpQuiet_nil ?_
  intro w4 hw4
  obtain ⟨⟨nq, osq⟩, hw4'⟩ := hw4
  have hb4 : Below w3.heap.size w3 w4 := by rw [hw4']; exact below_regrown _ _ _
  have HN4 := Lib.hid ((hb4.block _ (heap_lt HN.out)).trans HN.out)
  have HB4 := Lib.hid (below_trans HB3.out hb4)
  clear hw4' hb4 j0 j1 j2
  have r0 := cell_of_row _ _ 0 _ _ _ HN4.out
  have r1 := cell_of_row _ _ 1 _ _ _ HN4.out
  have r2 := cell_of_row _ _ 2 _ _ _ HN4.out
  have f0' := frozen_of_row _ _ 0 _ _ HN4.out
  have f1' := frozen_of_row _ _ 1 _ _ HN4.out
  have f2' := frozen_of_row _ _ 2 _ _ HN4.out
  go_wp2_with fail
  refine bodyPost_ret (results_cat2 rfl _ _ w1.heap.size _ _ _ rfl (cell_of_row _ _ 0 _ _ _ (put3 HN4.out _ _ _)) (cell_of_row _ _ 1 _ _ _ (put3 HN4.out _ _ _)) (cell_of_row _ _ 2 _ _ _ (put3 HN4.out _ _ _))) rfl ?_
  exact ⟨rfl, put3_below HB4.out HL.out _ _ _⟩
set_option maxRecDepth 100000 in
theorem cat_next_top (f0 first : Int) (a0 : Option Addr) (n0 c0 : Nat) (v : Value) (w : World) :
    Calls Try.prog 79 #[.agg #[.int .i64 9223372036854775807, .int .i64 f0, .slice a0 n0 c0], .int .i64 first, v] w fun e w' => e = .returned (.tuple #[.agg #[.int .i64 0, .int .i64 0, .slice none 0 0], .bool false]) ∧ Below w.heap.size w w' := by
  have b1 := below_alloc w (.cells #[.int .i64 9223372036854775807, .int .i64 f0, .slice a0 n0 c0] 29)
  have hn1 := heap_alloc_new w (.cells #[.int .i64 9223372036854775807, .int .i64 f0, .slice a0 n0 c0] 29)
  obtain ⟨w1, hw1⟩ : ∃ w1, w.alloc (.cells #[.int .i64 9223372036854775807, .int .i64 f0, .slice a0 n0 c0] 29) = w1 := ⟨_, rfl⟩
  rw [hw1] at b1 hn1
  have b2 := below_alloc w1 (.cells #[.int .i64 0, .int .i64 0, .slice none 0 0] 29)
  have hn2 := heap_alloc_new w1 (.cells #[.int .i64 0, .int .i64 0, .slice none 0 0] 29)
  obtain ⟨w2, hw2⟩ : ∃ w2, w1.alloc (.cells #[.int .i64 0, .int .i64 0, .slice none 0 0] 29) = w2 := ⟨_, rfl⟩
  rw [hw2] at b2 hn2
  have k0 := cell_keep b2 (cell_of_row _ _ 0 _ _ _ hn1)
  have HN4 := Lib.hid hn2
  have HB4 := Lib.hid (below_trans b1 b2)
  have HL := Lib.hid (b1.size)
  clear b1 b2 hn1 hn2
  have r0 := cell_of_row _ _ 0 _ _ _ HN4.out
  have r1 := cell_of_row _ _ 1 _ _ _ HN4.out
  have r2 := cell_of_row _ _ 2 _ _ _ HN4.out
  have f0' := frozen_of_row _ _ 0 _ _ HN4.out
  have f1' := frozen_of_row _ _ 1 _ _ HN4.out
  have f2' := frozen_of_row _ _ 2 _ _ HN4.out
  go_enter Try.func79, Try.ntmps79
  go_wp2_with fail
  refine bodyPost_ret (results_cat2 rfl _ _ w1.heap.size _ _ _ rfl (cell_of_row _ _ 0 _ _ _ (put3 HN4.out _ _ _)) (cell_of_row _ _ 1 _ _ _ (put3 HN4.out _ _ _)) (cell_of_row _ _ 2 _ _ _ (put3 HN4.out _ _ _))) rfl ?_
  exact ⟨rfl, put3_below HB4.out HL.out _ _ _⟩
end Go.Proofs.Ytmkljmljbbijeaa

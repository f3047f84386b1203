/- The walk of flumelaw7's ScanAgain. -/
import Derived.Test.YtfadpjljokpenaaPlainScan
namespace Go.Proofs.Ytfadpjljokpenaa
open Go.RowKit

theorem scan_same (a b c d y : Int) (u : World) : (binOp .eql 57 (.agg #[.int .i64 a, .int .i64 b, .int .i64 c, .int .u32 d, .int .i64 y]) (.agg #[.int .i64 a, .int .i64 b, .int .i64 c, .int .u32 d, .int .i64 y])).run Try.prog u = .ok (.bool true) u := by
  simp [go_sem]
/-- What a scan of the front, and of what lies behind it, tell. -/
theorem again_front {bs : List (BitVec 8)} {base : Int} {seed : BitVec 32} {i : Nat} (h1 : 1 ≤ base) (h2 : base ≤ 9223372036854775807) (h : StopsAt bs ⟨0, 0, base, seed⟩ i) {t : ScV} {y : Int}
    (hp : OverIs (bs.take (iterS bs ⟨0, 0, base, seed⟩ i).end_) base seed t y) : t = iterS bs ⟨0, 0, base, seed⟩ i ∧ y = 1 := by
  obtain ⟨k1, k2, k3⟩ := stops_front ⟨Nat.zero_le _, Nat.le_refl _, by dsimp only; omega, h2⟩ h
  rcases hp with ⟨h, _⟩ | ⟨_, j, hj, rfl, rfl⟩
  · omega
  · obtain rfl := hj.uniq k1
    rw [k2, k3]
    exact ⟨rfl, rfl⟩
theorem again_behind {bs : List (BitVec 8)} {base : Int} {seed : BitVec 32} {i : Nat} (h1 : 1 ≤ base) (h : StopsAt bs ⟨0, 0, base, seed⟩ i) {t : ScV} {y : Int}
    (hp : OverIs (bs.drop (iterS bs ⟨0, 0, base, seed⟩ i).end_) (iterS bs ⟨0, 0, base, seed⟩ i).next (iterS bs ⟨0, 0, base, seed⟩ i).seed t y) : t.count = 0 ∧ y = (whyS bs (iterS bs ⟨0, 0, base, seed⟩ i) : Nat) := by
  obtain ⟨k1, k2⟩ := stops_behind h.2
  have hn := (iterS_count bs ⟨0, 0, base, seed⟩ i).2
  dsimp only at hn
  rcases hp with ⟨h, _⟩ | ⟨_, j, hj, rfl, rfl⟩
  · omega
  · obtain rfl := hj.uniq k1
    exact ⟨rfl, by show ((whyS _ ⟨0, 0, _, _⟩ : Nat) : Int) = _; rw [k2]⟩
theorem again_recs {bs : List (BitVec 8)} {base : Int} {seed : BitVec 32} {i : Nat} (h1 : 1 ≤ base) (h2 : base ≤ 9223372036854775807) (hl : bs.length ≤ 131072) (h : StopsAt bs ⟨0, 0, base, seed⟩ i) {l : List PRec} (hr : RecordsIs bs base seed 1073741824 l) : l.length = (iterS bs ⟨0, 0, base, seed⟩ i).count := by
  obtain ⟨ht, hr⟩ := hr
  have hb := ht.bound ⟨Nat.zero_le _, Nat.le_refl _, by dsimp only; omega, h2⟩
  rw [(iterS_count bs ⟨0, 0, base, seed⟩ i).1]
  rcases hr with ⟨h, _⟩ | ⟨_, _, hr⟩
  · omega
  · rcases hr with (⟨h, _⟩ | ⟨_, hj⟩) | ⟨hr, _⟩
    · omega
    · rw [hj.uniq h]; simp
    · omega

/-- Nothing to be told. -/
theorem over_nothing (ao : Option Addr) (cap : Nat) (base s : Int) (seed : BitVec 32) (w : World) (hs : s = bv seed) (hz : ao = none → cap = 0) (hm : cap ≤ 9223372036854775807) (h1 : 1 ≤ base) (h2 : base ≤ 9223372036854775807) :
    Calls Try.prog 34 #[.slice ao 0 cap, .int .i64 base, .int .u32 s] w fun e w' => e = .returned (.agg #[.int .i64 0, .int .i64 0, .int .i64 base, .int .u32 (bv seed), .int .i64 1]) ∧ Below w.heap.size w w' := by
  refine (scan_over ao [] 0 cap base s seed w hs (fun i hi => by simp at hi) rfl hz (Nat.zero_le _) hm (by omega) h2).mono ?_
  rintro e w' ⟨t, y, hp, rfl, hb⟩
  have hs : StopsAt [] ⟨0, 0, base, seed⟩ 0 := ⟨fun j hj => by omega, fun h => by have := h.1; simp at this⟩
  rcases hp with ⟨h, _⟩ | ⟨_, i, hi, rfl, rfl⟩
  · omega
  · obtain rfl := hi.uniq hs
    exact ⟨rfl, hb⟩
theorem records_nothing (ao : Option Addr) (cap : Nat) (base s most : Int) (seed : BitVec 32) (w : World) (hs : s = bv seed) (hz : ao = none → cap = 0) (h1 : 1 ≤ base) (h2 : base ≤ 9223372036854775807) :
    Calls Try.prog 35 #[.slice ao 0 cap, .int .i64 base, .int .u32 s, .int .i64 most] w fun e w' => ∃ a c, e = .returned (.slice a 0 c) ∧ Below w.heap.size w w' := by
  refine (scan_records ao [] 0 cap base s most seed w hs (fun i hi => by simp at hi) rfl hz (by omega) h2).mono ?_
  rintro e w' ⟨lv, l, hr, rfl, hrow, hb⟩
  have hl := hr.1.bound ⟨Nat.zero_le _, Nat.le_refl _, by dsimp only; omega, h2⟩
  simp only [List.length_nil, Nat.le_zero] at hl
  obtain ⟨a, c, rfl⟩ := row_slice hrow.row
  exact ⟨a, c, by rw [show l.length = 0 by omega], hb⟩

theorem scVal_mk (a b : Nat) (c : Int) (d : BitVec 32) (y : Int) : scVal ⟨a, b, c, d⟩ y = .agg #[.int .i64 a, .int .i64 b, .int .i64 c, .int .u32 (bv d), .int .i64 y] := rfl
theorem scCells_mk (a b : Nat) (c : Int) (d : BitVec 32) (y : Int) : scCells ⟨a, b, c, d⟩ y = #[.int .i64 a, .int .i64 b, .int .i64 c, .int .u32 (bv d), .int .i64 y] := rfl
/-- Cells that hold. -/
def CellsAll (L : List (Addr × Value)) (w : World) : Prop := ∀ q ∈ L, w.cell? q.1 = some q.2
theorem CellsAll.on {L : List (Addr × Value)} {w w' : World} (h : CellsAll L w) (hb : Below w.heap.size w w') : CellsAll L w' := fun q hq => cell_keep hb (h q hq)
theorem CellsAll.get {L : List (Addr × Value)} {w : World} (h : CellsAll L w) (i : Nat) {a : Addr} {v : Value} (hi : L[i]? = some (a, v)) : w.cell? a = some v := h (a, v) (List.mem_of_getElem? hi)
theorem cells_three {w : World} {b : Nat} {T : TypeId} {v0 v1 v2 v3 v4 : Value} (h : w.heap[b]? = some (.cells #[v0, v1, v2, v3, v4] T (0, 0))) : CellsAll [(⟨b, 1, none⟩, v1), (⟨b, 2, none⟩, v2), (⟨b, 3, none⟩, v3)] w := by
  intro q hq
  simp only [List.mem_cons, List.not_mem_nil, or_false] at hq
  rcases hq with rfl | rfl | rfl
  · exact cell_of_row _ _ 1 _ _ _ h
  · exact cell_of_row _ _ 2 _ _ _ h
  · exact cell_of_row _ _ 3 _ _ _ h
theorem cells_twelve {w : World} {b c d : Nat} {T : TypeId} {v0 v1 v2 v3 v4 u0 u1 u2 u3 u4 t0 t1 t2 t3 t4 : Value} (h : w.heap[b]? = some (.cells #[v0, v1, v2, v3, v4] T (0, 0))) (k : w.heap[c]? = some (.cells #[u0, u1, u2, u3, u4] T (0, 0))) (l : w.heap[d]? = some (.cells #[t0, t1, t2, t3, t4] T (0, 0))) :
    CellsAll [(⟨b, 0, none⟩, v0), (⟨b, 1, none⟩, v1), (⟨b, 2, none⟩, v2), (⟨b, 3, none⟩, v3), (⟨b, 4, none⟩, v4), (⟨c, 0, none⟩, u0), (⟨c, 1, none⟩, u1), (⟨c, 2, none⟩, u2), (⟨c, 3, none⟩, u3), (⟨c, 4, none⟩, u4), (⟨d, 0, none⟩, t0), (⟨d, 4, none⟩, t4)] w := by
  intro q hq
  simp only [List.mem_cons, List.not_mem_nil, or_false] at hq
  rcases hq with rfl | rfl | rfl | rfl | rfl | rfl | rfl | rfl | rfl | rfl | rfl | rfl
  · exact cell_of_row _ _ 0 _ _ _ h
  · exact cell_of_row _ _ 1 _ _ _ h
  · exact cell_of_row _ _ 2 _ _ _ h
  · exact cell_of_row _ _ 3 _ _ _ h
  · exact cell_of_row _ _ 4 _ _ _ h
  · exact cell_of_row _ _ 0 _ _ _ k
  · exact cell_of_row _ _ 1 _ _ _ k
  · exact cell_of_row _ _ 2 _ _ _ k
  · exact cell_of_row _ _ 3 _ _ _ k
  · exact cell_of_row _ _ 4 _ _ _ k
  · exact cell_of_row _ _ 0 _ _ _ l
  · exact cell_of_row _ _ 4 _ _ _ l
theorem five_put {W : World} {b : Nat} {T : TypeId} {c0 c1 c2 c3 c4 : Value} (h : W.heap[b]? = some (.cells #[c0, c1, c2, c3, c4] T (0, 0))) (v0 v1 v2 v3 v4 : Value) :
    (((((W.setCell ⟨b, 0, none⟩ v0).setCell ⟨b, 1, none⟩ v1).setCell ⟨b, 2, none⟩ v2).setCell ⟨b, 3, none⟩ v3).setCell ⟨b, 4, none⟩ v4).heap[b]? = some (.cells #[v0, v1, v2, v3, v4] T (0, 0)) ∧
    But b W (((((W.setCell ⟨b, 0, none⟩ v0).setCell ⟨b, 1, none⟩ v1).setCell ⟨b, 2, none⟩ v2).setCell ⟨b, 3, none⟩ v3).setCell ⟨b, 4, none⟩ v4) := by
  refine ⟨?_, ((((((But.refl _ W).setB 0 _).setB 1 _).setB 2 _).setB 3 _).setB 4 _)⟩
  rw [Go.Joins.block_setCell (Go.Joins.block_setCell (Go.Joins.block_setCell (Go.Joins.block_setCell (Go.Joins.block_setCell h v0 (i := 0)) v1 (i := 1)) v2 (i := 2)) v3 (i := 3)) v4 (i := 4)]
  rfl
set_option maxHeartbeats 4000000 in
set_option maxRecDepth 100000 in
theorem again_nil (base : Int) (seed : BitVec 32) (w : World) (h1 : 1 ≤ base) (h2 : base ≤ 9223372036854775807) :
    Calls Try.prog 9 #[.slice none 0 0, .int .i64 base, .int .u32 (bv seed)] w (TrueBelow w) := by
  have hlow : ¬ base < 1 := by omega
  go_enter Try.func9, Try.ntmps9
  go_wp2_with fail
  refine (scan_begun w).mono ?_
  rintro e w1 ⟨rfl, hb1⟩
  have B1 := Lib.hid hb1
  clear hb1
  go_wp2_with fail
  refine (over_nothing _ 0 base _ seed _ rfl (fun _ => rfl) (by omega) h1 h2).mono ?_
  rintro e w2 ⟨rfl, hb2⟩
  have B2 := Lib.hid (below_trans (below_trans B1.out hb2) (below_alloc w2 (.cells #[.int .i64 0, .int .i64 0, .int .i64 base, .int .u32 (bv seed), .int .i64 1] 57)))
  have R2 := Lib.hid (heap_alloc_new w2 (.cells #[.int .i64 0, .int .i64 0, .int .i64 base, .int .u32 (bv seed), .int .i64 1] 57))
  have c0 := cell_of_row _ _ 0 _ _ _ R2.out
  have c1 := cell_of_row _ _ 1 _ _ _ R2.out
  have c2 := cell_of_row _ _ 2 _ _ _ R2.out
  have c3 := cell_of_row _ _ 3 _ _ _ R2.out
  have c4 := cell_of_row _ _ 4 _ _ _ R2.out
  clear hb2
  go_wp2_with fail
  refine (over_nothing _ 0 base _ seed _ rfl (fun _ => rfl) (by omega) h1 h2).mono ?_
  rintro e w3 ⟨rfl, hb3⟩
  have b3 := below_trans hb3 (below_alloc w3 (.cells #[.int .i64 0, .int .i64 0, .int .i64 base, .int .u32 (bv seed), .int .i64 1] 57))
  have B3 := Lib.hid (below_trans B2.out b3)
  have R3 := Lib.hid ((b3.block w2.heap.size (heap_lt R2.out)).trans R2.out)
  have U3 := Lib.hid (heap_alloc_new w3 (.cells #[.int .i64 0, .int .i64 0, .int .i64 base, .int .u32 (bv seed), .int .i64 1] 57))
  clear b3 hb3 c0 c1 c2 c3 c4
  obtain ⟨x3, hx3⟩ : ∃ x3, w3.alloc (.cells #[.int .i64 0, .int .i64 0, .int .i64 base, .int .u32 (bv seed), .int .i64 1] 57) = x3 := ⟨_, rfl⟩
  rw [hx3] at B3 R3 U3
  go_wp2_with fail
  (first | rw [hx3] | skip)
  clear hx3
  have CC := Lib.hid (show CellsAll [(⟨w2.heap.size, 1, none⟩, .int .i64 0), (⟨w2.heap.size, 2, none⟩, .int .i64 base), (⟨w2.heap.size, 3, none⟩, .int .u32 (bv seed))] x3 from cells_three R3.out)
  have g0 : ∀ p : In (CellsAll [(⟨w2.heap.size, 1, none⟩, .int .i64 0), (⟨w2.heap.size, 2, none⟩, .int .i64 base), (⟨w2.heap.size, 3, none⟩, .int .u32 (bv seed))]), p.w.cell? ⟨w2.heap.size, 1, none⟩ = some (.int .i64 0) := fun p => p.h.get 0 rfl
  have g1 : ∀ p : In (CellsAll [(⟨w2.heap.size, 1, none⟩, .int .i64 0), (⟨w2.heap.size, 2, none⟩, .int .i64 base), (⟨w2.heap.size, 3, none⟩, .int .u32 (bv seed))]), p.w.cell? ⟨w2.heap.size, 2, none⟩ = some (.int .i64 base) := fun p => p.h.get 1 rfl
  have g2 : ∀ p : In (CellsAll [(⟨w2.heap.size, 1, none⟩, .int .i64 0), (⟨w2.heap.size, 2, none⟩, .int .i64 base), (⟨w2.heap.size, 3, none⟩, .int .u32 (bv seed))]), p.w.cell? ⟨w2.heap.size, 3, none⟩ = some (.int .u32 (bv seed)) := fun p => p.h.get 2 rfl
  go_wp2_with fail
  refine wp_region_fork [0, 1, 2, 3, 4, 5, 6, 7] 8 9 [9, 10] [8, 10] (CellsAll [(⟨w2.heap.size, 1, none⟩, .int .i64 0), (⟨w2.heap.size, 2, none⟩, .int .i64 base), (⟨w2.heap.size, 3, none⟩, .int .u32 (bv seed))]) (by kernel_rfl) (by kernel_rfl) (by intro c a d v w h; cases d <;> exact h) (CC.out.on (below_drew _)) ?_
  intro hne
  simp only [pick, List.map_cons, List.map_nil, List.getD_cons_zero, List.getD_cons_succ]
  repeat (go_big_quiet_step (fail))
  refine wpQuiet_nil ?_
  refine ⟨?_, ?_⟩
  · refine wpMix_act rfl ?_ rfl
    go_wp2_with fail
    refine (over_nothing _ 0 base _ seed _ rfl (fun _ => rfl) (by omega) h1 h2).mono ?_
    rintro e x4 ⟨rfl, hb4⟩
    have b4 := below_trans (below_drew x3) hb4
    have bz := below_trans b4 (below_alloc x4 (.cells #[.int .i64 0, .int .i64 0, .int .i64 base, .int .u32 (bv seed), .int .i64 1] 57))
    have CX := Lib.hid (CC.out.on b4)
    have CF := Lib.hid (CC.out.on bz)
    have CZ := Lib.hid (CX.out.on (below_alloc x4 (.cells #[.int .i64 0, .int .i64 0, .int .i64 0, .int .u32 0, .int .i64 0] 57)))
    have Z5 := Lib.hid (heap_alloc_new x4 (.cells #[.int .i64 0, .int .i64 0, .int .i64 base, .int .u32 (bv seed), .int .i64 1] 57))
    have R5 := Lib.hid ((bz.block w2.heap.size (heap_lt R3.out)).trans R3.out)
    have U5 := Lib.hid ((bz.block w3.heap.size (heap_lt U3.out)).trans U3.out)
    have B5 := Lib.hid (below_trans B3.out bz)
    have HZ := heap_alloc_new x4 (.cells #[.int .i64 0, .int .i64 0, .int .i64 0, .int .u32 0, .int .i64 0] 57)
    have z0 := cell_of_row _ _ 0 _ _ _ HZ
    have fz0 := frozen_of_row _ _ 0 _ _ HZ
    have z1 := cell_of_row _ _ 1 _ _ _ HZ
    have fz1 := frozen_of_row _ _ 1 _ _ HZ
    have z2 := cell_of_row _ _ 2 _ _ _ HZ
    have fz2 := frozen_of_row _ _ 2 _ _ HZ
    have z3 := cell_of_row _ _ 3 _ _ _ HZ
    have fz3 := frozen_of_row _ _ 3 _ _ HZ
    have z4 := cell_of_row _ _ 4 _ _ _ HZ
    have fz4 := frozen_of_row _ _ 4 _ _ HZ
    clear HZ bz b4 hb4
    go_wp2_with fail
    refine ⟨⟨⟨_, CX.out⟩, rfl⟩, ?_⟩
    refine wpMix_act rfl ?_ rfl
    go_wp2_with fail
    refine ⟨⟨⟨_, CZ.out⟩, rfl⟩, ?_⟩
    refine wpMix_act rfl ?_ rfl
    go_wp2_with fail
    refine ⟨⟨⟨_, CF.out⟩, rfl⟩, ?_⟩
    refine wpMix_nil ?_
    clear hne z0 fz0 z1 fz1 z2 fz2 z3 fz3 z4 fz4 CX CZ CF CC g0 g1 g2 R3 U3 B3
    obtain ⟨x5, hx5⟩ : ∃ x5, x4.alloc (.cells #[.int .i64 0, .int .i64 0, .int .i64 base, .int .u32 (bv seed), .int .i64 1] 57) = x5 := ⟨_, rfl⟩
    rw [hx5] at B5 R5 U5 Z5
    (first | rw [hx5] | skip)
    clear hx5
    have CC := Lib.hid (show CellsAll [(⟨w2.heap.size, 0, none⟩, .int .i64 0), (⟨w2.heap.size, 1, none⟩, .int .i64 0), (⟨w2.heap.size, 2, none⟩, .int .i64 base), (⟨w2.heap.size, 3, none⟩, .int .u32 (bv seed)), (⟨w2.heap.size, 4, none⟩, .int .i64 1), (⟨w3.heap.size, 0, none⟩, .int .i64 0), (⟨w3.heap.size, 1, none⟩, .int .i64 0), (⟨w3.heap.size, 2, none⟩, .int .i64 base), (⟨w3.heap.size, 3, none⟩, .int .u32 (bv seed)), (⟨w3.heap.size, 4, none⟩, .int .i64 1), (⟨x4.heap.size, 0, none⟩, .int .i64 0), (⟨x4.heap.size, 4, none⟩, .int .i64 1)] x5 from cells_twelve R5.out U5.out Z5.out)
    clear R5 U5 Z5
    have g0 : ∀ p : In (CellsAll [(⟨w2.heap.size, 0, none⟩, .int .i64 0), (⟨w2.heap.size, 1, none⟩, .int .i64 0), (⟨w2.heap.size, 2, none⟩, .int .i64 base), (⟨w2.heap.size, 3, none⟩, .int .u32 (bv seed)), (⟨w2.heap.size, 4, none⟩, .int .i64 1), (⟨w3.heap.size, 0, none⟩, .int .i64 0), (⟨w3.heap.size, 1, none⟩, .int .i64 0), (⟨w3.heap.size, 2, none⟩, .int .i64 base), (⟨w3.heap.size, 3, none⟩, .int .u32 (bv seed)), (⟨w3.heap.size, 4, none⟩, .int .i64 1), (⟨x4.heap.size, 0, none⟩, .int .i64 0), (⟨x4.heap.size, 4, none⟩, .int .i64 1)]), p.w.cell? ⟨w2.heap.size, 0, none⟩ = some (.int .i64 0) := fun p => p.h.get 0 rfl
    have g1 : ∀ p : In (CellsAll [(⟨w2.heap.size, 0, none⟩, .int .i64 0), (⟨w2.heap.size, 1, none⟩, .int .i64 0), (⟨w2.heap.size, 2, none⟩, .int .i64 base), (⟨w2.heap.size, 3, none⟩, .int .u32 (bv seed)), (⟨w2.heap.size, 4, none⟩, .int .i64 1), (⟨w3.heap.size, 0, none⟩, .int .i64 0), (⟨w3.heap.size, 1, none⟩, .int .i64 0), (⟨w3.heap.size, 2, none⟩, .int .i64 base), (⟨w3.heap.size, 3, none⟩, .int .u32 (bv seed)), (⟨w3.heap.size, 4, none⟩, .int .i64 1), (⟨x4.heap.size, 0, none⟩, .int .i64 0), (⟨x4.heap.size, 4, none⟩, .int .i64 1)]), p.w.cell? ⟨w2.heap.size, 1, none⟩ = some (.int .i64 0) := fun p => p.h.get 1 rfl
    have g2 : ∀ p : In (CellsAll [(⟨w2.heap.size, 0, none⟩, .int .i64 0), (⟨w2.heap.size, 1, none⟩, .int .i64 0), (⟨w2.heap.size, 2, none⟩, .int .i64 base), (⟨w2.heap.size, 3, none⟩, .int .u32 (bv seed)), (⟨w2.heap.size, 4, none⟩, .int .i64 1), (⟨w3.heap.size, 0, none⟩, .int .i64 0), (⟨w3.heap.size, 1, none⟩, .int .i64 0), (⟨w3.heap.size, 2, none⟩, .int .i64 base), (⟨w3.heap.size, 3, none⟩, .int .u32 (bv seed)), (⟨w3.heap.size, 4, none⟩, .int .i64 1), (⟨x4.heap.size, 0, none⟩, .int .i64 0), (⟨x4.heap.size, 4, none⟩, .int .i64 1)]), p.w.cell? ⟨w2.heap.size, 2, none⟩ = some (.int .i64 base) := fun p => p.h.get 2 rfl
    have g3 : ∀ p : In (CellsAll [(⟨w2.heap.size, 0, none⟩, .int .i64 0), (⟨w2.heap.size, 1, none⟩, .int .i64 0), (⟨w2.heap.size, 2, none⟩, .int .i64 base), (⟨w2.heap.size, 3, none⟩, .int .u32 (bv seed)), (⟨w2.heap.size, 4, none⟩, .int .i64 1), (⟨w3.heap.size, 0, none⟩, .int .i64 0), (⟨w3.heap.size, 1, none⟩, .int .i64 0), (⟨w3.heap.size, 2, none⟩, .int .i64 base), (⟨w3.heap.size, 3, none⟩, .int .u32 (bv seed)), (⟨w3.heap.size, 4, none⟩, .int .i64 1), (⟨x4.heap.size, 0, none⟩, .int .i64 0), (⟨x4.heap.size, 4, none⟩, .int .i64 1)]), p.w.cell? ⟨w2.heap.size, 3, none⟩ = some (.int .u32 (bv seed)) := fun p => p.h.get 3 rfl
    have g4 : ∀ p : In (CellsAll [(⟨w2.heap.size, 0, none⟩, .int .i64 0), (⟨w2.heap.size, 1, none⟩, .int .i64 0), (⟨w2.heap.size, 2, none⟩, .int .i64 base), (⟨w2.heap.size, 3, none⟩, .int .u32 (bv seed)), (⟨w2.heap.size, 4, none⟩, .int .i64 1), (⟨w3.heap.size, 0, none⟩, .int .i64 0), (⟨w3.heap.size, 1, none⟩, .int .i64 0), (⟨w3.heap.size, 2, none⟩, .int .i64 base), (⟨w3.heap.size, 3, none⟩, .int .u32 (bv seed)), (⟨w3.heap.size, 4, none⟩, .int .i64 1), (⟨x4.heap.size, 0, none⟩, .int .i64 0), (⟨x4.heap.size, 4, none⟩, .int .i64 1)]), p.w.cell? ⟨w2.heap.size, 4, none⟩ = some (.int .i64 1) := fun p => p.h.get 4 rfl
    have g5 : ∀ p : In (CellsAll [(⟨w2.heap.size, 0, none⟩, .int .i64 0), (⟨w2.heap.size, 1, none⟩, .int .i64 0), (⟨w2.heap.size, 2, none⟩, .int .i64 base), (⟨w2.heap.size, 3, none⟩, .int .u32 (bv seed)), (⟨w2.heap.size, 4, none⟩, .int .i64 1), (⟨w3.heap.size, 0, none⟩, .int .i64 0), (⟨w3.heap.size, 1, none⟩, .int .i64 0), (⟨w3.heap.size, 2, none⟩, .int .i64 base), (⟨w3.heap.size, 3, none⟩, .int .u32 (bv seed)), (⟨w3.heap.size, 4, none⟩, .int .i64 1), (⟨x4.heap.size, 0, none⟩, .int .i64 0), (⟨x4.heap.size, 4, none⟩, .int .i64 1)]), p.w.cell? ⟨w3.heap.size, 0, none⟩ = some (.int .i64 0) := fun p => p.h.get 5 rfl
    have g6 : ∀ p : In (CellsAll [(⟨w2.heap.size, 0, none⟩, .int .i64 0), (⟨w2.heap.size, 1, none⟩, .int .i64 0), (⟨w2.heap.size, 2, none⟩, .int .i64 base), (⟨w2.heap.size, 3, none⟩, .int .u32 (bv seed)), (⟨w2.heap.size, 4, none⟩, .int .i64 1), (⟨w3.heap.size, 0, none⟩, .int .i64 0), (⟨w3.heap.size, 1, none⟩, .int .i64 0), (⟨w3.heap.size, 2, none⟩, .int .i64 base), (⟨w3.heap.size, 3, none⟩, .int .u32 (bv seed)), (⟨w3.heap.size, 4, none⟩, .int .i64 1), (⟨x4.heap.size, 0, none⟩, .int .i64 0), (⟨x4.heap.size, 4, none⟩, .int .i64 1)]), p.w.cell? ⟨w3.heap.size, 1, none⟩ = some (.int .i64 0) := fun p => p.h.get 6 rfl
    have g7 : ∀ p : In (CellsAll [(⟨w2.heap.size, 0, none⟩, .int .i64 0), (⟨w2.heap.size, 1, none⟩, .int .i64 0), (⟨w2.heap.size, 2, none⟩, .int .i64 base), (⟨w2.heap.size, 3, none⟩, .int .u32 (bv seed)), (⟨w2.heap.size, 4, none⟩, .int .i64 1), (⟨w3.heap.size, 0, none⟩, .int .i64 0), (⟨w3.heap.size, 1, none⟩, .int .i64 0), (⟨w3.heap.size, 2, none⟩, .int .i64 base), (⟨w3.heap.size, 3, none⟩, .int .u32 (bv seed)), (⟨w3.heap.size, 4, none⟩, .int .i64 1), (⟨x4.heap.size, 0, none⟩, .int .i64 0), (⟨x4.heap.size, 4, none⟩, .int .i64 1)]), p.w.cell? ⟨w3.heap.size, 2, none⟩ = some (.int .i64 base) := fun p => p.h.get 7 rfl
    have g8 : ∀ p : In (CellsAll [(⟨w2.heap.size, 0, none⟩, .int .i64 0), (⟨w2.heap.size, 1, none⟩, .int .i64 0), (⟨w2.heap.size, 2, none⟩, .int .i64 base), (⟨w2.heap.size, 3, none⟩, .int .u32 (bv seed)), (⟨w2.heap.size, 4, none⟩, .int .i64 1), (⟨w3.heap.size, 0, none⟩, .int .i64 0), (⟨w3.heap.size, 1, none⟩, .int .i64 0), (⟨w3.heap.size, 2, none⟩, .int .i64 base), (⟨w3.heap.size, 3, none⟩, .int .u32 (bv seed)), (⟨w3.heap.size, 4, none⟩, .int .i64 1), (⟨x4.heap.size, 0, none⟩, .int .i64 0), (⟨x4.heap.size, 4, none⟩, .int .i64 1)]), p.w.cell? ⟨w3.heap.size, 3, none⟩ = some (.int .u32 (bv seed)) := fun p => p.h.get 8 rfl
    have g9 : ∀ p : In (CellsAll [(⟨w2.heap.size, 0, none⟩, .int .i64 0), (⟨w2.heap.size, 1, none⟩, .int .i64 0), (⟨w2.heap.size, 2, none⟩, .int .i64 base), (⟨w2.heap.size, 3, none⟩, .int .u32 (bv seed)), (⟨w2.heap.size, 4, none⟩, .int .i64 1), (⟨w3.heap.size, 0, none⟩, .int .i64 0), (⟨w3.heap.size, 1, none⟩, .int .i64 0), (⟨w3.heap.size, 2, none⟩, .int .i64 base), (⟨w3.heap.size, 3, none⟩, .int .u32 (bv seed)), (⟨w3.heap.size, 4, none⟩, .int .i64 1), (⟨x4.heap.size, 0, none⟩, .int .i64 0), (⟨x4.heap.size, 4, none⟩, .int .i64 1)]), p.w.cell? ⟨w3.heap.size, 4, none⟩ = some (.int .i64 1) := fun p => p.h.get 9 rfl
    have g10 : ∀ p : In (CellsAll [(⟨w2.heap.size, 0, none⟩, .int .i64 0), (⟨w2.heap.size, 1, none⟩, .int .i64 0), (⟨w2.heap.size, 2, none⟩, .int .i64 base), (⟨w2.heap.size, 3, none⟩, .int .u32 (bv seed)), (⟨w2.heap.size, 4, none⟩, .int .i64 1), (⟨w3.heap.size, 0, none⟩, .int .i64 0), (⟨w3.heap.size, 1, none⟩, .int .i64 0), (⟨w3.heap.size, 2, none⟩, .int .i64 base), (⟨w3.heap.size, 3, none⟩, .int .u32 (bv seed)), (⟨w3.heap.size, 4, none⟩, .int .i64 1), (⟨x4.heap.size, 0, none⟩, .int .i64 0), (⟨x4.heap.size, 4, none⟩, .int .i64 1)]), p.w.cell? ⟨x4.heap.size, 0, none⟩ = some (.int .i64 0) := fun p => p.h.get 10 rfl
    have g11 : ∀ p : In (CellsAll [(⟨w2.heap.size, 0, none⟩, .int .i64 0), (⟨w2.heap.size, 1, none⟩, .int .i64 0), (⟨w2.heap.size, 2, none⟩, .int .i64 base), (⟨w2.heap.size, 3, none⟩, .int .u32 (bv seed)), (⟨w2.heap.size, 4, none⟩, .int .i64 1), (⟨w3.heap.size, 0, none⟩, .int .i64 0), (⟨w3.heap.size, 1, none⟩, .int .i64 0), (⟨w3.heap.size, 2, none⟩, .int .i64 base), (⟨w3.heap.size, 3, none⟩, .int .u32 (bv seed)), (⟨w3.heap.size, 4, none⟩, .int .i64 1), (⟨x4.heap.size, 0, none⟩, .int .i64 0), (⟨x4.heap.size, 4, none⟩, .int .i64 1)]), p.w.cell? ⟨x4.heap.size, 4, none⟩ = some (.int .i64 1) := fun p => p.h.get 11 rfl
    go_wp2_with fail
    refine wp_region_mixed [0, 1, 2, 3, 4, 5, 6, 7, 8, 9, 10, 11, 12, 13, 14, 15, 16, 17, 18, 19, 20, 21, 22, 23, 24, 25, 26, 27, 28, 29, 30, 31, 32, 33, 34, 35, 36, 37, 38, 39, 40, 41, 42, 43, 44, 45, 46, 47, 48, 49, 50, 51, 52, 53] (CellsAll [(⟨w2.heap.size, 0, none⟩, .int .i64 0), (⟨w2.heap.size, 1, none⟩, .int .i64 0), (⟨w2.heap.size, 2, none⟩, .int .i64 base), (⟨w2.heap.size, 3, none⟩, .int .u32 (bv seed)), (⟨w2.heap.size, 4, none⟩, .int .i64 1), (⟨w3.heap.size, 0, none⟩, .int .i64 0), (⟨w3.heap.size, 1, none⟩, .int .i64 0), (⟨w3.heap.size, 2, none⟩, .int .i64 base), (⟨w3.heap.size, 3, none⟩, .int .u32 (bv seed)), (⟨w3.heap.size, 4, none⟩, .int .i64 1), (⟨x4.heap.size, 0, none⟩, .int .i64 0), (⟨x4.heap.size, 4, none⟩, .int .i64 1)]) (by kernel_rfl) (by kernel_rfl) (by intro c a d v w h; cases d <;> exact h) (CC.out.on (below_drew _)) ?_
    intro hne
    simp only [pick, List.map_cons, List.map_nil, List.getD_cons_zero, List.getD_cons_succ]
    refine wpMix_reads 49 _ (by kernel_rfl) ?_
    simp only [List.take_succ_cons, List.take_zero, List.drop_succ_cons, List.drop_zero]
    repeat (go_big_quiet_step (fail))
    refine wpQuiet_nil ?_
    refine wpMix_act rfl ?_ rfl
    go_wp2_with fail
    refine (records_nothing _ 0 base _ 1073741824 seed _ rfl (fun _ => rfl) h1 h2).mono ?_
    rintro e w5 ⟨a7, c7, rfl, hb5⟩
    have CX := Lib.hid (CC.out.on (below_trans (below_drew x5) hb5))
    go_wp2_with fail
    refine ⟨⟨⟨_, CX.out⟩, rfl⟩, ?_⟩
    refine wpMix_reads 4 _ (by kernel_rfl) ?_
    simp only [List.take_succ_cons, List.take_zero, List.drop_succ_cons, List.drop_zero]
    repeat (go_big_quiet_step (fail))
    refine wpQuiet_nil ?_
    refine wpMix_nil ?_
    clear hne g0 g1 g2 g3 g4 g5 g6 g7 g8 g9 g10 g11
    go_wp2_with fail
    go_ret
    exact ⟨rfl, below_trans B5.out (below_trans (below_drew x5) hb5)⟩
  · have bz : Below x3.heap.size x3 (x3.alloc (.cells #[.int .i64 0, .int .i64 0, .int .i64 0, .int .u32 0, .int .i64 0] 57)).drew := below_trans (below_alloc x3 (.cells #[.int .i64 0, .int .i64 0, .int .i64 0, .int .u32 0, .int .i64 0] 57)) (below_drew _)
    have BZ := Lib.hid bz
    have CZ := Lib.hid (CC.out.on bz)
    have HZ : Hid (((x3.alloc (.cells #[.int .i64 0, .int .i64 0, .int .i64 0, .int .u32 0, .int .i64 0] 57)).drew).heap[x3.heap.size]? = some (.cells #[.int .i64 0, .int .i64 0, .int .i64 0, .int .u32 0, .int .i64 0] 57 (0, 0))) := Lib.hid (heap_alloc_new x3 (.cells #[.int .i64 0, .int .i64 0, .int .i64 0, .int .u32 0, .int .i64 0] 57))
    clear bz
    refine wpMix_act rfl ?_ rfl
    go_wp2_with fail
    refine ⟨⟨⟨_, CZ.out⟩, rfl⟩, ?_⟩
    refine wpMix_act rfl ?_ rfl
    go_wp2_with fail
    refine (over_nothing _ 0 base _ seed _ rfl (fun _ => rfl) (by omega) h1 h2).mono ?_
    rintro e x4 ⟨rfl, hb4⟩
    have HY := (hb4.block x3.heap.size (heap_lt HZ.out)).trans HZ.out
    have b4 := below_trans BZ.out hb4
    have CX := Lib.hid (CC.out.on b4)
    obtain ⟨p1, p2⟩ := five_put HY (.int .i64 0) (.int .i64 0) (.int .i64 base) (.int .u32 (bv seed)) (.int .i64 1)
    have bz : Below x3.heap.size x3 _ := p2.below b4 (Nat.le_refl _) b4.size
    have CF := Lib.hid (CC.out.on bz)
    have Z5 := Lib.hid p1
    have R5 := Lib.hid ((bz.block w2.heap.size (heap_lt R3.out)).trans R3.out)
    have U5 := Lib.hid ((bz.block w3.heap.size (heap_lt U3.out)).trans U3.out)
    have B5 := Lib.hid (below_trans B3.out bz)
    have z0 := cell_of_row _ _ 0 _ _ _ HY
    have fz0 := frozen_of_row _ _ 0 _ _ HY
    have z1 := cell_of_row _ _ 1 _ _ _ HY
    have fz1 := frozen_of_row _ _ 1 _ _ HY
    have z2 := cell_of_row _ _ 2 _ _ _ HY
    have fz2 := frozen_of_row _ _ 2 _ _ HY
    have z3 := cell_of_row _ _ 3 _ _ _ HY
    have fz3 := frozen_of_row _ _ 3 _ _ HY
    have z4 := cell_of_row _ _ 4 _ _ _ HY
    have fz4 := frozen_of_row _ _ 4 _ _ HY
    clear HY p1 p2 bz b4 hb4
    go_wp2_with fail
    refine ⟨⟨⟨_, CX.out⟩, rfl⟩, ?_⟩
    refine wpMix_act rfl ?_ rfl
    go_wp2_with fail
    refine ⟨⟨⟨_, CF.out⟩, rfl⟩, ?_⟩
    refine wpMix_nil ?_
    clear hne z0 fz0 z1 fz1 z2 fz2 z3 fz3 z4 fz4 CX CZ CF CC g0 g1 g2 R3 U3 B3 BZ HZ
    obtain ⟨x5, hx5⟩ : ∃ x5, (((((x4.setCell ⟨x3.heap.size, 0, none⟩ (.int .i64 0)).setCell ⟨x3.heap.size, 1, none⟩ (.int .i64 0)).setCell ⟨x3.heap.size, 2, none⟩ (.int .i64 base)).setCell ⟨x3.heap.size, 3, none⟩ (.int .u32 (bv seed))).setCell ⟨x3.heap.size, 4, none⟩ (.int .i64 1)) = x5 := ⟨_, rfl⟩
    rw [hx5] at B5 R5 U5 Z5
    (first | rw [hx5] | skip)
    clear hx5
    have CC := Lib.hid (show CellsAll [(⟨w2.heap.size, 0, none⟩, .int .i64 0), (⟨w2.heap.size, 1, none⟩, .int .i64 0), (⟨w2.heap.size, 2, none⟩, .int .i64 base), (⟨w2.heap.size, 3, none⟩, .int .u32 (bv seed)), (⟨w2.heap.size, 4, none⟩, .int .i64 1), (⟨w3.heap.size, 0, none⟩, .int .i64 0), (⟨w3.heap.size, 1, none⟩, .int .i64 0), (⟨w3.heap.size, 2, none⟩, .int .i64 base), (⟨w3.heap.size, 3, none⟩, .int .u32 (bv seed)), (⟨w3.heap.size, 4, none⟩, .int .i64 1), (⟨x3.heap.size, 0, none⟩, .int .i64 0), (⟨x3.heap.size, 4, none⟩, .int .i64 1)] x5 from cells_twelve R5.out U5.out Z5.out)
    clear R5 U5 Z5
    have g0 : ∀ p : In (CellsAll [(⟨w2.heap.size, 0, none⟩, .int .i64 0), (⟨w2.heap.size, 1, none⟩, .int .i64 0), (⟨w2.heap.size, 2, none⟩, .int .i64 base), (⟨w2.heap.size, 3, none⟩, .int .u32 (bv seed)), (⟨w2.heap.size, 4, none⟩, .int .i64 1), (⟨w3.heap.size, 0, none⟩, .int .i64 0), (⟨w3.heap.size, 1, none⟩, .int .i64 0), (⟨w3.heap.size, 2, none⟩, .int .i64 base), (⟨w3.heap.size, 3, none⟩, .int .u32 (bv seed)), (⟨w3.heap.size, 4, none⟩, .int .i64 1), (⟨x3.heap.size, 0, none⟩, .int .i64 0), (⟨x3.heap.size, 4, none⟩, .int .i64 1)]), p.w.cell? ⟨w2.heap.size, 0, none⟩ = some (.int .i64 0) := fun p => p.h.get 0 rfl
    have g1 : ∀ p : In (CellsAll [(⟨w2.heap.size, 0, none⟩, .int .i64 0), (⟨w2.heap.size, 1, none⟩, .int .i64 0), (⟨w2.heap.size, 2, none⟩, .int .i64 base), (⟨w2.heap.size, 3, none⟩, .int .u32 (bv seed)), (⟨w2.heap.size, 4, none⟩, .int .i64 1), (⟨w3.heap.size, 0, none⟩, .int .i64 0), (⟨w3.heap.size, 1, none⟩, .int .i64 0), (⟨w3.heap.size, 2, none⟩, .int .i64 base), (⟨w3.heap.size, 3, none⟩, .int .u32 (bv seed)), (⟨w3.heap.size, 4, none⟩, .int .i64 1), (⟨x3.heap.size, 0, none⟩, .int .i64 0), (⟨x3.heap.size, 4, none⟩, .int .i64 1)]), p.w.cell? ⟨w2.heap.size, 1, none⟩ = some (.int .i64 0) := fun p => p.h.get 1 rfl
    have g2 : ∀ p : In (CellsAll [(⟨w2.heap.size, 0, none⟩, .int .i64 0), (⟨w2.heap.size, 1, none⟩, .int .i64 0), (⟨w2.heap.size, 2, none⟩, .int .i64 base), (⟨w2.heap.size, 3, none⟩, .int .u32 (bv seed)), (⟨w2.heap.size, 4, none⟩, .int .i64 1), (⟨w3.heap.size, 0, none⟩, .int .i64 0), (⟨w3.heap.size, 1, none⟩, .int .i64 0), (⟨w3.heap.size, 2, none⟩, .int .i64 base), (⟨w3.heap.size, 3, none⟩, .int .u32 (bv seed)), (⟨w3.heap.size, 4, none⟩, .int .i64 1), (⟨x3.heap.size, 0, none⟩, .int .i64 0), (⟨x3.heap.size, 4, none⟩, .int .i64 1)]), p.w.cell? ⟨w2.heap.size, 2, none⟩ = some (.int .i64 base) := fun p => p.h.get 2 rfl
    have g3 : ∀ p : In (CellsAll [(⟨w2.heap.size, 0, none⟩, .int .i64 0), (⟨w2.heap.size, 1, none⟩, .int .i64 0), (⟨w2.heap.size, 2, none⟩, .int .i64 base), (⟨w2.heap.size, 3, none⟩, .int .u32 (bv seed)), (⟨w2.heap.size, 4, none⟩, .int .i64 1), (⟨w3.heap.size, 0, none⟩, .int .i64 0), (⟨w3.heap.size, 1, none⟩, .int .i64 0), (⟨w3.heap.size, 2, none⟩, .int .i64 base), (⟨w3.heap.size, 3, none⟩, .int .u32 (bv seed)), (⟨w3.heap.size, 4, none⟩, .int .i64 1), (⟨x3.heap.size, 0, none⟩, .int .i64 0), (⟨x3.heap.size, 4, none⟩, .int .i64 1)]), p.w.cell? ⟨w2.heap.size, 3, none⟩ = some (.int .u32 (bv seed)) := fun p => p.h.get 3 rfl
    have g4 : ∀ p : In (CellsAll [(⟨w2.heap.size, 0, none⟩, .int .i64 0), (⟨w2.heap.size, 1, none⟩, .int .i64 0), (⟨w2.heap.size, 2, none⟩, .int .i64 base), (⟨w2.heap.size, 3, none⟩, .int .u32 (bv seed)), (⟨w2.heap.size, 4, none⟩, .int .i64 1), (⟨w3.heap.size, 0, none⟩, .int .i64 0), (⟨w3.heap.size, 1, none⟩, .int .i64 0), (⟨w3.heap.size, 2, none⟩, .int .i64 base), (⟨w3.heap.size, 3, none⟩, .int .u32 (bv seed)), (⟨w3.heap.size, 4, none⟩, .int .i64 1), (⟨x3.heap.size, 0, none⟩, .int .i64 0), (⟨x3.heap.size, 4, none⟩, .int .i64 1)]), p.w.cell? ⟨w2.heap.size, 4, none⟩ = some (.int .i64 1) := fun p => p.h.get 4 rfl
    have g5 : ∀ p : In (CellsAll [(⟨w2.heap.size, 0, none⟩, .int .i64 0), (⟨w2.heap.size, 1, none⟩, .int .i64 0), (⟨w2.heap.size, 2, none⟩, .int .i64 base), (⟨w2.heap.size, 3, none⟩, .int .u32 (bv seed)), (⟨w2.heap.size, 4, none⟩, .int .i64 1), (⟨w3.heap.size, 0, none⟩, .int .i64 0), (⟨w3.heap.size, 1, none⟩, .int .i64 0), (⟨w3.heap.size, 2, none⟩, .int .i64 base), (⟨w3.heap.size, 3, none⟩, .int .u32 (bv seed)), (⟨w3.heap.size, 4, none⟩, .int .i64 1), (⟨x3.heap.size, 0, none⟩, .int .i64 0), (⟨x3.heap.size, 4, none⟩, .int .i64 1)]), p.w.cell? ⟨w3.heap.size, 0, none⟩ = some (.int .i64 0) := fun p => p.h.get 5 rfl
    have g6 : ∀ p : In (CellsAll [(⟨w2.heap.size, 0, none⟩, .int .i64 0), (⟨w2.heap.size, 1, none⟩, .int .i64 0), (⟨w2.heap.size, 2, none⟩, .int .i64 base), (⟨w2.heap.size, 3, none⟩, .int .u32 (bv seed)), (⟨w2.heap.size, 4, none⟩, .int .i64 1), (⟨w3.heap.size, 0, none⟩, .int .i64 0), (⟨w3.heap.size, 1, none⟩, .int .i64 0), (⟨w3.heap.size, 2, none⟩, .int .i64 base), (⟨w3.heap.size, 3, none⟩, .int .u32 (bv seed)), (⟨w3.heap.size, 4, none⟩, .int .i64 1), (⟨x3.heap.size, 0, none⟩, .int .i64 0), (⟨x3.heap.size, 4, none⟩, .int .i64 1)]), p.w.cell? ⟨w3.heap.size, 1, none⟩ = some (.int .i64 0) := fun p => p.h.get 6 rfl
    have g7 : ∀ p : In (CellsAll [(⟨w2.heap.size, 0, none⟩, .int .i64 0), (⟨w2.heap.size, 1, none⟩, .int .i64 0), (⟨w2.heap.size, 2, none⟩, .int .i64 base), (⟨w2.heap.size, 3, none⟩, .int .u32 (bv seed)), (⟨w2.heap.size, 4, none⟩, .int .i64 1), (⟨w3.heap.size, 0, none⟩, .int .i64 0), (⟨w3.heap.size, 1, none⟩, .int .i64 0), (⟨w3.heap.size, 2, none⟩, .int .i64 base), (⟨w3.heap.size, 3, none⟩, .int .u32 (bv seed)), (⟨w3.heap.size, 4, none⟩, .int .i64 1), (⟨x3.heap.size, 0, none⟩, .int .i64 0), (⟨x3.heap.size, 4, none⟩, .int .i64 1)]), p.w.cell? ⟨w3.heap.size, 2, none⟩ = some (.int .i64 base) := fun p => p.h.get 7 rfl
    have g8 : ∀ p : In (CellsAll [(⟨w2.heap.size, 0, none⟩, .int .i64 0), (⟨w2.heap.size, 1, none⟩, .int .i64 0), (⟨w2.heap.size, 2, none⟩, .int .i64 base), (⟨w2.heap.size, 3, none⟩, .int .u32 (bv seed)), (⟨w2.heap.size, 4, none⟩, .int .i64 1), (⟨w3.heap.size, 0, none⟩, .int .i64 0), (⟨w3.heap.size, 1, none⟩, .int .i64 0), (⟨w3.heap.size, 2, none⟩, .int .i64 base), (⟨w3.heap.size, 3, none⟩, .int .u32 (bv seed)), (⟨w3.heap.size, 4, none⟩, .int .i64 1), (⟨x3.heap.size, 0, none⟩, .int .i64 0), (⟨x3.heap.size, 4, none⟩, .int .i64 1)]), p.w.cell? ⟨w3.heap.size, 3, none⟩ = some (.int .u32 (bv seed)) := fun p => p.h.get 8 rfl
    have g9 : ∀ p : In (CellsAll [(⟨w2.heap.size, 0, none⟩, .int .i64 0), (⟨w2.heap.size, 1, none⟩, .int .i64 0), (⟨w2.heap.size, 2, none⟩, .int .i64 base), (⟨w2.heap.size, 3, none⟩, .int .u32 (bv seed)), (⟨w2.heap.size, 4, none⟩, .int .i64 1), (⟨w3.heap.size, 0, none⟩, .int .i64 0), (⟨w3.heap.size, 1, none⟩, .int .i64 0), (⟨w3.heap.size, 2, none⟩, .int .i64 base), (⟨w3.heap.size, 3, none⟩, .int .u32 (bv seed)), (⟨w3.heap.size, 4, none⟩, .int .i64 1), (⟨x3.heap.size, 0, none⟩, .int .i64 0), (⟨x3.heap.size, 4, none⟩, .int .i64 1)]), p.w.cell? ⟨w3.heap.size, 4, none⟩ = some (.int .i64 1) := fun p => p.h.get 9 rfl
    have g10 : ∀ p : In (CellsAll [(⟨w2.heap.size, 0, none⟩, .int .i64 0), (⟨w2.heap.size, 1, none⟩, .int .i64 0), (⟨w2.heap.size, 2, none⟩, .int .i64 base), (⟨w2.heap.size, 3, none⟩, .int .u32 (bv seed)), (⟨w2.heap.size, 4, none⟩, .int .i64 1), (⟨w3.heap.size, 0, none⟩, .int .i64 0), (⟨w3.heap.size, 1, none⟩, .int .i64 0), (⟨w3.heap.size, 2, none⟩, .int .i64 base), (⟨w3.heap.size, 3, none⟩, .int .u32 (bv seed)), (⟨w3.heap.size, 4, none⟩, .int .i64 1), (⟨x3.heap.size, 0, none⟩, .int .i64 0), (⟨x3.heap.size, 4, none⟩, .int .i64 1)]), p.w.cell? ⟨x3.heap.size, 0, none⟩ = some (.int .i64 0) := fun p => p.h.get 10 rfl
    have g11 : ∀ p : In (CellsAll [(⟨w2.heap.size, 0, none⟩, .int .i64 0), (⟨w2.heap.size, 1, none⟩, .int .i64 0), (⟨w2.heap.size, 2, none⟩, .int .i64 base), (⟨w2.heap.size, 3, none⟩, .int .u32 (bv seed)), (⟨w2.heap.size, 4, none⟩, .int .i64 1), (⟨w3.heap.size, 0, none⟩, .int .i64 0), (⟨w3.heap.size, 1, none⟩, .int .i64 0), (⟨w3.heap.size, 2, none⟩, .int .i64 base), (⟨w3.heap.size, 3, none⟩, .int .u32 (bv seed)), (⟨w3.heap.size, 4, none⟩, .int .i64 1), (⟨x3.heap.size, 0, none⟩, .int .i64 0), (⟨x3.heap.size, 4, none⟩, .int .i64 1)]), p.w.cell? ⟨x3.heap.size, 4, none⟩ = some (.int .i64 1) := fun p => p.h.get 11 rfl
    go_wp2_with fail
    refine wp_region_mixed [0, 1, 2, 3, 4, 5, 6, 7, 8, 9, 10, 11, 12, 13, 14, 15, 16, 17, 18, 19, 20, 21, 22, 23, 24, 25, 26, 27, 28, 29, 30, 31, 32, 33, 34, 35, 36, 37, 38, 39, 40, 41, 42, 43, 44, 45, 46, 47, 48, 49, 50, 51, 52, 53] (CellsAll [(⟨w2.heap.size, 0, none⟩, .int .i64 0), (⟨w2.heap.size, 1, none⟩, .int .i64 0), (⟨w2.heap.size, 2, none⟩, .int .i64 base), (⟨w2.heap.size, 3, none⟩, .int .u32 (bv seed)), (⟨w2.heap.size, 4, none⟩, .int .i64 1), (⟨w3.heap.size, 0, none⟩, .int .i64 0), (⟨w3.heap.size, 1, none⟩, .int .i64 0), (⟨w3.heap.size, 2, none⟩, .int .i64 base), (⟨w3.heap.size, 3, none⟩, .int .u32 (bv seed)), (⟨w3.heap.size, 4, none⟩, .int .i64 1), (⟨x3.heap.size, 0, none⟩, .int .i64 0), (⟨x3.heap.size, 4, none⟩, .int .i64 1)]) (by kernel_rfl) (by kernel_rfl) (by intro c a d v w h; cases d <;> exact h) (CC.out.on (below_drew _)) ?_
    intro hne
    simp only [pick, List.map_cons, List.map_nil, List.getD_cons_zero, List.getD_cons_succ]
    refine wpMix_reads 49 _ (by kernel_rfl) ?_
    simp only [List.take_succ_cons, List.take_zero, List.drop_succ_cons, List.drop_zero]
    repeat (go_big_quiet_step (fail))
    refine wpQuiet_nil ?_
    refine wpMix_act rfl ?_ rfl
    go_wp2_with fail
    refine (records_nothing _ 0 base _ 1073741824 seed _ rfl (fun _ => rfl) h1 h2).mono ?_
    rintro e w5 ⟨a7, c7, rfl, hb5⟩
    have CX := Lib.hid (CC.out.on (below_trans (below_drew x5) hb5))
    go_wp2_with fail
    refine ⟨⟨⟨_, CX.out⟩, rfl⟩, ?_⟩
    refine wpMix_reads 4 _ (by kernel_rfl) ?_
    simp only [List.take_succ_cons, List.take_zero, List.drop_succ_cons, List.drop_zero]
    repeat (go_big_quiet_step (fail))
    refine wpQuiet_nil ?_
    refine wpMix_nil ?_
    clear hne g0 g1 g2 g3 g4 g5 g6 g7 g8 g9 g10 g11
    go_wp2_with fail
    go_ret
    exact ⟨rfl, below_trans B5.out (below_trans (below_drew x5) hb5)⟩
set_option maxHeartbeats 4000000 in
set_option maxRecDepth 100000 in
theorem again_e0 (a : Addr) (base : Int) (seed : BitVec 32) (w : World) (h1 : 1 ≤ base) (h2 : base ≤ 9223372036854775807) :
    Calls Try.prog 9 #[.slice (some a) 0 0, .int .i64 base, .int .u32 (bv seed)] w (TrueBelow w) := by
  have hlow : ¬ base < 1 := by omega
  go_enter Try.func9, Try.ntmps9
  go_wp2_with fail
  refine (scan_begun w).mono ?_
  rintro e w1 ⟨rfl, hb1⟩
  have B1 := Lib.hid hb1
  clear hb1
  go_wp2_with fail
  refine (over_nothing _ 0 base _ seed _ rfl (fun h => by cases h) (by omega) h1 h2).mono ?_
  rintro e w2 ⟨rfl, hb2⟩
  have B2 := Lib.hid (below_trans (below_trans B1.out hb2) (below_alloc w2 (.cells #[.int .i64 0, .int .i64 0, .int .i64 base, .int .u32 (bv seed), .int .i64 1] 57)))
  have R2 := Lib.hid (heap_alloc_new w2 (.cells #[.int .i64 0, .int .i64 0, .int .i64 base, .int .u32 (bv seed), .int .i64 1] 57))
  have c0 := cell_of_row _ _ 0 _ _ _ R2.out
  have c1 := cell_of_row _ _ 1 _ _ _ R2.out
  have c2 := cell_of_row _ _ 2 _ _ _ R2.out
  have c3 := cell_of_row _ _ 3 _ _ _ R2.out
  have c4 := cell_of_row _ _ 4 _ _ _ R2.out
  clear hb2
  go_wp2_with fail
  refine (over_nothing _ 0 base _ seed _ rfl (fun h => by cases h) (by omega) h1 h2).mono ?_
  rintro e w3 ⟨rfl, hb3⟩
  have b3 := below_trans hb3 (below_alloc w3 (.cells #[.int .i64 0, .int .i64 0, .int .i64 base, .int .u32 (bv seed), .int .i64 1] 57))
  have B3 := Lib.hid (below_trans B2.out b3)
  have R3 := Lib.hid ((b3.block w2.heap.size (heap_lt R2.out)).trans R2.out)
  have U3 := Lib.hid (heap_alloc_new w3 (.cells #[.int .i64 0, .int .i64 0, .int .i64 base, .int .u32 (bv seed), .int .i64 1] 57))
  clear b3 hb3 c0 c1 c2 c3 c4
  obtain ⟨x3, hx3⟩ : ∃ x3, w3.alloc (.cells #[.int .i64 0, .int .i64 0, .int .i64 base, .int .u32 (bv seed), .int .i64 1] 57) = x3 := ⟨_, rfl⟩
  rw [hx3] at B3 R3 U3
  go_wp2_with fail
  (first | rw [hx3] | skip)
  clear hx3
  have CC := Lib.hid (show CellsAll [(⟨w2.heap.size, 1, none⟩, .int .i64 0), (⟨w2.heap.size, 2, none⟩, .int .i64 base), (⟨w2.heap.size, 3, none⟩, .int .u32 (bv seed))] x3 from cells_three R3.out)
  have g0 : ∀ p : In (CellsAll [(⟨w2.heap.size, 1, none⟩, .int .i64 0), (⟨w2.heap.size, 2, none⟩, .int .i64 base), (⟨w2.heap.size, 3, none⟩, .int .u32 (bv seed))]), p.w.cell? ⟨w2.heap.size, 1, none⟩ = some (.int .i64 0) := fun p => p.h.get 0 rfl
  have g1 : ∀ p : In (CellsAll [(⟨w2.heap.size, 1, none⟩, .int .i64 0), (⟨w2.heap.size, 2, none⟩, .int .i64 base), (⟨w2.heap.size, 3, none⟩, .int .u32 (bv seed))]), p.w.cell? ⟨w2.heap.size, 2, none⟩ = some (.int .i64 base) := fun p => p.h.get 1 rfl
  have g2 : ∀ p : In (CellsAll [(⟨w2.heap.size, 1, none⟩, .int .i64 0), (⟨w2.heap.size, 2, none⟩, .int .i64 base), (⟨w2.heap.size, 3, none⟩, .int .u32 (bv seed))]), p.w.cell? ⟨w2.heap.size, 3, none⟩ = some (.int .u32 (bv seed)) := fun p => p.h.get 2 rfl
  go_wp2_with fail
  refine wp_region_fork [0, 1, 2, 3, 4, 5, 6, 7] 8 9 [9, 10] [8, 10] (CellsAll [(⟨w2.heap.size, 1, none⟩, .int .i64 0), (⟨w2.heap.size, 2, none⟩, .int .i64 base), (⟨w2.heap.size, 3, none⟩, .int .u32 (bv seed))]) (by kernel_rfl) (by kernel_rfl) (by intro c a d v w h; cases d <;> exact h) (CC.out.on (below_drew _)) ?_
  intro hne
  simp only [pick, List.map_cons, List.map_nil, List.getD_cons_zero, List.getD_cons_succ]
  repeat (go_big_quiet_step (fail))
  refine wpQuiet_nil ?_
  refine ⟨?_, ?_⟩
  · refine wpMix_act rfl ?_ rfl
    go_wp2_with fail
    refine (over_nothing _ 0 base _ seed _ rfl (fun h => by cases h) (by omega) h1 h2).mono ?_
    rintro e x4 ⟨rfl, hb4⟩
    have b4 := below_trans (below_drew x3) hb4
    have bz := below_trans b4 (below_alloc x4 (.cells #[.int .i64 0, .int .i64 0, .int .i64 base, .int .u32 (bv seed), .int .i64 1] 57))
    have CX := Lib.hid (CC.out.on b4)
    have CF := Lib.hid (CC.out.on bz)
    have CZ := Lib.hid (CX.out.on (below_alloc x4 (.cells #[.int .i64 0, .int .i64 0, .int .i64 0, .int .u32 0, .int .i64 0] 57)))
    have Z5 := Lib.hid (heap_alloc_new x4 (.cells #[.int .i64 0, .int .i64 0, .int .i64 base, .int .u32 (bv seed), .int .i64 1] 57))
    have R5 := Lib.hid ((bz.block w2.heap.size (heap_lt R3.out)).trans R3.out)
    have U5 := Lib.hid ((bz.block w3.heap.size (heap_lt U3.out)).trans U3.out)
    have B5 := Lib.hid (below_trans B3.out bz)
    have HZ := heap_alloc_new x4 (.cells #[.int .i64 0, .int .i64 0, .int .i64 0, .int .u32 0, .int .i64 0] 57)
    have z0 := cell_of_row _ _ 0 _ _ _ HZ
    have fz0 := frozen_of_row _ _ 0 _ _ HZ
    have z1 := cell_of_row _ _ 1 _ _ _ HZ
    have fz1 := frozen_of_row _ _ 1 _ _ HZ
    have z2 := cell_of_row _ _ 2 _ _ _ HZ
    have fz2 := frozen_of_row _ _ 2 _ _ HZ
    have z3 := cell_of_row _ _ 3 _ _ _ HZ
    have fz3 := frozen_of_row _ _ 3 _ _ HZ
    have z4 := cell_of_row _ _ 4 _ _ _ HZ
    have fz4 := frozen_of_row _ _ 4 _ _ HZ
    clear HZ bz b4 hb4
    go_wp2_with fail
    refine ⟨⟨⟨_, CX.out⟩, rfl⟩, ?_⟩
    refine wpMix_act rfl ?_ rfl
    go_wp2_with fail
    refine ⟨⟨⟨_, CZ.out⟩, rfl⟩, ?_⟩
    refine wpMix_act rfl ?_ rfl
    go_wp2_with fail
    refine ⟨⟨⟨_, CF.out⟩, rfl⟩, ?_⟩
    refine wpMix_nil ?_
    clear hne z0 fz0 z1 fz1 z2 fz2 z3 fz3 z4 fz4 CX CZ CF CC g0 g1 g2 R3 U3 B3
    obtain ⟨x5, hx5⟩ : ∃ x5, x4.alloc (.cells #[.int .i64 0, .int .i64 0, .int .i64 base, .int .u32 (bv seed), .int .i64 1] 57) = x5 := ⟨_, rfl⟩
    rw [hx5] at B5 R5 U5 Z5
    (first | rw [hx5] | skip)
    clear hx5
    have CC := Lib.hid (show CellsAll [(⟨w2.heap.size, 0, none⟩, .int .i64 0), (⟨w2.heap.size, 1, none⟩, .int .i64 0), (⟨w2.heap.size, 2, none⟩, .int .i64 base), (⟨w2.heap.size, 3, none⟩, .int .u32 (bv seed)), (⟨w2.heap.size, 4, none⟩, .int .i64 1), (⟨w3.heap.size, 0, none⟩, .int .i64 0), (⟨w3.heap.size, 1, none⟩, .int .i64 0), (⟨w3.heap.size, 2, none⟩, .int .i64 base), (⟨w3.heap.size, 3, none⟩, .int .u32 (bv seed)), (⟨w3.heap.size, 4, none⟩, .int .i64 1), (⟨x4.heap.size, 0, none⟩, .int .i64 0), (⟨x4.heap.size, 4, none⟩, .int .i64 1)] x5 from cells_twelve R5.out U5.out Z5.out)
    clear R5 U5 Z5
    have g0 : ∀ p : In (CellsAll [(⟨w2.heap.size, 0, none⟩, .int .i64 0), (⟨w2.heap.size, 1, none⟩, .int .i64 0), (⟨w2.heap.size, 2, none⟩, .int .i64 base), (⟨w2.heap.size, 3, none⟩, .int .u32 (bv seed)), (⟨w2.heap.size, 4, none⟩, .int .i64 1), (⟨w3.heap.size, 0, none⟩, .int .i64 0), (⟨w3.heap.size, 1, none⟩, .int .i64 0), (⟨w3.heap.size, 2, none⟩, .int .i64 base), (⟨w3.heap.size, 3, none⟩, .int .u32 (bv seed)), (⟨w3.heap.size, 4, none⟩, .int .i64 1), (⟨x4.heap.size, 0, none⟩, .int .i64 0), (⟨x4.heap.size, 4, none⟩, .int .i64 1)]), p.w.cell? ⟨w2.heap.size, 0, none⟩ = some (.int .i64 0) := fun p => p.h.get 0 rfl
    have g1 : ∀ p : In (CellsAll [(⟨w2.heap.size, 0, none⟩, .int .i64 0), (⟨w2.heap.size, 1, none⟩, .int .i64 0), (⟨w2.heap.size, 2, none⟩, .int .i64 base), (⟨w2.heap.size, 3, none⟩, .int .u32 (bv seed)), (⟨w2.heap.size, 4, none⟩, .int .i64 1), (⟨w3.heap.size, 0, none⟩, .int .i64 0), (⟨w3.heap.size, 1, none⟩, .int .i64 0), (⟨w3.heap.size, 2, none⟩, .int .i64 base), (⟨w3.heap.size, 3, none⟩, .int .u32 (bv seed)), (⟨w3.heap.size, 4, none⟩, .int .i64 1), (⟨x4.heap.size, 0, none⟩, .int .i64 0), (⟨x4.heap.size, 4, none⟩, .int .i64 1)]), p.w.cell? ⟨w2.heap.size, 1, none⟩ = some (.int .i64 0) := fun p => p.h.get 1 rfl
    have g2 : ∀ p : In (CellsAll [(⟨w2.heap.size, 0, none⟩, .int .i64 0), (⟨w2.heap.size, 1, none⟩, .int .i64 0), (⟨w2.heap.size, 2, none⟩, .int .i64 base), (⟨w2.heap.size, 3, none⟩, .int .u32 (bv seed)), (⟨w2.heap.size, 4, none⟩, .int .i64 1), (⟨w3.heap.size, 0, none⟩, .int .i64 0), (⟨w3.heap.size, 1, none⟩, .int .i64 0), (⟨w3.heap.size, 2, none⟩, .int .i64 base), (⟨w3.heap.size, 3, none⟩, .int .u32 (bv seed)), (⟨w3.heap.size, 4, none⟩, .int .i64 1), (⟨x4.heap.size, 0, none⟩, .int .i64 0), (⟨x4.heap.size, 4, none⟩, .int .i64 1)]), p.w.cell? ⟨w2.heap.size, 2, none⟩ = some (.int .i64 base) := fun p => p.h.get 2 rfl
    have g3 : ∀ p : In (CellsAll [(⟨w2.heap.size, 0, none⟩, .int .i64 0), (⟨w2.heap.size, 1, none⟩, .int .i64 0), (⟨w2.heap.size, 2, none⟩, .int .i64 base), (⟨w2.heap.size, 3, none⟩, .int .u32 (bv seed)), (⟨w2.heap.size, 4, none⟩, .int .i64 1), (⟨w3.heap.size, 0, none⟩, .int .i64 0), (⟨w3.heap.size, 1, none⟩, .int .i64 0), (⟨w3.heap.size, 2, none⟩, .int .i64 base), (⟨w3.heap.size, 3, none⟩, .int .u32 (bv seed)), (⟨w3.heap.size, 4, none⟩, .int .i64 1), (⟨x4.heap.size, 0, none⟩, .int .i64 0), (⟨x4.heap.size, 4, none⟩, .int .i64 1)]), p.w.cell? ⟨w2.heap.size, 3, none⟩ = some (.int .u32 (bv seed)) := fun p => p.h.get 3 rfl
    have g4 : ∀ p : In (CellsAll [(⟨w2.heap.size, 0, none⟩, .int .i64 0), (⟨w2.heap.size, 1, none⟩, .int .i64 0), (⟨w2.heap.size, 2, none⟩, .int .i64 base), (⟨w2.heap.size, 3, none⟩, .int .u32 (bv seed)), (⟨w2.heap.size, 4, none⟩, .int .i64 1), (⟨w3.heap.size, 0, none⟩, .int .i64 0), (⟨w3.heap.size, 1, none⟩, .int .i64 0), (⟨w3.heap.size, 2, none⟩, .int .i64 base), (⟨w3.heap.size, 3, none⟩, .int .u32 (bv seed)), (⟨w3.heap.size, 4, none⟩, .int .i64 1), (⟨x4.heap.size, 0, none⟩, .int .i64 0), (⟨x4.heap.size, 4, none⟩, .int .i64 1)]), p.w.cell? ⟨w2.heap.size, 4, none⟩ = some (.int .i64 1) := fun p => p.h.get 4 rfl
    have g5 : ∀ p : In (CellsAll [(⟨w2.heap.size, 0, none⟩, .int .i64 0), (⟨w2.heap.size, 1, none⟩, .int .i64 0), (⟨w2.heap.size, 2, none⟩, .int .i64 base), (⟨w2.heap.size, 3, none⟩, .int .u32 (bv seed)), (⟨w2.heap.size, 4, none⟩, .int .i64 1), (⟨w3.heap.size, 0, none⟩, .int .i64 0), (⟨w3.heap.size, 1, none⟩, .int .i64 0), (⟨w3.heap.size, 2, none⟩, .int .i64 base), (⟨w3.heap.size, 3, none⟩, .int .u32 (bv seed)), (⟨w3.heap.size, 4, none⟩, .int .i64 1), (⟨x4.heap.size, 0, none⟩, .int .i64 0), (⟨x4.heap.size, 4, none⟩, .int .i64 1)]), p.w.cell? ⟨w3.heap.size, 0, none⟩ = some (.int .i64 0) := fun p => p.h.get 5 rfl
    have g6 : ∀ p : In (CellsAll [(⟨w2.heap.size, 0, none⟩, .int .i64 0), (⟨w2.heap.size, 1, none⟩, .int .i64 0), (⟨w2.heap.size, 2, none⟩, .int .i64 base), (⟨w2.heap.size, 3, none⟩, .int .u32 (bv seed)), (⟨w2.heap.size, 4, none⟩, .int .i64 1), (⟨w3.heap.size, 0, none⟩, .int .i64 0), (⟨w3.heap.size, 1, none⟩, .int .i64 0), (⟨w3.heap.size, 2, none⟩, .int .i64 base), (⟨w3.heap.size, 3, none⟩, .int .u32 (bv seed)), (⟨w3.heap.size, 4, none⟩, .int .i64 1), (⟨x4.heap.size, 0, none⟩, .int .i64 0), (⟨x4.heap.size, 4, none⟩, .int .i64 1)]), p.w.cell? ⟨w3.heap.size, 1, none⟩ = some (.int .i64 0) := fun p => p.h.get 6 rfl
    have g7 : ∀ p : In (CellsAll [(⟨w2.heap.size, 0, none⟩, .int .i64 0), (⟨w2.heap.size, 1, none⟩, .int .i64 0), (⟨w2.heap.size, 2, none⟩, .int .i64 base), (⟨w2.heap.size, 3, none⟩, .int .u32 (bv seed)), (⟨w2.heap.size, 4, none⟩, .int .i64 1), (⟨w3.heap.size, 0, none⟩, .int .i64 0), (⟨w3.heap.size, 1, none⟩, .int .i64 0), (⟨w3.heap.size, 2, none⟩, .int .i64 base), (⟨w3.heap.size, 3, none⟩, .int .u32 (bv seed)), (⟨w3.heap.size, 4, none⟩, .int .i64 1), (⟨x4.heap.size, 0, none⟩, .int .i64 0), (⟨x4.heap.size, 4, none⟩, .int .i64 1)]), p.w.cell? ⟨w3.heap.size, 2, none⟩ = some (.int .i64 base) := fun p => p.h.get 7 rfl
    have g8 : ∀ p : In (CellsAll [(⟨w2.heap.size, 0, none⟩, .int .i64 0), (⟨w2.heap.size, 1, none⟩, .int .i64 0), (⟨w2.heap.size, 2, none⟩, .int .i64 base), (⟨w2.heap.size, 3, none⟩, .int .u32 (bv seed)), (⟨w2.heap.size, 4, none⟩, .int .i64 1), (⟨w3.heap.size, 0, none⟩, .int .i64 0), (⟨w3.heap.size, 1, none⟩, .int .i64 0), (⟨w3.heap.size, 2, none⟩, .int .i64 base), (⟨w3.heap.size, 3, none⟩, .int .u32 (bv seed)), (⟨w3.heap.size, 4, none⟩, .int .i64 1), (⟨x4.heap.size, 0, none⟩, .int .i64 0), (⟨x4.heap.size, 4, none⟩, .int .i64 1)]), p.w.cell? ⟨w3.heap.size, 3, none⟩ = some (.int .u32 (bv seed)) := fun p => p.h.get 8 rfl
    have g9 : ∀ p : In (CellsAll [(⟨w2.heap.size, 0, none⟩, .int .i64 0), (⟨w2.heap.size, 1, none⟩, .int .i64 0), (⟨w2.heap.size, 2, none⟩, .int .i64 base), (⟨w2.heap.size, 3, none⟩, .int .u32 (bv seed)), (⟨w2.heap.size, 4, none⟩, .int .i64 1), (⟨w3.heap.size, 0, none⟩, .int .i64 0), (⟨w3.heap.size, 1, none⟩, .int .i64 0), (⟨w3.heap.size, 2, none⟩, .int .i64 base), (⟨w3.heap.size, 3, none⟩, .int .u32 (bv seed)), (⟨w3.heap.size, 4, none⟩, .int .i64 1), (⟨x4.heap.size, 0, none⟩, .int .i64 0), (⟨x4.heap.size, 4, none⟩, .int .i64 1)]), p.w.cell? ⟨w3.heap.size, 4, none⟩ = some (.int .i64 1) := fun p => p.h.get 9 rfl
    have g10 : ∀ p : In (CellsAll [(⟨w2.heap.size, 0, none⟩, .int .i64 0), (⟨w2.heap.size, 1, none⟩, .int .i64 0), (⟨w2.heap.size, 2, none⟩, .int .i64 base), (⟨w2.heap.size, 3, none⟩, .int .u32 (bv seed)), (⟨w2.heap.size, 4, none⟩, .int .i64 1), (⟨w3.heap.size, 0, none⟩, .int .i64 0), (⟨w3.heap.size, 1, none⟩, .int .i64 0), (⟨w3.heap.size, 2, none⟩, .int .i64 base), (⟨w3.heap.size, 3, none⟩, .int .u32 (bv seed)), (⟨w3.heap.size, 4, none⟩, .int .i64 1), (⟨x4.heap.size, 0, none⟩, .int .i64 0), (⟨x4.heap.size, 4, none⟩, .int .i64 1)]), p.w.cell? ⟨x4.heap.size, 0, none⟩ = some (.int .i64 0) := fun p => p.h.get 10 rfl
    have g11 : ∀ p : In (CellsAll [(⟨w2.heap.size, 0, none⟩, .int .i64 0), (⟨w2.heap.size, 1, none⟩, .int .i64 0), (⟨w2.heap.size, 2, none⟩, .int .i64 base), (⟨w2.heap.size, 3, none⟩, .int .u32 (bv seed)), (⟨w2.heap.size, 4, none⟩, .int .i64 1), (⟨w3.heap.size, 0, none⟩, .int .i64 0), (⟨w3.heap.size, 1, none⟩, .int .i64 0), (⟨w3.heap.size, 2, none⟩, .int .i64 base), (⟨w3.heap.size, 3, none⟩, .int .u32 (bv seed)), (⟨w3.heap.size, 4, none⟩, .int .i64 1), (⟨x4.heap.size, 0, none⟩, .int .i64 0), (⟨x4.heap.size, 4, none⟩, .int .i64 1)]), p.w.cell? ⟨x4.heap.size, 4, none⟩ = some (.int .i64 1) := fun p => p.h.get 11 rfl
    go_wp2_with fail
    refine wp_region_mixed [0, 1, 2, 3, 4, 5, 6, 7, 8, 9, 10, 11, 12, 13, 14, 15, 16, 17, 18, 19, 20, 21, 22, 23, 24, 25, 26, 27, 28, 29, 30, 31, 32, 33, 34, 35, 36, 37, 38, 39, 40, 41, 42, 43, 44, 45, 46, 47, 48, 49, 50, 51, 52, 53] (CellsAll [(⟨w2.heap.size, 0, none⟩, .int .i64 0), (⟨w2.heap.size, 1, none⟩, .int .i64 0), (⟨w2.heap.size, 2, none⟩, .int .i64 base), (⟨w2.heap.size, 3, none⟩, .int .u32 (bv seed)), (⟨w2.heap.size, 4, none⟩, .int .i64 1), (⟨w3.heap.size, 0, none⟩, .int .i64 0), (⟨w3.heap.size, 1, none⟩, .int .i64 0), (⟨w3.heap.size, 2, none⟩, .int .i64 base), (⟨w3.heap.size, 3, none⟩, .int .u32 (bv seed)), (⟨w3.heap.size, 4, none⟩, .int .i64 1), (⟨x4.heap.size, 0, none⟩, .int .i64 0), (⟨x4.heap.size, 4, none⟩, .int .i64 1)]) (by kernel_rfl) (by kernel_rfl) (by intro c a d v w h; cases d <;> exact h) (CC.out.on (below_drew _)) ?_
    intro hne
    simp only [pick, List.map_cons, List.map_nil, List.getD_cons_zero, List.getD_cons_succ]
    refine wpMix_reads 49 _ (by kernel_rfl) ?_
    simp only [List.take_succ_cons, List.take_zero, List.drop_succ_cons, List.drop_zero]
    repeat (go_big_quiet_step (fail))
    refine wpQuiet_nil ?_
    refine wpMix_act rfl ?_ rfl
    go_wp2_with fail
    refine (records_nothing _ 0 base _ 1073741824 seed _ rfl (fun h => by cases h) h1 h2).mono ?_
    rintro e w5 ⟨a7, c7, rfl, hb5⟩
    have CX := Lib.hid (CC.out.on (below_trans (below_drew x5) hb5))
    go_wp2_with fail
    refine ⟨⟨⟨_, CX.out⟩, rfl⟩, ?_⟩
    refine wpMix_reads 4 _ (by kernel_rfl) ?_
    simp only [List.take_succ_cons, List.take_zero, List.drop_succ_cons, List.drop_zero]
    repeat (go_big_quiet_step (fail))
    refine wpQuiet_nil ?_
    refine wpMix_nil ?_
    clear hne g0 g1 g2 g3 g4 g5 g6 g7 g8 g9 g10 g11
    go_wp2_with fail
    go_ret
    exact ⟨rfl, below_trans B5.out (below_trans (below_drew x5) hb5)⟩
  · have bz : Below x3.heap.size x3 (x3.alloc (.cells #[.int .i64 0, .int .i64 0, .int .i64 0, .int .u32 0, .int .i64 0] 57)).drew := below_trans (below_alloc x3 (.cells #[.int .i64 0, .int .i64 0, .int .i64 0, .int .u32 0, .int .i64 0] 57)) (below_drew _)
    have BZ := Lib.hid bz
    have CZ := Lib.hid (CC.out.on bz)
    have HZ : Hid (((x3.alloc (.cells #[.int .i64 0, .int .i64 0, .int .i64 0, .int .u32 0, .int .i64 0] 57)).drew).heap[x3.heap.size]? = some (.cells #[.int .i64 0, .int .i64 0, .int .i64 0, .int .u32 0, .int .i64 0] 57 (0, 0))) := Lib.hid (heap_alloc_new x3 (.cells #[.int .i64 0, .int .i64 0, .int .i64 0, .int .u32 0, .int .i64 0] 57))
    clear bz
    refine wpMix_act rfl ?_ rfl
    go_wp2_with fail
    refine ⟨⟨⟨_, CZ.out⟩, rfl⟩, ?_⟩
    refine wpMix_act rfl ?_ rfl
    go_wp2_with fail
    refine (over_nothing _ 0 base _ seed _ rfl (fun h => by cases h) (by omega) h1 h2).mono ?_
    rintro e x4 ⟨rfl, hb4⟩
    have HY := (hb4.block x3.heap.size (heap_lt HZ.out)).trans HZ.out
    have b4 := below_trans BZ.out hb4
    have CX := Lib.hid (CC.out.on b4)
    obtain ⟨p1, p2⟩ := five_put HY (.int .i64 0) (.int .i64 0) (.int .i64 base) (.int .u32 (bv seed)) (.int .i64 1)
    have bz : Below x3.heap.size x3 _ := p2.below b4 (Nat.le_refl _) b4.size
    have CF := Lib.hid (CC.out.on bz)
    have Z5 := Lib.hid p1
    have R5 := Lib.hid ((bz.block w2.heap.size (heap_lt R3.out)).trans R3.out)
    have U5 := Lib.hid ((bz.block w3.heap.size (heap_lt U3.out)).trans U3.out)
    have B5 := Lib.hid (below_trans B3.out bz)
    have z0 := cell_of_row _ _ 0 _ _ _ HY
    have fz0 := frozen_of_row _ _ 0 _ _ HY
    have z1 := cell_of_row _ _ 1 _ _ _ HY
    have fz1 := frozen_of_row _ _ 1 _ _ HY
    have z2 := cell_of_row _ _ 2 _ _ _ HY
    have fz2 := frozen_of_row _ _ 2 _ _ HY
    have z3 := cell_of_row _ _ 3 _ _ _ HY
    have fz3 := frozen_of_row _ _ 3 _ _ HY
    have z4 := cell_of_row _ _ 4 _ _ _ HY
    have fz4 := frozen_of_row _ _ 4 _ _ HY
    clear HY p1 p2 bz b4 hb4
    go_wp2_with fail
    refine ⟨⟨⟨_, CX.out⟩, rfl⟩, ?_⟩
    refine wpMix_act rfl ?_ rfl
    go_wp2_with fail
    refine ⟨⟨⟨_, CF.out⟩, rfl⟩, ?_⟩
    refine wpMix_nil ?_
    clear hne z0 fz0 z1 fz1 z2 fz2 z3 fz3 z4 fz4 CX CZ CF CC g0 g1 g2 R3 U3 B3 BZ HZ
    obtain ⟨x5, hx5⟩ : ∃ x5, (((((x4.setCell ⟨x3.heap.size, 0, none⟩ (.int .i64 0)).setCell ⟨x3.heap.size, 1, none⟩ (.int .i64 0)).setCell ⟨x3.heap.size, 2, none⟩ (.int .i64 base)).setCell ⟨x3.heap.size, 3, none⟩ (.int .u32 (bv seed))).setCell ⟨x3.heap.size, 4, none⟩ (.int .i64 1)) = x5 := ⟨_, rfl⟩
    rw [hx5] at B5 R5 U5 Z5
    (first | rw [hx5] | skip)
    clear hx5
    have CC := Lib.hid (show CellsAll [(⟨w2.heap.size, 0, none⟩, .int .i64 0), (⟨w2.heap.size, 1, none⟩, .int .i64 0), (⟨w2.heap.size, 2, none⟩, .int .i64 base), (⟨w2.heap.size, 3, none⟩, .int .u32 (bv seed)), (⟨w2.heap.size, 4, none⟩, .int .i64 1), (⟨w3.heap.size, 0, none⟩, .int .i64 0), (⟨w3.heap.size, 1, none⟩, .int .i64 0), (⟨w3.heap.size, 2, none⟩, .int .i64 base), (⟨w3.heap.size, 3, none⟩, .int .u32 (bv seed)), (⟨w3.heap.size, 4, none⟩, .int .i64 1), (⟨x3.heap.size, 0, none⟩, .int .i64 0), (⟨x3.heap.size, 4, none⟩, .int .i64 1)] x5 from cells_twelve R5.out U5.out Z5.out)
    clear R5 U5 Z5
    have g0 : ∀ p : In (CellsAll [(⟨w2.heap.size, 0, none⟩, .int .i64 0), (⟨w2.heap.size, 1, none⟩, .int .i64 0), (⟨w2.heap.size, 2, none⟩, .int .i64 base), (⟨w2.heap.size, 3, none⟩, .int .u32 (bv seed)), (⟨w2.heap.size, 4, none⟩, .int .i64 1), (⟨w3.heap.size, 0, none⟩, .int .i64 0), (⟨w3.heap.size, 1, none⟩, .int .i64 0), (⟨w3.heap.size, 2, none⟩, .int .i64 base), (⟨w3.heap.size, 3, none⟩, .int .u32 (bv seed)), (⟨w3.heap.size, 4, none⟩, .int .i64 1), (⟨x3.heap.size, 0, none⟩, .int .i64 0), (⟨x3.heap.size, 4, none⟩, .int .i64 1)]), p.w.cell? ⟨w2.heap.size, 0, none⟩ = some (.int .i64 0) := fun p => p.h.get 0 rfl
    have g1 : ∀ p : In (CellsAll [(⟨w2.heap.size, 0, none⟩, .int .i64 0), (⟨w2.heap.size, 1, none⟩, .int .i64 0), (⟨w2.heap.size, 2, none⟩, .int .i64 base), (⟨w2.heap.size, 3, none⟩, .int .u32 (bv seed)), (⟨w2.heap.size, 4, none⟩, .int .i64 1), (⟨w3.heap.size, 0, none⟩, .int .i64 0), (⟨w3.heap.size, 1, none⟩, .int .i64 0), (⟨w3.heap.size, 2, none⟩, .int .i64 base), (⟨w3.heap.size, 3, none⟩, .int .u32 (bv seed)), (⟨w3.heap.size, 4, none⟩, .int .i64 1), (⟨x3.heap.size, 0, none⟩, .int .i64 0), (⟨x3.heap.size, 4, none⟩, .int .i64 1)]), p.w.cell? ⟨w2.heap.size, 1, none⟩ = some (.int .i64 0) := fun p => p.h.get 1 rfl
    have g2 : ∀ p : In (CellsAll [(⟨w2.heap.size, 0, none⟩, .int .i64 0), (⟨w2.heap.size, 1, none⟩, .int .i64 0), (⟨w2.heap.size, 2, none⟩, .int .i64 base), (⟨w2.heap.size, 3, none⟩, .int .u32 (bv seed)), (⟨w2.heap.size, 4, none⟩, .int .i64 1), (⟨w3.heap.size, 0, none⟩, .int .i64 0), (⟨w3.heap.size, 1, none⟩, .int .i64 0), (⟨w3.heap.size, 2, none⟩, .int .i64 base), (⟨w3.heap.size, 3, none⟩, .int .u32 (bv seed)), (⟨w3.heap.size, 4, none⟩, .int .i64 1), (⟨x3.heap.size, 0, none⟩, .int .i64 0), (⟨x3.heap.size, 4, none⟩, .int .i64 1)]), p.w.cell? ⟨w2.heap.size, 2, none⟩ = some (.int .i64 base) := fun p => p.h.get 2 rfl
    have g3 : ∀ p : In (CellsAll [(⟨w2.heap.size, 0, none⟩, .int .i64 0), (⟨w2.heap.size, 1, none⟩, .int .i64 0), (⟨w2.heap.size, 2, none⟩, .int .i64 base), (⟨w2.heap.size, 3, none⟩, .int .u32 (bv seed)), (⟨w2.heap.size, 4, none⟩, .int .i64 1), (⟨w3.heap.size, 0, none⟩, .int .i64 0), (⟨w3.heap.size, 1, none⟩, .int .i64 0), (⟨w3.heap.size, 2, none⟩, .int .i64 base), (⟨w3.heap.size, 3, none⟩, .int .u32 (bv seed)), (⟨w3.heap.size, 4, none⟩, .int .i64 1), (⟨x3.heap.size, 0, none⟩, .int .i64 0), (⟨x3.heap.size, 4, none⟩, .int .i64 1)]), p.w.cell? ⟨w2.heap.size, 3, none⟩ = some (.int .u32 (bv seed)) := fun p => p.h.get 3 rfl
    have g4 : ∀ p : In (CellsAll [(⟨w2.heap.size, 0, none⟩, .int .i64 0), (⟨w2.heap.size, 1, none⟩, .int .i64 0), (⟨w2.heap.size, 2, none⟩, .int .i64 base), (⟨w2.heap.size, 3, none⟩, .int .u32 (bv seed)), (⟨w2.heap.size, 4, none⟩, .int .i64 1), (⟨w3.heap.size, 0, none⟩, .int .i64 0), (⟨w3.heap.size, 1, none⟩, .int .i64 0), (⟨w3.heap.size, 2, none⟩, .int .i64 base), (⟨w3.heap.size, 3, none⟩, .int .u32 (bv seed)), (⟨w3.heap.size, 4, none⟩, .int .i64 1), (⟨x3.heap.size, 0, none⟩, .int .i64 0), (⟨x3.heap.size, 4, none⟩, .int .i64 1)]), p.w.cell? ⟨w2.heap.size, 4, none⟩ = some (.int .i64 1) := fun p => p.h.get 4 rfl
    have g5 : ∀ p : In (CellsAll [(⟨w2.heap.size, 0, none⟩, .int .i64 0), (⟨w2.heap.size, 1, none⟩, .int .i64 0), (⟨w2.heap.size, 2, none⟩, .int .i64 base), (⟨w2.heap.size, 3, none⟩, .int .u32 (bv seed)), (⟨w2.heap.size, 4, none⟩, .int .i64 1), (⟨w3.heap.size, 0, none⟩, .int .i64 0), (⟨w3.heap.size, 1, none⟩, .int .i64 0), (⟨w3.heap.size, 2, none⟩, .int .i64 base), (⟨w3.heap.size, 3, none⟩, .int .u32 (bv seed)), (⟨w3.heap.size, 4, none⟩, .int .i64 1), (⟨x3.heap.size, 0, none⟩, .int .i64 0), (⟨x3.heap.size, 4, none⟩, .int .i64 1)]), p.w.cell? ⟨w3.heap.size, 0, none⟩ = some (.int .i64 0) := fun p => p.h.get 5 rfl
    have g6 : ∀ p : In (CellsAll [(⟨w2.heap.size, 0, none⟩, .int .i64 0), (⟨w2.heap.size, 1, none⟩, .int .i64 0), (⟨w2.heap.size, 2, none⟩, .int .i64 base), (⟨w2.heap.size, 3, none⟩, .int .u32 (bv seed)), (⟨w2.heap.size, 4, none⟩, .int .i64 1), (⟨w3.heap.size, 0, none⟩, .int .i64 0), (⟨w3.heap.size, 1, none⟩, .int .i64 0), (⟨w3.heap.size, 2, none⟩, .int .i64 base), (⟨w3.heap.size, 3, none⟩, .int .u32 (bv seed)), (⟨w3.heap.size, 4, none⟩, .int .i64 1), (⟨x3.heap.size, 0, none⟩, .int .i64 0), (⟨x3.heap.size, 4, none⟩, .int .i64 1)]), p.w.cell? ⟨w3.heap.size, 1, none⟩ = some (.int .i64 0) := fun p => p.h.get 6 rfl
    have g7 : ∀ p : In (CellsAll [(⟨w2.heap.size, 0, none⟩, .int .i64 0), (⟨w2.heap.size, 1, none⟩, .int .i64 0), (⟨w2.heap.size, 2, none⟩, .int .i64 base), (⟨w2.heap.size, 3, none⟩, .int .u32 (bv seed)), (⟨w2.heap.size, 4, none⟩, .int .i64 1), (⟨w3.heap.size, 0, none⟩, .int .i64 0), (⟨w3.heap.size, 1, none⟩, .int .i64 0), (⟨w3.heap.size, 2, none⟩, .int .i64 base), (⟨w3.heap.size, 3, none⟩, .int .u32 (bv seed)), (⟨w3.heap.size, 4, none⟩, .int .i64 1), (⟨x3.heap.size, 0, none⟩, .int .i64 0), (⟨x3.heap.size, 4, none⟩, .int .i64 1)]), p.w.cell? ⟨w3.heap.size, 2, none⟩ = some (.int .i64 base) := fun p => p.h.get 7 rfl
    have g8 : ∀ p : In (CellsAll [(⟨w2.heap.size, 0, none⟩, .int .i64 0), (⟨w2.heap.size, 1, none⟩, .int .i64 0), (⟨w2.heap.size, 2, none⟩, .int .i64 base), (⟨w2.heap.size, 3, none⟩, .int .u32 (bv seed)), (⟨w2.heap.size, 4, none⟩, .int .i64 1), (⟨w3.heap.size, 0, none⟩, .int .i64 0), (⟨w3.heap.size, 1, none⟩, .int .i64 0), (⟨w3.heap.size, 2, none⟩, .int .i64 base), (⟨w3.heap.size, 3, none⟩, .int .u32 (bv seed)), (⟨w3.heap.size, 4, none⟩, .int .i64 1), (⟨x3.heap.size, 0, none⟩, .int .i64 0), (⟨x3.heap.size, 4, none⟩, .int .i64 1)]), p.w.cell? ⟨w3.heap.size, 3, none⟩ = some (.int .u32 (bv seed)) := fun p => p.h.get 8 rfl
    have g9 : ∀ p : In (CellsAll [(⟨w2.heap.size, 0, none⟩, .int .i64 0), (⟨w2.heap.size, 1, none⟩, .int .i64 0), (⟨w2.heap.size, 2, none⟩, .int .i64 base), (⟨w2.heap.size, 3, none⟩, .int .u32 (bv seed)), (⟨w2.heap.size, 4, none⟩, .int .i64 1), (⟨w3.heap.size, 0, none⟩, .int .i64 0), (⟨w3.heap.size, 1, none⟩, .int .i64 0), (⟨w3.heap.size, 2, none⟩, .int .i64 base), (⟨w3.heap.size, 3, none⟩, .int .u32 (bv seed)), (⟨w3.heap.size, 4, none⟩, .int .i64 1), (⟨x3.heap.size, 0, none⟩, .int .i64 0), (⟨x3.heap.size, 4, none⟩, .int .i64 1)]), p.w.cell? ⟨w3.heap.size, 4, none⟩ = some (.int .i64 1) := fun p => p.h.get 9 rfl
    have g10 : ∀ p : In (CellsAll [(⟨w2.heap.size, 0, none⟩, .int .i64 0), (⟨w2.heap.size, 1, none⟩, .int .i64 0), (⟨w2.heap.size, 2, none⟩, .int .i64 base), (⟨w2.heap.size, 3, none⟩, .int .u32 (bv seed)), (⟨w2.heap.size, 4, none⟩, .int .i64 1), (⟨w3.heap.size, 0, none⟩, .int .i64 0), (⟨w3.heap.size, 1, none⟩, .int .i64 0), (⟨w3.heap.size, 2, none⟩, .int .i64 base), (⟨w3.heap.size, 3, none⟩, .int .u32 (bv seed)), (⟨w3.heap.size, 4, none⟩, .int .i64 1), (⟨x3.heap.size, 0, none⟩, .int .i64 0), (⟨x3.heap.size, 4, none⟩, .int .i64 1)]), p.w.cell? ⟨x3.heap.size, 0, none⟩ = some (.int .i64 0) := fun p => p.h.get 10 rfl
    have g11 : ∀ p : In (CellsAll [(⟨w2.heap.size, 0, none⟩, .int .i64 0), (⟨w2.heap.size, 1, none⟩, .int .i64 0), (⟨w2.heap.size, 2, none⟩, .int .i64 base), (⟨w2.heap.size, 3, none⟩, .int .u32 (bv seed)), (⟨w2.heap.size, 4, none⟩, .int .i64 1), (⟨w3.heap.size, 0, none⟩, .int .i64 0), (⟨w3.heap.size, 1, none⟩, .int .i64 0), (⟨w3.heap.size, 2, none⟩, .int .i64 base), (⟨w3.heap.size, 3, none⟩, .int .u32 (bv seed)), (⟨w3.heap.size, 4, none⟩, .int .i64 1), (⟨x3.heap.size, 0, none⟩, .int .i64 0), (⟨x3.heap.size, 4, none⟩, .int .i64 1)]), p.w.cell? ⟨x3.heap.size, 4, none⟩ = some (.int .i64 1) := fun p => p.h.get 11 rfl
    go_wp2_with fail
    refine wp_region_mixed [0, 1, 2, 3, 4, 5, 6, 7, 8, 9, 10, 11, 12, 13, 14, 15, 16, 17, 18, 19, 20, 21, 22, 23, 24, 25, 26, 27, 28, 29, 30, 31, 32, 33, 34, 35, 36, 37, 38, 39, 40, 41, 42, 43, 44, 45, 46, 47, 48, 49, 50, 51, 52, 53] (CellsAll [(⟨w2.heap.size, 0, none⟩, .int .i64 0), (⟨w2.heap.size, 1, none⟩, .int .i64 0), (⟨w2.heap.size, 2, none⟩, .int .i64 base), (⟨w2.heap.size, 3, none⟩, .int .u32 (bv seed)), (⟨w2.heap.size, 4, none⟩, .int .i64 1), (⟨w3.heap.size, 0, none⟩, .int .i64 0), (⟨w3.heap.size, 1, none⟩, .int .i64 0), (⟨w3.heap.size, 2, none⟩, .int .i64 base), (⟨w3.heap.size, 3, none⟩, .int .u32 (bv seed)), (⟨w3.heap.size, 4, none⟩, .int .i64 1), (⟨x3.heap.size, 0, none⟩, .int .i64 0), (⟨x3.heap.size, 4, none⟩, .int .i64 1)]) (by kernel_rfl) (by kernel_rfl) (by intro c a d v w h; cases d <;> exact h) (CC.out.on (below_drew _)) ?_
    intro hne
    simp only [pick, List.map_cons, List.map_nil, List.getD_cons_zero, List.getD_cons_succ]
    refine wpMix_reads 49 _ (by kernel_rfl) ?_
    simp only [List.take_succ_cons, List.take_zero, List.drop_succ_cons, List.drop_zero]
    repeat (go_big_quiet_step (fail))
    refine wpQuiet_nil ?_
    refine wpMix_act rfl ?_ rfl
    go_wp2_with fail
    refine (records_nothing _ 0 base _ 1073741824 seed _ rfl (fun h => by cases h) h1 h2).mono ?_
    rintro e w5 ⟨a7, c7, rfl, hb5⟩
    have CX := Lib.hid (CC.out.on (below_trans (below_drew x5) hb5))
    go_wp2_with fail
    refine ⟨⟨⟨_, CX.out⟩, rfl⟩, ?_⟩
    refine wpMix_reads 4 _ (by kernel_rfl) ?_
    simp only [List.take_succ_cons, List.take_zero, List.drop_succ_cons, List.drop_zero]
    repeat (go_big_quiet_step (fail))
    refine wpQuiet_nil ?_
    refine wpMix_nil ?_
    clear hne g0 g1 g2 g3 g4 g5 g6 g7 g8 g9 g10 g11
    go_wp2_with fail
    go_ret
    exact ⟨rfl, below_trans B5.out (below_trans (below_drew x5) hb5)⟩
set_option maxHeartbeats 4000000 in
set_option maxRecDepth 100000 in
theorem again_e1 (a : Addr) (cap : Nat) (kc : ¬ cap = 0) (hm : cap ≤ 140737488351232) (base : Int) (seed : BitVec 32) (w : World) (h1 : 1 ≤ base) (h2 : base ≤ 9223372036854775807) :
    Calls Try.prog 9 #[.slice (some a) 0 cap, .int .i64 base, .int .u32 (bv seed)] w (TrueBelow w) := by
  have hlow : ¬ base < 1 := by omega
  go_enter Try.func9, Try.ntmps9
  go_wp2_with fail
  refine (scan_begun w).mono ?_
  rintro e w1 ⟨rfl, hb1⟩
  have B1 := Lib.hid hb1
  clear hb1
  go_wp2_with fail
  refine (over_nothing _ cap base _ seed _ rfl (fun h => by cases h) (by omega) h1 h2).mono ?_
  rintro e w2 ⟨rfl, hb2⟩
  have B2 := Lib.hid (below_trans (below_trans B1.out hb2) (below_alloc w2 (.cells #[.int .i64 0, .int .i64 0, .int .i64 base, .int .u32 (bv seed), .int .i64 1] 57)))
  have R2 := Lib.hid (heap_alloc_new w2 (.cells #[.int .i64 0, .int .i64 0, .int .i64 base, .int .u32 (bv seed), .int .i64 1] 57))
  have c0 := cell_of_row _ _ 0 _ _ _ R2.out
  have c1 := cell_of_row _ _ 1 _ _ _ R2.out
  have c2 := cell_of_row _ _ 2 _ _ _ R2.out
  have c3 := cell_of_row _ _ 3 _ _ _ R2.out
  have c4 := cell_of_row _ _ 4 _ _ _ R2.out
  clear hb2
  go_wp2_with fail
  refine (over_nothing _ cap base _ seed _ rfl (fun h => by cases h) (by omega) h1 h2).mono ?_
  rintro e w3 ⟨rfl, hb3⟩
  have b3 := below_trans hb3 (below_alloc w3 (.cells #[.int .i64 0, .int .i64 0, .int .i64 base, .int .u32 (bv seed), .int .i64 1] 57))
  have B3 := Lib.hid (below_trans B2.out b3)
  have R3 := Lib.hid ((b3.block w2.heap.size (heap_lt R2.out)).trans R2.out)
  have U3 := Lib.hid (heap_alloc_new w3 (.cells #[.int .i64 0, .int .i64 0, .int .i64 base, .int .u32 (bv seed), .int .i64 1] 57))
  clear b3 hb3 c0 c1 c2 c3 c4
  obtain ⟨x3, hx3⟩ : ∃ x3, w3.alloc (.cells #[.int .i64 0, .int .i64 0, .int .i64 base, .int .u32 (bv seed), .int .i64 1] 57) = x3 := ⟨_, rfl⟩
  rw [hx3] at B3 R3 U3
  go_wp2_with fail
  (first | rw [hx3] | skip)
  clear hx3
  have CC := Lib.hid (show CellsAll [(⟨w2.heap.size, 1, none⟩, .int .i64 0), (⟨w2.heap.size, 2, none⟩, .int .i64 base), (⟨w2.heap.size, 3, none⟩, .int .u32 (bv seed))] x3 from cells_three R3.out)
  have g0 : ∀ p : In (CellsAll [(⟨w2.heap.size, 1, none⟩, .int .i64 0), (⟨w2.heap.size, 2, none⟩, .int .i64 base), (⟨w2.heap.size, 3, none⟩, .int .u32 (bv seed))]), p.w.cell? ⟨w2.heap.size, 1, none⟩ = some (.int .i64 0) := fun p => p.h.get 0 rfl
  have g1 : ∀ p : In (CellsAll [(⟨w2.heap.size, 1, none⟩, .int .i64 0), (⟨w2.heap.size, 2, none⟩, .int .i64 base), (⟨w2.heap.size, 3, none⟩, .int .u32 (bv seed))]), p.w.cell? ⟨w2.heap.size, 2, none⟩ = some (.int .i64 base) := fun p => p.h.get 1 rfl
  have g2 : ∀ p : In (CellsAll [(⟨w2.heap.size, 1, none⟩, .int .i64 0), (⟨w2.heap.size, 2, none⟩, .int .i64 base), (⟨w2.heap.size, 3, none⟩, .int .u32 (bv seed))]), p.w.cell? ⟨w2.heap.size, 3, none⟩ = some (.int .u32 (bv seed)) := fun p => p.h.get 2 rfl
  go_wp2_with fail
  refine wp_region_fork [0, 1, 2, 3, 4, 5, 6, 7] 8 9 [9, 10] [8, 10] (CellsAll [(⟨w2.heap.size, 1, none⟩, .int .i64 0), (⟨w2.heap.size, 2, none⟩, .int .i64 base), (⟨w2.heap.size, 3, none⟩, .int .u32 (bv seed))]) (by kernel_rfl) (by kernel_rfl) (by intro c a d v w h; cases d <;> exact h) (CC.out.on (below_drew _)) ?_
  intro hne
  simp only [pick, List.map_cons, List.map_nil, List.getD_cons_zero, List.getD_cons_succ]
  repeat (go_big_quiet_step (fail))
  refine wpQuiet_nil ?_
  refine ⟨?_, ?_⟩
  · refine wpMix_act rfl ?_ rfl
    go_wp2_with fail
    refine (over_nothing _ cap base _ seed _ rfl (fun h => by cases h) (by omega) h1 h2).mono ?_
    rintro e x4 ⟨rfl, hb4⟩
    have b4 := below_trans (below_drew x3) hb4
    have bz := below_trans b4 (below_alloc x4 (.cells #[.int .i64 0, .int .i64 0, .int .i64 base, .int .u32 (bv seed), .int .i64 1] 57))
    have CX := Lib.hid (CC.out.on b4)
    have CF := Lib.hid (CC.out.on bz)
    have CZ := Lib.hid (CX.out.on (below_alloc x4 (.cells #[.int .i64 0, .int .i64 0, .int .i64 0, .int .u32 0, .int .i64 0] 57)))
    have Z5 := Lib.hid (heap_alloc_new x4 (.cells #[.int .i64 0, .int .i64 0, .int .i64 base, .int .u32 (bv seed), .int .i64 1] 57))
    have R5 := Lib.hid ((bz.block w2.heap.size (heap_lt R3.out)).trans R3.out)
    have U5 := Lib.hid ((bz.block w3.heap.size (heap_lt U3.out)).trans U3.out)
    have B5 := Lib.hid (below_trans B3.out bz)
    have HZ := heap_alloc_new x4 (.cells #[.int .i64 0, .int .i64 0, .int .i64 0, .int .u32 0, .int .i64 0] 57)
    have z0 := cell_of_row _ _ 0 _ _ _ HZ
    have fz0 := frozen_of_row _ _ 0 _ _ HZ
    have z1 := cell_of_row _ _ 1 _ _ _ HZ
    have fz1 := frozen_of_row _ _ 1 _ _ HZ
    have z2 := cell_of_row _ _ 2 _ _ _ HZ
    have fz2 := frozen_of_row _ _ 2 _ _ HZ
    have z3 := cell_of_row _ _ 3 _ _ _ HZ
    have fz3 := frozen_of_row _ _ 3 _ _ HZ
    have z4 := cell_of_row _ _ 4 _ _ _ HZ
    have fz4 := frozen_of_row _ _ 4 _ _ HZ
    clear HZ bz b4 hb4
    go_wp2_with fail
    refine ⟨⟨⟨_, CX.out⟩, rfl⟩, ?_⟩
    refine wpMix_act rfl ?_ rfl
    go_wp2_with fail
    refine ⟨⟨⟨_, CZ.out⟩, rfl⟩, ?_⟩
    refine wpMix_act rfl ?_ rfl
    go_wp2_with fail
    refine ⟨⟨⟨_, CF.out⟩, rfl⟩, ?_⟩
    refine wpMix_nil ?_
    clear hne z0 fz0 z1 fz1 z2 fz2 z3 fz3 z4 fz4 CX CZ CF CC g0 g1 g2 R3 U3 B3
    obtain ⟨x5, hx5⟩ : ∃ x5, x4.alloc (.cells #[.int .i64 0, .int .i64 0, .int .i64 base, .int .u32 (bv seed), .int .i64 1] 57) = x5 := ⟨_, rfl⟩
    rw [hx5] at B5 R5 U5 Z5
    (first | rw [hx5] | skip)
    clear hx5
    have CC := Lib.hid (show CellsAll [(⟨w2.heap.size, 0, none⟩, .int .i64 0), (⟨w2.heap.size, 1, none⟩, .int .i64 0), (⟨w2.heap.size, 2, none⟩, .int .i64 base), (⟨w2.heap.size, 3, none⟩, .int .u32 (bv seed)), (⟨w2.heap.size, 4, none⟩, .int .i64 1), (⟨w3.heap.size, 0, none⟩, .int .i64 0), (⟨w3.heap.size, 1, none⟩, .int .i64 0), (⟨w3.heap.size, 2, none⟩, .int .i64 base), (⟨w3.heap.size, 3, none⟩, .int .u32 (bv seed)), (⟨w3.heap.size, 4, none⟩, .int .i64 1), (⟨x4.heap.size, 0, none⟩, .int .i64 0), (⟨x4.heap.size, 4, none⟩, .int .i64 1)] x5 from cells_twelve R5.out U5.out Z5.out)
    clear R5 U5 Z5
    have g0 : ∀ p : In (CellsAll [(⟨w2.heap.size, 0, none⟩, .int .i64 0), (⟨w2.heap.size, 1, none⟩, .int .i64 0), (⟨w2.heap.size, 2, none⟩, .int .i64 base), (⟨w2.heap.size, 3, none⟩, .int .u32 (bv seed)), (⟨w2.heap.size, 4, none⟩, .int .i64 1), (⟨w3.heap.size, 0, none⟩, .int .i64 0), (⟨w3.heap.size, 1, none⟩, .int .i64 0), (⟨w3.heap.size, 2, none⟩, .int .i64 base), (⟨w3.heap.size, 3, none⟩, .int .u32 (bv seed)), (⟨w3.heap.size, 4, none⟩, .int .i64 1), (⟨x4.heap.size, 0, none⟩, .int .i64 0), (⟨x4.heap.size, 4, none⟩, .int .i64 1)]), p.w.cell? ⟨w2.heap.size, 0, none⟩ = some (.int .i64 0) := fun p => p.h.get 0 rfl
    have g1 : ∀ p : In (CellsAll [(⟨w2.heap.size, 0, none⟩, .int .i64 0), (⟨w2.heap.size, 1, none⟩, .int .i64 0), (⟨w2.heap.size, 2, none⟩, .int .i64 base), (⟨w2.heap.size, 3, none⟩, .int .u32 (bv seed)), (⟨w2.heap.size, 4, none⟩, .int .i64 1), (⟨w3.heap.size, 0, none⟩, .int .i64 0), (⟨w3.heap.size, 1, none⟩, .int .i64 0), (⟨w3.heap.size, 2, none⟩, .int .i64 base), (⟨w3.heap.size, 3, none⟩, .int .u32 (bv seed)), (⟨w3.heap.size, 4, none⟩, .int .i64 1), (⟨x4.heap.size, 0, none⟩, .int .i64 0), (⟨x4.heap.size, 4, none⟩, .int .i64 1)]), p.w.cell? ⟨w2.heap.size, 1, none⟩ = some (.int .i64 0) := fun p => p.h.get 1 rfl
    have g2 : ∀ p : In (CellsAll [(⟨w2.heap.size, 0, none⟩, .int .i64 0), (⟨w2.heap.size, 1, none⟩, .int .i64 0), (⟨w2.heap.size, 2, none⟩, .int .i64 base), (⟨w2.heap.size, 3, none⟩, .int .u32 (bv seed)), (⟨w2.heap.size, 4, none⟩, .int .i64 1), (⟨w3.heap.size, 0, none⟩, .int .i64 0), (⟨w3.heap.size, 1, none⟩, .int .i64 0), (⟨w3.heap.size, 2, none⟩, .int .i64 base), (⟨w3.heap.size, 3, none⟩, .int .u32 (bv seed)), (⟨w3.heap.size, 4, none⟩, .int .i64 1), (⟨x4.heap.size, 0, none⟩, .int .i64 0), (⟨x4.heap.size, 4, none⟩, .int .i64 1)]), p.w.cell? ⟨w2.heap.size, 2, none⟩ = some (.int .i64 base) := fun p => p.h.get 2 rfl
    have g3 : ∀ p : In (CellsAll [(⟨w2.heap.size, 0, none⟩, .int .i64 0), (⟨w2.heap.size, 1, none⟩, .int .i64 0), (⟨w2.heap.size, 2, none⟩, .int .i64 base), (⟨w2.heap.size, 3, none⟩, .int .u32 (bv seed)), (⟨w2.heap.size, 4, none⟩, .int .i64 1), (⟨w3.heap.size, 0, none⟩, .int .i64 0), (⟨w3.heap.size, 1, none⟩, .int .i64 0), (⟨w3.heap.size, 2, none⟩, .int .i64 base), (⟨w3.heap.size, 3, none⟩, .int .u32 (bv seed)), (⟨w3.heap.size, 4, none⟩, .int .i64 1), (⟨x4.heap.size, 0, none⟩, .int .i64 0), (⟨x4.heap.size, 4, none⟩, .int .i64 1)]), p.w.cell? ⟨w2.heap.size, 3, none⟩ = some (.int .u32 (bv seed)) := fun p => p.h.get 3 rfl
    have g4 : ∀ p : In (CellsAll [(⟨w2.heap.size, 0, none⟩, .int .i64 0), (⟨w2.heap.size, 1, none⟩, .int .i64 0), (⟨w2.heap.size, 2, none⟩, .int .i64 base), (⟨w2.heap.size, 3, none⟩, .int .u32 (bv seed)), (⟨w2.heap.size, 4, none⟩, .int .i64 1), (⟨w3.heap.size, 0, none⟩, .int .i64 0), (⟨w3.heap.size, 1, none⟩, .int .i64 0), (⟨w3.heap.size, 2, none⟩, .int .i64 base), (⟨w3.heap.size, 3, none⟩, .int .u32 (bv seed)), (⟨w3.heap.size, 4, none⟩, .int .i64 1), (⟨x4.heap.size, 0, none⟩, .int .i64 0), (⟨x4.heap.size, 4, none⟩, .int .i64 1)]), p.w.cell? ⟨w2.heap.size, 4, none⟩ = some (.int .i64 1) := fun p => p.h.get 4 rfl
    have g5 : ∀ p : In (CellsAll [(⟨w2.heap.size, 0, none⟩, .int .i64 0), (⟨w2.heap.size, 1, none⟩, .int .i64 0), (⟨w2.heap.size, 2, none⟩, .int .i64 base), (⟨w2.heap.size, 3, none⟩, .int .u32 (bv seed)), (⟨w2.heap.size, 4, none⟩, .int .i64 1), (⟨w3.heap.size, 0, none⟩, .int .i64 0), (⟨w3.heap.size, 1, none⟩, .int .i64 0), (⟨w3.heap.size, 2, none⟩, .int .i64 base), (⟨w3.heap.size, 3, none⟩, .int .u32 (bv seed)), (⟨w3.heap.size, 4, none⟩, .int .i64 1), (⟨x4.heap.size, 0, none⟩, .int .i64 0), (⟨x4.heap.size, 4, none⟩, .int .i64 1)]), p.w.cell? ⟨w3.heap.size, 0, none⟩ = some (.int .i64 0) := fun p => p.h.get 5 rfl
    have g6 : ∀ p : In (CellsAll [(⟨w2.heap.size, 0, none⟩, .int .i64 0), (⟨w2.heap.size, 1, none⟩, .int .i64 0), (⟨w2.heap.size, 2, none⟩, .int .i64 base), (⟨w2.heap.size, 3, none⟩, .int .u32 (bv seed)), (⟨w2.heap.size, 4, none⟩, .int .i64 1), (⟨w3.heap.size, 0, none⟩, .int .i64 0), (⟨w3.heap.size, 1, none⟩, .int .i64 0), (⟨w3.heap.size, 2, none⟩, .int .i64 base), (⟨w3.heap.size, 3, none⟩, .int .u32 (bv seed)), (⟨w3.heap.size, 4, none⟩, .int .i64 1), (⟨x4.heap.size, 0, none⟩, .int .i64 0), (⟨x4.heap.size, 4, none⟩, .int .i64 1)]), p.w.cell? ⟨w3.heap.size, 1, none⟩ = some (.int .i64 0) := fun p => p.h.get 6 rfl
    have g7 : ∀ p : In (CellsAll [(⟨w2.heap.size, 0, none⟩, .int .i64 0), (⟨w2.heap.size, 1, none⟩, .int .i64 0), (⟨w2.heap.size, 2, none⟩, .int .i64 base), (⟨w2.heap.size, 3, none⟩, .int .u32 (bv seed)), (⟨w2.heap.size, 4, none⟩, .int .i64 1), (⟨w3.heap.size, 0, none⟩, .int .i64 0), (⟨w3.heap.size, 1, none⟩, .int .i64 0), (⟨w3.heap.size, 2, none⟩, .int .i64 base), (⟨w3.heap.size, 3, none⟩, .int .u32 (bv seed)), (⟨w3.heap.size, 4, none⟩, .int .i64 1), (⟨x4.heap.size, 0, none⟩, .int .i64 0), (⟨x4.heap.size, 4, none⟩, .int .i64 1)]), p.w.cell? ⟨w3.heap.size, 2, none⟩ = some (.int .i64 base) := fun p => p.h.get 7 rfl
    have g8 : ∀ p : In (CellsAll [(⟨w2.heap.size, 0, none⟩, .int .i64 0), (⟨w2.heap.size, 1, none⟩, .int .i64 0), (⟨w2.heap.size, 2, none⟩, .int .i64 base), (⟨w2.heap.size, 3, none⟩, .int .u32 (bv seed)), (⟨w2.heap.size, 4, none⟩, .int .i64 1), (⟨w3.heap.size, 0, none⟩, .int .i64 0), (⟨w3.heap.size, 1, none⟩, .int .i64 0), (⟨w3.heap.size, 2, none⟩, .int .i64 base), (⟨w3.heap.size, 3, none⟩, .int .u32 (bv seed)), (⟨w3.heap.size, 4, none⟩, .int .i64 1), (⟨x4.heap.size, 0, none⟩, .int .i64 0), (⟨x4.heap.size, 4, none⟩, .int .i64 1)]), p.w.cell? ⟨w3.heap.size, 3, none⟩ = some (.int .u32 (bv seed)) := fun p => p.h.get 8 rfl
    have g9 : ∀ p : In (CellsAll [(⟨w2.heap.size, 0, none⟩, .int .i64 0), (⟨w2.heap.size, 1, none⟩, .int .i64 0), (⟨w2.heap.size, 2, none⟩, .int .i64 base), (⟨w2.heap.size, 3, none⟩, .int .u32 (bv seed)), (⟨w2.heap.size, 4, none⟩, .int .i64 1), (⟨w3.heap.size, 0, none⟩, .int .i64 0), (⟨w3.heap.size, 1, none⟩, .int .i64 0), (⟨w3.heap.size, 2, none⟩, .int .i64 base), (⟨w3.heap.size, 3, none⟩, .int .u32 (bv seed)), (⟨w3.heap.size, 4, none⟩, .int .i64 1), (⟨x4.heap.size, 0, none⟩, .int .i64 0), (⟨x4.heap.size, 4, none⟩, .int .i64 1)]), p.w.cell? ⟨w3.heap.size, 4, none⟩ = some (.int .i64 1) := fun p => p.h.get 9 rfl
    have g10 : ∀ p : In (CellsAll [(⟨w2.heap.size, 0, none⟩, .int .i64 0), (⟨w2.heap.size, 1, none⟩, .int .i64 0), (⟨w2.heap.size, 2, none⟩, .int .i64 base), (⟨w2.heap.size, 3, none⟩, .int .u32 (bv seed)), (⟨w2.heap.size, 4, none⟩, .int .i64 1), (⟨w3.heap.size, 0, none⟩, .int .i64 0), (⟨w3.heap.size, 1, none⟩, .int .i64 0), (⟨w3.heap.size, 2, none⟩, .int .i64 base), (⟨w3.heap.size, 3, none⟩, .int .u32 (bv seed)), (⟨w3.heap.size, 4, none⟩, .int .i64 1), (⟨x4.heap.size, 0, none⟩, .int .i64 0), (⟨x4.heap.size, 4, none⟩, .int .i64 1)]), p.w.cell? ⟨x4.heap.size, 0, none⟩ = some (.int .i64 0) := fun p => p.h.get 10 rfl
    have g11 : ∀ p : In (CellsAll [(⟨w2.heap.size, 0, none⟩, .int .i64 0), (⟨w2.heap.size, 1, none⟩, .int .i64 0), (⟨w2.heap.size, 2, none⟩, .int .i64 base), (⟨w2.heap.size, 3, none⟩, .int .u32 (bv seed)), (⟨w2.heap.size, 4, none⟩, .int .i64 1), (⟨w3.heap.size, 0, none⟩, .int .i64 0), (⟨w3.heap.size, 1, none⟩, .int .i64 0), (⟨w3.heap.size, 2, none⟩, .int .i64 base), (⟨w3.heap.size, 3, none⟩, .int .u32 (bv seed)), (⟨w3.heap.size, 4, none⟩, .int .i64 1), (⟨x4.heap.size, 0, none⟩, .int .i64 0), (⟨x4.heap.size, 4, none⟩, .int .i64 1)]), p.w.cell? ⟨x4.heap.size, 4, none⟩ = some (.int .i64 1) := fun p => p.h.get 11 rfl
    go_wp2_with fail
    refine wp_region_mixed [0, 1, 2, 3, 4, 5, 6, 7, 8, 9, 10, 11, 12, 13, 14, 15, 16, 17, 18, 19, 20, 21, 22, 23, 24, 25, 26, 27, 28, 29, 30, 31, 32, 33, 34, 35, 36, 37, 38, 39, 40, 41, 42, 43, 44, 45, 46, 47, 48, 49, 50, 51, 52, 53] (CellsAll [(⟨w2.heap.size, 0, none⟩, .int .i64 0), (⟨w2.heap.size, 1, none⟩, .int .i64 0), (⟨w2.heap.size, 2, none⟩, .int .i64 base), (⟨w2.heap.size, 3, none⟩, .int .u32 (bv seed)), (⟨w2.heap.size, 4, none⟩, .int .i64 1), (⟨w3.heap.size, 0, none⟩, .int .i64 0), (⟨w3.heap.size, 1, none⟩, .int .i64 0), (⟨w3.heap.size, 2, none⟩, .int .i64 base), (⟨w3.heap.size, 3, none⟩, .int .u32 (bv seed)), (⟨w3.heap.size, 4, none⟩, .int .i64 1), (⟨x4.heap.size, 0, none⟩, .int .i64 0), (⟨x4.heap.size, 4, none⟩, .int .i64 1)]) (by kernel_rfl) (by kernel_rfl) (by intro c a d v w h; cases d <;> exact h) (CC.out.on (below_drew _)) ?_
    intro hne
    simp only [pick, List.map_cons, List.map_nil, List.getD_cons_zero, List.getD_cons_succ]
    refine wpMix_reads 49 _ (by kernel_rfl) ?_
    simp only [List.take_succ_cons, List.take_zero, List.drop_succ_cons, List.drop_zero]
    repeat (go_big_quiet_step (fail))
    refine wpQuiet_nil ?_
    refine wpMix_act rfl ?_ rfl
    go_wp2_with fail
    refine (records_nothing _ cap base _ 1073741824 seed _ rfl (fun h => by cases h) h1 h2).mono ?_
    rintro e w5 ⟨a7, c7, rfl, hb5⟩
    have CX := Lib.hid (CC.out.on (below_trans (below_drew x5) hb5))
    go_wp2_with fail
    refine ⟨⟨⟨_, CX.out⟩, rfl⟩, ?_⟩
    refine wpMix_reads 4 _ (by kernel_rfl) ?_
    simp only [List.take_succ_cons, List.take_zero, List.drop_succ_cons, List.drop_zero]
    repeat (go_big_quiet_step (fail))
    refine wpQuiet_nil ?_
    refine wpMix_nil ?_
    clear hne g0 g1 g2 g3 g4 g5 g6 g7 g8 g9 g10 g11
    go_wp2_with fail
    go_ret
    exact ⟨rfl, below_trans B5.out (below_trans (below_drew x5) hb5)⟩
  · have bz : Below x3.heap.size x3 (x3.alloc (.cells #[.int .i64 0, .int .i64 0, .int .i64 0, .int .u32 0, .int .i64 0] 57)).drew := below_trans (below_alloc x3 (.cells #[.int .i64 0, .int .i64 0, .int .i64 0, .int .u32 0, .int .i64 0] 57)) (below_drew _)
    have BZ := Lib.hid bz
    have CZ := Lib.hid (CC.out.on bz)
    have HZ : Hid (((x3.alloc (.cells #[.int .i64 0, .int .i64 0, .int .i64 0, .int .u32 0, .int .i64 0] 57)).drew).heap[x3.heap.size]? = some (.cells #[.int .i64 0, .int .i64 0, .int .i64 0, .int .u32 0, .int .i64 0] 57 (0, 0))) := Lib.hid (heap_alloc_new x3 (.cells #[.int .i64 0, .int .i64 0, .int .i64 0, .int .u32 0, .int .i64 0] 57))
    clear bz
    refine wpMix_act rfl ?_ rfl
    go_wp2_with fail
    refine ⟨⟨⟨_, CZ.out⟩, rfl⟩, ?_⟩
    refine wpMix_act rfl ?_ rfl
    go_wp2_with fail
    refine (over_nothing _ cap base _ seed _ rfl (fun h => by cases h) (by omega) h1 h2).mono ?_
    rintro e x4 ⟨rfl, hb4⟩
    have HY := (hb4.block x3.heap.size (heap_lt HZ.out)).trans HZ.out
    have b4 := below_trans BZ.out hb4
    have CX := Lib.hid (CC.out.on b4)
    obtain ⟨p1, p2⟩ := five_put HY (.int .i64 0) (.int .i64 0) (.int .i64 base) (.int .u32 (bv seed)) (.int .i64 1)
    have bz : Below x3.heap.size x3 _ := p2.below b4 (Nat.le_refl _) b4.size
    have CF := Lib.hid (CC.out.on bz)
    have Z5 := Lib.hid p1
    have R5 := Lib.hid ((bz.block w2.heap.size (heap_lt R3.out)).trans R3.out)
    have U5 := Lib.hid ((bz.block w3.heap.size (heap_lt U3.out)).trans U3.out)
    have B5 := Lib.hid (below_trans B3.out bz)
    have z0 := cell_of_row _ _ 0 _ _ _ HY
    have fz0 := frozen_of_row _ _ 0 _ _ HY
    have z1 := cell_of_row _ _ 1 _ _ _ HY
    have fz1 := frozen_of_row _ _ 1 _ _ HY
    have z2 := cell_of_row _ _ 2 _ _ _ HY
    have fz2 := frozen_of_row _ _ 2 _ _ HY
    have z3 := cell_of_row _ _ 3 _ _ _ HY
    have fz3 := frozen_of_row _ _ 3 _ _ HY
    have z4 := cell_of_row _ _ 4 _ _ _ HY
    have fz4 := frozen_of_row _ _ 4 _ _ HY
    clear HY p1 p2 bz b4 hb4
    go_wp2_with fail
    refine ⟨⟨⟨_, CX.out⟩, rfl⟩, ?_⟩
    refine wpMix_act rfl ?_ rfl
    go_wp2_with fail
    refine ⟨⟨⟨_, CF.out⟩, rfl⟩, ?_⟩
    refine wpMix_nil ?_
    clear hne z0 fz0 z1 fz1 z2 fz2 z3 fz3 z4 fz4 CX CZ CF CC g0 g1 g2 R3 U3 B3 BZ HZ
    obtain ⟨x5, hx5⟩ : ∃ x5, (((((x4.setCell ⟨x3.heap.size, 0, none⟩ (.int .i64 0)).setCell ⟨x3.heap.size, 1, none⟩ (.int .i64 0)).setCell ⟨x3.heap.size, 2, none⟩ (.int .i64 base)).setCell ⟨x3.heap.size, 3, none⟩ (.int .u32 (bv seed))).setCell ⟨x3.heap.size, 4, none⟩ (.int .i64 1)) = x5 := ⟨_, rfl⟩
    rw [hx5] at B5 R5 U5 Z5
    (first | rw [hx5] | skip)
    clear hx5
    have CC := Lib.hid (show CellsAll [(⟨w2.heap.size, 0, none⟩, .int .i64 0), (⟨w2.heap.size, 1, none⟩, .int .i64 0), (⟨w2.heap.size, 2, none⟩, .int .i64 base), (⟨w2.heap.size, 3, none⟩, .int .u32 (bv seed)), (⟨w2.heap.size, 4, none⟩, .int .i64 1), (⟨w3.heap.size, 0, none⟩, .int .i64 0), (⟨w3.heap.size, 1, none⟩, .int .i64 0), (⟨w3.heap.size, 2, none⟩, .int .i64 base), (⟨w3.heap.size, 3, none⟩, .int .u32 (bv seed)), (⟨w3.heap.size, 4, none⟩, .int .i64 1), (⟨x3.heap.size, 0, none⟩, .int .i64 0), (⟨x3.heap.size, 4, none⟩, .int .i64 1)] x5 from cells_twelve R5.out U5.out Z5.out)
    clear R5 U5 Z5
    have g0 : ∀ p : In (CellsAll [(⟨w2.heap.size, 0, none⟩, .int .i64 0), (⟨w2.heap.size, 1, none⟩, .int .i64 0), (⟨w2.heap.size, 2, none⟩, .int .i64 base), (⟨w2.heap.size, 3, none⟩, .int .u32 (bv seed)), (⟨w2.heap.size, 4, none⟩, .int .i64 1), (⟨w3.heap.size, 0, none⟩, .int .i64 0), (⟨w3.heap.size, 1, none⟩, .int .i64 0), (⟨w3.heap.size, 2, none⟩, .int .i64 base), (⟨w3.heap.size, 3, none⟩, .int .u32 (bv seed)), (⟨w3.heap.size, 4, none⟩, .int .i64 1), (⟨x3.heap.size, 0, none⟩, .int .i64 0), (⟨x3.heap.size, 4, none⟩, .int .i64 1)]), p.w.cell? ⟨w2.heap.size, 0, none⟩ = some (.int .i64 0) := fun p => p.h.get 0 rfl
    have g1 : ∀ p : In (CellsAll [(⟨w2.heap.size, 0, none⟩, .int .i64 0), (⟨w2.heap.size, 1, none⟩, .int .i64 0), (⟨w2.heap.size, 2, none⟩, .int .i64 base), (⟨w2.heap.size, 3, none⟩, .int .u32 (bv seed)), (⟨w2.heap.size, 4, none⟩, .int .i64 1), (⟨w3.heap.size, 0, none⟩, .int .i64 0), (⟨w3.heap.size, 1, none⟩, .int .i64 0), (⟨w3.heap.size, 2, none⟩, .int .i64 base), (⟨w3.heap.size, 3, none⟩, .int .u32 (bv seed)), (⟨w3.heap.size, 4, none⟩, .int .i64 1), (⟨x3.heap.size, 0, none⟩, .int .i64 0), (⟨x3.heap.size, 4, none⟩, .int .i64 1)]), p.w.cell? ⟨w2.heap.size, 1, none⟩ = some (.int .i64 0) := fun p => p.h.get 1 rfl
    have g2 : ∀ p : In (CellsAll [(⟨w2.heap.size, 0, none⟩, .int .i64 0), (⟨w2.heap.size, 1, none⟩, .int .i64 0), (⟨w2.heap.size, 2, none⟩, .int .i64 base), (⟨w2.heap.size, 3, none⟩, .int .u32 (bv seed)), (⟨w2.heap.size, 4, none⟩, .int .i64 1), (⟨w3.heap.size, 0, none⟩, .int .i64 0), (⟨w3.heap.size, 1, none⟩, .int .i64 0), (⟨w3.heap.size, 2, none⟩, .int .i64 base), (⟨w3.heap.size, 3, none⟩, .int .u32 (bv seed)), (⟨w3.heap.size, 4, none⟩, .int .i64 1), (⟨x3.heap.size, 0, none⟩, .int .i64 0), (⟨x3.heap.size, 4, none⟩, .int .i64 1)]), p.w.cell? ⟨w2.heap.size, 2, none⟩ = some (.int .i64 base) := fun p => p.h.get 2 rfl
    have g3 : ∀ p : In (CellsAll [(⟨w2.heap.size, 0, none⟩, .int .i64 0), (⟨w2.heap.size, 1, none⟩, .int .i64 0), (⟨w2.heap.size, 2, none⟩, .int .i64 base), (⟨w2.heap.size, 3, none⟩, .int .u32 (bv seed)), (⟨w2.heap.size, 4, none⟩, .int .i64 1), (⟨w3.heap.size, 0, none⟩, .int .i64 0), (⟨w3.heap.size, 1, none⟩, .int .i64 0), (⟨w3.heap.size, 2, none⟩, .int .i64 base), (⟨w3.heap.size, 3, none⟩, .int .u32 (bv seed)), (⟨w3.heap.size, 4, none⟩, .int .i64 1), (⟨x3.heap.size, 0, none⟩, .int .i64 0), (⟨x3.heap.size, 4, none⟩, .int .i64 1)]), p.w.cell? ⟨w2.heap.size, 3, none⟩ = some (.int .u32 (bv seed)) := fun p => p.h.get 3 rfl
    have g4 : ∀ p : In (CellsAll [(⟨w2.heap.size, 0, none⟩, .int .i64 0), (⟨w2.heap.size, 1, none⟩, .int .i64 0), (⟨w2.heap.size, 2, none⟩, .int .i64 base), (⟨w2.heap.size, 3, none⟩, .int .u32 (bv seed)), (⟨w2.heap.size, 4, none⟩, .int .i64 1), (⟨w3.heap.size, 0, none⟩, .int .i64 0), (⟨w3.heap.size, 1, none⟩, .int .i64 0), (⟨w3.heap.size, 2, none⟩, .int .i64 base), (⟨w3.heap.size, 3, none⟩, .int .u32 (bv seed)), (⟨w3.heap.size, 4, none⟩, .int .i64 1), (⟨x3.heap.size, 0, none⟩, .int .i64 0), (⟨x3.heap.size, 4, none⟩, .int .i64 1)]), p.w.cell? ⟨w2.heap.size, 4, none⟩ = some (.int .i64 1) := fun p => p.h.get 4 rfl
    have g5 : ∀ p : In (CellsAll [(⟨w2.heap.size, 0, none⟩, .int .i64 0), (⟨w2.heap.size, 1, none⟩, .int .i64 0), (⟨w2.heap.size, 2, none⟩, .int .i64 base), (⟨w2.heap.size, 3, none⟩, .int .u32 (bv seed)), (⟨w2.heap.size, 4, none⟩, .int .i64 1), (⟨w3.heap.size, 0, none⟩, .int .i64 0), (⟨w3.heap.size, 1, none⟩, .int .i64 0), (⟨w3.heap.size, 2, none⟩, .int .i64 base), (⟨w3.heap.size, 3, none⟩, .int .u32 (bv seed)), (⟨w3.heap.size, 4, none⟩, .int .i64 1), (⟨x3.heap.size, 0, none⟩, .int .i64 0), (⟨x3.heap.size, 4, none⟩, .int .i64 1)]), p.w.cell? ⟨w3.heap.size, 0, none⟩ = some (.int .i64 0) := fun p => p.h.get 5 rfl
    have g6 : ∀ p : In (CellsAll [(⟨w2.heap.size, 0, none⟩, .int .i64 0), (⟨w2.heap.size, 1, none⟩, .int .i64 0), (⟨w2.heap.size, 2, none⟩, .int .i64 base), (⟨w2.heap.size, 3, none⟩, .int .u32 (bv seed)), (⟨w2.heap.size, 4, none⟩, .int .i64 1), (⟨w3.heap.size, 0, none⟩, .int .i64 0), (⟨w3.heap.size, 1, none⟩, .int .i64 0), (⟨w3.heap.size, 2, none⟩, .int .i64 base), (⟨w3.heap.size, 3, none⟩, .int .u32 (bv seed)), (⟨w3.heap.size, 4, none⟩, .int .i64 1), (⟨x3.heap.size, 0, none⟩, .int .i64 0), (⟨x3.heap.size, 4, none⟩, .int .i64 1)]), p.w.cell? ⟨w3.heap.size, 1, none⟩ = some (.int .i64 0) := fun p => p.h.get 6 rfl
    have g7 : ∀ p : In (CellsAll [(⟨w2.heap.size, 0, none⟩, .int .i64 0), (⟨w2.heap.size, 1, none⟩, .int .i64 0), (⟨w2.heap.size, 2, none⟩, .int .i64 base), (⟨w2.heap.size, 3, none⟩, .int .u32 (bv seed)), (⟨w2.heap.size, 4, none⟩, .int .i64 1), (⟨w3.heap.size, 0, none⟩, .int .i64 0), (⟨w3.heap.size, 1, none⟩, .int .i64 0), (⟨w3.heap.size, 2, none⟩, .int .i64 base), (⟨w3.heap.size, 3, none⟩, .int .u32 (bv seed)), (⟨w3.heap.size, 4, none⟩, .int .i64 1), (⟨x3.heap.size, 0, none⟩, .int .i64 0), (⟨x3.heap.size, 4, none⟩, .int .i64 1)]), p.w.cell? ⟨w3.heap.size, 2, none⟩ = some (.int .i64 base) := fun p => p.h.get 7 rfl
    have g8 : ∀ p : In (CellsAll [(⟨w2.heap.size, 0, none⟩, .int .i64 0), (⟨w2.heap.size, 1, none⟩, .int .i64 0), (⟨w2.heap.size, 2, none⟩, .int .i64 base), (⟨w2.heap.size, 3, none⟩, .int .u32 (bv seed)), (⟨w2.heap.size, 4, none⟩, .int .i64 1), (⟨w3.heap.size, 0, none⟩, .int .i64 0), (⟨w3.heap.size, 1, none⟩, .int .i64 0), (⟨w3.heap.size, 2, none⟩, .int .i64 base), (⟨w3.heap.size, 3, none⟩, .int .u32 (bv seed)), (⟨w3.heap.size, 4, none⟩, .int .i64 1), (⟨x3.heap.size, 0, none⟩, .int .i64 0), (⟨x3.heap.size, 4, none⟩, .int .i64 1)]), p.w.cell? ⟨w3.heap.size, 3, none⟩ = some (.int .u32 (bv seed)) := fun p => p.h.get 8 rfl
    have g9 : ∀ p : In (CellsAll [(⟨w2.heap.size, 0, none⟩, .int .i64 0), (⟨w2.heap.size, 1, none⟩, .int .i64 0), (⟨w2.heap.size, 2, none⟩, .int .i64 base), (⟨w2.heap.size, 3, none⟩, .int .u32 (bv seed)), (⟨w2.heap.size, 4, none⟩, .int .i64 1), (⟨w3.heap.size, 0, none⟩, .int .i64 0), (⟨w3.heap.size, 1, none⟩, .int .i64 0), (⟨w3.heap.size, 2, none⟩, .int .i64 base), (⟨w3.heap.size, 3, none⟩, .int .u32 (bv seed)), (⟨w3.heap.size, 4, none⟩, .int .i64 1), (⟨x3.heap.size, 0, none⟩, .int .i64 0), (⟨x3.heap.size, 4, none⟩, .int .i64 1)]), p.w.cell? ⟨w3.heap.size, 4, none⟩ = some (.int .i64 1) := fun p => p.h.get 9 rfl
    have g10 : ∀ p : In (CellsAll [(⟨w2.heap.size, 0, none⟩, .int .i64 0), (⟨w2.heap.size, 1, none⟩, .int .i64 0), (⟨w2.heap.size, 2, none⟩, .int .i64 base), (⟨w2.heap.size, 3, none⟩, .int .u32 (bv seed)), (⟨w2.heap.size, 4, none⟩, .int .i64 1), (⟨w3.heap.size, 0, none⟩, .int .i64 0), (⟨w3.heap.size, 1, none⟩, .int .i64 0), (⟨w3.heap.size, 2, none⟩, .int .i64 base), (⟨w3.heap.size, 3, none⟩, .int .u32 (bv seed)), (⟨w3.heap.size, 4, none⟩, .int .i64 1), (⟨x3.heap.size, 0, none⟩, .int .i64 0), (⟨x3.heap.size, 4, none⟩, .int .i64 1)]), p.w.cell? ⟨x3.heap.size, 0, none⟩ = some (.int .i64 0) := fun p => p.h.get 10 rfl
    have g11 : ∀ p : In (CellsAll [(⟨w2.heap.size, 0, none⟩, .int .i64 0), (⟨w2.heap.size, 1, none⟩, .int .i64 0), (⟨w2.heap.size, 2, none⟩, .int .i64 base), (⟨w2.heap.size, 3, none⟩, .int .u32 (bv seed)), (⟨w2.heap.size, 4, none⟩, .int .i64 1), (⟨w3.heap.size, 0, none⟩, .int .i64 0), (⟨w3.heap.size, 1, none⟩, .int .i64 0), (⟨w3.heap.size, 2, none⟩, .int .i64 base), (⟨w3.heap.size, 3, none⟩, .int .u32 (bv seed)), (⟨w3.heap.size, 4, none⟩, .int .i64 1), (⟨x3.heap.size, 0, none⟩, .int .i64 0), (⟨x3.heap.size, 4, none⟩, .int .i64 1)]), p.w.cell? ⟨x3.heap.size, 4, none⟩ = some (.int .i64 1) := fun p => p.h.get 11 rfl
    go_wp2_with fail
    refine wp_region_mixed [0, 1, 2, 3, 4, 5, 6, 7, 8, 9, 10, 11, 12, 13, 14, 15, 16, 17, 18, 19, 20, 21, 22, 23, 24, 25, 26, 27, 28, 29, 30, 31, 32, 33, 34, 35, 36, 37, 38, 39, 40, 41, 42, 43, 44, 45, 46, 47, 48, 49, 50, 51, 52, 53] (CellsAll [(⟨w2.heap.size, 0, none⟩, .int .i64 0), (⟨w2.heap.size, 1, none⟩, .int .i64 0), (⟨w2.heap.size, 2, none⟩, .int .i64 base), (⟨w2.heap.size, 3, none⟩, .int .u32 (bv seed)), (⟨w2.heap.size, 4, none⟩, .int .i64 1), (⟨w3.heap.size, 0, none⟩, .int .i64 0), (⟨w3.heap.size, 1, none⟩, .int .i64 0), (⟨w3.heap.size, 2, none⟩, .int .i64 base), (⟨w3.heap.size, 3, none⟩, .int .u32 (bv seed)), (⟨w3.heap.size, 4, none⟩, .int .i64 1), (⟨x3.heap.size, 0, none⟩, .int .i64 0), (⟨x3.heap.size, 4, none⟩, .int .i64 1)]) (by kernel_rfl) (by kernel_rfl) (by intro c a d v w h; cases d <;> exact h) (CC.out.on (below_drew _)) ?_
    intro hne
    simp only [pick, List.map_cons, List.map_nil, List.getD_cons_zero, List.getD_cons_succ]
    refine wpMix_reads 49 _ (by kernel_rfl) ?_
    simp only [List.take_succ_cons, List.take_zero, List.drop_succ_cons, List.drop_zero]
    repeat (go_big_quiet_step (fail))
    refine wpQuiet_nil ?_
    refine wpMix_act rfl ?_ rfl
    go_wp2_with fail
    refine (records_nothing _ cap base _ 1073741824 seed _ rfl (fun h => by cases h) h1 h2).mono ?_
    rintro e w5 ⟨a7, c7, rfl, hb5⟩
    have CX := Lib.hid (CC.out.on (below_trans (below_drew x5) hb5))
    go_wp2_with fail
    refine ⟨⟨⟨_, CX.out⟩, rfl⟩, ?_⟩
    refine wpMix_reads 4 _ (by kernel_rfl) ?_
    simp only [List.take_succ_cons, List.take_zero, List.drop_succ_cons, List.drop_zero]
    repeat (go_big_quiet_step (fail))
    refine wpQuiet_nil ?_
    refine wpMix_nil ?_
    clear hne g0 g1 g2 g3 g4 g5 g6 g7 g8 g9 g10 g11
    go_wp2_with fail
    go_ret
    exact ⟨rfl, below_trans B5.out (below_trans (below_drew x5) hb5)⟩
set_option maxHeartbeats 4000000 in
set_option maxRecDepth 100000 in
theorem again_mid (g off : Nat) (bs : List (BitVec 8)) (cap : Nat) (base : Int) (seed : BitVec 32) (w : World) (hb : BytesAt w (some ⟨g, off, none⟩) bs) (hc : bs.length ≤ cap) (hm : cap ≤ 140737488351232) (hl : bs.length ≤ 131072) (h1 : 1 ≤ base) (h2 : base ≤ 9223372036854775807) (kc : ∀ t y, OverIs bs base seed t y → ¬ cap = t.end_) :
    Calls Try.prog 9 #[.slice (some ⟨g, off, none⟩) bs.length cap, .int .i64 base, .int .u32 (bv seed)] w (TrueBelow w) := by
  have HB := Lib.hid hb
  have KC := Lib.hid kc
  have hl' : ¬ (131072 : Int) < (bs.length : Int) := by omega
  have hlow : ¬ base < 1 := by omega
  clear hb kc
  go_enter Try.func9, Try.ntmps9
  go_wp2_with fail
  refine (scan_begun w).mono ?_
  rintro e w1 ⟨rfl, hb1⟩
  have B1 := Lib.hid hb1
  clear hb1
  go_wp2_with fail
  refine (scan_over _ bs _ cap base _ seed _ rfl (HB.out.below B1.out) rfl (fun h => by cases h) hc (by omega) (by omega) h2).mono ?_
  rintro e w2 ⟨t, y, hov, rfl, hb2⟩
  have kc := KC.out t y hov
  obtain ⟨i, hst, ht, hy⟩ : ∃ i, StopsAt bs ⟨0, 0, base, seed⟩ i ∧ t = iterS bs ⟨0, 0, base, seed⟩ i ∧ y = (whyS bs (iterS bs ⟨0, 0, base, seed⟩ i) : Nat) := by
    rcases hov with ⟨h, _⟩ | ⟨_, h⟩
    · omega
    · exact h
  have hok := iterS_ok (bs := bs) (s := ⟨0, 0, base, seed⟩) ⟨Nat.zero_le _, Nat.le_refl _, by dsimp only; omega, h2⟩ i hst.1
  rw [← ht] at hok
  have e1 := hok.le
  have e2 := hok.lo
  have e3 := hok.hi
  have e4 := hok.count
  have e5 : t.end_ ≤ cap := by omega
  have HST := Lib.hid hst
  have HT := Lib.hid ht
  have HY := Lib.hid hy
  clear hov hok ht hy hst
  have hbx := below_trans (below_trans B1.out hb2) (below_alloc w2 (.cells (scCells t y) 57))
  have R := Lib.hid (heap_alloc_new w2 (.cells (scCells t y) 57))
  have X2 := Lib.hid (HB.out.below hbx)
  have BX := Lib.hid hbx
  clear hbx hb2
  obtain ⟨c0, c1, c2, c3, c4, -⟩ := scan_cells R.out
  unfold scVal
  unfold scCells at c0 c1 c2 c3 c4
  go_wp2_with fail
  refine (scan_over _ (bs.take t.end_) _ cap base _ seed _ rfl (X2.out.take t.end_) (by rw [List.length_take]; omega) (fun h => by cases h) e5 (by omega) (by omega) h2).mono ?_
  rintro e w3 ⟨p, yp, hp, rfl, hb3⟩
  have hp' : p = t ∧ yp = 1 := by rw [HT.out] at hp ⊢; exact again_front h1 h2 HST.out hp
  rw [hp'.1, hp'.2]
  clear hp' hp
  have U3 := Lib.hid (heap_alloc_new w3 (.cells (scCells t 1) 57))
  have b3 := below_trans hb3 (below_alloc w3 (.cells (scCells t 1) 57))
  have B3 := Lib.hid (below_trans BX.out b3)
  have X3 := Lib.hid (X2.out.below b3)
  have R3 := Lib.hid ((b3.block w2.heap.size (heap_lt R.out)).trans R.out)
  clear c0 c1 c2 c3 c4 hb3 b3 R X2 BX
  unfold scVal
  unfold scCells at X3 R3 B3 U3
  obtain ⟨x3, hx3⟩ : ∃ x3, w3.alloc (.cells #[.int .i64 t.count, .int .i64 t.end_, .int .i64 t.next, .int .u32 (bv t.seed), .int .i64 1] 57) = x3 := ⟨_, rfl⟩
  rw [hx3] at B3 R3 U3 X3
  go_wp2_with fail
  (first | rw [hx3] | skip)
  clear hx3
  have CC := Lib.hid (show CellsAll [(⟨w2.heap.size, 1, none⟩, .int .i64 t.end_), (⟨w2.heap.size, 2, none⟩, .int .i64 t.next), (⟨w2.heap.size, 3, none⟩, .int .u32 (bv t.seed))] x3 from cells_three R3.out)
  have g0 : ∀ p : In (CellsAll [(⟨w2.heap.size, 1, none⟩, .int .i64 t.end_), (⟨w2.heap.size, 2, none⟩, .int .i64 t.next), (⟨w2.heap.size, 3, none⟩, .int .u32 (bv t.seed))]), p.w.cell? ⟨w2.heap.size, 1, none⟩ = some (.int .i64 t.end_) := fun p => p.h.get 0 rfl
  have g1 : ∀ p : In (CellsAll [(⟨w2.heap.size, 1, none⟩, .int .i64 t.end_), (⟨w2.heap.size, 2, none⟩, .int .i64 t.next), (⟨w2.heap.size, 3, none⟩, .int .u32 (bv t.seed))]), p.w.cell? ⟨w2.heap.size, 2, none⟩ = some (.int .i64 t.next) := fun p => p.h.get 1 rfl
  have g2 : ∀ p : In (CellsAll [(⟨w2.heap.size, 1, none⟩, .int .i64 t.end_), (⟨w2.heap.size, 2, none⟩, .int .i64 t.next), (⟨w2.heap.size, 3, none⟩, .int .u32 (bv t.seed))]), p.w.cell? ⟨w2.heap.size, 3, none⟩ = some (.int .u32 (bv t.seed)) := fun p => p.h.get 2 rfl
  go_wp2_with fail
  refine wp_region_fork [0, 1, 2, 3, 4, 5, 6, 7] 8 9 [9, 10] [8, 10] (CellsAll [(⟨w2.heap.size, 1, none⟩, .int .i64 t.end_), (⟨w2.heap.size, 2, none⟩, .int .i64 t.next), (⟨w2.heap.size, 3, none⟩, .int .u32 (bv t.seed))]) (by kernel_rfl) (by kernel_rfl) (by intro c a d v w h; cases d <;> exact h) (CC.out.on (below_drew _)) ?_
  intro hne
  simp only [pick, List.map_cons, List.map_nil, List.getD_cons_zero, List.getD_cons_succ]
  repeat (go_big_quiet_step (fail))
  refine wpQuiet_nil ?_
  refine ⟨?_, ?_⟩
  · refine wpMix_act rfl ?_ rfl
    go_wp2_with fail
    refine (scan_over _ (bs.drop t.end_) _ (cap - t.end_) t.next _ t.seed _ rfl ((X3.out.below (below_drew x3)).drop t.end_) List.length_drop (fun h => by cases h) (by omega) (by omega) (by omega) e3).mono ?_
    rintro e x4 ⟨q, yq, hq, rfl, hb4⟩
    have hq' : q.count = 0 ∧ yq = y := by rw [HT.out] at hq; rw [HY.out]; exact again_behind h1 HST.out hq
    obtain ⟨hq1, hq2⟩ := hq'
    rw [hq2]
    clear hq hq2
    have hq3 : (q.count : Int) = 0 := by omega
    unfold scVal
    rw [hq3]
    clear hq1 hq3
    have b4 := below_trans (below_drew x3) hb4
    have bz := below_trans b4 (below_alloc x4 (.cells #[.int .i64 0, .int .i64 q.end_, .int .i64 q.next, .int .u32 (bv q.seed), .int .i64 y] 57))
    have CX := Lib.hid (CC.out.on b4)
    have CF := Lib.hid (CC.out.on bz)
    have CZ := Lib.hid (CX.out.on (below_alloc x4 (.cells #[.int .i64 0, .int .i64 0, .int .i64 0, .int .u32 0, .int .i64 0] 57)))
    have Z5 := Lib.hid (heap_alloc_new x4 (.cells #[.int .i64 0, .int .i64 q.end_, .int .i64 q.next, .int .u32 (bv q.seed), .int .i64 y] 57))
    have R5 := Lib.hid ((bz.block w2.heap.size (heap_lt R3.out)).trans R3.out)
    have U5 := Lib.hid ((bz.block w3.heap.size (heap_lt U3.out)).trans U3.out)
    have B5 := Lib.hid (below_trans B3.out bz)
    have X5 := Lib.hid (X3.out.below bz)
    have HZ := heap_alloc_new x4 (.cells #[.int .i64 0, .int .i64 0, .int .i64 0, .int .u32 0, .int .i64 0] 57)
    have z0 := cell_of_row _ _ 0 _ _ _ HZ
    have fz0 := frozen_of_row _ _ 0 _ _ HZ
    have z1 := cell_of_row _ _ 1 _ _ _ HZ
    have fz1 := frozen_of_row _ _ 1 _ _ HZ
    have z2 := cell_of_row _ _ 2 _ _ _ HZ
    have fz2 := frozen_of_row _ _ 2 _ _ HZ
    have z3 := cell_of_row _ _ 3 _ _ _ HZ
    have fz3 := frozen_of_row _ _ 3 _ _ HZ
    have z4 := cell_of_row _ _ 4 _ _ _ HZ
    have fz4 := frozen_of_row _ _ 4 _ _ HZ
    clear HZ bz b4 hb4
    go_wp2_with fail
    refine ⟨⟨⟨_, CX.out⟩, rfl⟩, ?_⟩
    refine wpMix_act rfl ?_ rfl
    go_wp2_with fail
    refine ⟨⟨⟨_, CZ.out⟩, rfl⟩, ?_⟩
    refine wpMix_act rfl ?_ rfl
    go_wp2_with fail
    refine ⟨⟨⟨_, CF.out⟩, rfl⟩, ?_⟩
    refine wpMix_nil ?_
    clear hne z0 fz0 z1 fz1 z2 fz2 z3 fz3 z4 fz4 CX CZ CF CC g0 g1 g2 R3 U3 B3 X3
    obtain ⟨x5, hx5⟩ : ∃ x5, x4.alloc (.cells #[.int .i64 0, .int .i64 q.end_, .int .i64 q.next, .int .u32 (bv q.seed), .int .i64 y] 57) = x5 := ⟨_, rfl⟩
    rw [hx5] at B5 R5 U5 Z5 X5
    (first | rw [hx5] | skip)
    clear hx5
    have CC := Lib.hid (show CellsAll [(⟨w2.heap.size, 0, none⟩, .int .i64 t.count), (⟨w2.heap.size, 1, none⟩, .int .i64 t.end_), (⟨w2.heap.size, 2, none⟩, .int .i64 t.next), (⟨w2.heap.size, 3, none⟩, .int .u32 (bv t.seed)), (⟨w2.heap.size, 4, none⟩, .int .i64 y), (⟨w3.heap.size, 0, none⟩, .int .i64 t.count), (⟨w3.heap.size, 1, none⟩, .int .i64 t.end_), (⟨w3.heap.size, 2, none⟩, .int .i64 t.next), (⟨w3.heap.size, 3, none⟩, .int .u32 (bv t.seed)), (⟨w3.heap.size, 4, none⟩, .int .i64 1), (⟨x4.heap.size, 0, none⟩, .int .i64 0), (⟨x4.heap.size, 4, none⟩, .int .i64 y)] x5 from cells_twelve R5.out U5.out Z5.out)
    clear R5 U5 Z5
    have g0 : ∀ p : In (CellsAll [(⟨w2.heap.size, 0, none⟩, .int .i64 t.count), (⟨w2.heap.size, 1, none⟩, .int .i64 t.end_), (⟨w2.heap.size, 2, none⟩, .int .i64 t.next), (⟨w2.heap.size, 3, none⟩, .int .u32 (bv t.seed)), (⟨w2.heap.size, 4, none⟩, .int .i64 y), (⟨w3.heap.size, 0, none⟩, .int .i64 t.count), (⟨w3.heap.size, 1, none⟩, .int .i64 t.end_), (⟨w3.heap.size, 2, none⟩, .int .i64 t.next), (⟨w3.heap.size, 3, none⟩, .int .u32 (bv t.seed)), (⟨w3.heap.size, 4, none⟩, .int .i64 1), (⟨x4.heap.size, 0, none⟩, .int .i64 0), (⟨x4.heap.size, 4, none⟩, .int .i64 y)]), p.w.cell? ⟨w2.heap.size, 0, none⟩ = some (.int .i64 t.count) := fun p => p.h.get 0 rfl
    have g1 : ∀ p : In (CellsAll [(⟨w2.heap.size, 0, none⟩, .int .i64 t.count), (⟨w2.heap.size, 1, none⟩, .int .i64 t.end_), (⟨w2.heap.size, 2, none⟩, .int .i64 t.next), (⟨w2.heap.size, 3, none⟩, .int .u32 (bv t.seed)), (⟨w2.heap.size, 4, none⟩, .int .i64 y), (⟨w3.heap.size, 0, none⟩, .int .i64 t.count), (⟨w3.heap.size, 1, none⟩, .int .i64 t.end_), (⟨w3.heap.size, 2, none⟩, .int .i64 t.next), (⟨w3.heap.size, 3, none⟩, .int .u32 (bv t.seed)), (⟨w3.heap.size, 4, none⟩, .int .i64 1), (⟨x4.heap.size, 0, none⟩, .int .i64 0), (⟨x4.heap.size, 4, none⟩, .int .i64 y)]), p.w.cell? ⟨w2.heap.size, 1, none⟩ = some (.int .i64 t.end_) := fun p => p.h.get 1 rfl
    have g2 : ∀ p : In (CellsAll [(⟨w2.heap.size, 0, none⟩, .int .i64 t.count), (⟨w2.heap.size, 1, none⟩, .int .i64 t.end_), (⟨w2.heap.size, 2, none⟩, .int .i64 t.next), (⟨w2.heap.size, 3, none⟩, .int .u32 (bv t.seed)), (⟨w2.heap.size, 4, none⟩, .int .i64 y), (⟨w3.heap.size, 0, none⟩, .int .i64 t.count), (⟨w3.heap.size, 1, none⟩, .int .i64 t.end_), (⟨w3.heap.size, 2, none⟩, .int .i64 t.next), (⟨w3.heap.size, 3, none⟩, .int .u32 (bv t.seed)), (⟨w3.heap.size, 4, none⟩, .int .i64 1), (⟨x4.heap.size, 0, none⟩, .int .i64 0), (⟨x4.heap.size, 4, none⟩, .int .i64 y)]), p.w.cell? ⟨w2.heap.size, 2, none⟩ = some (.int .i64 t.next) := fun p => p.h.get 2 rfl
    have g3 : ∀ p : In (CellsAll [(⟨w2.heap.size, 0, none⟩, .int .i64 t.count), (⟨w2.heap.size, 1, none⟩, .int .i64 t.end_), (⟨w2.heap.size, 2, none⟩, .int .i64 t.next), (⟨w2.heap.size, 3, none⟩, .int .u32 (bv t.seed)), (⟨w2.heap.size, 4, none⟩, .int .i64 y), (⟨w3.heap.size, 0, none⟩, .int .i64 t.count), (⟨w3.heap.size, 1, none⟩, .int .i64 t.end_), (⟨w3.heap.size, 2, none⟩, .int .i64 t.next), (⟨w3.heap.size, 3, none⟩, .int .u32 (bv t.seed)), (⟨w3.heap.size, 4, none⟩, .int .i64 1), (⟨x4.heap.size, 0, none⟩, .int .i64 0), (⟨x4.heap.size, 4, none⟩, .int .i64 y)]), p.w.cell? ⟨w2.heap.size, 3, none⟩ = some (.int .u32 (bv t.seed)) := fun p => p.h.get 3 rfl
    have g4 : ∀ p : In (CellsAll [(⟨w2.heap.size, 0, none⟩, .int .i64 t.count), (⟨w2.heap.size, 1, none⟩, .int .i64 t.end_), (⟨w2.heap.size, 2, none⟩, .int .i64 t.next), (⟨w2.heap.size, 3, none⟩, .int .u32 (bv t.seed)), (⟨w2.heap.size, 4, none⟩, .int .i64 y), (⟨w3.heap.size, 0, none⟩, .int .i64 t.count), (⟨w3.heap.size, 1, none⟩, .int .i64 t.end_), (⟨w3.heap.size, 2, none⟩, .int .i64 t.next), (⟨w3.heap.size, 3, none⟩, .int .u32 (bv t.seed)), (⟨w3.heap.size, 4, none⟩, .int .i64 1), (⟨x4.heap.size, 0, none⟩, .int .i64 0), (⟨x4.heap.size, 4, none⟩, .int .i64 y)]), p.w.cell? ⟨w2.heap.size, 4, none⟩ = some (.int .i64 y) := fun p => p.h.get 4 rfl
    have g5 : ∀ p : In (CellsAll [(⟨w2.heap.size, 0, none⟩, .int .i64 t.count), (⟨w2.heap.size, 1, none⟩, .int .i64 t.end_), (⟨w2.heap.size, 2, none⟩, .int .i64 t.next), (⟨w2.heap.size, 3, none⟩, .int .u32 (bv t.seed)), (⟨w2.heap.size, 4, none⟩, .int .i64 y), (⟨w3.heap.size, 0, none⟩, .int .i64 t.count), (⟨w3.heap.size, 1, none⟩, .int .i64 t.end_), (⟨w3.heap.size, 2, none⟩, .int .i64 t.next), (⟨w3.heap.size, 3, none⟩, .int .u32 (bv t.seed)), (⟨w3.heap.size, 4, none⟩, .int .i64 1), (⟨x4.heap.size, 0, none⟩, .int .i64 0), (⟨x4.heap.size, 4, none⟩, .int .i64 y)]), p.w.cell? ⟨w3.heap.size, 0, none⟩ = some (.int .i64 t.count) := fun p => p.h.get 5 rfl
    have g6 : ∀ p : In (CellsAll [(⟨w2.heap.size, 0, none⟩, .int .i64 t.count), (⟨w2.heap.size, 1, none⟩, .int .i64 t.end_), (⟨w2.heap.size, 2, none⟩, .int .i64 t.next), (⟨w2.heap.size, 3, none⟩, .int .u32 (bv t.seed)), (⟨w2.heap.size, 4, none⟩, .int .i64 y), (⟨w3.heap.size, 0, none⟩, .int .i64 t.count), (⟨w3.heap.size, 1, none⟩, .int .i64 t.end_), (⟨w3.heap.size, 2, none⟩, .int .i64 t.next), (⟨w3.heap.size, 3, none⟩, .int .u32 (bv t.seed)), (⟨w3.heap.size, 4, none⟩, .int .i64 1), (⟨x4.heap.size, 0, none⟩, .int .i64 0), (⟨x4.heap.size, 4, none⟩, .int .i64 y)]), p.w.cell? ⟨w3.heap.size, 1, none⟩ = some (.int .i64 t.end_) := fun p => p.h.get 6 rfl
    have g7 : ∀ p : In (CellsAll [(⟨w2.heap.size, 0, none⟩, .int .i64 t.count), (⟨w2.heap.size, 1, none⟩, .int .i64 t.end_), (⟨w2.heap.size, 2, none⟩, .int .i64 t.next), (⟨w2.heap.size, 3, none⟩, .int .u32 (bv t.seed)), (⟨w2.heap.size, 4, none⟩, .int .i64 y), (⟨w3.heap.size, 0, none⟩, .int .i64 t.count), (⟨w3.heap.size, 1, none⟩, .int .i64 t.end_), (⟨w3.heap.size, 2, none⟩, .int .i64 t.next), (⟨w3.heap.size, 3, none⟩, .int .u32 (bv t.seed)), (⟨w3.heap.size, 4, none⟩, .int .i64 1), (⟨x4.heap.size, 0, none⟩, .int .i64 0), (⟨x4.heap.size, 4, none⟩, .int .i64 y)]), p.w.cell? ⟨w3.heap.size, 2, none⟩ = some (.int .i64 t.next) := fun p => p.h.get 7 rfl
    have g8 : ∀ p : In (CellsAll [(⟨w2.heap.size, 0, none⟩, .int .i64 t.count), (⟨w2.heap.size, 1, none⟩, .int .i64 t.end_), (⟨w2.heap.size, 2, none⟩, .int .i64 t.next), (⟨w2.heap.size, 3, none⟩, .int .u32 (bv t.seed)), (⟨w2.heap.size, 4, none⟩, .int .i64 y), (⟨w3.heap.size, 0, none⟩, .int .i64 t.count), (⟨w3.heap.size, 1, none⟩, .int .i64 t.end_), (⟨w3.heap.size, 2, none⟩, .int .i64 t.next), (⟨w3.heap.size, 3, none⟩, .int .u32 (bv t.seed)), (⟨w3.heap.size, 4, none⟩, .int .i64 1), (⟨x4.heap.size, 0, none⟩, .int .i64 0), (⟨x4.heap.size, 4, none⟩, .int .i64 y)]), p.w.cell? ⟨w3.heap.size, 3, none⟩ = some (.int .u32 (bv t.seed)) := fun p => p.h.get 8 rfl
    have g9 : ∀ p : In (CellsAll [(⟨w2.heap.size, 0, none⟩, .int .i64 t.count), (⟨w2.heap.size, 1, none⟩, .int .i64 t.end_), (⟨w2.heap.size, 2, none⟩, .int .i64 t.next), (⟨w2.heap.size, 3, none⟩, .int .u32 (bv t.seed)), (⟨w2.heap.size, 4, none⟩, .int .i64 y), (⟨w3.heap.size, 0, none⟩, .int .i64 t.count), (⟨w3.heap.size, 1, none⟩, .int .i64 t.end_), (⟨w3.heap.size, 2, none⟩, .int .i64 t.next), (⟨w3.heap.size, 3, none⟩, .int .u32 (bv t.seed)), (⟨w3.heap.size, 4, none⟩, .int .i64 1), (⟨x4.heap.size, 0, none⟩, .int .i64 0), (⟨x4.heap.size, 4, none⟩, .int .i64 y)]), p.w.cell? ⟨w3.heap.size, 4, none⟩ = some (.int .i64 1) := fun p => p.h.get 9 rfl
    have g10 : ∀ p : In (CellsAll [(⟨w2.heap.size, 0, none⟩, .int .i64 t.count), (⟨w2.heap.size, 1, none⟩, .int .i64 t.end_), (⟨w2.heap.size, 2, none⟩, .int .i64 t.next), (⟨w2.heap.size, 3, none⟩, .int .u32 (bv t.seed)), (⟨w2.heap.size, 4, none⟩, .int .i64 y), (⟨w3.heap.size, 0, none⟩, .int .i64 t.count), (⟨w3.heap.size, 1, none⟩, .int .i64 t.end_), (⟨w3.heap.size, 2, none⟩, .int .i64 t.next), (⟨w3.heap.size, 3, none⟩, .int .u32 (bv t.seed)), (⟨w3.heap.size, 4, none⟩, .int .i64 1), (⟨x4.heap.size, 0, none⟩, .int .i64 0), (⟨x4.heap.size, 4, none⟩, .int .i64 y)]), p.w.cell? ⟨x4.heap.size, 0, none⟩ = some (.int .i64 0) := fun p => p.h.get 10 rfl
    have g11 : ∀ p : In (CellsAll [(⟨w2.heap.size, 0, none⟩, .int .i64 t.count), (⟨w2.heap.size, 1, none⟩, .int .i64 t.end_), (⟨w2.heap.size, 2, none⟩, .int .i64 t.next), (⟨w2.heap.size, 3, none⟩, .int .u32 (bv t.seed)), (⟨w2.heap.size, 4, none⟩, .int .i64 y), (⟨w3.heap.size, 0, none⟩, .int .i64 t.count), (⟨w3.heap.size, 1, none⟩, .int .i64 t.end_), (⟨w3.heap.size, 2, none⟩, .int .i64 t.next), (⟨w3.heap.size, 3, none⟩, .int .u32 (bv t.seed)), (⟨w3.heap.size, 4, none⟩, .int .i64 1), (⟨x4.heap.size, 0, none⟩, .int .i64 0), (⟨x4.heap.size, 4, none⟩, .int .i64 y)]), p.w.cell? ⟨x4.heap.size, 4, none⟩ = some (.int .i64 y) := fun p => p.h.get 11 rfl
    go_wp2_with fail
    refine wp_region_mixed [0, 1, 2, 3, 4, 5, 6, 7, 8, 9, 10, 11, 12, 13, 14, 15, 16, 17, 18, 19, 20, 21, 22, 23, 24, 25, 26, 27, 28, 29, 30, 31, 32, 33, 34, 35, 36, 37, 38, 39, 40, 41, 42, 43, 44, 45, 46, 47, 48, 49, 50, 51, 52, 53] (CellsAll [(⟨w2.heap.size, 0, none⟩, .int .i64 t.count), (⟨w2.heap.size, 1, none⟩, .int .i64 t.end_), (⟨w2.heap.size, 2, none⟩, .int .i64 t.next), (⟨w2.heap.size, 3, none⟩, .int .u32 (bv t.seed)), (⟨w2.heap.size, 4, none⟩, .int .i64 y), (⟨w3.heap.size, 0, none⟩, .int .i64 t.count), (⟨w3.heap.size, 1, none⟩, .int .i64 t.end_), (⟨w3.heap.size, 2, none⟩, .int .i64 t.next), (⟨w3.heap.size, 3, none⟩, .int .u32 (bv t.seed)), (⟨w3.heap.size, 4, none⟩, .int .i64 1), (⟨x4.heap.size, 0, none⟩, .int .i64 0), (⟨x4.heap.size, 4, none⟩, .int .i64 y)]) (by kernel_rfl) (by kernel_rfl) (by intro c a d v w h; cases d <;> exact h) (CC.out.on (below_drew _)) ?_
    intro hne
    simp only [pick, List.map_cons, List.map_nil, List.getD_cons_zero, List.getD_cons_succ]
    refine wpMix_reads 49 _ (by kernel_rfl) ?_
    simp only [List.take_succ_cons, List.take_zero, List.drop_succ_cons, List.drop_zero]
    repeat (go_big_quiet_step (fail))
    refine wpQuiet_nil ?_
    refine wpMix_act rfl ?_ rfl
    go_wp2_with fail
    refine (scan_records _ bs _ cap base _ 1073741824 seed _ rfl (X5.out.below (below_drew x5)) rfl (fun h => by cases h) (by omega) h2).mono ?_
    rintro e w5 ⟨lv, l, hr, rfl, hrow, hb5⟩
    have hlen : l.length = t.count := by rw [HT.out]; exact again_recs h1 h2 hl HST.out hr
    obtain ⟨a7, c7, rfl⟩ := row_slice hrow.row
    rw [hlen]
    clear hlen hr hrow
    have CX := Lib.hid (CC.out.on (below_trans (below_drew x5) hb5))
    go_wp2_with fail
    refine ⟨⟨⟨_, CX.out⟩, rfl⟩, ?_⟩
    refine wpMix_reads 4 _ (by kernel_rfl) ?_
    simp only [List.take_succ_cons, List.take_zero, List.drop_succ_cons, List.drop_zero]
    repeat (go_big_quiet_step (fail))
    refine wpQuiet_nil ?_
    refine wpMix_nil ?_
    clear hne g0 g1 g2 g3 g4 g5 g6 g7 g8 g9 g10 g11
    go_wp2_with fail
    go_ret
    exact ⟨rfl, below_trans B5.out (below_trans (below_drew x5) hb5)⟩
  · have bz : Below x3.heap.size x3 (x3.alloc (.cells #[.int .i64 0, .int .i64 0, .int .i64 0, .int .u32 0, .int .i64 0] 57)).drew := below_trans (below_alloc x3 (.cells #[.int .i64 0, .int .i64 0, .int .i64 0, .int .u32 0, .int .i64 0] 57)) (below_drew _)
    have BZ := Lib.hid bz
    have CZ := Lib.hid (CC.out.on bz)
    have HZ : Hid (((x3.alloc (.cells #[.int .i64 0, .int .i64 0, .int .i64 0, .int .u32 0, .int .i64 0] 57)).drew).heap[x3.heap.size]? = some (.cells #[.int .i64 0, .int .i64 0, .int .i64 0, .int .u32 0, .int .i64 0] 57 (0, 0))) := Lib.hid (heap_alloc_new x3 (.cells #[.int .i64 0, .int .i64 0, .int .i64 0, .int .u32 0, .int .i64 0] 57))
    clear bz
    refine wpMix_act rfl ?_ rfl
    go_wp2_with fail
    refine ⟨⟨⟨_, CZ.out⟩, rfl⟩, ?_⟩
    refine wpMix_act rfl ?_ rfl
    go_wp2_with fail
    refine (scan_over _ (bs.drop t.end_) _ (cap - t.end_) t.next _ t.seed _ rfl ((X3.out.below BZ.out).drop t.end_) List.length_drop (fun h => by cases h) (by omega) (by omega) (by omega) e3).mono ?_
    rintro e x4 ⟨q, yq, hq, rfl, hb4⟩
    have hq' : q.count = 0 ∧ yq = y := by rw [HT.out] at hq; rw [HY.out]; exact again_behind h1 HST.out hq
    obtain ⟨hq1, hq2⟩ := hq'
    rw [hq2]
    clear hq hq2
    have hq3 : (q.count : Int) = 0 := by omega
    unfold scVal
    rw [hq3]
    clear hq1 hq3
    have HY := (hb4.block x3.heap.size (heap_lt HZ.out)).trans HZ.out
    have b4 := below_trans BZ.out hb4
    have CX := Lib.hid (CC.out.on b4)
    obtain ⟨p1, p2⟩ := five_put HY (.int .i64 0) (.int .i64 q.end_) (.int .i64 q.next) (.int .u32 (bv q.seed)) (.int .i64 y)
    have bz : Below x3.heap.size x3 _ := p2.below b4 (Nat.le_refl _) b4.size
    have CF := Lib.hid (CC.out.on bz)
    have Z5 := Lib.hid p1
    have R5 := Lib.hid ((bz.block w2.heap.size (heap_lt R3.out)).trans R3.out)
    have U5 := Lib.hid ((bz.block w3.heap.size (heap_lt U3.out)).trans U3.out)
    have B5 := Lib.hid (below_trans B3.out bz)
    have X5 := Lib.hid (X3.out.below bz)
    have z0 := cell_of_row _ _ 0 _ _ _ HY
    have fz0 := frozen_of_row _ _ 0 _ _ HY
    have z1 := cell_of_row _ _ 1 _ _ _ HY
    have fz1 := frozen_of_row _ _ 1 _ _ HY
    have z2 := cell_of_row _ _ 2 _ _ _ HY
    have fz2 := frozen_of_row _ _ 2 _ _ HY
    have z3 := cell_of_row _ _ 3 _ _ _ HY
    have fz3 := frozen_of_row _ _ 3 _ _ HY
    have z4 := cell_of_row _ _ 4 _ _ _ HY
    have fz4 := frozen_of_row _ _ 4 _ _ HY
    clear HY p1 p2 bz b4 hb4
    go_wp2_with fail
    refine ⟨⟨⟨_, CX.out⟩, rfl⟩, ?_⟩
    refine wpMix_act rfl ?_ rfl
    go_wp2_with fail
    refine ⟨⟨⟨_, CF.out⟩, rfl⟩, ?_⟩
    refine wpMix_nil ?_
    clear hne z0 fz0 z1 fz1 z2 fz2 z3 fz3 z4 fz4 CX CZ CF CC g0 g1 g2 R3 U3 B3 BZ HZ X3
    obtain ⟨x5, hx5⟩ : ∃ x5, (((((x4.setCell ⟨x3.heap.size, 0, none⟩ (.int .i64 0)).setCell ⟨x3.heap.size, 1, none⟩ (.int .i64 q.end_)).setCell ⟨x3.heap.size, 2, none⟩ (.int .i64 q.next)).setCell ⟨x3.heap.size, 3, none⟩ (.int .u32 (bv q.seed))).setCell ⟨x3.heap.size, 4, none⟩ (.int .i64 y)) = x5 := ⟨_, rfl⟩
    rw [hx5] at B5 R5 U5 Z5 X5
    (first | rw [hx5] | skip)
    clear hx5
    have CC := Lib.hid (show CellsAll [(⟨w2.heap.size, 0, none⟩, .int .i64 t.count), (⟨w2.heap.size, 1, none⟩, .int .i64 t.end_), (⟨w2.heap.size, 2, none⟩, .int .i64 t.next), (⟨w2.heap.size, 3, none⟩, .int .u32 (bv t.seed)), (⟨w2.heap.size, 4, none⟩, .int .i64 y), (⟨w3.heap.size, 0, none⟩, .int .i64 t.count), (⟨w3.heap.size, 1, none⟩, .int .i64 t.end_), (⟨w3.heap.size, 2, none⟩, .int .i64 t.next), (⟨w3.heap.size, 3, none⟩, .int .u32 (bv t.seed)), (⟨w3.heap.size, 4, none⟩, .int .i64 1), (⟨x3.heap.size, 0, none⟩, .int .i64 0), (⟨x3.heap.size, 4, none⟩, .int .i64 y)] x5 from cells_twelve R5.out U5.out Z5.out)
    clear R5 U5 Z5
    have g0 : ∀ p : In (CellsAll [(⟨w2.heap.size, 0, none⟩, .int .i64 t.count), (⟨w2.heap.size, 1, none⟩, .int .i64 t.end_), (⟨w2.heap.size, 2, none⟩, .int .i64 t.next), (⟨w2.heap.size, 3, none⟩, .int .u32 (bv t.seed)), (⟨w2.heap.size, 4, none⟩, .int .i64 y), (⟨w3.heap.size, 0, none⟩, .int .i64 t.count), (⟨w3.heap.size, 1, none⟩, .int .i64 t.end_), (⟨w3.heap.size, 2, none⟩, .int .i64 t.next), (⟨w3.heap.size, 3, none⟩, .int .u32 (bv t.seed)), (⟨w3.heap.size, 4, none⟩, .int .i64 1), (⟨x3.heap.size, 0, none⟩, .int .i64 0), (⟨x3.heap.size, 4, none⟩, .int .i64 y)]), p.w.cell? ⟨w2.heap.size, 0, none⟩ = some (.int .i64 t.count) := fun p => p.h.get 0 rfl
    have g1 : ∀ p : In (CellsAll [(⟨w2.heap.size, 0, none⟩, .int .i64 t.count), (⟨w2.heap.size, 1, none⟩, .int .i64 t.end_), (⟨w2.heap.size, 2, none⟩, .int .i64 t.next), (⟨w2.heap.size, 3, none⟩, .int .u32 (bv t.seed)), (⟨w2.heap.size, 4, none⟩, .int .i64 y), (⟨w3.heap.size, 0, none⟩, .int .i64 t.count), (⟨w3.heap.size, 1, none⟩, .int .i64 t.end_), (⟨w3.heap.size, 2, none⟩, .int .i64 t.next), (⟨w3.heap.size, 3, none⟩, .int .u32 (bv t.seed)), (⟨w3.heap.size, 4, none⟩, .int .i64 1), (⟨x3.heap.size, 0, none⟩, .int .i64 0), (⟨x3.heap.size, 4, none⟩, .int .i64 y)]), p.w.cell? ⟨w2.heap.size, 1, none⟩ = some (.int .i64 t.end_) := fun p => p.h.get 1 rfl
    have g2 : ∀ p : In (CellsAll [(⟨w2.heap.size, 0, none⟩, .int .i64 t.count), (⟨w2.heap.size, 1, none⟩, .int .i64 t.end_), (⟨w2.heap.size, 2, none⟩, .int .i64 t.next), (⟨w2.heap.size, 3, none⟩, .int .u32 (bv t.seed)), (⟨w2.heap.size, 4, none⟩, .int .i64 y), (⟨w3.heap.size, 0, none⟩, .int .i64 t.count), (⟨w3.heap.size, 1, none⟩, .int .i64 t.end_), (⟨w3.heap.size, 2, none⟩, .int .i64 t.next), (⟨w3.heap.size, 3, none⟩, .int .u32 (bv t.seed)), (⟨w3.heap.size, 4, none⟩, .int .i64 1), (⟨x3.heap.size, 0, none⟩, .int .i64 0), (⟨x3.heap.size, 4, none⟩, .int .i64 y)]), p.w.cell? ⟨w2.heap.size, 2, none⟩ = some (.int .i64 t.next) := fun p => p.h.get 2 rfl
    have g3 : ∀ p : In (CellsAll [(⟨w2.heap.size, 0, none⟩, .int .i64 t.count), (⟨w2.heap.size, 1, none⟩, .int .i64 t.end_), (⟨w2.heap.size, 2, none⟩, .int .i64 t.next), (⟨w2.heap.size, 3, none⟩, .int .u32 (bv t.seed)), (⟨w2.heap.size, 4, none⟩, .int .i64 y), (⟨w3.heap.size, 0, none⟩, .int .i64 t.count), (⟨w3.heap.size, 1, none⟩, .int .i64 t.end_), (⟨w3.heap.size, 2, none⟩, .int .i64 t.next), (⟨w3.heap.size, 3, none⟩, .int .u32 (bv t.seed)), (⟨w3.heap.size, 4, none⟩, .int .i64 1), (⟨x3.heap.size, 0, none⟩, .int .i64 0), (⟨x3.heap.size, 4, none⟩, .int .i64 y)]), p.w.cell? ⟨w2.heap.size, 3, none⟩ = some (.int .u32 (bv t.seed)) := fun p => p.h.get 3 rfl
    have g4 : ∀ p : In (CellsAll [(⟨w2.heap.size, 0, none⟩, .int .i64 t.count), (⟨w2.heap.size, 1, none⟩, .int .i64 t.end_), (⟨w2.heap.size, 2, none⟩, .int .i64 t.next), (⟨w2.heap.size, 3, none⟩, .int .u32 (bv t.seed)), (⟨w2.heap.size, 4, none⟩, .int .i64 y), (⟨w3.heap.size, 0, none⟩, .int .i64 t.count), (⟨w3.heap.size, 1, none⟩, .int .i64 t.end_), (⟨w3.heap.size, 2, none⟩, .int .i64 t.next), (⟨w3.heap.size, 3, none⟩, .int .u32 (bv t.seed)), (⟨w3.heap.size, 4, none⟩, .int .i64 1), (⟨x3.heap.size, 0, none⟩, .int .i64 0), (⟨x3.heap.size, 4, none⟩, .int .i64 y)]), p.w.cell? ⟨w2.heap.size, 4, none⟩ = some (.int .i64 y) := fun p => p.h.get 4 rfl
    have g5 : ∀ p : In (CellsAll [(⟨w2.heap.size, 0, none⟩, .int .i64 t.count), (⟨w2.heap.size, 1, none⟩, .int .i64 t.end_), (⟨w2.heap.size, 2, none⟩, .int .i64 t.next), (⟨w2.heap.size, 3, none⟩, .int .u32 (bv t.seed)), (⟨w2.heap.size, 4, none⟩, .int .i64 y), (⟨w3.heap.size, 0, none⟩, .int .i64 t.count), (⟨w3.heap.size, 1, none⟩, .int .i64 t.end_), (⟨w3.heap.size, 2, none⟩, .int .i64 t.next), (⟨w3.heap.size, 3, none⟩, .int .u32 (bv t.seed)), (⟨w3.heap.size, 4, none⟩, .int .i64 1), (⟨x3.heap.size, 0, none⟩, .int .i64 0), (⟨x3.heap.size, 4, none⟩, .int .i64 y)]), p.w.cell? ⟨w3.heap.size, 0, none⟩ = some (.int .i64 t.count) := fun p => p.h.get 5 rfl
    have g6 : ∀ p : In (CellsAll [(⟨w2.heap.size, 0, none⟩, .int .i64 t.count), (⟨w2.heap.size, 1, none⟩, .int .i64 t.end_), (⟨w2.heap.size, 2, none⟩, .int .i64 t.next), (⟨w2.heap.size, 3, none⟩, .int .u32 (bv t.seed)), (⟨w2.heap.size, 4, none⟩, .int .i64 y), (⟨w3.heap.size, 0, none⟩, .int .i64 t.count), (⟨w3.heap.size, 1, none⟩, .int .i64 t.end_), (⟨w3.heap.size, 2, none⟩, .int .i64 t.next), (⟨w3.heap.size, 3, none⟩, .int .u32 (bv t.seed)), (⟨w3.heap.size, 4, none⟩, .int .i64 1), (⟨x3.heap.size, 0, none⟩, .int .i64 0), (⟨x3.heap.size, 4, none⟩, .int .i64 y)]), p.w.cell? ⟨w3.heap.size, 1, none⟩ = some (.int .i64 t.end_) := fun p => p.h.get 6 rfl
    have g7 : ∀ p : In (CellsAll [(⟨w2.heap.size, 0, none⟩, .int .i64 t.count), (⟨w2.heap.size, 1, none⟩, .int .i64 t.end_), (⟨w2.heap.size, 2, none⟩, .int .i64 t.next), (⟨w2.heap.size, 3, none⟩, .int .u32 (bv t.seed)), (⟨w2.heap.size, 4, none⟩, .int .i64 y), (⟨w3.heap.size, 0, none⟩, .int .i64 t.count), (⟨w3.heap.size, 1, none⟩, .int .i64 t.end_), (⟨w3.heap.size, 2, none⟩, .int .i64 t.next), (⟨w3.heap.size, 3, none⟩, .int .u32 (bv t.seed)), (⟨w3.heap.size, 4, none⟩, .int .i64 1), (⟨x3.heap.size, 0, none⟩, .int .i64 0), (⟨x3.heap.size, 4, none⟩, .int .i64 y)]), p.w.cell? ⟨w3.heap.size, 2, none⟩ = some (.int .i64 t.next) := fun p => p.h.get 7 rfl
    have g8 : ∀ p : In (CellsAll [(⟨w2.heap.size, 0, none⟩, .int .i64 t.count), (⟨w2.heap.size, 1, none⟩, .int .i64 t.end_), (⟨w2.heap.size, 2, none⟩, .int .i64 t.next), (⟨w2.heap.size, 3, none⟩, .int .u32 (bv t.seed)), (⟨w2.heap.size, 4, none⟩, .int .i64 y), (⟨w3.heap.size, 0, none⟩, .int .i64 t.count), (⟨w3.heap.size, 1, none⟩, .int .i64 t.end_), (⟨w3.heap.size, 2, none⟩, .int .i64 t.next), (⟨w3.heap.size, 3, none⟩, .int .u32 (bv t.seed)), (⟨w3.heap.size, 4, none⟩, .int .i64 1), (⟨x3.heap.size, 0, none⟩, .int .i64 0), (⟨x3.heap.size, 4, none⟩, .int .i64 y)]), p.w.cell? ⟨w3.heap.size, 3, none⟩ = some (.int .u32 (bv t.seed)) := fun p => p.h.get 8 rfl
    have g9 : ∀ p : In (CellsAll [(⟨w2.heap.size, 0, none⟩, .int .i64 t.count), (⟨w2.heap.size, 1, none⟩, .int .i64 t.end_), (⟨w2.heap.size, 2, none⟩, .int .i64 t.next), (⟨w2.heap.size, 3, none⟩, .int .u32 (bv t.seed)), (⟨w2.heap.size, 4, none⟩, .int .i64 y), (⟨w3.heap.size, 0, none⟩, .int .i64 t.count), (⟨w3.heap.size, 1, none⟩, .int .i64 t.end_), (⟨w3.heap.size, 2, none⟩, .int .i64 t.next), (⟨w3.heap.size, 3, none⟩, .int .u32 (bv t.seed)), (⟨w3.heap.size, 4, none⟩, .int .i64 1), (⟨x3.heap.size, 0, none⟩, .int .i64 0), (⟨x3.heap.size, 4, none⟩, .int .i64 y)]), p.w.cell? ⟨w3.heap.size, 4, none⟩ = some (.int .i64 1) := fun p => p.h.get 9 rfl
    have g10 : ∀ p : In (CellsAll [(⟨w2.heap.size, 0, none⟩, .int .i64 t.count), (⟨w2.heap.size, 1, none⟩, .int .i64 t.end_), (⟨w2.heap.size, 2, none⟩, .int .i64 t.next), (⟨w2.heap.size, 3, none⟩, .int .u32 (bv t.seed)), (⟨w2.heap.size, 4, none⟩, .int .i64 y), (⟨w3.heap.size, 0, none⟩, .int .i64 t.count), (⟨w3.heap.size, 1, none⟩, .int .i64 t.end_), (⟨w3.heap.size, 2, none⟩, .int .i64 t.next), (⟨w3.heap.size, 3, none⟩, .int .u32 (bv t.seed)), (⟨w3.heap.size, 4, none⟩, .int .i64 1), (⟨x3.heap.size, 0, none⟩, .int .i64 0), (⟨x3.heap.size, 4, none⟩, .int .i64 y)]), p.w.cell? ⟨x3.heap.size, 0, none⟩ = some (.int .i64 0) := fun p => p.h.get 10 rfl
    have g11 : ∀ p : In (CellsAll [(⟨w2.heap.size, 0, none⟩, .int .i64 t.count), (⟨w2.heap.size, 1, none⟩, .int .i64 t.end_), (⟨w2.heap.size, 2, none⟩, .int .i64 t.next), (⟨w2.heap.size, 3, none⟩, .int .u32 (bv t.seed)), (⟨w2.heap.size, 4, none⟩, .int .i64 y), (⟨w3.heap.size, 0, none⟩, .int .i64 t.count), (⟨w3.heap.size, 1, none⟩, .int .i64 t.end_), (⟨w3.heap.size, 2, none⟩, .int .i64 t.next), (⟨w3.heap.size, 3, none⟩, .int .u32 (bv t.seed)), (⟨w3.heap.size, 4, none⟩, .int .i64 1), (⟨x3.heap.size, 0, none⟩, .int .i64 0), (⟨x3.heap.size, 4, none⟩, .int .i64 y)]), p.w.cell? ⟨x3.heap.size, 4, none⟩ = some (.int .i64 y) := fun p => p.h.get 11 rfl
    go_wp2_with fail
    refine wp_region_mixed [0, 1, 2, 3, 4, 5, 6, 7, 8, 9, 10, 11, 12, 13, 14, 15, 16, 17, 18, 19, 20, 21, 22, 23, 24, 25, 26, 27, 28, 29, 30, 31, 32, 33, 34, 35, 36, 37, 38, 39, 40, 41, 42, 43, 44, 45, 46, 47, 48, 49, 50, 51, 52, 53] (CellsAll [(⟨w2.heap.size, 0, none⟩, .int .i64 t.count), (⟨w2.heap.size, 1, none⟩, .int .i64 t.end_), (⟨w2.heap.size, 2, none⟩, .int .i64 t.next), (⟨w2.heap.size, 3, none⟩, .int .u32 (bv t.seed)), (⟨w2.heap.size, 4, none⟩, .int .i64 y), (⟨w3.heap.size, 0, none⟩, .int .i64 t.count), (⟨w3.heap.size, 1, none⟩, .int .i64 t.end_), (⟨w3.heap.size, 2, none⟩, .int .i64 t.next), (⟨w3.heap.size, 3, none⟩, .int .u32 (bv t.seed)), (⟨w3.heap.size, 4, none⟩, .int .i64 1), (⟨x3.heap.size, 0, none⟩, .int .i64 0), (⟨x3.heap.size, 4, none⟩, .int .i64 y)]) (by kernel_rfl) (by kernel_rfl) (by intro c a d v w h; cases d <;> exact h) (CC.out.on (below_drew _)) ?_
    intro hne
    simp only [pick, List.map_cons, List.map_nil, List.getD_cons_zero, List.getD_cons_succ]
    refine wpMix_reads 49 _ (by kernel_rfl) ?_
    simp only [List.take_succ_cons, List.take_zero, List.drop_succ_cons, List.drop_zero]
    repeat (go_big_quiet_step (fail))
    refine wpQuiet_nil ?_
    refine wpMix_act rfl ?_ rfl
    go_wp2_with fail
    refine (scan_records _ bs _ cap base _ 1073741824 seed _ rfl (X5.out.below (below_drew x5)) rfl (fun h => by cases h) (by omega) h2).mono ?_
    rintro e w5 ⟨lv, l, hr, rfl, hrow, hb5⟩
    have hlen : l.length = t.count := by rw [HT.out]; exact again_recs h1 h2 hl HST.out hr
    obtain ⟨a7, c7, rfl⟩ := row_slice hrow.row
    rw [hlen]
    clear hlen hr hrow
    have CX := Lib.hid (CC.out.on (below_trans (below_drew x5) hb5))
    go_wp2_with fail
    refine ⟨⟨⟨_, CX.out⟩, rfl⟩, ?_⟩
    refine wpMix_reads 4 _ (by kernel_rfl) ?_
    simp only [List.take_succ_cons, List.take_zero, List.drop_succ_cons, List.drop_zero]
    repeat (go_big_quiet_step (fail))
    refine wpQuiet_nil ?_
    refine wpMix_nil ?_
    clear hne g0 g1 g2 g3 g4 g5 g6 g7 g8 g9 g10 g11
    go_wp2_with fail
    go_ret
    exact ⟨rfl, below_trans B5.out (below_trans (below_drew x5) hb5)⟩
set_option maxHeartbeats 4000000 in
set_option maxRecDepth 100000 in
theorem again_end (g off : Nat) (bs : List (BitVec 8)) (base : Int) (seed : BitVec 32) (w : World) (hb : BytesAt w (some ⟨g, off, none⟩) bs) (hl : bs.length ≤ 131072) (h1 : 1 ≤ base) (h2 : base ≤ 9223372036854775807) (cnt : Nat) (nx : Int) (sd : BitVec 32) (y0 : Int) (hov : OverIs bs base seed ⟨cnt, bs.length, nx, sd⟩ y0) :
    Calls Try.prog 9 #[.slice (some ⟨g, off, none⟩) bs.length bs.length, .int .i64 base, .int .u32 (bv seed)] w (TrueBelow w) := by
  have HB := Lib.hid hb
  have OV := Lib.hid hov
  clear hov
  have hl' : ¬ (131072 : Int) < (bs.length : Int) := by omega
  have hlow : ¬ base < 1 := by omega
  clear hb
  go_enter Try.func9, Try.ntmps9
  go_wp2_with fail
  refine (scan_begun w).mono ?_
  rintro e w1 ⟨rfl, hb1⟩
  have B1 := Lib.hid hb1
  clear hb1
  go_wp2_with fail
  refine (scan_over _ bs _ bs.length base _ seed _ rfl (HB.out.below B1.out) rfl (fun h => by cases h) (Nat.le_refl _) (by omega) (by omega) h2).mono ?_
  rintro e w2 ⟨t, y, hov, rfl, hb2⟩
  obtain ⟨rfl, rfl⟩ := OV.out.uniq hov
  obtain ⟨i, hst, ht, hy⟩ : ∃ i, StopsAt bs ⟨0, 0, base, seed⟩ i ∧ ⟨cnt, bs.length, nx, sd⟩ = iterS bs ⟨0, 0, base, seed⟩ i ∧ y0 = (whyS bs (iterS bs ⟨0, 0, base, seed⟩ i) : Nat) := by
    rcases hov with ⟨h, _⟩ | ⟨_, h⟩
    · omega
    · exact h
  have hok := iterS_ok (bs := bs) (s := ⟨0, 0, base, seed⟩) ⟨Nat.zero_le _, Nat.le_refl _, by dsimp only; omega, h2⟩ i hst.1
  rw [← ht] at hok
  have e1 := hok.le
  have e2 := hok.lo
  have e3 := hok.hi
  have e4 := hok.count
  have e5 : bs.length ≤ bs.length := Nat.le_refl _
  dsimp only at e1 e2 e3 e4
  have HE := Lib.hid (show bs.length = (iterS bs ⟨0, 0, base, seed⟩ i).end_ from congrArg ScV.end_ ht)
  have HN := Lib.hid (show nx = (iterS bs ⟨0, 0, base, seed⟩ i).next from congrArg ScV.next ht)
  have HSD := Lib.hid (show sd = (iterS bs ⟨0, 0, base, seed⟩ i).seed from congrArg ScV.seed ht)
  have HC := Lib.hid (show cnt = (iterS bs ⟨0, 0, base, seed⟩ i).count from congrArg ScV.count ht)
  have HST := Lib.hid hst
  have HT := Lib.hid ht
  have HY := Lib.hid hy
  clear hov hok ht hy hst
  have hbx := below_trans (below_trans B1.out hb2) (below_alloc w2 (.cells (scCells ⟨cnt, bs.length, nx, sd⟩ y0) 57))
  have R := Lib.hid (heap_alloc_new w2 (.cells (scCells ⟨cnt, bs.length, nx, sd⟩ y0) 57))
  have X2 := Lib.hid (HB.out.below hbx)
  have BX := Lib.hid hbx
  clear hbx hb2
  obtain ⟨c0, c1, c2, c3, c4, -⟩ := scan_cells R.out
  unfold scVal
  unfold scCells at c0 c1 c2 c3 c4
  dsimp only at c0 c1 c2 c3 c4
  go_wp2_with fail
  refine (scan_over _ (bs.take bs.length) _ bs.length base _ seed _ rfl (X2.out.take bs.length) (by rw [List.length_take]; omega) (fun h => by cases h) e5 (by omega) (by omega) h2).mono ?_
  rintro e w3 ⟨p, yp, hp, rfl, hb3⟩
  have hp' : p = ⟨cnt, bs.length, nx, sd⟩ ∧ yp = 1 := by rw [HE.out] at hp; rw [HT.out]; exact again_front h1 h2 HST.out hp
  rw [hp'.1, hp'.2, scVal_mk]
  clear hp' hp
  have U3 := Lib.hid (heap_alloc_new w3 (.cells (scCells ⟨cnt, bs.length, nx, sd⟩ 1) 57))
  have b3 := below_trans hb3 (below_alloc w3 (.cells (scCells ⟨cnt, bs.length, nx, sd⟩ 1) 57))
  have B3 := Lib.hid (below_trans BX.out b3)
  have X3 := Lib.hid (X2.out.below b3)
  have R3 := Lib.hid ((b3.block w2.heap.size (heap_lt R.out)).trans R.out)
  clear c0 c1 c2 c3 c4 hb3 b3 R X2 BX
  rw [scCells_mk] at X3 R3 B3 U3
  obtain ⟨x3, hx3⟩ : ∃ x3, w3.alloc (.cells #[.int .i64 cnt, .int .i64 bs.length, .int .i64 nx, .int .u32 (bv sd), .int .i64 1] 57) = x3 := ⟨_, rfl⟩
  rw [hx3] at B3 R3 U3 X3
  go_wp2_with fail
  (first | rw [hx3] | skip)
  clear hx3
  have CC := Lib.hid (show CellsAll [(⟨w2.heap.size, 1, none⟩, .int .i64 bs.length), (⟨w2.heap.size, 2, none⟩, .int .i64 nx), (⟨w2.heap.size, 3, none⟩, .int .u32 (bv sd))] x3 from cells_three R3.out)
  have g0 : ∀ p : In (CellsAll [(⟨w2.heap.size, 1, none⟩, .int .i64 bs.length), (⟨w2.heap.size, 2, none⟩, .int .i64 nx), (⟨w2.heap.size, 3, none⟩, .int .u32 (bv sd))]), p.w.cell? ⟨w2.heap.size, 1, none⟩ = some (.int .i64 bs.length) := fun p => p.h.get 0 rfl
  have g1 : ∀ p : In (CellsAll [(⟨w2.heap.size, 1, none⟩, .int .i64 bs.length), (⟨w2.heap.size, 2, none⟩, .int .i64 nx), (⟨w2.heap.size, 3, none⟩, .int .u32 (bv sd))]), p.w.cell? ⟨w2.heap.size, 2, none⟩ = some (.int .i64 nx) := fun p => p.h.get 1 rfl
  have g2 : ∀ p : In (CellsAll [(⟨w2.heap.size, 1, none⟩, .int .i64 bs.length), (⟨w2.heap.size, 2, none⟩, .int .i64 nx), (⟨w2.heap.size, 3, none⟩, .int .u32 (bv sd))]), p.w.cell? ⟨w2.heap.size, 3, none⟩ = some (.int .u32 (bv sd)) := fun p => p.h.get 2 rfl
  go_wp2_with fail
  refine wp_region_fork [0, 1, 2, 3, 4, 5, 6, 7] 8 9 [9, 10] [8, 10] (CellsAll [(⟨w2.heap.size, 1, none⟩, .int .i64 bs.length), (⟨w2.heap.size, 2, none⟩, .int .i64 nx), (⟨w2.heap.size, 3, none⟩, .int .u32 (bv sd))]) (by kernel_rfl) (by kernel_rfl) (by intro c a d v w h; cases d <;> exact h) (CC.out.on (below_drew _)) ?_
  intro hne
  simp only [pick, List.map_cons, List.map_nil, List.getD_cons_zero, List.getD_cons_succ]
  repeat (go_big_quiet_step (fail))
  refine wpQuiet_nil ?_
  refine ⟨?_, ?_⟩
  · refine wpMix_act rfl ?_ rfl
    go_wp2_with fail
    refine (scan_over _ (bs.drop bs.length) _ _ nx _ sd _ rfl (fun i hi => by rw [List.length_drop] at hi; omega) (by rw [List.length_drop]; omega) (fun h => by cases h) (by omega) (by omega) (by omega) e3).mono ?_
    rintro e x4 ⟨q, yq, hq, rfl, hb4⟩
    have hq' : q.count = 0 ∧ yq = y0 := by rw [HE.out, HN.out, HSD.out] at hq; rw [HY.out]; exact again_behind h1 HST.out hq
    obtain ⟨hq1, hq2⟩ := hq'
    rw [hq2]
    clear hq hq2
    have hq3 : (q.count : Int) = 0 := by omega
    unfold scVal
    rw [hq3]
    clear hq1 hq3
    have b4 := below_trans (below_drew x3) hb4
    have bz := below_trans b4 (below_alloc x4 (.cells #[.int .i64 0, .int .i64 q.end_, .int .i64 q.next, .int .u32 (bv q.seed), .int .i64 y0] 57))
    have CX := Lib.hid (CC.out.on b4)
    have CF := Lib.hid (CC.out.on bz)
    have CZ := Lib.hid (CX.out.on (below_alloc x4 (.cells #[.int .i64 0, .int .i64 0, .int .i64 0, .int .u32 0, .int .i64 0] 57)))
    have Z5 := Lib.hid (heap_alloc_new x4 (.cells #[.int .i64 0, .int .i64 q.end_, .int .i64 q.next, .int .u32 (bv q.seed), .int .i64 y0] 57))
    have R5 := Lib.hid ((bz.block w2.heap.size (heap_lt R3.out)).trans R3.out)
    have U5 := Lib.hid ((bz.block w3.heap.size (heap_lt U3.out)).trans U3.out)
    have B5 := Lib.hid (below_trans B3.out bz)
    have X5 := Lib.hid (X3.out.below bz)
    have HZ := heap_alloc_new x4 (.cells #[.int .i64 0, .int .i64 0, .int .i64 0, .int .u32 0, .int .i64 0] 57)
    have z0 := cell_of_row _ _ 0 _ _ _ HZ
    have fz0 := frozen_of_row _ _ 0 _ _ HZ
    have z1 := cell_of_row _ _ 1 _ _ _ HZ
    have fz1 := frozen_of_row _ _ 1 _ _ HZ
    have z2 := cell_of_row _ _ 2 _ _ _ HZ
    have fz2 := frozen_of_row _ _ 2 _ _ HZ
    have z3 := cell_of_row _ _ 3 _ _ _ HZ
    have fz3 := frozen_of_row _ _ 3 _ _ HZ
    have z4 := cell_of_row _ _ 4 _ _ _ HZ
    have fz4 := frozen_of_row _ _ 4 _ _ HZ
    clear HZ bz b4 hb4
    go_wp2_with fail
    refine ⟨⟨⟨_, CX.out⟩, rfl⟩, ?_⟩
    refine wpMix_act rfl ?_ rfl
    go_wp2_with fail
    refine ⟨⟨⟨_, CZ.out⟩, rfl⟩, ?_⟩
    refine wpMix_act rfl ?_ rfl
    go_wp2_with fail
    refine ⟨⟨⟨_, CF.out⟩, rfl⟩, ?_⟩
    refine wpMix_nil ?_
    clear hne z0 fz0 z1 fz1 z2 fz2 z3 fz3 z4 fz4 CX CZ CF CC g0 g1 g2 R3 U3 B3 X3
    obtain ⟨x5, hx5⟩ : ∃ x5, x4.alloc (.cells #[.int .i64 0, .int .i64 q.end_, .int .i64 q.next, .int .u32 (bv q.seed), .int .i64 y0] 57) = x5 := ⟨_, rfl⟩
    rw [hx5] at B5 R5 U5 Z5 X5
    (first | rw [hx5] | skip)
    clear hx5
    have CC := Lib.hid (show CellsAll [(⟨w2.heap.size, 0, none⟩, .int .i64 cnt), (⟨w2.heap.size, 1, none⟩, .int .i64 bs.length), (⟨w2.heap.size, 2, none⟩, .int .i64 nx), (⟨w2.heap.size, 3, none⟩, .int .u32 (bv sd)), (⟨w2.heap.size, 4, none⟩, .int .i64 y0), (⟨w3.heap.size, 0, none⟩, .int .i64 cnt), (⟨w3.heap.size, 1, none⟩, .int .i64 bs.length), (⟨w3.heap.size, 2, none⟩, .int .i64 nx), (⟨w3.heap.size, 3, none⟩, .int .u32 (bv sd)), (⟨w3.heap.size, 4, none⟩, .int .i64 1), (⟨x4.heap.size, 0, none⟩, .int .i64 0), (⟨x4.heap.size, 4, none⟩, .int .i64 y0)] x5 from cells_twelve R5.out U5.out Z5.out)
    clear R5 U5 Z5
    have g0 : ∀ p : In (CellsAll [(⟨w2.heap.size, 0, none⟩, .int .i64 cnt), (⟨w2.heap.size, 1, none⟩, .int .i64 bs.length), (⟨w2.heap.size, 2, none⟩, .int .i64 nx), (⟨w2.heap.size, 3, none⟩, .int .u32 (bv sd)), (⟨w2.heap.size, 4, none⟩, .int .i64 y0), (⟨w3.heap.size, 0, none⟩, .int .i64 cnt), (⟨w3.heap.size, 1, none⟩, .int .i64 bs.length), (⟨w3.heap.size, 2, none⟩, .int .i64 nx), (⟨w3.heap.size, 3, none⟩, .int .u32 (bv sd)), (⟨w3.heap.size, 4, none⟩, .int .i64 1), (⟨x4.heap.size, 0, none⟩, .int .i64 0), (⟨x4.heap.size, 4, none⟩, .int .i64 y0)]), p.w.cell? ⟨w2.heap.size, 0, none⟩ = some (.int .i64 cnt) := fun p => p.h.get 0 rfl
    have g1 : ∀ p : In (CellsAll [(⟨w2.heap.size, 0, none⟩, .int .i64 cnt), (⟨w2.heap.size, 1, none⟩, .int .i64 bs.length), (⟨w2.heap.size, 2, none⟩, .int .i64 nx), (⟨w2.heap.size, 3, none⟩, .int .u32 (bv sd)), (⟨w2.heap.size, 4, none⟩, .int .i64 y0), (⟨w3.heap.size, 0, none⟩, .int .i64 cnt), (⟨w3.heap.size, 1, none⟩, .int .i64 bs.length), (⟨w3.heap.size, 2, none⟩, .int .i64 nx), (⟨w3.heap.size, 3, none⟩, .int .u32 (bv sd)), (⟨w3.heap.size, 4, none⟩, .int .i64 1), (⟨x4.heap.size, 0, none⟩, .int .i64 0), (⟨x4.heap.size, 4, none⟩, .int .i64 y0)]), p.w.cell? ⟨w2.heap.size, 1, none⟩ = some (.int .i64 bs.length) := fun p => p.h.get 1 rfl
    have g2 : ∀ p : In (CellsAll [(⟨w2.heap.size, 0, none⟩, .int .i64 cnt), (⟨w2.heap.size, 1, none⟩, .int .i64 bs.length), (⟨w2.heap.size, 2, none⟩, .int .i64 nx), (⟨w2.heap.size, 3, none⟩, .int .u32 (bv sd)), (⟨w2.heap.size, 4, none⟩, .int .i64 y0), (⟨w3.heap.size, 0, none⟩, .int .i64 cnt), (⟨w3.heap.size, 1, none⟩, .int .i64 bs.length), (⟨w3.heap.size, 2, none⟩, .int .i64 nx), (⟨w3.heap.size, 3, none⟩, .int .u32 (bv sd)), (⟨w3.heap.size, 4, none⟩, .int .i64 1), (⟨x4.heap.size, 0, none⟩, .int .i64 0), (⟨x4.heap.size, 4, none⟩, .int .i64 y0)]), p.w.cell? ⟨w2.heap.size, 2, none⟩ = some (.int .i64 nx) := fun p => p.h.get 2 rfl
    have g3 : ∀ p : In (CellsAll [(⟨w2.heap.size, 0, none⟩, .int .i64 cnt), (⟨w2.heap.size, 1, none⟩, .int .i64 bs.length), (⟨w2.heap.size, 2, none⟩, .int .i64 nx), (⟨w2.heap.size, 3, none⟩, .int .u32 (bv sd)), (⟨w2.heap.size, 4, none⟩, .int .i64 y0), (⟨w3.heap.size, 0, none⟩, .int .i64 cnt), (⟨w3.heap.size, 1, none⟩, .int .i64 bs.length), (⟨w3.heap.size, 2, none⟩, .int .i64 nx), (⟨w3.heap.size, 3, none⟩, .int .u32 (bv sd)), (⟨w3.heap.size, 4, none⟩, .int .i64 1), (⟨x4.heap.size, 0, none⟩, .int .i64 0), (⟨x4.heap.size, 4, none⟩, .int .i64 y0)]), p.w.cell? ⟨w2.heap.size, 3, none⟩ = some (.int .u32 (bv sd)) := fun p => p.h.get 3 rfl
    have g4 : ∀ p : In (CellsAll [(⟨w2.heap.size, 0, none⟩, .int .i64 cnt), (⟨w2.heap.size, 1, none⟩, .int .i64 bs.length), (⟨w2.heap.size, 2, none⟩, .int .i64 nx), (⟨w2.heap.size, 3, none⟩, .int .u32 (bv sd)), (⟨w2.heap.size, 4, none⟩, .int .i64 y0), (⟨w3.heap.size, 0, none⟩, .int .i64 cnt), (⟨w3.heap.size, 1, none⟩, .int .i64 bs.length), (⟨w3.heap.size, 2, none⟩, .int .i64 nx), (⟨w3.heap.size, 3, none⟩, .int .u32 (bv sd)), (⟨w3.heap.size, 4, none⟩, .int .i64 1), (⟨x4.heap.size, 0, none⟩, .int .i64 0), (⟨x4.heap.size, 4, none⟩, .int .i64 y0)]), p.w.cell? ⟨w2.heap.size, 4, none⟩ = some (.int .i64 y0) := fun p => p.h.get 4 rfl
    have g5 : ∀ p : In (CellsAll [(⟨w2.heap.size, 0, none⟩, .int .i64 cnt), (⟨w2.heap.size, 1, none⟩, .int .i64 bs.length), (⟨w2.heap.size, 2, none⟩, .int .i64 nx), (⟨w2.heap.size, 3, none⟩, .int .u32 (bv sd)), (⟨w2.heap.size, 4, none⟩, .int .i64 y0), (⟨w3.heap.size, 0, none⟩, .int .i64 cnt), (⟨w3.heap.size, 1, none⟩, .int .i64 bs.length), (⟨w3.heap.size, 2, none⟩, .int .i64 nx), (⟨w3.heap.size, 3, none⟩, .int .u32 (bv sd)), (⟨w3.heap.size, 4, none⟩, .int .i64 1), (⟨x4.heap.size, 0, none⟩, .int .i64 0), (⟨x4.heap.size, 4, none⟩, .int .i64 y0)]), p.w.cell? ⟨w3.heap.size, 0, none⟩ = some (.int .i64 cnt) := fun p => p.h.get 5 rfl
    have g6 : ∀ p : In (CellsAll [(⟨w2.heap.size, 0, none⟩, .int .i64 cnt), (⟨w2.heap.size, 1, none⟩, .int .i64 bs.length), (⟨w2.heap.size, 2, none⟩, .int .i64 nx), (⟨w2.heap.size, 3, none⟩, .int .u32 (bv sd)), (⟨w2.heap.size, 4, none⟩, .int .i64 y0), (⟨w3.heap.size, 0, none⟩, .int .i64 cnt), (⟨w3.heap.size, 1, none⟩, .int .i64 bs.length), (⟨w3.heap.size, 2, none⟩, .int .i64 nx), (⟨w3.heap.size, 3, none⟩, .int .u32 (bv sd)), (⟨w3.heap.size, 4, none⟩, .int .i64 1), (⟨x4.heap.size, 0, none⟩, .int .i64 0), (⟨x4.heap.size, 4, none⟩, .int .i64 y0)]), p.w.cell? ⟨w3.heap.size, 1, none⟩ = some (.int .i64 bs.length) := fun p => p.h.get 6 rfl
    have g7 : ∀ p : In (CellsAll [(⟨w2.heap.size, 0, none⟩, .int .i64 cnt), (⟨w2.heap.size, 1, none⟩, .int .i64 bs.length), (⟨w2.heap.size, 2, none⟩, .int .i64 nx), (⟨w2.heap.size, 3, none⟩, .int .u32 (bv sd)), (⟨w2.heap.size, 4, none⟩, .int .i64 y0), (⟨w3.heap.size, 0, none⟩, .int .i64 cnt), (⟨w3.heap.size, 1, none⟩, .int .i64 bs.length), (⟨w3.heap.size, 2, none⟩, .int .i64 nx), (⟨w3.heap.size, 3, none⟩, .int .u32 (bv sd)), (⟨w3.heap.size, 4, none⟩, .int .i64 1), (⟨x4.heap.size, 0, none⟩, .int .i64 0), (⟨x4.heap.size, 4, none⟩, .int .i64 y0)]), p.w.cell? ⟨w3.heap.size, 2, none⟩ = some (.int .i64 nx) := fun p => p.h.get 7 rfl
    have g8 : ∀ p : In (CellsAll [(⟨w2.heap.size, 0, none⟩, .int .i64 cnt), (⟨w2.heap.size, 1, none⟩, .int .i64 bs.length), (⟨w2.heap.size, 2, none⟩, .int .i64 nx), (⟨w2.heap.size, 3, none⟩, .int .u32 (bv sd)), (⟨w2.heap.size, 4, none⟩, .int .i64 y0), (⟨w3.heap.size, 0, none⟩, .int .i64 cnt), (⟨w3.heap.size, 1, none⟩, .int .i64 bs.length), (⟨w3.heap.size, 2, none⟩, .int .i64 nx), (⟨w3.heap.size, 3, none⟩, .int .u32 (bv sd)), (⟨w3.heap.size, 4, none⟩, .int .i64 1), (⟨x4.heap.size, 0, none⟩, .int .i64 0), (⟨x4.heap.size, 4, none⟩, .int .i64 y0)]), p.w.cell? ⟨w3.heap.size, 3, none⟩ = some (.int .u32 (bv sd)) := fun p => p.h.get 8 rfl
    have g9 : ∀ p : In (CellsAll [(⟨w2.heap.size, 0, none⟩, .int .i64 cnt), (⟨w2.heap.size, 1, none⟩, .int .i64 bs.length), (⟨w2.heap.size, 2, none⟩, .int .i64 nx), (⟨w2.heap.size, 3, none⟩, .int .u32 (bv sd)), (⟨w2.heap.size, 4, none⟩, .int .i64 y0), (⟨w3.heap.size, 0, none⟩, .int .i64 cnt), (⟨w3.heap.size, 1, none⟩, .int .i64 bs.length), (⟨w3.heap.size, 2, none⟩, .int .i64 nx), (⟨w3.heap.size, 3, none⟩, .int .u32 (bv sd)), (⟨w3.heap.size, 4, none⟩, .int .i64 1), (⟨x4.heap.size, 0, none⟩, .int .i64 0), (⟨x4.heap.size, 4, none⟩, .int .i64 y0)]), p.w.cell? ⟨w3.heap.size, 4, none⟩ = some (.int .i64 1) := fun p => p.h.get 9 rfl
    have g10 : ∀ p : In (CellsAll [(⟨w2.heap.size, 0, none⟩, .int .i64 cnt), (⟨w2.heap.size, 1, none⟩, .int .i64 bs.length), (⟨w2.heap.size, 2, none⟩, .int .i64 nx), (⟨w2.heap.size, 3, none⟩, .int .u32 (bv sd)), (⟨w2.heap.size, 4, none⟩, .int .i64 y0), (⟨w3.heap.size, 0, none⟩, .int .i64 cnt), (⟨w3.heap.size, 1, none⟩, .int .i64 bs.length), (⟨w3.heap.size, 2, none⟩, .int .i64 nx), (⟨w3.heap.size, 3, none⟩, .int .u32 (bv sd)), (⟨w3.heap.size, 4, none⟩, .int .i64 1), (⟨x4.heap.size, 0, none⟩, .int .i64 0), (⟨x4.heap.size, 4, none⟩, .int .i64 y0)]), p.w.cell? ⟨x4.heap.size, 0, none⟩ = some (.int .i64 0) := fun p => p.h.get 10 rfl
    have g11 : ∀ p : In (CellsAll [(⟨w2.heap.size, 0, none⟩, .int .i64 cnt), (⟨w2.heap.size, 1, none⟩, .int .i64 bs.length), (⟨w2.heap.size, 2, none⟩, .int .i64 nx), (⟨w2.heap.size, 3, none⟩, .int .u32 (bv sd)), (⟨w2.heap.size, 4, none⟩, .int .i64 y0), (⟨w3.heap.size, 0, none⟩, .int .i64 cnt), (⟨w3.heap.size, 1, none⟩, .int .i64 bs.length), (⟨w3.heap.size, 2, none⟩, .int .i64 nx), (⟨w3.heap.size, 3, none⟩, .int .u32 (bv sd)), (⟨w3.heap.size, 4, none⟩, .int .i64 1), (⟨x4.heap.size, 0, none⟩, .int .i64 0), (⟨x4.heap.size, 4, none⟩, .int .i64 y0)]), p.w.cell? ⟨x4.heap.size, 4, none⟩ = some (.int .i64 y0) := fun p => p.h.get 11 rfl
    go_wp2_with fail
    refine wp_region_mixed [0, 1, 2, 3, 4, 5, 6, 7, 8, 9, 10, 11, 12, 13, 14, 15, 16, 17, 18, 19, 20, 21, 22, 23, 24, 25, 26, 27, 28, 29, 30, 31, 32, 33, 34, 35, 36, 37, 38, 39, 40, 41, 42, 43, 44, 45, 46, 47, 48, 49, 50, 51, 52, 53] (CellsAll [(⟨w2.heap.size, 0, none⟩, .int .i64 cnt), (⟨w2.heap.size, 1, none⟩, .int .i64 bs.length), (⟨w2.heap.size, 2, none⟩, .int .i64 nx), (⟨w2.heap.size, 3, none⟩, .int .u32 (bv sd)), (⟨w2.heap.size, 4, none⟩, .int .i64 y0), (⟨w3.heap.size, 0, none⟩, .int .i64 cnt), (⟨w3.heap.size, 1, none⟩, .int .i64 bs.length), (⟨w3.heap.size, 2, none⟩, .int .i64 nx), (⟨w3.heap.size, 3, none⟩, .int .u32 (bv sd)), (⟨w3.heap.size, 4, none⟩, .int .i64 1), (⟨x4.heap.size, 0, none⟩, .int .i64 0), (⟨x4.heap.size, 4, none⟩, .int .i64 y0)]) (by kernel_rfl) (by kernel_rfl) (by intro c a d v w h; cases d <;> exact h) (CC.out.on (below_drew _)) ?_
    intro hne
    simp only [pick, List.map_cons, List.map_nil, List.getD_cons_zero, List.getD_cons_succ]
    refine wpMix_reads 49 _ (by kernel_rfl) ?_
    simp only [List.take_succ_cons, List.take_zero, List.drop_succ_cons, List.drop_zero]
    repeat (go_big_quiet_step (fail))
    refine wpQuiet_nil ?_
    refine wpMix_act rfl ?_ rfl
    go_wp2_with fail
    refine (scan_records _ bs _ bs.length base _ 1073741824 seed _ rfl (X5.out.below (below_drew x5)) rfl (fun h => by cases h) (by omega) h2).mono ?_
    rintro e w5 ⟨lv, l, hr, rfl, hrow, hb5⟩
    have hlen : l.length = cnt := by rw [HC.out]; exact again_recs h1 h2 hl HST.out hr
    obtain ⟨a7, c7, rfl⟩ := row_slice hrow.row
    rw [hlen]
    clear hlen hr hrow
    have CX := Lib.hid (CC.out.on (below_trans (below_drew x5) hb5))
    go_wp2_with fail
    refine ⟨⟨⟨_, CX.out⟩, rfl⟩, ?_⟩
    refine wpMix_reads 4 _ (by kernel_rfl) ?_
    simp only [List.take_succ_cons, List.take_zero, List.drop_succ_cons, List.drop_zero]
    repeat (go_big_quiet_step (fail))
    refine wpQuiet_nil ?_
    refine wpMix_nil ?_
    clear hne g0 g1 g2 g3 g4 g5 g6 g7 g8 g9 g10 g11
    go_wp2_with fail
    go_ret
    exact ⟨rfl, below_trans B5.out (below_trans (below_drew x5) hb5)⟩
  · have bz : Below x3.heap.size x3 (x3.alloc (.cells #[.int .i64 0, .int .i64 0, .int .i64 0, .int .u32 0, .int .i64 0] 57)).drew := below_trans (below_alloc x3 (.cells #[.int .i64 0, .int .i64 0, .int .i64 0, .int .u32 0, .int .i64 0] 57)) (below_drew _)
    have BZ := Lib.hid bz
    have CZ := Lib.hid (CC.out.on bz)
    have HZ : Hid (((x3.alloc (.cells #[.int .i64 0, .int .i64 0, .int .i64 0, .int .u32 0, .int .i64 0] 57)).drew).heap[x3.heap.size]? = some (.cells #[.int .i64 0, .int .i64 0, .int .i64 0, .int .u32 0, .int .i64 0] 57 (0, 0))) := Lib.hid (heap_alloc_new x3 (.cells #[.int .i64 0, .int .i64 0, .int .i64 0, .int .u32 0, .int .i64 0] 57))
    clear bz
    refine wpMix_act rfl ?_ rfl
    go_wp2_with fail
    refine ⟨⟨⟨_, CZ.out⟩, rfl⟩, ?_⟩
    refine wpMix_act rfl ?_ rfl
    go_wp2_with fail
    refine (scan_over _ (bs.drop bs.length) _ _ nx _ sd _ rfl (fun i hi => by rw [List.length_drop] at hi; omega) (by rw [List.length_drop]; omega) (fun h => by cases h) (by omega) (by omega) (by omega) e3).mono ?_
    rintro e x4 ⟨q, yq, hq, rfl, hb4⟩
    have hq' : q.count = 0 ∧ yq = y0 := by rw [HE.out, HN.out, HSD.out] at hq; rw [HY.out]; exact again_behind h1 HST.out hq
    obtain ⟨hq1, hq2⟩ := hq'
    rw [hq2]
    clear hq hq2
    have hq3 : (q.count : Int) = 0 := by omega
    unfold scVal
    rw [hq3]
    clear hq1 hq3
    have HY := (hb4.block x3.heap.size (heap_lt HZ.out)).trans HZ.out
    have b4 := below_trans BZ.out hb4
    have CX := Lib.hid (CC.out.on b4)
    obtain ⟨p1, p2⟩ := five_put HY (.int .i64 0) (.int .i64 q.end_) (.int .i64 q.next) (.int .u32 (bv q.seed)) (.int .i64 y0)
    have bz : Below x3.heap.size x3 _ := p2.below b4 (Nat.le_refl _) b4.size
    have CF := Lib.hid (CC.out.on bz)
    have Z5 := Lib.hid p1
    have R5 := Lib.hid ((bz.block w2.heap.size (heap_lt R3.out)).trans R3.out)
    have U5 := Lib.hid ((bz.block w3.heap.size (heap_lt U3.out)).trans U3.out)
    have B5 := Lib.hid (below_trans B3.out bz)
    have X5 := Lib.hid (X3.out.below bz)
    have z0 := cell_of_row _ _ 0 _ _ _ HY
    have fz0 := frozen_of_row _ _ 0 _ _ HY
    have z1 := cell_of_row _ _ 1 _ _ _ HY
    have fz1 := frozen_of_row _ _ 1 _ _ HY
    have z2 := cell_of_row _ _ 2 _ _ _ HY
    have fz2 := frozen_of_row _ _ 2 _ _ HY
    have z3 := cell_of_row _ _ 3 _ _ _ HY
    have fz3 := frozen_of_row _ _ 3 _ _ HY
    have z4 := cell_of_row _ _ 4 _ _ _ HY
    have fz4 := frozen_of_row _ _ 4 _ _ HY
    clear HY p1 p2 bz b4 hb4
    go_wp2_with fail
    refine ⟨⟨⟨_, CX.out⟩, rfl⟩, ?_⟩
    refine wpMix_act rfl ?_ rfl
    go_wp2_with fail
    refine ⟨⟨⟨_, CF.out⟩, rfl⟩, ?_⟩
    refine wpMix_nil ?_
    clear hne z0 fz0 z1 fz1 z2 fz2 z3 fz3 z4 fz4 CX CZ CF CC g0 g1 g2 R3 U3 B3 BZ HZ X3
    obtain ⟨x5, hx5⟩ : ∃ x5, (((((x4.setCell ⟨x3.heap.size, 0, none⟩ (.int .i64 0)).setCell ⟨x3.heap.size, 1, none⟩ (.int .i64 q.end_)).setCell ⟨x3.heap.size, 2, none⟩ (.int .i64 q.next)).setCell ⟨x3.heap.size, 3, none⟩ (.int .u32 (bv q.seed))).setCell ⟨x3.heap.size, 4, none⟩ (.int .i64 y0)) = x5 := ⟨_, rfl⟩
    rw [hx5] at B5 R5 U5 Z5 X5
    (first | rw [hx5] | skip)
    clear hx5
    have CC := Lib.hid (show CellsAll [(⟨w2.heap.size, 0, none⟩, .int .i64 cnt), (⟨w2.heap.size, 1, none⟩, .int .i64 bs.length), (⟨w2.heap.size, 2, none⟩, .int .i64 nx), (⟨w2.heap.size, 3, none⟩, .int .u32 (bv sd)), (⟨w2.heap.size, 4, none⟩, .int .i64 y0), (⟨w3.heap.size, 0, none⟩, .int .i64 cnt), (⟨w3.heap.size, 1, none⟩, .int .i64 bs.length), (⟨w3.heap.size, 2, none⟩, .int .i64 nx), (⟨w3.heap.size, 3, none⟩, .int .u32 (bv sd)), (⟨w3.heap.size, 4, none⟩, .int .i64 1), (⟨x3.heap.size, 0, none⟩, .int .i64 0), (⟨x3.heap.size, 4, none⟩, .int .i64 y0)] x5 from cells_twelve R5.out U5.out Z5.out)
    clear R5 U5 Z5
    have g0 : ∀ p : In (CellsAll [(⟨w2.heap.size, 0, none⟩, .int .i64 cnt), (⟨w2.heap.size, 1, none⟩, .int .i64 bs.length), (⟨w2.heap.size, 2, none⟩, .int .i64 nx), (⟨w2.heap.size, 3, none⟩, .int .u32 (bv sd)), (⟨w2.heap.size, 4, none⟩, .int .i64 y0), (⟨w3.heap.size, 0, none⟩, .int .i64 cnt), (⟨w3.heap.size, 1, none⟩, .int .i64 bs.length), (⟨w3.heap.size, 2, none⟩, .int .i64 nx), (⟨w3.heap.size, 3, none⟩, .int .u32 (bv sd)), (⟨w3.heap.size, 4, none⟩, .int .i64 1), (⟨x3.heap.size, 0, none⟩, .int .i64 0), (⟨x3.heap.size, 4, none⟩, .int .i64 y0)]), p.w.cell? ⟨w2.heap.size, 0, none⟩ = some (.int .i64 cnt) := fun p => p.h.get 0 rfl
    have g1 : ∀ p : In (CellsAll [(⟨w2.heap.size, 0, none⟩, .int .i64 cnt), (⟨w2.heap.size, 1, none⟩, .int .i64 bs.length), (⟨w2.heap.size, 2, none⟩, .int .i64 nx), (⟨w2.heap.size, 3, none⟩, .int .u32 (bv sd)), (⟨w2.heap.size, 4, none⟩, .int .i64 y0), (⟨w3.heap.size, 0, none⟩, .int .i64 cnt), (⟨w3.heap.size, 1, none⟩, .int .i64 bs.length), (⟨w3.heap.size, 2, none⟩, .int .i64 nx), (⟨w3.heap.size, 3, none⟩, .int .u32 (bv sd)), (⟨w3.heap.size, 4, none⟩, .int .i64 1), (⟨x3.heap.size, 0, none⟩, .int .i64 0), (⟨x3.heap.size, 4, none⟩, .int .i64 y0)]), p.w.cell? ⟨w2.heap.size, 1, none⟩ = some (.int .i64 bs.length) := fun p => p.h.get 1 rfl
    have g2 : ∀ p : In (CellsAll [(⟨w2.heap.size, 0, none⟩, .int .i64 cnt), (⟨w2.heap.size, 1, none⟩, .int .i64 bs.length), (⟨w2.heap.size, 2, none⟩, .int .i64 nx), (⟨w2.heap.size, 3, none⟩, .int .u32 (bv sd)), (⟨w2.heap.size, 4, none⟩, .int .i64 y0), (⟨w3.heap.size, 0, none⟩, .int .i64 cnt), (⟨w3.heap.size, 1, none⟩, .int .i64 bs.length), (⟨w3.heap.size, 2, none⟩, .int .i64 nx), (⟨w3.heap.size, 3, none⟩, .int .u32 (bv sd)), (⟨w3.heap.size, 4, none⟩, .int .i64 1), (⟨x3.heap.size, 0, none⟩, .int .i64 0), (⟨x3.heap.size, 4, none⟩, .int .i64 y0)]), p.w.cell? ⟨w2.heap.size, 2, none⟩ = some (.int .i64 nx) := fun p => p.h.get 2 rfl
    have g3 : ∀ p : In (CellsAll [(⟨w2.heap.size, 0, none⟩, .int .i64 cnt), (⟨w2.heap.size, 1, none⟩, .int .i64 bs.length), (⟨w2.heap.size, 2, none⟩, .int .i64 nx), (⟨w2.heap.size, 3, none⟩, .int .u32 (bv sd)), (⟨w2.heap.size, 4, none⟩, .int .i64 y0), (⟨w3.heap.size, 0, none⟩, .int .i64 cnt), (⟨w3.heap.size, 1, none⟩, .int .i64 bs.length), (⟨w3.heap.size, 2, none⟩, .int .i64 nx), (⟨w3.heap.size, 3, none⟩, .int .u32 (bv sd)), (⟨w3.heap.size, 4, none⟩, .int .i64 1), (⟨x3.heap.size, 0, none⟩, .int .i64 0), (⟨x3.heap.size, 4, none⟩, .int .i64 y0)]), p.w.cell? ⟨w2.heap.size, 3, none⟩ = some (.int .u32 (bv sd)) := fun p => p.h.get 3 rfl
    have g4 : ∀ p : In (CellsAll [(⟨w2.heap.size, 0, none⟩, .int .i64 cnt), (⟨w2.heap.size, 1, none⟩, .int .i64 bs.length), (⟨w2.heap.size, 2, none⟩, .int .i64 nx), (⟨w2.heap.size, 3, none⟩, .int .u32 (bv sd)), (⟨w2.heap.size, 4, none⟩, .int .i64 y0), (⟨w3.heap.size, 0, none⟩, .int .i64 cnt), (⟨w3.heap.size, 1, none⟩, .int .i64 bs.length), (⟨w3.heap.size, 2, none⟩, .int .i64 nx), (⟨w3.heap.size, 3, none⟩, .int .u32 (bv sd)), (⟨w3.heap.size, 4, none⟩, .int .i64 1), (⟨x3.heap.size, 0, none⟩, .int .i64 0), (⟨x3.heap.size, 4, none⟩, .int .i64 y0)]), p.w.cell? ⟨w2.heap.size, 4, none⟩ = some (.int .i64 y0) := fun p => p.h.get 4 rfl
    have g5 : ∀ p : In (CellsAll [(⟨w2.heap.size, 0, none⟩, .int .i64 cnt), (⟨w2.heap.size, 1, none⟩, .int .i64 bs.length), (⟨w2.heap.size, 2, none⟩, .int .i64 nx), (⟨w2.heap.size, 3, none⟩, .int .u32 (bv sd)), (⟨w2.heap.size, 4, none⟩, .int .i64 y0), (⟨w3.heap.size, 0, none⟩, .int .i64 cnt), (⟨w3.heap.size, 1, none⟩, .int .i64 bs.length), (⟨w3.heap.size, 2, none⟩, .int .i64 nx), (⟨w3.heap.size, 3, none⟩, .int .u32 (bv sd)), (⟨w3.heap.size, 4, none⟩, .int .i64 1), (⟨x3.heap.size, 0, none⟩, .int .i64 0), (⟨x3.heap.size, 4, none⟩, .int .i64 y0)]), p.w.cell? ⟨w3.heap.size, 0, none⟩ = some (.int .i64 cnt) := fun p => p.h.get 5 rfl
    have g6 : ∀ p : In (CellsAll [(⟨w2.heap.size, 0, none⟩, .int .i64 cnt), (⟨w2.heap.size, 1, none⟩, .int .i64 bs.length), (⟨w2.heap.size, 2, none⟩, .int .i64 nx), (⟨w2.heap.size, 3, none⟩, .int .u32 (bv sd)), (⟨w2.heap.size, 4, none⟩, .int .i64 y0), (⟨w3.heap.size, 0, none⟩, .int .i64 cnt), (⟨w3.heap.size, 1, none⟩, .int .i64 bs.length), (⟨w3.heap.size, 2, none⟩, .int .i64 nx), (⟨w3.heap.size, 3, none⟩, .int .u32 (bv sd)), (⟨w3.heap.size, 4, none⟩, .int .i64 1), (⟨x3.heap.size, 0, none⟩, .int .i64 0), (⟨x3.heap.size, 4, none⟩, .int .i64 y0)]), p.w.cell? ⟨w3.heap.size, 1, none⟩ = some (.int .i64 bs.length) := fun p => p.h.get 6 rfl
    have g7 : ∀ p : In (CellsAll [(⟨w2.heap.size, 0, none⟩, .int .i64 cnt), (⟨w2.heap.size, 1, none⟩, .int .i64 bs.length), (⟨w2.heap.size, 2, none⟩, .int .i64 nx), (⟨w2.heap.size, 3, none⟩, .int .u32 (bv sd)), (⟨w2.heap.size, 4, none⟩, .int .i64 y0), (⟨w3.heap.size, 0, none⟩, .int .i64 cnt), (⟨w3.heap.size, 1, none⟩, .int .i64 bs.length), (⟨w3.heap.size, 2, none⟩, .int .i64 nx), (⟨w3.heap.size, 3, none⟩, .int .u32 (bv sd)), (⟨w3.heap.size, 4, none⟩, .int .i64 1), (⟨x3.heap.size, 0, none⟩, .int .i64 0), (⟨x3.heap.size, 4, none⟩, .int .i64 y0)]), p.w.cell? ⟨w3.heap.size, 2, none⟩ = some (.int .i64 nx) := fun p => p.h.get 7 rfl
    have g8 : ∀ p : In (CellsAll [(⟨w2.heap.size, 0, none⟩, .int .i64 cnt), (⟨w2.heap.size, 1, none⟩, .int .i64 bs.length), (⟨w2.heap.size, 2, none⟩, .int .i64 nx), (⟨w2.heap.size, 3, none⟩, .int .u32 (bv sd)), (⟨w2.heap.size, 4, none⟩, .int .i64 y0), (⟨w3.heap.size, 0, none⟩, .int .i64 cnt), (⟨w3.heap.size, 1, none⟩, .int .i64 bs.length), (⟨w3.heap.size, 2, none⟩, .int .i64 nx), (⟨w3.heap.size, 3, none⟩, .int .u32 (bv sd)), (⟨w3.heap.size, 4, none⟩, .int .i64 1), (⟨x3.heap.size, 0, none⟩, .int .i64 0), (⟨x3.heap.size, 4, none⟩, .int .i64 y0)]), p.w.cell? ⟨w3.heap.size, 3, none⟩ = some (.int .u32 (bv sd)) := fun p => p.h.get 8 rfl
    have g9 : ∀ p : In (CellsAll [(⟨w2.heap.size, 0, none⟩, .int .i64 cnt), (⟨w2.heap.size, 1, none⟩, .int .i64 bs.length), (⟨w2.heap.size, 2, none⟩, .int .i64 nx), (⟨w2.heap.size, 3, none⟩, .int .u32 (bv sd)), (⟨w2.heap.size, 4, none⟩, .int .i64 y0), (⟨w3.heap.size, 0, none⟩, .int .i64 cnt), (⟨w3.heap.size, 1, none⟩, .int .i64 bs.length), (⟨w3.heap.size, 2, none⟩, .int .i64 nx), (⟨w3.heap.size, 3, none⟩, .int .u32 (bv sd)), (⟨w3.heap.size, 4, none⟩, .int .i64 1), (⟨x3.heap.size, 0, none⟩, .int .i64 0), (⟨x3.heap.size, 4, none⟩, .int .i64 y0)]), p.w.cell? ⟨w3.heap.size, 4, none⟩ = some (.int .i64 1) := fun p => p.h.get 9 rfl
    have g10 : ∀ p : In (CellsAll [(⟨w2.heap.size, 0, none⟩, .int .i64 cnt), (⟨w2.heap.size, 1, none⟩, .int .i64 bs.length), (⟨w2.heap.size, 2, none⟩, .int .i64 nx), (⟨w2.heap.size, 3, none⟩, .int .u32 (bv sd)), (⟨w2.heap.size, 4, none⟩, .int .i64 y0), (⟨w3.heap.size, 0, none⟩, .int .i64 cnt), (⟨w3.heap.size, 1, none⟩, .int .i64 bs.length), (⟨w3.heap.size, 2, none⟩, .int .i64 nx), (⟨w3.heap.size, 3, none⟩, .int .u32 (bv sd)), (⟨w3.heap.size, 4, none⟩, .int .i64 1), (⟨x3.heap.size, 0, none⟩, .int .i64 0), (⟨x3.heap.size, 4, none⟩, .int .i64 y0)]), p.w.cell? ⟨x3.heap.size, 0, none⟩ = some (.int .i64 0) := fun p => p.h.get 10 rfl
    have g11 : ∀ p : In (CellsAll [(⟨w2.heap.size, 0, none⟩, .int .i64 cnt), (⟨w2.heap.size, 1, none⟩, .int .i64 bs.length), (⟨w2.heap.size, 2, none⟩, .int .i64 nx), (⟨w2.heap.size, 3, none⟩, .int .u32 (bv sd)), (⟨w2.heap.size, 4, none⟩, .int .i64 y0), (⟨w3.heap.size, 0, none⟩, .int .i64 cnt), (⟨w3.heap.size, 1, none⟩, .int .i64 bs.length), (⟨w3.heap.size, 2, none⟩, .int .i64 nx), (⟨w3.heap.size, 3, none⟩, .int .u32 (bv sd)), (⟨w3.heap.size, 4, none⟩, .int .i64 1), (⟨x3.heap.size, 0, none⟩, .int .i64 0), (⟨x3.heap.size, 4, none⟩, .int .i64 y0)]), p.w.cell? ⟨x3.heap.size, 4, none⟩ = some (.int .i64 y0) := fun p => p.h.get 11 rfl
    go_wp2_with fail
    refine wp_region_mixed [0, 1, 2, 3, 4, 5, 6, 7, 8, 9, 10, 11, 12, 13, 14, 15, 16, 17, 18, 19, 20, 21, 22, 23, 24, 25, 26, 27, 28, 29, 30, 31, 32, 33, 34, 35, 36, 37, 38, 39, 40, 41, 42, 43, 44, 45, 46, 47, 48, 49, 50, 51, 52, 53] (CellsAll [(⟨w2.heap.size, 0, none⟩, .int .i64 cnt), (⟨w2.heap.size, 1, none⟩, .int .i64 bs.length), (⟨w2.heap.size, 2, none⟩, .int .i64 nx), (⟨w2.heap.size, 3, none⟩, .int .u32 (bv sd)), (⟨w2.heap.size, 4, none⟩, .int .i64 y0), (⟨w3.heap.size, 0, none⟩, .int .i64 cnt), (⟨w3.heap.size, 1, none⟩, .int .i64 bs.length), (⟨w3.heap.size, 2, none⟩, .int .i64 nx), (⟨w3.heap.size, 3, none⟩, .int .u32 (bv sd)), (⟨w3.heap.size, 4, none⟩, .int .i64 1), (⟨x3.heap.size, 0, none⟩, .int .i64 0), (⟨x3.heap.size, 4, none⟩, .int .i64 y0)]) (by kernel_rfl) (by kernel_rfl) (by intro c a d v w h; cases d <;> exact h) (CC.out.on (below_drew _)) ?_
    intro hne
    simp only [pick, List.map_cons, List.map_nil, List.getD_cons_zero, List.getD_cons_succ]
    refine wpMix_reads 49 _ (by kernel_rfl) ?_
    simp only [List.take_succ_cons, List.take_zero, List.drop_succ_cons, List.drop_zero]
    repeat (go_big_quiet_step (fail))
    refine wpQuiet_nil ?_
    refine wpMix_act rfl ?_ rfl
    go_wp2_with fail
    refine (scan_records _ bs _ bs.length base _ 1073741824 seed _ rfl (X5.out.below (below_drew x5)) rfl (fun h => by cases h) (by omega) h2).mono ?_
    rintro e w5 ⟨lv, l, hr, rfl, hrow, hb5⟩
    have hlen : l.length = cnt := by rw [HC.out]; exact again_recs h1 h2 hl HST.out hr
    obtain ⟨a7, c7, rfl⟩ := row_slice hrow.row
    rw [hlen]
    clear hlen hr hrow
    have CX := Lib.hid (CC.out.on (below_trans (below_drew x5) hb5))
    go_wp2_with fail
    refine ⟨⟨⟨_, CX.out⟩, rfl⟩, ?_⟩
    refine wpMix_reads 4 _ (by kernel_rfl) ?_
    simp only [List.take_succ_cons, List.take_zero, List.drop_succ_cons, List.drop_zero]
    repeat (go_big_quiet_step (fail))
    refine wpQuiet_nil ?_
    refine wpMix_nil ?_
    clear hne g0 g1 g2 g3 g4 g5 g6 g7 g8 g9 g10 g11
    go_wp2_with fail
    go_ret
    exact ⟨rfl, below_trans B5.out (below_trans (below_drew x5) hb5)⟩
set_option maxHeartbeats 4000000 in
set_option maxRecDepth 100000 in
theorem scan_again (ao : Option Addr) (bs : List (BitVec 8)) (n cap : Nat) (base : Int) (seed : BitVec 32) (w : World) (hb : BytesAt w ao bs) (hn : bs.length = n) (hz : ao = none → cap = 0) (hc : n ≤ cap) (hm : cap ≤ 140737488351232) (h2 : base ≤ 9223372036854775807) :
    Calls Try.prog 9 #[.slice ao n cap, .int .i64 base, .int .u32 (bv seed)] w (TrueBelow w) := by
  subst hn
  by_cases hl : bs.length ≤ 131072
  · by_cases hlow : base < 1
    · have HB := Lib.hid hb
      have HZ := Lib.hid hz
      clear hb hz
      have hl' : ¬ (131072 : Int) < (bs.length : Int) := by omega
      go_enter Try.func9, Try.ntmps9
      go_wp2_with fail
      refine (scan_begun w).mono ?_
      rintro e w1 ⟨rfl, hb1⟩
      have B1 := Lib.hid hb1
      clear hb1
      go_wp2_with fail
      refine (scan_over ao bs _ cap base _ seed _ rfl (HB.out.below B1.out) rfl HZ.out hc (by omega) (by omega) h2).mono ?_
      rintro e w2 ⟨t, y, hov, rfl, hb2⟩
      have B2 := Lib.hid (below_trans B1.out hb2)
      have R2 := heap_alloc_new w2 (.cells (scCells t y) 57)
      clear hb2
      unfold scVal
      obtain ⟨rfl, rfl⟩ := hov.uniq (.inl ⟨hlow, rfl, rfl⟩)
      obtain ⟨c0, c1, c2, c3, c4, -⟩ := scan_cells R2
      have hsame := scan_same
      clear R2
      unfold scCells at c0 c1 c2 c3 c4
      go_wp2_with fail
      go_ret
      exact ⟨rfl, below_trans B2.out (below_alloc w2 _)⟩
    · by_cases hb0 : bs = []
      · subst hb0
        cases ao with
        | none =>
          obtain rfl := hz rfl
          exact again_nil base seed w (by omega) h2
        | some a =>
          by_cases hce : cap = 0
          · subst hce
            exact again_e0 a base seed w (by omega) h2
          · exact again_e1 a cap hce hm base seed w (by omega) h2
      · obtain ⟨g, off, rfl, -⟩ := hb 0 (List.length_pos_iff.2 hb0)
        by_cases hce : ∃ t y, OverIs bs base seed t y ∧ cap = t.end_
        · obtain ⟨⟨cnt, en, nx, sd⟩, y, hov, kc⟩ := hce
          dsimp only at kc
          subst kc
          have he : cap ≤ bs.length := by
            rcases hov with ⟨h, _⟩ | ⟨_, i, hi, ht, _⟩
            · omega
            · have hok := (iterS_ok (bs := bs) (s := ⟨0, 0, base, seed⟩) ⟨Nat.zero_le _, Nat.le_refl _, by dsimp only; omega, h2⟩ i hi.1).le
              rw [← ht] at hok
              exact hok
          obtain rfl : cap = bs.length := by omega
          exact again_end g off bs base seed w hb hl (by omega) h2 cnt nx sd y hov
        · exact again_mid g off bs cap base seed w hb hc hm hl (by omega) h2 (fun t y hov h => hce ⟨t, y, hov, h⟩)
  · have hl' : (131072 : Int) < (bs.length : Int) := by omega
    go_enter Try.func9, Try.ntmps9
    go_wp2_with fail
    refine (scan_begun w).mono ?_
    rintro e w1 ⟨rfl, hb1⟩
    go_wp2_with fail
    go_ret
    exact ⟨rfl, hb1⟩
end Go.Proofs.Ytfadpjljokpenaa

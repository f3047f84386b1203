/- The walks of along and Over. -/
import Derived.Test.YtfadpjljokpenaaScanAlong
import Derived.Test.YtfadpjljokpenaaRangeIt
import Derived.Lib.SmallJoins
namespace Go.Proofs.Ytfadpjljokpenaa
open Go.RowKit Go.Shelf
attribute [local go_sem] Oper.semAt_some

/-- Where a scan ends. -/
def StopsAt (bs : List (BitVec 8)) (s0 : ScV) (i : Nat) : Prop := (∀ j, j < i → goS bs (iterS bs s0 j)) ∧ ¬ goS bs (iterS bs s0 i)
/-- along's three boxes. -/
def alongW (w : World) (ao : Option Addr) (n cap : Nat) (base : Int) (seed : BitVec 32) : World :=
  ((w.alloc (.cells #[.slice ao n cap] 31)).alloc (.cells #[.int .i64 base] 2)).alloc (.cells #[.int .u32 (bv seed)] 35)
theorem alongW_at (w : World) (ao : Option Addr) (n cap : Nat) (base : Int) (seed : BitVec 32) :
    (alongW w ao n cap base seed).cell? ⟨w.heap.size, 0, none⟩ = some (.slice ao n cap) ∧ (alongW w ao n cap base seed).cell? ⟨w.heap.size + 1, 0, none⟩ = some (.int .i64 base) ∧ (alongW w ao n cap base seed).cell? ⟨w.heap.size + 2, 0, none⟩ = some (.int .u32 (bv seed)) ∧
      Below w.heap.size w (alongW w ao n cap base seed) ∧ (alongW w ao n cap base seed).heap.size = w.heap.size + 3 := by
  have s1 : (w.alloc (.cells #[.slice ao n cap] 31)).heap.size = w.heap.size + 1 := by simp
  have s2 : ((w.alloc (.cells #[.slice ao n cap] 31)).alloc (.cells #[.int .i64 base] 2)).heap.size = w.heap.size + 2 := by simp
  have h1 := heap_alloc_new w (.cells #[.slice ao n cap] 31)
  have h2 := heap_alloc_new (w.alloc (.cells #[.slice ao n cap] 31)) (.cells #[.int .i64 base] 2)
  have h3 := heap_alloc_new ((w.alloc (.cells #[.slice ao n cap] 31)).alloc (.cells #[.int .i64 base] 2)) (.cells #[.int .u32 (bv seed)] 35)
  have b1 := below_alloc w (.cells #[.slice ao n cap] 31)
  have b2 := below_alloc (w.alloc (.cells #[.slice ao n cap] 31)) (.cells #[.int .i64 base] 2)
  have b3 := below_alloc ((w.alloc (.cells #[.slice ao n cap] 31)).alloc (.cells #[.int .i64 base] 2)) (.cells #[.int .u32 (bv seed)] 35)
  rw [s1] at h2
  rw [s2] at h3
  exact ⟨cell_keep b3 (cell_keep b2 (cell_of_row _ _ 0 _ _ _ h1)), cell_keep b3 (cell_of_row _ _ 0 _ _ _ h2), cell_of_row _ _ 0 _ _ _ h3, below_trans b1 (below_trans b2 b3), by unfold alongW; simp⟩

set_option maxRecDepth 100000 in
theorem scan_along (ao : Option Addr) (n cap : Nat) (base : Int) (seed : BitVec 32) (w : World) :
    Calls Try.prog 74 #[.slice ao n cap, .int .i64 base, .int .u32 (bv seed)] w fun e w' => e = .returned (.func (.func 96) #[] #[.pointer (some ⟨w.heap.size + 1, 0, none⟩), .pointer (some ⟨w.heap.size + 2, 0, none⟩), .pointer (some ⟨w.heap.size, 0, none⟩)]) ∧ w' = alongW w ao n cap base seed := by
  have hmf : ∀ (fn : Fn) (first cap : Array Value) (w : World), (Instr.makeFunc fn first cap).run Try.prog w = .ok (.func fn first cap) w := fun _ _ _ _ => rfl
  go_enter Try.func74, Try.ntmps74
  go_wp2_with fail
  go_ret
  exact ⟨rfl, rfl⟩

theorem but_putObj (W : World) (l : Nat) (o : Obj) (_ : l < W.heap.size) : But l W (W.putObj l o) :=
  ⟨rfl, rfl, rfl, by simp, fun k _ hk => World.putObj_heap_other hk⟩
/-- All but two blocks lie as they lay. -/
structure But2 (a b : Nat) (W W' : World) : Prop where
  os : W'.os = W.os
  tape : W'.tape = W.tape
  output : W'.output = W.output
  size : W.heap.size ≤ W'.heap.size
  block : ∀ k, k < W.heap.size → k ≠ a → k ≠ b → W'.heap[k]? = W.heap[k]?
theorem But2.trans {a b : Nat} {W W1 W2 : World} (h : But2 a b W W1) (k : But2 a b W1 W2) : But2 a b W W2 :=
  ⟨k.os.trans h.os, k.tape.trans h.tape, k.output.trans h.output, Nat.le_trans h.size k.size, fun i hi h1 h2 => (k.block i (Nat.lt_of_lt_of_le hi h.size) h1 h2).trans (h.block i hi h1 h2)⟩
theorem But2.fst {a b : Nat} {W W1 : World} (h : But a W W1) : But2 a b W W1 := ⟨h.os, h.tape, h.output, h.size, fun k hk h1 _ => h.block k hk h1⟩
theorem But2.snd {a b : Nat} {W W1 : World} (h : But b W W1) : But2 a b W W1 := ⟨h.os, h.tape, h.output, h.size, fun k hk _ h2 => h.block k hk h2⟩
/-- A variable of a round's own, and the record made busy. -/
theorem round_box (W : World) (cs : Array Value) (T : TypeId) (l : Nat) (o : Obj) (hl : l < W.heap.size) :
    ((W.alloc (.cells cs T)).putObj l o).heap[W.heap.size]? = some (.cells cs T (0, 0)) ∧ But l W ((W.alloc (.cells cs T)).putObj l o) ∧ ((W.alloc (.cells cs T)).putObj l o).heap[l]? = some o ∧ (W.alloc (.cells cs T)).heap[l]? = W.heap[l]? := by
  have hs : (W.alloc (.cells cs T)).heap.size = W.heap.size + 1 := by simp
  have hb := below_alloc W (.cells cs T)
  exact ⟨(World.putObj_heap_other (by omega)).trans (heap_alloc_new W _), ((But.refl l W).of_below hb).trans (but_putObj _ l o (by omega)), World.putObj_heap_same (by omega), hb.block l hl⟩
/-- A scan's five cells. -/
def scCells (s : ScV) (y : Int) : Array Value := #[.int .i64 s.count, .int .i64 s.end_, .int .i64 s.next, .int .u32 (bv s.seed), .int .i64 y]
def scZero : ScV := ⟨0, 0, 0, 0#32⟩
/-- The last state that a round has told, when i rounds are over. -/
def toldS (bs : List (BitVec 8)) (s0 : ScV) : Nat → ScV
  | 0 => scZero
  | i + 1 => iterS bs s0 i
/-- Over's boxes: the answer's, the last state's. -/
structure OvBox (w : World) (s : ScV) (y : Int) (W : World) : Prop where
  last : W.heap[w.heap.size + 1]? = some (.cells (scCells s y) 57 (0, 0))
  res : W.heap[w.heap.size]? = some (.cells (scCells scZero 0) 57 (0, 0))
  below : Below w.heap.size w W
theorem OvBox.but {w W W' : World} {c : Nat} {s : ScV} {y : Int} (h : OvBox w s y W) (hb : But c W W') (h1 : w.heap.size + 1 < c) : OvBox w s y W' := by
  have hl := (Array.getElem?_eq_some_iff.1 h.last).1
  exact ⟨(hb.block _ hl (by omega)).trans h.last, (hb.block _ (by omega) (by omega)).trans h.res, hb.below h.below (by omega) (by omega)⟩
theorem OvBox.putObj {w W : World} {l : Nat} {s : ScV} {y : Int} (h : OvBox w s y W) (o : Obj) (h1 : w.heap.size + 1 < l) (h2 : l < W.heap.size) : OvBox w s y (W.putObj l o) :=
  h.but (but_putObj W l o h2) h1
theorem OvBox.put {w W : World} {s : ScV} {y : Int} (h : OvBox w s y W) (t : ScV) (z : Int) :
    OvBox w t z (((((W.setCell ⟨w.heap.size + 1, 0, none⟩ (.int .i64 t.count)).setCell ⟨w.heap.size + 1, 1, none⟩ (.int .i64 t.end_)).setCell ⟨w.heap.size + 1, 2, none⟩ (.int .i64 t.next)).setCell ⟨w.heap.size + 1, 3, none⟩ (.int .u32 (bv t.seed))).setCell ⟨w.heap.size + 1, 4, none⟩ (.int .i64 z)) ∧
      But (w.heap.size + 1) W (((((W.setCell ⟨w.heap.size + 1, 0, none⟩ (.int .i64 t.count)).setCell ⟨w.heap.size + 1, 1, none⟩ (.int .i64 t.end_)).setCell ⟨w.heap.size + 1, 2, none⟩ (.int .i64 t.next)).setCell ⟨w.heap.size + 1, 3, none⟩ (.int .u32 (bv t.seed))).setCell ⟨w.heap.size + 1, 4, none⟩ (.int .i64 z)) := by
  have hu : But (w.heap.size + 1) W (((((W.setCell ⟨w.heap.size + 1, 0, none⟩ (.int .i64 t.count)).setCell ⟨w.heap.size + 1, 1, none⟩ (.int .i64 t.end_)).setCell ⟨w.heap.size + 1, 2, none⟩ (.int .i64 t.next)).setCell ⟨w.heap.size + 1, 3, none⟩ (.int .u32 (bv t.seed))).setCell ⟨w.heap.size + 1, 4, none⟩ (.int .i64 z)) :=
    ((((((But.refl _ W).setB 0 _).setB 1 _).setB 2 _).setB 3 _).setB 4 _)
  have hl := (Array.getElem?_eq_some_iff.1 h.last).1
  refine ⟨⟨?_, (hu.block _ (by omega) (by omega)).trans h.res, hu.below h.below (by omega) (by omega)⟩, hu⟩
  have q := Go.Joins.block_setCell (Go.Joins.block_setCell (Go.Joins.block_setCell (Go.Joins.block_setCell (Go.Joins.block_setCell h.last (.int .i64 t.count) (i := 0)) (.int .i64 t.end_) (i := 1)) (.int .i64 t.next) (i := 2)) (.int .u32 (bv t.seed)) (i := 3)) (.int .i64 z) (i := 4)
  rw [q]
  rfl
theorem OvBox.putRes {w W : World} {s : ScV} {y : Int} (h : OvBox w s y W) (t : ScV) (z : Int) :
    (((((W.setCell ⟨w.heap.size, 0, none⟩ (.int .i64 t.count)).setCell ⟨w.heap.size, 1, none⟩ (.int .i64 t.end_)).setCell ⟨w.heap.size, 2, none⟩ (.int .i64 t.next)).setCell ⟨w.heap.size, 3, none⟩ (.int .u32 (bv t.seed))).setCell ⟨w.heap.size, 4, none⟩ (.int .i64 z)).heap[w.heap.size]? = some (.cells (scCells t z) 57 (0, 0)) ∧
    But w.heap.size W (((((W.setCell ⟨w.heap.size, 0, none⟩ (.int .i64 t.count)).setCell ⟨w.heap.size, 1, none⟩ (.int .i64 t.end_)).setCell ⟨w.heap.size, 2, none⟩ (.int .i64 t.next)).setCell ⟨w.heap.size, 3, none⟩ (.int .u32 (bv t.seed))).setCell ⟨w.heap.size, 4, none⟩ (.int .i64 z)) := by
  refine ⟨?_, ((((((But.refl _ W).setB 0 _).setB 1 _).setB 2 _).setB 3 _).setB 4 _)⟩
  have q := Go.Joins.block_setCell (Go.Joins.block_setCell (Go.Joins.block_setCell (Go.Joins.block_setCell (Go.Joins.block_setCell h.res (.int .i64 t.count) (i := 0)) (.int .i64 t.end_) (i := 1)) (.int .i64 t.next) (i := 2)) (.int .u32 (bv t.seed)) (i := 3)) (.int .i64 z) (i := 4)
  rw [q]
  rfl
theorem scan_cells {w : World} {b : Nat} {s : ScV} {y : Int} (hb : w.heap[b]? = some (.cells (scCells s y) 57 (0, 0))) :
    w.cell? ⟨b, 0, none⟩ = some (.int .i64 s.count) ∧ w.cell? ⟨b, 1, none⟩ = some (.int .i64 s.end_) ∧ w.cell? ⟨b, 2, none⟩ = some (.int .i64 s.next) ∧ w.cell? ⟨b, 3, none⟩ = some (.int .u32 (bv s.seed)) ∧ w.cell? ⟨b, 4, none⟩ = some (.int .i64 y) ∧ ∀ j, w.frozen? ⟨b, j, none⟩ = false :=
  ⟨cell_of_row _ _ 0 _ _ _ hb, cell_of_row _ _ 1 _ _ _ hb, cell_of_row _ _ 2 _ _ _ hb, cell_of_row _ _ 3 _ _ _ hb, cell_of_row _ _ 4 _ _ _ hb, fun j => frozen_of_row _ _ j _ _ hb⟩
theorem results_scan {fn : Func} {p : Tmp} (h : fn.results = #[.cell p 57]) (tmps : Array Value) (w : World) (b : Nat) (s : ScV) (y : Int)
    (hp : tmps.getD p undef = .pointer (some ⟨b, 0, none⟩)) (hb : w.heap[b]? = some (.cells (scCells s y) 57 (0, 0))) :
    (results fn tmps).run Try.prog w = .ok (scVal s y) w := by
  have hp' : tmps[p]?.getD undef = .pointer (some ⟨b, 0, none⟩) := by simpa using hp
  have c0 : w.cell? ⟨b, 0, none⟩ = some (.int .i64 s.count) := cell_of_row _ _ 0 _ _ _ hb
  have c1 : w.cell? ⟨b, 1, none⟩ = some (.int .i64 s.end_) := cell_of_row _ _ 1 _ _ _ hb
  have c2 : w.cell? ⟨b, 2, none⟩ = some (.int .i64 s.next) := cell_of_row _ _ 2 _ _ _ hb
  have c3 : w.cell? ⟨b, 3, none⟩ = some (.int .u32 (bv s.seed)) := cell_of_row _ _ 3 _ _ _ hb
  have c4 : w.cell? ⟨b, 4, none⟩ = some (.int .i64 y) := cell_of_row _ _ 4 _ _ _ hb
  simp [results, h, hp', go_sem, c0, c1, c2, c3, c4, asAddr, loadVar, Result.andThen, Sem.run_bind, scVal]

set_option maxRecDepth 100000 in
set_option maxHeartbeats 4000000 in
theorem scan_over_in (ao : Option Addr) (bs : List (BitVec 8)) (cap : Nat) (base : Int) (seed : BitVec 32) (w : World) (hb : BytesAt w ao bs) (hn : ao = none → cap = 0) (hc : bs.length ≤ cap) (hm : cap ≤ 9223372036854775807) (hl : bs.length ≤ 140737488363520) (h1 : 1 ≤ base) (h2 : base ≤ 9223372036854775807) :
    CallsIn Fence.wide 9 Try.prog 34 #[.slice ao bs.length cap, .int .i64 base, .int .u32 (bv seed)] w fun e w' => ∃ i, StopsAt bs ⟨0, 0, base, seed⟩ i ∧ e = .returned (scVal (iterS bs ⟨0, 0, base, seed⟩ i) (whyS bs (iterS bs ⟨0, 0, base, seed⟩ i) : Nat)) ∧ Below w.heap.size w w' := by
  have HB := Lib.hid hb
  have HN := Lib.hid hn
  clear hb hn
  refine callsIn_of_wp_marks Try.func34 rfl trivial ?_ rfl
  simp only [Try.ntmps34, List.size_toArray, List.length_cons, List.length_nil, Nat.reduceAdd, Nat.reduceSub, Array.replicate_succ, Array.replicate_zero, List.push_toArray, List.append_toArray, List.nil_append, List.cons_append]
  gi_wp2
  obtain ⟨w2, hw2⟩ : ∃ w2, (w.alloc (.cells #[.int .i64 0, .int .i64 0, .int .i64 0, .int .u32 0, .int .i64 0] 57)).alloc (.cells #[.int .i64 0, .int .i64 0, .int .i64 0, .int .u32 0, .int .i64 0] 57) = w2 := ⟨_, rfl⟩
  rw [hw2]
  have hs2 : w2.heap.size = w.heap.size + 2 := by rw [← hw2]; simp
  have X0 : OvBox w scZero 0 w2 := by
    rw [← hw2]
    have b1 := below_alloc w (.cells #[.int .i64 0, .int .i64 0, .int .i64 0, .int .u32 0, .int .i64 0] 57)
    have b2 := below_alloc (w.alloc (.cells #[.int .i64 0, .int .i64 0, .int .i64 0, .int .u32 0, .int .i64 0] 57)) (.cells #[.int .i64 0, .int .i64 0, .int .i64 0, .int .u32 0, .int .i64 0] 57)
    have h2 := heap_alloc_new (w.alloc (.cells #[.int .i64 0, .int .i64 0, .int .i64 0, .int .u32 0, .int .i64 0] 57)) (.cells #[.int .i64 0, .int .i64 0, .int .i64 0, .int .u32 0, .int .i64 0] 57)
    rw [show (w.alloc (.cells #[.int .i64 0, .int .i64 0, .int .i64 0, .int .u32 0, .int .i64 0] 57)).heap.size = w.heap.size + 1 by simp] at h2
    exact ⟨h2, (b2.block w.heap.size (by simp)).trans (heap_alloc_new w _), below_trans b1 b2⟩
  clear hw2
  refine ⟨trivial, (callsIn_wide.2 (scan_along ao bs.length cap base seed _)).mono ?_⟩
  rintro e w1 ⟨rfl, rfl⟩
  obtain ⟨k0, k1, k2, kb, ks⟩ := alongW_at w2 ao bs.length cap base seed
  obtain ⟨wl, hwl⟩ : ∃ wl, alongW w2 ao bs.length cap base seed = wl := ⟨_, rfl⟩
  rw [hwl] at k0 k1 k2 kb ks ⊢
  rw [hs2] at k0 k1 k2 ks
  have KS := Lib.hid ks
  clear ks
  gi_wp2
  refine range_in rfl (enters_of Try.func96 (by kernel_rfl) rfl) fun fn lo hlo => ?_
  obtain ⟨q1, q2, q3, q4⟩ := loopW_at wl lo
  simp only [List.append_toArray, List.cons_append, List.nil_append]
  have HRound : Hid (∀ (t u : ScV) (y y' : Int) (r : Value) (W1 : World), OvBox w u y' W1 → W1.heap[wl.heap.size + 1]? = some (.loop lo) → W1.heap[wl.heap.size]? = some (.deferred (some [])) →
      YieldAt Fence.wide 7 Try.prog (wl.heap.size + 1) #[scVal t y, r] W1 fun e W2 => e = .returned (.bool true) ∧ OvBox w t y W2 ∧ W2.heap[wl.heap.size + 1]? = some (.loop lo) ∧ W2.heap[wl.heap.size]? = some (.deferred (some [])) ∧ But2 (w.heap.size + 1) (wl.heap.size + 1) W1 W2) := Lib.hid (by
    intro t u y y' r W1 j1 J2 J3
    have ks := KS.out
    have l1 := (Array.getElem?_eq_some_iff.1 J2).1
    have l2 := (Array.getElem?_eq_some_iff.1 J3).1
    have J1 := Lib.hid j1
    unfold scVal
    refine YieldAt.mono (round_in hlo trivial J2 J3 (by omega) rfl (fun W => OvBox w t y W ∧ But2 (w.heap.size + 1) (wl.heap.size + 1) W1 W) (fun _ _ => False) ?_) ?_
    · have K2 := Lib.hid J2
      have K3 := Lib.hid J3
      clear ks l1 l2 J2 J3
      gi_wp2
      have ks := KS.out
      have J2 := K2.out
      have J3 := K3.out
      have l1 := (Array.getElem?_eq_some_iff.1 J2).1
      have l2 := (Array.getElem?_eq_some_iff.1 J3).1
      obtain ⟨p1, p2, p3, p4⟩ := round_box W1 (scCells t y) 57 (wl.heap.size + 1) (.loop (lst lo .busy none)) (by omega)
      refine ⟨p4, (below_alloc W1 _).block wl.heap.size (by omega), ?_⟩
      obtain ⟨W4, hW4⟩ : ∃ W4, (W1.alloc (.cells (scCells t y) 57)).putObj (wl.heap.size + 1) (.loop (lst lo .busy none)) = W4 := ⟨_, rfl⟩
      unfold scCells at hW4
      rw [hW4]
      unfold scCells at p1 p2 p3
      rw [hW4] at p1 p2 p3
      have c0 := cell_of_row _ _ 0 _ _ _ p1
      have c1 := cell_of_row _ _ 1 _ _ _ p1
      have c2 := cell_of_row _ _ 2 _ _ _ p1
      have c3 := cell_of_row _ _ 3 _ _ _ p1
      have c4 := cell_of_row _ _ 4 _ _ _ p1
      have X4 := J1.out.but p2 (by omega)
      obtain ⟨d0, d1, d2, d3, d4, fz⟩ := scan_cells X4.last
      have f0 := fz 0
      have f1 := fz 1
      have f2 := fz 2
      have f3 := fz 3
      have f4 := fz 4
      clear fz
      have HX := Lib.hid X4
      have D3 := Lib.hid ((p2.block _ (by omega) (by omega)).trans J3)
      have P2 := Lib.hid p2
      have P3 := Lib.hid p3
      have L1 := Lib.hid l1
      clear ks p1 p2 p3 p4 hW4 X4 J2 J3 l1 l2 j1 q1 q2 q3 q4 k0 k1 k2 kb
      gi_wp2
      obtain ⟨t1, t2⟩ := HX.out.put t y
      have ks := KS.out
      have l1 := L1.out
      exact roundTo_normal ((t2.block _ (by have := P2.out.size; omega) (by omega)).trans P3.out) ((t2.block _ (by have := P2.out.size; omega) (by omega)).trans D3.out) ⟨t1, (But2.snd P2.out).trans (But2.fst t2)⟩
    · rintro e W2 (⟨rfl, W3, r1, ⟨r2, r3⟩, rfl, r4, r5⟩ | ⟨rfl, c, W3, -, hf, -⟩)
      · have s3 := r3.size
        have r6 := r3.trans (But2.snd (but_putObj W3 (wl.heap.size + 1) (.loop lo) (by omega)))
        exact ⟨rfl, r2.putObj _ (by omega) (Array.getElem?_eq_some_iff.1 r1).1, r4, r5, r6⟩
      · exact hf.elim)
  have ks := KS.out
  refine (along_it (w.heap.size + 2 + 1) (w.heap.size + 2 + 2) (w.heap.size + 2) ao cap bs ⟨0, 0, base, seed⟩ 7 (wl.heap.size + 1)
    (fun i W => (∃ y, OvBox w (toldS bs ⟨0, 0, base, seed⟩ i) y W) ∧ W.heap[wl.heap.size + 1]? = some (.loop lo) ∧ W.heap[wl.heap.size]? = some (.deferred (some []))) (fun _ => False)
    (fun W => (∃ i, StopsAt bs ⟨0, 0, base, seed⟩ i ∧ OvBox w (iterS bs ⟨0, 0, base, seed⟩ i) (whyS bs (iterS bs ⟨0, 0, base, seed⟩ i) : Nat) W) ∧ W.heap[wl.heap.size + 1]? = some (.loop lo) ∧ W.heap[wl.heap.size]? = some (.deferred (some [])))
    (loopW wl lo) ⟨rfl, rfl⟩ ?_ ?_ ?_ ?_ ?_ HN.out hc hm hl ?_ ?_ ?_ ?_).mono ?_
  · exact ⟨Nat.zero_le _, Nat.le_refl _, by dsimp only; omega, h2⟩
  · exact cell_keep q3 k1
  · exact cell_keep q3 k2
  · exact cell_keep q3 k0
  · exact HB.out.below (below_trans X0.below (below_trans kb q3))
  · rintro i W1 W2 ⟨⟨y, j1⟩, j2, j3⟩ hu
    have l1 := (Array.getElem?_eq_some_iff.1 j2).1
    have l2 := (Array.getElem?_eq_some_iff.1 j3).1
    exact ⟨⟨y, j1.but hu (by omega)⟩, (hu.block _ l1 (by omega)).trans j2, (hu.block _ l2 (by omega)).trans j3⟩
  · rintro i W0 W1 v hg hgo ⟨⟨y, j1⟩, j2, j3⟩ - hu hO
    have l1 := (Array.getElem?_eq_some_iff.1 j2).1
    have l2 := (Array.getElem?_eq_some_iff.1 j3).1
    have l3 := hu.size
    refine YieldAt.mono (HRound.out _ _ _ y _ W1 (j1.but hu (by omega)) ((hu.block _ l1 (by omega)).trans j2) ((hu.block _ l2 (by omega)).trans j3)) ?_
    rintro e W2 ⟨rfl, r2, r4, r5, r6⟩
    refine .inl ⟨rfl, ⟨⟨_, r2⟩, r4, r5⟩, r6.size, fun hx => r6.block _ hx (by omega) (by omega), fun hx => r6.block _ hx (by omega) (by omega), ?_⟩
    rintro g o rfl hx
    obtain ⟨g', o', e', hcell⟩ := HB.out 0 (by have := hgo.1; omega)
    injection e' with e'; injection e' with e1 e2
    subst e1
    have hgl := block_lt_of_cell hcell
    dsimp only at hgl
    exact r6.block _ hx (by omega) (by omega)
  · rintro i W0 W1 hg hgo ⟨⟨y, j1⟩, j2, j3⟩ hu
    have l1 := (Array.getElem?_eq_some_iff.1 j2).1
    have l2 := (Array.getElem?_eq_some_iff.1 j3).1
    have l3 := hu.size
    refine YieldAt.mono (HRound.out _ _ _ y _ W1 (j1.but hu (by omega)) ((hu.block _ l1 (by omega)).trans j2) ((hu.block _ l2 (by omega)).trans j3)) ?_
    rintro e W2 ⟨rfl, r2, r4, r5, r6⟩
    exact ⟨⟨_, rfl⟩, ⟨i, ⟨hg, hgo⟩, r2⟩, r4, r5⟩
  · exact ⟨⟨0, X0.but (((But.refl (w.heap.size + 2) w2).of_below (below_trans kb q3))) (by omega)⟩, q1, q2⟩
  · rintro e W' ⟨⟨v, rfl⟩, (hf | ⟨⟨i, hst, r1⟩, r2, r3⟩)⟩
    · exact hf.elim
    refine ⟨⟨v, rfl⟩, .inl ⟨r2, ?_⟩⟩
    have l1 := (Array.getElem?_eq_some_iff.1 r2).1
    have X5 := r1.putObj (.loop (lst lo .exhausted none)) (l := wl.heap.size + 1) (by omega) l1
    have D5 : (W'.putObj (wl.heap.size + 1) (.loop (lst lo .exhausted none))).heap[wl.heap.size]? = some (.deferred (some [])) := (World.putObj_heap_other (by omega)).trans r3
    obtain ⟨W5, hW5⟩ : ∃ W5, W'.putObj (wl.heap.size + 1) (.loop (lst lo .exhausted none)) = W5 := ⟨_, rfl⟩
    rw [hW5] at X5 D5 ⊢
    clear hW5 r1 r2 r3 l1
    obtain ⟨c0, c1, c2, c3, c4, -⟩ := scan_cells X5.last
    obtain ⟨d0, d1, d2, d3, d4, fz⟩ := scan_cells X5.res
    have f0 := fz 0
    have f1 := fz 1
    have f2 := fz 2
    have f3 := fz 3
    have f4 := fz 4
    obtain ⟨t, ht⟩ : ∃ t, iterS bs ⟨0, 0, base, seed⟩ i = t := ⟨_, rfl⟩
    obtain ⟨y, hy⟩ : ∃ y, ((whyS bs t : Nat) : Int) = y := ⟨_, rfl⟩
    rw [ht] at c0 c1 c2 c3 c4
    rw [hy] at c4
    have HX := Lib.hid X5
    have HD := Lib.hid D5
    have HY := Lib.hid hy
    have HT := Lib.hid ht
    have HS := Lib.hid hst
    have KK := Lib.hid ks
    clear X5 D5 fz ks hy ht hst q1 q2 q3 q4 k0 k1 k2 kb
    gi_wp2
    obtain ⟨z1, z2⟩ := HX.out.putRes t y
    have ks := KK.out
    have l5 := (Array.getElem?_eq_some_iff.1 HD.out).1
    have D6 := (z2.block _ l5 (by omega)).trans HD.out
    have l6 := (Array.getElem?_eq_some_iff.1 D6).1
    refine ⟨by simp, .inl ⟨_, _, rfl, run_takeDeferred D6, ?_⟩⟩
    refine ⟨_, results_scan rfl _ _ w.heap.size t y rfl ((World.putObj_heap_other (by omega)).trans z1), i, HS.out, by rw [HT.out, HY.out], ?_⟩
    have b1 := But.below HX.out.below z2 (Nat.le_refl _) HX.out.below.size
    exact But.below b1 (but_putObj _ wl.heap.size (.deferred none) l6) (by omega) b1.size

/-- What Over answers. -/
def OverIs (bs : List (BitVec 8)) (base : Int) (seed : BitVec 32) (s : ScV) (y : Int) : Prop :=
  (base < 1 ∧ s = scZero ∧ y = 0) ∨ (1 ≤ base ∧ ∃ i, StopsAt bs ⟨0, 0, base, seed⟩ i ∧ s = iterS bs ⟨0, 0, base, seed⟩ i ∧ y = (whyS bs (iterS bs ⟨0, 0, base, seed⟩ i) : Nat))
theorem StopsAt.uniq {bs : List (BitVec 8)} {s0 : ScV} {i j : Nat} (h : StopsAt bs s0 i) (k : StopsAt bs s0 j) : i = j := by
  rcases Nat.lt_trichotomy i j with h1 | h1 | h1
  · exact (h.2 (k.1 i h1)).elim
  · exact h1
  · exact (k.2 (h.1 j h1)).elim
theorem OverIs.uniq {bs : List (BitVec 8)} {base : Int} {seed : BitVec 32} {s t : ScV} {y z : Int} (h : OverIs bs base seed s y) (k : OverIs bs base seed t z) : s = t ∧ y = z := by
  rcases h with ⟨h0, rfl, rfl⟩ | ⟨h0, i, hi, rfl, rfl⟩ <;> rcases k with ⟨k0, rfl, rfl⟩ | ⟨k0, j, hj, rfl, rfl⟩
  · exact ⟨rfl, rfl⟩
  · omega
  · omega
  · rw [hi.uniq hj]; exact ⟨rfl, rfl⟩
set_option maxRecDepth 100000 in
set_option maxHeartbeats 4000000 in
theorem scan_over_low (ao : Option Addr) (n cap : Nat) (base : Int) (seed : BitVec 32) (w : World) (h1 : base < 1) :
    Calls Try.prog 34 #[.slice ao n cap, .int .i64 base, .int .u32 (bv seed)] w fun e w' => e = .returned (scVal scZero 0) ∧ Below w.heap.size w w' := by
  go_enter Try.func34, Try.ntmps34
  go_wp2_with fail
  have HW := below_trans (below_alloc w (.cells (scCells scZero 0) 57)) (below_alloc (w.alloc (.cells (scCells scZero 0) 57)) (.cells (scCells scZero 0) 57))
  refine bodyPost_ret (results_scan rfl _ _ w.heap.size scZero 0 rfl ((below_alloc (w.alloc (.cells (scCells scZero 0) 57)) _).block w.heap.size (by simp) |>.trans (heap_alloc_new w _))) rfl ?_
  exact ⟨rfl, HW⟩
theorem scan_over (ao : Option Addr) (bs : List (BitVec 8)) (n cap : Nat) (base : Int) (s : Int) (seed : BitVec 32) (w : World) (hs : s = bv seed) (hb : BytesAt w ao bs) (hn : bs.length = n) (hz : ao = none → cap = 0) (hc : n ≤ cap) (hm : cap ≤ 9223372036854775807) (hl : n ≤ 140737488363520) (h2 : base ≤ 9223372036854775807) :
    Calls Try.prog 34 #[.slice ao n cap, .int .i64 base, .int .u32 s] w fun e w' => ∃ t y, OverIs bs base seed t y ∧ e = .returned (scVal t y) ∧ Below w.heap.size w w' := by
  subst hs hn
  by_cases h1 : base < 1
  · refine (scan_over_low ao _ cap base seed w h1).mono ?_
    rintro e w' ⟨rfl, hw⟩
    exact ⟨_, _, .inl ⟨h1, rfl, rfl⟩, rfl, hw⟩
  · refine (callsIn_wide.1 (scan_over_in ao bs cap base seed w hb hz hc hm hl (by omega) h2)).mono ?_
    rintro e w' ⟨i, hi, rfl, hw⟩
    exact ⟨_, _, .inr ⟨by omega, i, hi, rfl, rfl⟩, rfl, hw⟩
end Go.Proofs.Ytfadpjljokpenaa

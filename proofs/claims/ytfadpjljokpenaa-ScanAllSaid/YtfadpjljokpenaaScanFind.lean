/- The walk of scan.Find. -/
import Derived.Test.YtfadpjljokpenaaScanEach
import Derived.Test.YtfadpjljokpenaaKept
import Derived.Maps.OwnIn
namespace Go.Proofs.Ytfadpjljokpenaa
open Go.RowKit Go.Shelf
attribute [local go_sem] Oper.semAt_some

/-- What Find answers: x, the data, the place, the error. -/
def FindIs (bs : List (BitVec 8)) (base : Int) (seed : BitVec 32) (lsn x : Int) (data : List (BitVec 8)) (at_ er : Int) : Prop :=
  (∃ i, 1 ≤ base ∧ (∀ j, j ≤ i → goS bs (iterS bs ⟨0, 0, base, seed⟩ j)) ∧ bv (rdS bs (iterS bs ⟨0, 0, base, seed⟩ i)).lsn = lsn ∧ x = lsn ∧ data = (rdS bs (iterS bs ⟨0, 0, base, seed⟩ i)).data ∧ at_ = ((iterS bs ⟨0, 0, base, seed⟩ i).end_ : Int) ∧ er = 0) ∨
  (∃ i, EndsAt bs base seed i ∧ (∀ j, j < i → bv (rdS bs (iterS bs ⟨0, 0, base, seed⟩ j)).lsn ≠ lsn) ∧ x = 0 ∧ data = [] ∧ at_ = 0 ∧ er = 6)
/-- Find's boxes. -/
structure FnBox (w : World) (lsn x : Int) (v : Value) (at_ er : Int) (W : World) : Prop where
  lsnb : W.heap[w.heap.size]? = some (.cells #[.int .i64 lsn] 2 (0, 0))
  rcb : W.heap[w.heap.size + 1]? = some (.cells #[.int .i64 x, v] 34 (0, 0))
  atb : W.heap[w.heap.size + 2]? = some (.cells #[.int .i64 at_] 3 (0, 0))
  erb : W.heap[w.heap.size + 3]? = some (.cells #[.int .i64 er] 36 (0, 0))
  below : Below w.heap.size w W
theorem FnBox.gap {w W W' : World} {a b : Nat} {lsn x at_ er : Int} {v : Value} (h : FnBox w lsn x v at_ er W) (hb : Gap a b W W') (h1 : w.heap.size + 4 ≤ a) : FnBox w lsn x v at_ er W' := by
  have hl := (Array.getElem?_eq_some_iff.1 h.erb).1
  exact ⟨(hb.block _ (by omega) (by omega)).trans h.lsnb, (hb.block _ (by omega) (by omega)).trans h.rcb, (hb.block _ (by omega) (by omega)).trans h.atb, (hb.block _ hl (by omega)).trans h.erb, hb.below h.below (by omega) (by omega)⟩
theorem FnBox.put {w W : World} {lsn x at_ er : Int} {v : Value} (h : FnBox w lsn x v at_ er W) (x' at' er' : Int) (v' : Value) :
    FnBox w lsn x' v' at' er' ((((W.setCell ⟨w.heap.size + 1, 0, none⟩ (.int .i64 x')).setCell ⟨w.heap.size + 1, 1, none⟩ v').setCell ⟨w.heap.size + 2, 0, none⟩ (.int .i64 at')).setCell ⟨w.heap.size + 3, 0, none⟩ (.int .i64 er')) ∧
      Gap (w.heap.size + 1) (w.heap.size + 4) W ((((W.setCell ⟨w.heap.size + 1, 0, none⟩ (.int .i64 x')).setCell ⟨w.heap.size + 1, 1, none⟩ v').setCell ⟨w.heap.size + 2, 0, none⟩ (.int .i64 at')).setCell ⟨w.heap.size + 3, 0, none⟩ (.int .i64 er')) := by
  have g1 : ∀ (W : World) c o u, w.heap.size + 1 ≤ c → c < w.heap.size + 4 → Gap (w.heap.size + 1) (w.heap.size + 4) W (W.setCell ⟨c, o, none⟩ u) := fun W c o u h1 h2 => Gap.of_but ((But.refl c W).setB o u) h1 h2
  have g := (((g1 W (w.heap.size + 1) 0 (.int .i64 x') (by omega) (by omega)).trans (g1 _ (w.heap.size + 1) 1 v' (by omega) (by omega))).trans (g1 _ (w.heap.size + 2) 0 (.int .i64 at') (by omega) (by omega))).trans (g1 _ (w.heap.size + 3) 0 (.int .i64 er') (by omega) (by omega))
  have hl := (Array.getElem?_eq_some_iff.1 h.erb).1
  refine ⟨⟨(g.block _ (by omega) (by omega)).trans h.lsnb, ?_, ?_, ?_, g.below h.below (by omega) (by omega)⟩, g⟩
  · rw [Below.heap_setCell _ _ _ _ (by simp), Below.heap_setCell _ _ _ _ (by simp)]
    exact Go.Joins.block_setCell (Go.Joins.block_setCell h.rcb (.int .i64 x') (i := 0)) v' (i := 1)
  · rw [Below.heap_setCell _ _ _ _ (by simp)]
    refine Go.Joins.block_setCell (cs := #[.int .i64 at_]) ?_ (.int .i64 at') (i := 0)
    rw [Below.heap_setCell _ _ _ _ (by simp), Below.heap_setCell _ _ _ _ (by simp)]
    exact h.atb
  · refine Go.Joins.block_setCell (cs := #[.int .i64 er]) ?_ (.int .i64 er') (i := 0)
    rw [Below.heap_setCell _ _ _ _ (by simp), Below.heap_setCell _ _ _ _ (by simp), Below.heap_setCell _ _ _ _ (by simp)]
    exact h.erb
theorem results_find {fn : Func} {p q r : Tmp} (h : fn.results = #[.cell p 34, .cell q 3, .cell r 36]) (tmps : Array Value) {w W : World} {lsn x at_ er : Int} {v : Value}
    (hb : FnBox w lsn x v at_ er W) (hp : tmps.getD p undef = .pointer (some ⟨w.heap.size + 1, 0, none⟩)) (hq : tmps.getD q undef = .pointer (some ⟨w.heap.size + 2, 0, none⟩)) (hr : tmps.getD r undef = .pointer (some ⟨w.heap.size + 3, 0, none⟩)) :
    (results fn tmps).run Try.prog W = .ok (.tuple #[.agg #[.int .i64 x, v], .int .i64 at_, .int .i64 er]) W := by
  have hp' : tmps[p]?.getD undef = .pointer (some ⟨w.heap.size + 1, 0, none⟩) := by simpa using hp
  have hq' : tmps[q]?.getD undef = .pointer (some ⟨w.heap.size + 2, 0, none⟩) := by simpa using hq
  have hr' : tmps[r]?.getD undef = .pointer (some ⟨w.heap.size + 3, 0, none⟩) := by simpa using hr
  have c0 : W.cell? ⟨w.heap.size + 1, 0, none⟩ = some (.int .i64 x) := cell_of_row _ _ 0 _ _ _ hb.rcb
  have c1 : W.cell? ⟨w.heap.size + 1, 1, none⟩ = some v := cell_of_row _ _ 1 _ _ _ hb.rcb
  have c2 : W.cell? ⟨w.heap.size + 2, 0, none⟩ = some (.int .i64 at_) := cell_of_row _ _ 0 _ _ _ hb.atb
  have c3 : W.cell? ⟨w.heap.size + 3, 0, none⟩ = some (.int .i64 er) := cell_of_row _ _ 0 _ _ _ hb.erb
  simp [results, h, hp', hq', hr', go_sem, c0, c1, c2, c3, asAddr, loadVar, Result.andThen, Sem.run_bind]

set_option maxRecDepth 100000 in
set_option maxHeartbeats 4000000 in
theorem scan_find_in (ao : Option Addr) (bs : List (BitVec 8)) (n ca : Nat) (base s lsn : Int) (seed : BitVec 32) (w : World) (hs : s = bv seed) (hb : BytesAt w ao bs) (hn : bs.length = n) (hz : ao = none → ca = 0) (hl : n ≤ 140737488355328) (h2 : base ≤ 9223372036854775807) :
    CallsIn Fence.wide 9 Try.prog 36 #[.slice ao n ca, .int .i64 base, .int .u32 s, .int .i64 lsn] w fun e w' => ∃ x v data at_ er, FindIs bs base seed lsn x data at_ er ∧ e = .returned (.tuple #[.agg #[.int .i64 x, v], .int .i64 at_, .int .i64 er]) ∧ OwnB w' w.heap.size v data ∧ Below w.heap.size w w' := by
  subst hs hn
  have HB := Lib.hid hb
  have HZ := Lib.hid hz
  clear hb hz
  obtain ⟨w2, hw2⟩ : ∃ w2, (((w.alloc (.cells #[.int .i64 lsn] 2)).alloc (.cells #[.int .i64 0, .slice none 0 0] 34)).alloc (.cells #[.int .i64 0] 3)).alloc (.cells #[.int .i64 0] 36) = w2 := ⟨_, rfl⟩
  have hs2 : w2.heap.size = w.heap.size + 4 := by rw [← hw2]; simp
  have X2 : FnBox w lsn 0 (.slice none 0 0) 0 0 w2 := by
    rw [← hw2]
    have e1 : (w.alloc (.cells #[.int .i64 lsn] 2)).heap.size = w.heap.size + 1 := by simp
    have e2 : ((w.alloc (.cells #[.int .i64 lsn] 2)).alloc (.cells #[.int .i64 0, .slice none 0 0] 34)).heap.size = w.heap.size + 2 := by simp
    have e3 : (((w.alloc (.cells #[.int .i64 lsn] 2)).alloc (.cells #[.int .i64 0, .slice none 0 0] 34)).alloc (.cells #[.int .i64 0] 3)).heap.size = w.heap.size + 3 := by simp
    have h1 := heap_alloc_new w (.cells #[.int .i64 lsn] 2)
    have h2 := heap_alloc_new (w.alloc (.cells #[.int .i64 lsn] 2)) (.cells #[.int .i64 0, .slice none 0 0] 34)
    have h3 := heap_alloc_new ((w.alloc (.cells #[.int .i64 lsn] 2)).alloc (.cells #[.int .i64 0, .slice none 0 0] 34)) (.cells #[.int .i64 0] 3)
    have h4 := heap_alloc_new (((w.alloc (.cells #[.int .i64 lsn] 2)).alloc (.cells #[.int .i64 0, .slice none 0 0] 34)).alloc (.cells #[.int .i64 0] 3)) (.cells #[.int .i64 0] 36)
    have b1 := below_alloc w (.cells #[.int .i64 lsn] 2)
    have b2 := below_alloc (w.alloc (.cells #[.int .i64 lsn] 2)) (.cells #[.int .i64 0, .slice none 0 0] 34)
    have b3 := below_alloc ((w.alloc (.cells #[.int .i64 lsn] 2)).alloc (.cells #[.int .i64 0, .slice none 0 0] 34)) (.cells #[.int .i64 0] 3)
    have b4 := below_alloc (((w.alloc (.cells #[.int .i64 lsn] 2)).alloc (.cells #[.int .i64 0, .slice none 0 0] 34)).alloc (.cells #[.int .i64 0] 3)) (.cells #[.int .i64 0] 36)
    rw [e1] at h2
    rw [e2] at h3
    rw [e3] at h4
    exact ⟨(b4.block _ (by omega)).trans ((b3.block _ (by omega)).trans ((b2.block _ (by omega)).trans h1)), (b4.block _ (by omega)).trans ((b3.block _ (by omega)).trans h2), (b4.block _ (by omega)).trans h3, h4, below_trans b1 (below_trans b2 (below_trans b3 b4))⟩
  have XX := Lib.hid X2
  have S2 := Lib.hid hs2
  clear X2 hs2
  refine callsIn_of_wp_marks Try.func36 rfl trivial ?_ rfl
  simp only [Try.ntmps36, List.size_toArray, List.length_cons, List.length_nil, Nat.reduceAdd, Nat.reduceSub, Array.replicate_succ, Array.replicate_zero, List.push_toArray, List.append_toArray, List.nil_append, List.cons_append]
  gi_wp2
  refine ⟨trivial, (callsIn_wide.2 (scan_each ao bs bs.length ca base (bv seed) seed w2 rfl (HB.out.below XX.out.below) rfl HZ.out hl)).mono ?_⟩
  rintro e w1 ⟨bN, bS, bO, ao', cap, rfl, hE, hb1⟩
  have EE := Lib.hid hE
  have B1 := Lib.hid hb1
  have X1 := Lib.hid (XX.out.gap (Gap.of_below hb1 (a := w.heap.size + 4) (b := w.heap.size + 4)) (Nat.le_refl _))
  have Z1 : Hid (w.heap.size + 4 ≤ w1.heap.size) := Lib.hid (by have := hb1.size; have := S2.out; omega)
  clear hE hb1 hw2
  unfold eachFn
  gi_wp2
  refine range_in rfl (enters_of Try.func75 (by kernel_rfl) rfl) fun fn lo hlo => ?_
  obtain ⟨q1, q2, q3, q4⟩ := loopW_at w1 lo
  simp only [List.append_toArray, List.cons_append, List.nil_append]
  have HRound : Hid (∀ (at_ : Nat) (x : Int) (aq : Option Addr) (nq cq : Nat) (W1 : World), FnBox w lsn 0 (.slice none 0 0) 0 0 W1 → W1.heap[w1.heap.size + 1]? = some (.loop lo) → W1.heap[w1.heap.size]? = some (.deferred (some [])) →
      YieldAt Fence.wide 5 Try.prog (w1.heap.size + 1) #[.int .i64 at_, .agg #[.int .i64 x, .slice aq nq cq]] W1 fun e W2 => ∃ W4 W5 o, But (w1.heap.size + 1) W1 W4 ∧ Gap (w.heap.size + 1) (w.heap.size + 4) W4 W5 ∧ W2 = W5.putObj (w1.heap.size + 1) (.loop o) ∧ W2.heap[w1.heap.size + 1]? = some (.loop o) ∧ W2.heap[w1.heap.size]? = some (.deferred (some [])) ∧
        ((e = .returned (.bool true) ∧ FnBox w lsn 0 (.slice none 0 0) 0 0 W5 ∧ x ≠ lsn ∧ o = lo) ∨ (e = .returned (.bool false) ∧ FnBox w lsn x (.slice aq nq cq) at_ 0 W5 ∧ x = lsn ∧ o = lst lo .done (some .ret)))) := Lib.hid (by
    intro at_ x aq nq cq W1 hX J2 J3
    have l1 := (Array.getElem?_eq_some_iff.1 J2).1
    have l2 := (Array.getElem?_eq_some_iff.1 J3).1
    have HX := Lib.hid hX
    refine YieldAt.mono (round_in hlo trivial J2 J3 (by omega) rfl (fun W => FnBox w lsn 0 (.slice none 0 0) 0 0 W ∧ x ≠ lsn ∧ But (w1.heap.size + 1) W1 W) (fun c W => c = .ret ∧ FnBox w lsn x (.slice aq nq cq) at_ 0 W ∧ x = lsn ∧ ∃ W4, But (w1.heap.size + 1) W1 W4 ∧ Gap (w.heap.size + 1) (w.heap.size + 4) W4 W) ?_) ?_
    · have K2 := Lib.hid J2
      have K3 := Lib.hid J3
      clear l1 l2 J2 J3 hX
      gi_wp2
      have J2 := K2.out
      have J3 := K3.out
      have l1 := (Array.getElem?_eq_some_iff.1 J2).1
      have l2 := (Array.getElem?_eq_some_iff.1 J3).1
      obtain ⟨p1, p2, p3, p4⟩ := round_box W1 #[.int .i64 x, .slice aq nq cq] 34 (w1.heap.size + 1) (.loop (lst lo .busy none)) (by omega)
      refine ⟨p4, (below_alloc W1 _).block w1.heap.size (by omega), ?_⟩
      obtain ⟨W4, hW4⟩ : ∃ W4, (W1.alloc (.cells #[.int .i64 x, .slice aq nq cq] 34)).putObj (w1.heap.size + 1) (.loop (lst lo .busy none)) = W4 := ⟨_, rfl⟩
      rw [hW4]
      rw [hW4] at p1 p2 p3
      have c0 := cell_of_row _ _ 0 _ _ _ p1
      have c1 := cell_of_row _ _ 1 _ _ _ p1
      have z1 := Z1.out
      have X4 := HX.out.gap (Gap.of_but p2 (a := w1.heap.size + 1) (b := w1.heap.size + 2) (by omega) (by omega)) (by omega)
      have k0 := cell_of_row _ _ 0 _ _ _ X4.lsnb
      have r0 := cell_of_row _ _ 0 _ _ _ X4.rcb
      have r1 := cell_of_row _ _ 1 _ _ _ X4.rcb
      have r2 : W4.cell? ⟨w.heap.size + 1 + 1, 0, none⟩ = _ := cell_of_row _ _ 0 _ _ _ X4.atb
      have r3 : W4.cell? ⟨w.heap.size + 1 + 1 + 1, 0, none⟩ = _ := cell_of_row _ _ 0 _ _ _ X4.erb
      have f0 := frozen_of_row _ _ 0 _ _ X4.rcb
      have f1 := frozen_of_row _ _ 1 _ _ X4.rcb
      have f2 : W4.frozen? ⟨w.heap.size + 1 + 1, 0, none⟩ = _ := frozen_of_row _ _ 0 _ _ X4.atb
      have f3 : W4.frozen? ⟨w.heap.size + 1 + 1 + 1, 0, none⟩ = _ := frozen_of_row _ _ 0 _ _ X4.erb
      have D3 := Lib.hid ((p2.block _ (by omega) (by omega)).trans J3)
      have P2 := Lib.hid p2
      have P3 := Lib.hid p3
      have XF := Lib.hid X4
      have L1 := Lib.hid l1
      clear p1 p2 p3 p4 hW4 J2 J3 l1 l2 q1 q2 q3 q4 X4 z1
      by_cases hx : x = lsn
      · subst hx
        gi_wp2
        have z1 := Z1.out
        have l1 := L1.out
        have s4 := P2.out.size
        obtain ⟨t1, t2⟩ := XF.out.put x at_ 0 (.slice aq nq cq)
        exact roundTo_ret ((t2.block _ (by omega) (by omega)).trans P3.out) ((t2.block _ (by omega) (by omega)).trans D3.out) ⟨rfl, t1, _, P2.out, t2⟩
      · gi_wp2
        exact roundTo_normal P3.out D3.out ⟨XF.out, hx, P2.out⟩
    · rintro e W2 (⟨rfl, W5, r1, ⟨r2, r3, r4⟩, rfl, r5, r6⟩ | ⟨rfl, c, W5, r1, ⟨rfl, r2, r3, W4, r4, r7⟩, rfl, r5, r6⟩)
      · exact ⟨W5, W5, _, r4, Gap.refl _ _ _, rfl, r5, r6, .inl ⟨rfl, r2, r3, rfl⟩⟩
      · exact ⟨W4, W5, _, r4, r7, rfl, r5, r6, .inr ⟨rfl, r2, r3, rfl⟩⟩)
  have z1 := Z1.out
  have s2 := S2.out
  have EL := EE.out.on q3
  refine (each_it w2.heap.size bN bS bO ao' cap bs base seed 5 (w1.heap.size + 1)
    (fun i W => FnBox w lsn 0 (.slice none 0 0) 0 0 W ∧ (∀ j, j < i → bv (rdS bs (iterS bs ⟨0, 0, base, seed⟩ j)).lsn ≠ lsn) ∧ W.heap[w1.heap.size + 1]? = some (.loop lo) ∧ W.heap[w1.heap.size]? = some (.deferred (some [])))
    (fun W => (∃ i v n, 1 ≤ base ∧ (∀ j, j ≤ i → goS bs (iterS bs ⟨0, 0, base, seed⟩ j)) ∧ bv (rdS bs (iterS bs ⟨0, 0, base, seed⟩ i)).lsn = lsn ∧ FnBox w lsn lsn v (iterS bs ⟨0, 0, base, seed⟩ i).end_ 0 W ∧ w1.heap.size + 9 ≤ n ∧ OwnB W n v (rdS bs (iterS bs ⟨0, 0, base, seed⟩ i)).data) ∧ W.heap[w1.heap.size + 1]? = some (.loop (lst lo .done (some .ret))) ∧ W.heap[w1.heap.size]? = some (.deferred (some [])))
    (loopW w1 lo) EL (by omega) h2 ?_ ?_ ?_ ?_).mono ?_
  · rintro i W1 W2 ⟨j1, j2, j3, j4⟩ hg
    have l1 := (Array.getElem?_eq_some_iff.1 j3).1
    have l2 := (Array.getElem?_eq_some_iff.1 j4).1
    exact ⟨j1.gap hg (by omega), j2, (hg.block _ l1 (by omega)).trans j3, (hg.block _ l2 (by omega)).trans j4⟩
  · rintro W1 W2 ⟨⟨i, v, n, j1, j2, j3, j4, j5, j6⟩, j7, j8⟩ hg
    have l1 := (Array.getElem?_eq_some_iff.1 j7).1
    have l2 := (Array.getElem?_eq_some_iff.1 j8).1
    exact ⟨⟨i, v, n, j1, j2, j3, j4.gap hg (by omega), j5, own_off j6 fun g g1 g2 => hg.block g g2 (by omega)⟩, (hg.block _ l1 (by omega)).trans j7, (hg.block _ l2 (by omega)).trans j8⟩
  · rintro i W0 W1 v hb1 hg hgo ⟨j1, j2, j3, j4⟩ hlt hu hO
    have l1 := (Array.getElem?_eq_some_iff.1 j3).1
    have l2 := (Array.getElem?_eq_some_iff.1 j4).1
    have l4 := hu.size
    obtain ⟨aq, cq, rfl, -, -, -, -, -⟩ := hO.slice
    refine YieldAt.mono (HRound.out _ _ _ _ _ W1 (j1.gap hu (by omega)) ((hu.block _ l1 (by omega)).trans j3) ((hu.block _ l2 (by omega)).trans j4)) ?_
    rintro e W2 ⟨W4, W5, o, h4, g5, rfl, r5, r6, h⟩
    have s4 := h4.size
    have s5 := g5.size
    have HK : KeepE (loopW w1 lo).heap.size ((loopW w1 lo).heap.size + 7) ao' W1 (W5.putObj (w1.heap.size + 1) (.loop o)) := by
      refine ⟨by simp; omega, fun k k1 k2 k3 => ?_, fun g o' e' k3 => ?_⟩
      · exact (World.putObj_heap_other (by omega)).trans ((g5.block _ (by omega) (by omega)).trans (h4.block _ k3 (by omega)))
      · have hgb := EE.out.gB g o' e'
        have hgl : g < w1.heap.size := by
          obtain ⟨g', o'', e'', hcell⟩ := EE.out.bytes 0 (by have := hgo.1; omega)
          rw [e'] at e''
          injection e'' with e''; injection e'' with e1 e2
          subst e1
          have := block_lt_of_cell hcell
          dsimp only at this
          exact this
        exact (World.putObj_heap_other (by omega)).trans ((g5.block _ (by omega) (by omega)).trans (h4.block _ k3 (by omega)))
    rcases h with ⟨rfl, n5, hx, rfl⟩ | ⟨rfl, n5, hx, rfl⟩
    · exact .inl ⟨rfl, ⟨n5.gap (Gap.putObj _ (by omega) (Nat.le_refl _) (Nat.lt_succ_self _)) (by omega), fun j hj => by
        by_cases e : j = i
        · subst e; exact hx
        · exact j2 j (by omega), r5, r6⟩, HK⟩
    · refine .inr ⟨rfl, ⟨⟨i, _, W0.heap.size, hb1, fun j hj => by
        by_cases e : j = i
        · subst e; exact hgo
        · exact hg j (by omega), hx, (hx ▸ n5).gap (Gap.putObj _ (by omega) (Nat.le_refl _) (Nat.lt_succ_self _)) (by omega), by omega, ?_⟩, r5, r6⟩, HK⟩
      refine own_off hO fun g g1 g2 => ?_
      exact (World.putObj_heap_other (by omega)).trans ((g5.block _ (by omega) (by omega)).trans (h4.block _ g2 (by omega)))
  · exact ⟨X1.out.gap (Gap.of_below q3 (a := w.heap.size + 4) (b := w.heap.size + 4)) (Nat.le_refl _), fun j hj => by omega, q1, q2⟩
  · rintro e W' ⟨⟨v0, rfl⟩, h⟩
    rcases h with ⟨i, hend, r1, r2, r3, r4⟩ | ⟨⟨i, v, n, j1, j2, j3, j4, j5, j6⟩, r3, r4⟩
    · refine ⟨⟨v0, rfl⟩, .inl ⟨r3, ?_⟩⟩
      have l1 := (Array.getElem?_eq_some_iff.1 r3).1
      have D5 := Lib.hid (show (W'.putObj (w1.heap.size + 1) (.loop (lst lo .exhausted none))).heap[w1.heap.size]? = some (.deferred (some [])) from (World.putObj_heap_other (by omega)).trans r4)
      have X5 := r1.gap (Gap.putObj (.loop (lst lo .exhausted none)) l1 (Nat.le_refl _) (Nat.lt_succ_self _)) (by omega)
      obtain ⟨W5, hW5⟩ : ∃ W5, W'.putObj (w1.heap.size + 1) (.loop (lst lo .exhausted none)) = W5 := ⟨_, rfl⟩
      rw [hW5] at D5 X5 ⊢
      clear hW5 r1 r3 r4 l1 s2 z1 q1 q2 q3 q4 EL
      have c0 := cell_of_row _ _ 0 _ _ _ X5.rcb
      have c1 := cell_of_row _ _ 1 _ _ _ X5.rcb
      have c2 : W5.cell? ⟨w.heap.size + 1 + 1, 0, none⟩ = _ := cell_of_row _ _ 0 _ _ _ X5.atb
      have c3 : W5.cell? ⟨w.heap.size + 1 + 1 + 1, 0, none⟩ = _ := cell_of_row _ _ 0 _ _ _ X5.erb
      have f0 := frozen_of_row _ _ 0 _ _ X5.rcb
      have f1 := frozen_of_row _ _ 1 _ _ X5.rcb
      have f2 : W5.frozen? ⟨w.heap.size + 1 + 1, 0, none⟩ = _ := frozen_of_row _ _ 0 _ _ X5.atb
      have f3 : W5.frozen? ⟨w.heap.size + 1 + 1 + 1, 0, none⟩ = _ := frozen_of_row _ _ 0 _ _ X5.erb
      have XF := Lib.hid X5
      have R2 := Lib.hid r2
      have HE := Lib.hid hend
      clear X5 r2 hend
      gi_wp2
      obtain ⟨t1, t2⟩ := XF.out.put 0 0 6 (.slice none 0 0)
      have z1 := Z1.out
      have l5 := (Array.getElem?_eq_some_iff.1 D5.out).1
      have D6 := (t2.block _ l5 (by omega)).trans D5.out
      have l6 := (Array.getElem?_eq_some_iff.1 D6).1
      refine ⟨by simp, .inl ⟨_, _, rfl, run_takeDeferred D6, ?_⟩⟩
      have t3 := t1.gap (Gap.putObj (.deferred none) l6 (Nat.le_refl _) (Nat.lt_succ_self _)) (by omega)
      exact ⟨_, results_find rfl _ t3 rfl rfl rfl, 0, _, [], 0, 6, .inr ⟨i, HE.out, R2.out, rfl, rfl, rfl, rfl⟩, rfl, OwnB.nil _ _, t3.below⟩
    · refine ⟨⟨v0, rfl⟩, .inr ⟨.ret, r3, ?_⟩⟩
      have l1 := (Array.getElem?_eq_some_iff.1 r3).1
      have D5 := Lib.hid (show (W'.putObj (w1.heap.size + 1) (.loop (lst lo .exhausted (some .ret)))).heap[w1.heap.size]? = some (.deferred (some [])) from (World.putObj_heap_other (by omega)).trans r4)
      have X5 := j4.gap (Gap.putObj (.loop (lst lo .exhausted (some .ret))) l1 (Nat.le_refl _) (Nat.lt_succ_self _)) (by omega)
      have O5 := own_off j6 (w' := W'.putObj (w1.heap.size + 1) (.loop (lst lo .exhausted (some .ret)))) fun g g1 g2 => World.putObj_heap_other (by omega)
      obtain ⟨W5, hW5⟩ : ∃ W5, W'.putObj (w1.heap.size + 1) (.loop (lst lo .exhausted (some .ret))) = W5 := ⟨_, rfl⟩
      rw [hW5] at D5 X5 O5 ⊢
      have XF := Lib.hid X5
      have OF := Lib.hid O5
      have J2 := Lib.hid j2
      have J3 := Lib.hid j3
      have J5 := Lib.hid j5
      clear hW5 X5 O5 j2 j3 j4 j5 j6 r3 r4 l1 s2 z1 q1 q2 q3 q4 EL
      gi_wp2
      have z1 := Z1.out
      have j5 := J5.out
      have l6 := (Array.getElem?_eq_some_iff.1 D5.out).1
      refine ⟨by simp, .inl ⟨_, _, rfl, run_takeDeferred D5.out, ?_⟩⟩
      have t3 := XF.out.gap (Gap.putObj (.deferred none) l6 (Nat.le_refl _) (Nat.lt_succ_self _)) (by omega)
      have o3 := own_off OF.out (w' := W5.putObj w1.heap.size (.deferred none)) fun g g1 g2 => World.putObj_heap_other (by omega)
      exact ⟨_, results_find rfl _ t3 rfl rfl rfl, _, _, _, _, _, .inl ⟨i, j1, J2.out, J3.out, rfl, rfl, rfl, rfl⟩, rfl, OwnB.base o3 (by omega), t3.below⟩
theorem scan_find (ao : Option Addr) (bs : List (BitVec 8)) (n ca : Nat) (base s lsn : Int) (seed : BitVec 32) (w : World) (hs : s = bv seed) (hb : BytesAt w ao bs) (hn : bs.length = n) (hz : ao = none → ca = 0) (hl : n ≤ 140737488355328) (h2 : base ≤ 9223372036854775807) :
    Calls Try.prog 36 #[.slice ao n ca, .int .i64 base, .int .u32 s, .int .i64 lsn] w fun e w' => ∃ x v data at_ er, FindIs bs base seed lsn x data at_ er ∧ e = .returned (.tuple #[.agg #[.int .i64 x, v], .int .i64 at_, .int .i64 er]) ∧ OwnB w' w.heap.size v data ∧ Below w.heap.size w w' :=
  callsIn_wide.1 (scan_find_in ao bs n ca base s lsn seed w hs hb hn hz hl h2)
end Go.Proofs.Ytfadpjljokpenaa

/-! Lists of records with bytes of their own. -/
namespace Go.Proofs.Ytfadpjljokpenaa
open Go.RowKit Go.Shelf

/-- A record of a list: its place, its number, its data: where they lie, what they are. -/
structure PRec where
  off : Int
  lsn : Int
  v : Value
  d : List (BitVec 8)
def cells2 (p : PRec) : List Value := [.int .i64 p.lsn, p.v]
def cells3 (p : PRec) : List Value := [.int .i64 p.off, .int .i64 p.lsn, p.v]
/-- A list of such records: its row, and each one's bytes. -/
structure RowAt (e : TypeId) (size : Nat) (cs : PRec → List Value) (w : World) (lo : Nat) (lv : Value) (l : List PRec) : Prop where
  row : w.ownsRow lo e size lv l.length (l.flatMap cs)
  own : ∀ p ∈ l, OwnB w lo p.v p.d
  apart : l.Pairwise fun p q => p.v.ownBlock = none ∨ p.v.ownBlock ≠ q.v.ownBlock
section
variable {e : TypeId} {size lo : Nat} {cs : PRec → List Value} {w w' : World} {lv : Value} {l : List PRec}
theorem RowAt.nil (e : TypeId) (size : Nat) (cs : PRec → List Value) (w : World) (lo : Nat) : RowAt e size cs w lo (.slice none 0 0) [] := ⟨World.ownsRow_nil w lo e size, (fun _ hp => nomatch hp), List.Pairwise.nil⟩
theorem RowAt.off (h : RowAt e size cs w lo lv l) (hb : ∀ g, lo ≤ g → g < w.heap.size → w'.heap[g]? = w.heap[g]?) : RowAt e size cs w' lo lv l :=
  ⟨rows_congr h.row (fun g hg => let ⟨h1, _, h2⟩ := rows_blk h.row hg; hb g h1 (heap_lt h2)), fun p hp => own_off (h.own p hp) hb, h.apart⟩
theorem RowAt.keep (h : RowAt e size cs w lo lv l) (hb : Below w.heap.size w w') : RowAt e size cs w' lo lv l := h.off fun g _ hg => hb.block g hg
theorem RowAt.base {lo' : Nat} (h : RowAt e size cs w lo lv l) (hl : lo' ≤ lo) : RowAt e size cs w lo' lv l := by
  refine ⟨⟨h.row.1, ?_⟩, fun p hp => OwnB.base (h.own p hp) hl, h.apart⟩
  rcases h.row.2 with h0 | ⟨g, cap, cur, hv, hg, r⟩
  · exact .inl h0
  · exact .inr ⟨g, cap, cur, hv, by omega, r⟩
/-- Bytes of one's own don't lie in the row. -/
theorem RowAt.ne (h : RowAt e size cs w lo lv l) (he : e ≠ 5) {x : Value} {bs : List (BitVec 8)} (ho : OwnB w lo x bs) {g : Nat} (hg : x.ownBlock = some g) : lv.ownBlock ≠ some g := fun hl => by
  obtain ⟨_, cur, h1⟩ := rows_blk h.row hl
  obtain ⟨_, cur', h2⟩ := rows_blk ho hg
  have := h1.symm.trans h2
  injection this with this; injection this with _ this
  exact he this
/-- One more. -/
theorem RowAt.push (h : RowAt e size cs w lo lv l) (he : e ≠ 5) {lv' : Value} {p : PRec} (ho : w'.ownsRow lo e size lv' (l.length + 1) (l.flatMap cs ++ cs p)) (hg : w.grownBy w' lv.ownBlock) (hp : OwnB w lo p.v p.d)
    (hn : ∀ q ∈ l, q.v.ownBlock = none ∨ q.v.ownBlock ≠ p.v.ownBlock) : RowAt e size cs w' lo lv' (l ++ [p]) := by
  have key : ∀ y b, OwnB w lo y b → OwnB w' lo y b := fun y b hy => rows_congr hy fun g hy' => by
    obtain ⟨_, cur, hc⟩ := rows_blk hy hy'
    exact hg.block g (heap_lt hc) (fun e1 => h.ne he hy hy' e1.symm)
  refine ⟨by rw [List.length_append, List.flatMap_append]; simpa using ho, fun q hq => ?_, ?_⟩
  · rcases List.mem_append.1 hq with hq | hq
    · exact key _ _ (h.own q hq)
    · obtain rfl := List.mem_singleton.1 hq
      exact key _ _ hp
  · exact List.pairwise_append.2 ⟨h.apart, by simp, fun q hq x hx => by obtain rfl := List.mem_singleton.1 hx; exact hn q hq⟩
/-- All bytes lie below. -/
theorem RowAt.lt (h : RowAt e size cs w lo lv l) {p : PRec} (hp : p ∈ l) {n : Nat} {v : Value} {bs : List (BitVec 8)} (hv : OwnB w' n v bs) (hn : w.heap.size ≤ n) : p.v.ownBlock = none ∨ p.v.ownBlock ≠ v.ownBlock := by
  cases hq : p.v.ownBlock with
  | none => exact .inl rfl
  | some g =>
    refine .inr fun e1 => ?_
    obtain ⟨_, _, h1⟩ := rows_blk (h.own p hp) hq
    have h2 := rows_blk hv e1.symm
    have := heap_lt h1
    omega
end
/-- Records told by the rounds of a scan. -/
def Told (bs : List (BitVec 8)) (s0 : ScV) (l : List PRec) : Prop := ∀ j p, l[j]? = some p → goS bs (iterS bs s0 j) ∧ p.off = ((iterS bs s0 j).end_ : Int) ∧ p.lsn = bv (rdS bs (iterS bs s0 j)).lsn ∧ p.d = (rdS bs (iterS bs s0 j)).data
theorem Told.nil (bs : List (BitVec 8)) (s0 : ScV) : Told bs s0 [] := fun j p h => by simp at h
theorem Told.snoc {bs : List (BitVec 8)} {s0 : ScV} {l : List PRec} (h : Told bs s0 l) {p : PRec} (hg : goS bs (iterS bs s0 l.length)) (h1 : p.off = ((iterS bs s0 l.length).end_ : Int)) (h2 : p.lsn = bv (rdS bs (iterS bs s0 l.length)).lsn) (h3 : p.d = (rdS bs (iterS bs s0 l.length)).data) : Told bs s0 (l ++ [p]) := by
  intro j q hq
  rcases Nat.lt_trichotomy j l.length with hj | hj | hj
  · rw [List.getElem?_append_left hj] at hq; exact h j q hq
  · subst hj
    rw [List.getElem?_append_right (Nat.le_refl _)] at hq
    simp only [Nat.sub_self, List.getElem?_cons_zero, Option.some.injEq] at hq
    subst hq
    exact ⟨hg, h1, h2, h3⟩
  · rw [List.getElem?_append_right (by omega)] at hq
    rw [show j - l.length = (j - l.length - 1) + 1 by omega] at hq
    simp at hq
/-- As many frames as there are take sixteen bytes each. -/
theorem iterS_far {bs : List (BitVec 8)} {s0 : ScV} (k : OkS bs s0) : ∀ i, (∀ j, j < i → goS bs (iterS bs s0 j)) → 16 * i ≤ (iterS bs s0 i).end_
  | 0, _ => Nat.zero_le _
  | i + 1, h => by
    have h1 := iterS_far k i fun j hj => h j (by omega)
    have h2 := (goS_next (h i (by omega)) (iterS_ok k i fun j hj => h j (by omega))).2.1
    show 16 * (i + 1) ≤ (nextS bs (iterS bs s0 i)).end_
    omega
theorem Told.bound {bs : List (BitVec 8)} {s0 : ScV} {l : List PRec} (h : Told bs s0 l) (k : OkS bs s0) : 16 * l.length ≤ bs.length := by
  have hg : ∀ j, j < l.length → goS bs (iterS bs s0 j) := fun j hj => (h j _ (List.getElem?_eq_getElem hj)).1
  have h1 := iterS_far k l.length hg
  have h2 := (iterS_ok k l.length hg).le
  omega
theorem Try.infoRec : (Try.prog.info? 34).map (fun i => (i.zero, i.size, i.bytes)) = some (some (.agg #[.int .i64 0, .slice none 0 0]), 2, 32) := by kernel_rfl
/-- All blocks but those of a kind lie as they lay. -/
structure Off (P : Nat → Prop) (W W' : World) : Prop where
  os : W'.os = W.os
  tape : W'.tape = W.tape
  output : W'.output = W.output
  size : W.heap.size ≤ W'.heap.size
  block : ∀ k, k < W.heap.size → ¬ P k → W'.heap[k]? = W.heap[k]?
section
variable {P : Nat → Prop} {W W1 W2 : World}
theorem Off.refl (P : Nat → Prop) (W : World) : Off P W W := ⟨rfl, rfl, rfl, Nat.le_refl _, fun _ _ _ => rfl⟩
theorem Off.trans (h : Off P W W1) (k : Off P W1 W2) : Off P W W2 :=
  ⟨k.os.trans h.os, k.tape.trans h.tape, k.output.trans h.output, Nat.le_trans h.size k.size, fun i hi hb => (k.block i (Nat.lt_of_lt_of_le hi h.size) hb).trans (h.block i hi hb)⟩
theorem Off.of_but {c : Nat} (h : But c W W1) (hc : P c) : Off P W W1 := ⟨h.os, h.tape, h.output, h.size, fun k hk hb => h.block k hk (fun e => hb (e ▸ hc))⟩
theorem Off.of_below (h : Below W.heap.size W W1) : Off P W W1 := ⟨h.os, h.tape, h.output, h.size, fun k hk _ => h.block k hk⟩
theorem Off.of_gap {a b : Nat} (h : Gap a b W W1) (hc : ∀ k, a ≤ k → k < b → P k) : Off P W W1 := ⟨h.os, h.tape, h.output, h.size, fun k hk hb => h.block k hk (by
  rcases Nat.lt_or_ge k a with h1 | h1
  · exact .inl h1
  · rcases Nat.lt_or_ge k b with h2 | h2
    · exact (hb (hc k h1 h2)).elim
    · exact .inr h2)⟩
theorem Off.of_row {lo n size : Nat} {e : TypeId} {v : Value} {xs : List Value} (h : W.ownsRow lo e size v n xs) (hg : W.grownBy W1 v.ownBlock) (hl : lo ≤ W.heap.size) (hc : ∀ k, lo ≤ k → P k) : Off P W W1 := by
  have hb := (Below.refl lo W).grown hg hl (fun k hk => (rows_blk h hk).1)
  exact ⟨hb.os, hb.tape, hb.output, hb.size, fun k hk hp => hg.block k hk (fun e => hp (hc k (rows_blk h e.symm).1))⟩
theorem Off.set {c o : Nat} (v : Value) (hc : P c) : Off P W (W.setCell ⟨c, o, none⟩ v) := Off.of_but ((But.refl c W).setB o v) hc
theorem Off.below {n : Nat} {w : World} (h0 : Below n w W) (h : Off P W W1) (h1 : ∀ k, k < n → ¬ P k) (h2 : n ≤ W.heap.size) : Below n w W1 :=
  ⟨h.os.trans h0.os, h.tape.trans h0.tape, h.output.trans h0.output, Nat.le_trans h0.size h.size, fun k hk => (h.block k (by omega) (h1 k hk)).trans (h0.block k hk)⟩
end
theorem cells_new (w : World) (cs : List Value) (t : TypeId) : ∀ j u, cs[j]? = some u → (w.alloc (.cells cs.toArray t)).cell? ((⟨w.heap.size, 0, none⟩ : Addr).add j) = some u := fun j u hj => by
  rw [Addr.add_mid, Nat.zero_add, cell_of_row _ _ _ _ _ _ (heap_alloc_new w _)]
  simpa using hj
theorem two_cells (x : Int) (aq : Option Addr) (nq cq : Nat) : ∀ u ∈ [Value.int .i64 x, .slice aq nq cq], u.oneCell' = true := fun u hu => by
  simp only [List.mem_cons, List.not_mem_nil, or_false] at hu
  rcases hu with rfl | rfl <;> rfl
theorem three_cells (y x : Int) (aq : Option Addr) (nq cq : Nat) : ∀ u ∈ [Value.int .i64 y, .int .i64 x, .slice aq nq cq], u.oneCell' = true := fun u hu => by
  simp only [List.mem_cons, List.not_mem_nil, or_false] at hu
  rcases hu with rfl | rfl | rfl <;> rfl
end Go.Proofs.Ytfadpjljokpenaa

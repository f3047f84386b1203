/- The walk of scan.Records. -/
import Derived.Test.YtfadpjljokpenaaScanFind
namespace Go.Proofs.Ytfadpjljokpenaa
open Go.RowKit Go.Shelf
attribute [local go_sem] Oper.semAt_some

/-- What Records answers. -/
def RecordsIs (bs : List (BitVec 8)) (base : Int) (seed : BitVec 32) (most : Int) (l : List PRec) : Prop :=
  Told bs ⟨0, 0, base, seed⟩ l ∧ ((most < 1 ∧ l = []) ∨ (1 ≤ most ∧ (l.length : Int) ≤ most ∧ ((EndsAt bs base seed l.length) ∨ ((l.length : Int) = most ∧ 1 ≤ base))))
/-- Records' boxes. -/
structure RcBox (w : World) (most : Int) (lv : Value) (W : World) : Prop where
  mostb : W.heap[w.heap.size]? = some (.cells #[.int .i64 most] 3 (0, 0))
  listb : W.heap[w.heap.size + 1]? = some (.cells #[lv] 22 (0, 0))
  below : Below w.heap.size w W
theorem RcBox.off {w W W' : World} {P : Nat → Prop} {most : Int} {lv : Value} (h : RcBox w most lv W) (hb : Off P W W') (h1 : ∀ k, k < w.heap.size + 2 → ¬ P k) : RcBox w most lv W' := by
  have hl := (Array.getElem?_eq_some_iff.1 h.listb).1
  exact ⟨(hb.block _ (by omega) (h1 _ (by omega))).trans h.mostb, (hb.block _ hl (h1 _ (by omega))).trans h.listb, hb.below h.below (fun k hk => h1 k (by omega)) (by omega)⟩
theorem RcBox.put {w W : World} {most : Int} {lv : Value} (h : RcBox w most lv W) (lv' : Value) : RcBox w most lv' (W.setCell ⟨w.heap.size + 1, 0, none⟩ lv') := by
  have hl := (Array.getElem?_eq_some_iff.1 h.listb).1
  exact ⟨(Below.heap_setCell _ _ _ _ (by simp)).trans h.mostb, Go.Joins.block_setCell h.listb lv' (i := 0), h.below.setCell (by simp only; omega) _⟩

/-- Behind a round: one more record in the list. -/
def RcTo (w : World) (b : Nat) (most : Int) (p : PRec) (l : List PRec) (W1 W : World) : Prop :=
  ∃ lv', Off (fun k => k = w.heap.size + 1 ∨ k = b + 1 ∨ b + 9 ≤ k) W1 W ∧ RcBox w most lv' W ∧ RowAt 34 2 cells2 W (b + 9) lv' (l ++ [p])
set_option maxRecDepth 100000 in
set_option maxHeartbeats 4000000 in
theorem scan_records_in (ao : Option Addr) (bs : List (BitVec 8)) (n ca : Nat) (base s most : Int) (seed : BitVec 32) (w : World) (hs : s = bv seed) (hb : BytesAt w ao bs) (hn : bs.length = n) (hz : ao = none → ca = 0) (hl : n ≤ 1000000) (h2 : base ≤ 9223372036854775807) (hm : 1 ≤ most) :
    CallsIn Fence.wide 9 Try.prog 35 #[.slice ao n ca, .int .i64 base, .int .u32 s, .int .i64 most] w fun e w' => ∃ lv l, RecordsIs bs base seed most l ∧ e = .returned lv ∧ RowAt 34 2 cells2 w' w.heap.size lv l ∧ Below w.heap.size w w' := by
  subst hs hn
  have HB := Lib.hid hb
  have HZ := Lib.hid hz
  clear hb hz
  obtain ⟨w2, hw2⟩ : ∃ w2, (w.alloc (.cells #[.int .i64 most] 3)).alloc (.cells #[.slice none 0 0] 22) = w2 := ⟨_, rfl⟩
  have hs2 : w2.heap.size = w.heap.size + 2 := by rw [← hw2]; simp
  have X2 : RcBox w most (.slice none 0 0) w2 := by
    rw [← hw2]
    have b1 := below_alloc w (.cells #[.int .i64 most] 3)
    have b2 := below_alloc (w.alloc (.cells #[.int .i64 most] 3)) (.cells #[.slice none 0 0] 22)
    have e1 : (w.alloc (.cells #[.int .i64 most] 3)).heap.size = w.heap.size + 1 := by simp
    have h2 := heap_alloc_new (w.alloc (.cells #[.int .i64 most] 3)) (.cells #[.slice none 0 0] 22)
    rw [e1] at h2
    exact ⟨(b2.block _ (by omega)).trans (heap_alloc_new w _), h2, below_trans b1 b2⟩
  have c2 : w2.cell? ⟨w.heap.size, 0, none⟩ = some (.int .i64 most) := cell_of_row _ _ 0 _ _ _ X2.mostb
  have XX := Lib.hid X2
  have S2 := Lib.hid hs2
  clear X2 hs2
  refine callsIn_of_wp_marks Try.func35 rfl trivial ?_ rfl
  simp only [Try.ntmps35, List.size_toArray, List.length_cons, List.length_nil, Nat.reduceAdd, Nat.reduceSub, Array.replicate_succ, Array.replicate_zero, List.push_toArray, List.append_toArray, List.nil_append, List.cons_append]
  gi_wp2
  refine ⟨trivial, (callsIn_wide.2 (scan_each ao bs bs.length ca base (bv seed) seed w2 rfl (HB.out.below XX.out.below) rfl HZ.out (by omega))).mono ?_⟩
  rintro e w1 ⟨bN, bS, bO, ao', cap, rfl, hE, hb1⟩
  have EE := Lib.hid hE
  have B1 := Lib.hid hb1
  have X1 := Lib.hid (XX.out.off (Off.of_below (P := fun _ => False) hb1) (fun _ _ h => h))
  have Z1 : Hid (w.heap.size + 2 ≤ w1.heap.size) := Lib.hid (by have := hb1.size; have := S2.out; omega)
  clear hE hb1 hw2 c2
  unfold eachFn
  gi_wp2
  refine range_in rfl (enters_of Try.func75 (by kernel_rfl) rfl) fun fn lo hlo => ?_
  obtain ⟨q1, q2, q3, q4⟩ := loopW_at w1 lo
  simp only [List.append_toArray, List.cons_append, List.nil_append]
  have HRound : Hid (∀ (at_ : Nat) (x : Int) (aq : Option Addr) (nq cq nb : Nat) (d : List (BitVec 8)) (lv : Value) (l : List PRec) (W1 : World), RcBox w most lv W1 → RowAt 34 2 cells2 W1 (w1.heap.size + 9) lv l → w1.heap.size + 9 ≤ W1.heap.size → OwnB W1 nb (.slice aq nq cq) d → w1.heap.size + 9 ≤ nb →
      (∀ p ∈ l, p.v.ownBlock = none ∨ p.v.ownBlock ≠ (Value.slice aq nq cq).ownBlock) → l.length ≤ 1000000 → W1.heap[w1.heap.size + 1]? = some (.loop lo) → W1.heap[w1.heap.size]? = some (.deferred (some [])) →
      YieldAt Fence.wide 5 Try.prog (w1.heap.size + 1) #[.int .i64 at_, .agg #[.int .i64 x, .slice aq nq cq]] W1 fun e W2 => ∃ W5 o lv', Off (fun k => k = w.heap.size + 1 ∨ k = w1.heap.size + 1 ∨ w1.heap.size + 9 ≤ k) W1 W5 ∧ W2 = W5.putObj (w1.heap.size + 1) (.loop o) ∧ W2.heap[w1.heap.size + 1]? = some (.loop o) ∧ W2.heap[w1.heap.size]? = some (.deferred (some [])) ∧
        RcBox w most lv' W5 ∧ RowAt 34 2 cells2 W5 (w1.heap.size + 9) lv' (l ++ [⟨at_, x, .slice aq nq cq, d⟩]) ∧
        ((e = .returned (.bool true) ∧ (l.length : Int) + 1 ≠ most ∧ o = lo) ∨ (e = .returned (.bool false) ∧ (l.length : Int) + 1 = most ∧ o = lst lo .done (some (.exit 0))))) := Lib.hid (by
    intro at_ x aq nq cq nb d lv l W1 hX hR hlo1 hO hnb hap hll J2 J3
    have l1 := (Array.getElem?_eq_some_iff.1 J2).1
    have l2 := (Array.getElem?_eq_some_iff.1 J3).1
    have HX := Lib.hid hX
    have HR := Lib.hid hR
    have HO := Lib.hid hO
    have HA := Lib.hid hap
    have HLL := Lib.hid hll
    have HNB := Lib.hid hnb
    have HL1 := Lib.hid hlo1
    clear hX hR hO hap hll hnb hlo1
    refine YieldAt.mono (round_in hlo trivial J2 J3 (by omega) rfl
      (fun W => (l.length : Int) + 1 ≠ most ∧ RcTo w w1.heap.size most ⟨at_, x, .slice aq nq cq, d⟩ l W1 W)
      (fun c W => c = .exit 0 ∧ (l.length : Int) + 1 = most ∧ RcTo w w1.heap.size most ⟨at_, x, .slice aq nq cq, d⟩ l W1 W) ?_) ?_
    · have K2 := Lib.hid J2
      have K3 := Lib.hid J3
      clear l1 l2 J2 J3
      gi_wp2
      have J2 := K2.out
      have J3 := K3.out
      have l1 := (Array.getElem?_eq_some_iff.1 J2).1
      have l2 := (Array.getElem?_eq_some_iff.1 J3).1
      obtain ⟨p1, p2, p3, p4⟩ := round_box W1 #[.int .i64 x, .slice aq nq cq] 34 (w1.heap.size + 1) (.loop (lst lo .busy none)) (by omega)
      refine ⟨p4, (below_alloc W1 _).block w1.heap.size (by omega), ?_⟩
      obtain ⟨W4, hW4⟩ : ∃ W4, (W1.alloc (.cells #[.int .i64 x, .slice aq nq cq] 34)).putObj (w1.heap.size + 1) (.loop (lst lo .busy none)) = W4 := ⟨_, rfl⟩
      rw [hW4]
      rw [hW4] at p1 p2 p3
      have c0 := cell_of_row _ _ 0 _ _ _ p1
      have c1 := cell_of_row _ _ 1 _ _ _ p1
      have z1 := Z1.out
      have X4 := HX.out.off (Off.of_but p2 (P := fun k => k = w1.heap.size + 1) rfl) (fun k hk hp => by omega)
      have r0 := cell_of_row _ _ 0 _ _ _ X4.listb
      have D3 := Lib.hid ((p2.block _ (by omega) (by omega)).trans J3)
      have P2 := Lib.hid p2
      have P3 := Lib.hid p3
      have XF := Lib.hid X4
      have L1 := Lib.hid l1
      have HL := HL1.out
      have RB := HR.out.off (w' := W4) (fun g g1 g2 => p2.block g g2 (by omega))
      have OB := own_off HO.out (w' := W4) (fun g g1 g2 => p2.block g g2 (by have := HNB.out; omega))
      have s4 := p2.size
      obtain ⟨i0, hi, hz0, hz1, hz2⟩ := info_parts Try.infoRec
      have HI := Lib.hid hi
      have HZ0 := Lib.hid hz0
      have HZ1 := Lib.hid hz1
      have HZ2 := Lib.hid hz2
      have R4 := Lib.hid (RB.keep (below_alloc W4 (.cells #[.int .i64 x, .slice aq nq cq] 34)))
      have O4 := Lib.hid (OB.keep (below_alloc W4 (.cells #[.int .i64 x, .slice aq nq cq] 34)))
      have S4 : Hid (w1.heap.size + 9 ≤ (W4.alloc (.cells #[.int .i64 x, .slice aq nq cq] 34)).heap.size) := Lib.hid (by simp; omega)
      have NW : Hid (∀ j u, [Value.int .i64 x, .slice aq nq cq][j]? = some u → (W4.alloc (.cells #[.int .i64 x, .slice aq nq cq] 34)).cell? ((⟨W4.heap.size, 0, none⟩ : Addr).add j) = some u) := Lib.hid (cells_new _ _ _)
      clear p1 p2 p3 p4 hW4 J2 J3 l1 l2 q1 q2 q3 q4 X4 z1 HL RB OB s4 hi hz0 hz1 hz2
      have hlen : l.length ≤ 1000000 := HLL.out
      gi_wp2_with (gi_at_builtin; refine wpListIn_append_own_at _ (o := ⟨some 23, _, _, _, _, _⟩) rfl _ _ 22 rfl (w1.heap.size + 9) 34 i0 (.agg #[.int .i64 0, .slice none 0 0]) 2 32 Try.underlying22 HI.out HZ0.out HZ1.out HZ2.out rfl (by decide) lv l.length (l.flatMap cells2) rfl R4.out.row ⟨W4.heap.size, 0, none⟩ 1 1 [.int .i64 x, .slice aq nq cq] rfl rfl NW.out (two_cells _ _ _ _) (by simp only [maxLen]; omega) (by omega) S4.out ?_)
      intro lv' w6 ho6 hg6 hi6 hat
      clear hi6 hat
      obtain ⟨g', cap', rfl⟩ := ownsRow_succ ho6
      have z1 := Z1.out
      have F6 := Off.of_row R4.out.row hg6 S4.out (P := fun k => w1.heap.size + 9 ≤ k) (fun _ h => h)
      have X6 := (XF.out.off (Off.of_below (P := fun k => w1.heap.size + 9 ≤ k) (below_alloc W4 (.cells #[.int .i64 x, .slice aq nq cq] 34))) (fun k hk h => by omega)).off F6 (fun k hk h => by omega)
      have R6 := Lib.hid (R4.out.push (by decide) (p := ⟨at_, x, .slice aq nq cq, d⟩) ho6 hg6 (OwnB.base O4.out HNB.out) HA.out)
      have FF : Hid (Off (fun k => w1.heap.size + 9 ≤ k) W4 w6) := Lib.hid ((Off.of_below (below_alloc W4 (.cells #[.int .i64 x, .slice aq nq cq] 34))).trans F6)
      have r6 := cell_of_row _ _ 0 _ _ _ X6.listb
      have f6 := frozen_of_row _ _ 0 _ _ X6.listb
      have m6 := cell_of_row _ _ 0 _ _ _ X6.mostb
      have XG := Lib.hid X6
      clear X6 F6 ho6 hg6 R4 O4 z1 c0 c1 r0 NW S4 HI HZ0 HZ1 HZ2
      have HFin : Hid (∀ W, (W = w6.setCell ⟨w.heap.size + 1, 0, none⟩ (.slice (some ⟨g', 0, none⟩) (l.length + 1) cap')) → W.heap[w1.heap.size + 1]? = some (.loop (lst lo .busy none)) ∧ W.heap[w1.heap.size]? = some (.deferred (some [])) ∧
          RcTo w w1.heap.size most ⟨at_, x, .slice aq nq cq, d⟩ l W1 W) := Lib.hid (by
        rintro W rfl
        have z1 := Z1.out
        have l1 := L1.out
        have s4 := P2.out.size
        have s6 := FF.out.size
        refine ⟨(Below.heap_setCell _ _ _ _ (by simp only [ne_eq]; omega)).trans ((FF.out.block _ (by omega) (by omega)).trans P3.out), (Below.heap_setCell _ _ _ _ (by simp only [ne_eq]; omega)).trans ((FF.out.block _ (by omega) (by omega)).trans D3.out), _, ?_, XG.out.put _, R6.out.off fun g g1 g2 => Below.heap_setCell _ _ _ _ (by simp only [ne_eq]; omega)⟩
        refine ((Off.of_but P2.out (.inr (.inl rfl))).trans ?_).trans (Off.set _ (.inl rfl))
        exact ⟨FF.out.os, FF.out.tape, FF.out.output, FF.out.size, fun k hk hp => FF.out.block k hk (fun h => hp (.inr (.inr h)))⟩)
      by_cases hE : (l.length : Int) + 1 = most
      · gi_wp2
        obtain ⟨e1, e2, e3⟩ := HFin.out _ rfl
        exact roundTo_exit e1 e2 ⟨rfl, hE, e3⟩
      · gi_wp2
        obtain ⟨e1, e2, e3⟩ := HFin.out _ rfl
        exact roundTo_normal e1 e2 ⟨hE, e3⟩
    · rintro e W2 (⟨rfl, W5, r1, ⟨r2, lv', r3, r4, r7⟩, rfl, r5, r6⟩ | ⟨rfl, c, W5, r1, ⟨rfl, r2, lv', r3, r4, r7⟩, rfl, r5, r6⟩)
      · exact ⟨W5, _, lv', r3, rfl, r5, r6, r4, r7, .inl ⟨rfl, r2, rfl⟩⟩
      · exact ⟨W5, _, lv', r3, rfl, r5, r6, r4, r7, .inr ⟨rfl, r2, rfl⟩⟩)
  have z1 := Z1.out
  have s2 := S2.out
  have EL := EE.out.on q3
  have gP : ∀ (W1 W2 : World), Gap ((loopW w1 lo).heap.size + 4) ((loopW w1 lo).heap.size + 7) W1 W2 → Off (fun k => w1.heap.size + 6 ≤ k ∧ k < w1.heap.size + 9) W1 W2 := fun W1 W2 hg => Off.of_gap hg (fun k k1 k2 => by omega)
  have hOk : 1 ≤ base → OkS bs ⟨0, 0, base, seed⟩ := fun h => ⟨Nat.zero_le _, Nat.le_refl _, by dsimp only; omega, h2⟩
  refine (each_it w2.heap.size bN bS bO ao' cap bs base seed 5 (w1.heap.size + 1)
    (fun i W => (∃ lv l, RcBox w most lv W ∧ RowAt 34 2 cells2 W (w1.heap.size + 9) lv l ∧ Told bs ⟨0, 0, base, seed⟩ l ∧ l.length = i ∧ (i : Int) < most) ∧ W.heap[w1.heap.size + 1]? = some (.loop lo) ∧ W.heap[w1.heap.size]? = some (.deferred (some [])))
    (fun W => (∃ lv l, RcBox w most lv W ∧ RowAt 34 2 cells2 W (w1.heap.size + 9) lv l ∧ Told bs ⟨0, 0, base, seed⟩ l ∧ (l.length : Int) = most ∧ 1 ≤ base) ∧ W.heap[w1.heap.size + 1]? = some (.loop (lst lo .done (some (.exit 0)))) ∧ W.heap[w1.heap.size]? = some (.deferred (some [])))
    (loopW w1 lo) EL (by omega) h2 ?_ ?_ ?_ ?_).mono ?_
  · rintro i W1 W2 ⟨⟨lv, l, j1, j2, j3, j4, j5⟩, j6, j7⟩ hg
    have l1 := (Array.getElem?_eq_some_iff.1 j6).1
    have l2 := (Array.getElem?_eq_some_iff.1 j7).1
    exact ⟨⟨lv, l, j1.off (gP _ _ hg) (fun k hk h => by omega), j2.off (fun g g1 g2 => hg.block g g2 (by omega)), j3, j4, j5⟩, (hg.block _ l1 (by omega)).trans j6, (hg.block _ l2 (by omega)).trans j7⟩
  · rintro W1 W2 ⟨⟨lv, l, j1, j2, j3, j4, j5⟩, j6, j7⟩ hg
    have l1 := (Array.getElem?_eq_some_iff.1 j6).1
    have l2 := (Array.getElem?_eq_some_iff.1 j7).1
    exact ⟨⟨lv, l, j1.off (gP _ _ hg) (fun k hk h => by omega), j2.off (fun g g1 g2 => hg.block g g2 (by omega)), j3, j4, j5⟩, (hg.block _ l1 (by omega)).trans j6, (hg.block _ l2 (by omega)).trans j7⟩
  · rintro i W0 W1 v hb1 hg hgo ⟨⟨lv, l, j1, j2, j3, rfl, j5⟩, j6, j7⟩ hlt hu hO
    have l1 := (Array.getElem?_eq_some_iff.1 j6).1
    have l2 := (Array.getElem?_eq_some_iff.1 j7).1
    have l4 := hu.size
    obtain ⟨aq, cq, rfl, -, -, -, -, -⟩ := hO.slice
    have hb := j3.bound (hOk hb1)
    refine YieldAt.mono (HRound.out _ _ _ _ _ W0.heap.size _ lv l W1 (j1.off (gP _ _ hu) (fun k hk h => by omega)) (j2.off (fun g g1 g2 => hu.block g g2 (by omega))) (by omega) hO (by omega) (fun p hp => j2.lt hp hO (Nat.le_refl _)) (by omega) ((hu.block _ l1 (by omega)).trans j6) ((hu.block _ l2 (by omega)).trans j7)) ?_
    rintro e W2 ⟨W5, o, lv', r1, rfl, r2, r3, r4, r5, h⟩
    have s5 := r1.size
    have hgl : ∀ g o, ao' = some ⟨g, o, none⟩ → w.heap.size + 2 ≤ g ∧ g < w1.heap.size := fun g o' e' => by
      have hgb := EE.out.gB g o' e'
      obtain ⟨g', o'', e'', hcell⟩ := EE.out.bytes 0 (by have := hgo.1; omega)
      rw [e'] at e''
      injection e'' with e''; injection e'' with e1 e2
      subst e1
      have := block_lt_of_cell hcell
      dsimp only at this
      omega
    have HK : KeepE (loopW w1 lo).heap.size ((loopW w1 lo).heap.size + 7) ao' W1 (W5.putObj (w1.heap.size + 1) (.loop o)) := by
      refine ⟨by simp; omega, fun k k1 k2 k3 => ?_, fun g o' e' k3 => ?_⟩
      · exact (World.putObj_heap_other (by omega)).trans (r1.block _ k3 (by omega))
      · have := hgl g o' e'
        by_cases hgg : g = w1.heap.size + 1
        · omega
        · exact (World.putObj_heap_other hgg).trans (r1.block _ k3 (by omega))
    have hT := j3.snoc (p := ⟨(iterS bs ⟨0, 0, base, seed⟩ l.length).end_, bv (rdS bs (iterS bs ⟨0, 0, base, seed⟩ l.length)).lsn, .slice aq (rdS bs (iterS bs ⟨0, 0, base, seed⟩ l.length)).data.length cq, (rdS bs (iterS bs ⟨0, 0, base, seed⟩ l.length)).data⟩) hgo rfl rfl rfl
    have hR4 := r4.off (Off.of_but (but_putObj W5 (w1.heap.size + 1) (.loop o) (by omega)) (P := fun k => k = w1.heap.size + 1) rfl) (fun k hk h => by omega)
    have hR5 := r5.off (w' := W5.putObj (w1.heap.size + 1) (.loop o)) (fun g g1 g2 => World.putObj_heap_other (by omega))
    rcases h with ⟨rfl, hx, rfl⟩ | ⟨rfl, hx, rfl⟩
    · exact .inl ⟨rfl, ⟨⟨lv', _, hR4, hR5, hT, by simp, by omega⟩, r2, r3⟩, HK⟩
    · exact .inr ⟨rfl, ⟨⟨lv', _, hR4, hR5, hT, by simpa using hx, hb1⟩, r2, r3⟩, HK⟩
  · exact ⟨⟨_, [], X1.out.off (Off.of_below (P := fun _ => False) q3) (fun _ _ h => h), RowAt.nil _ _ _ _ _, Told.nil _ _, rfl, by omega⟩, q1, q2⟩
  · rintro e W' ⟨⟨v0, rfl⟩, h⟩
    have hend : ∃ (lv : Value) (l : List PRec) (c : Option Code) (o : Loop), RcBox w most lv W' ∧ RowAt 34 2 cells2 W' (w1.heap.size + 9) lv l ∧ RecordsIs bs base seed most l ∧ W'.heap[w1.heap.size + 1]? = some (.loop o) ∧ W'.heap[w1.heap.size]? = some (.deferred (some [])) ∧ ((c = none ∧ o = lo) ∨ (c = some (Code.exit 0) ∧ o = lst lo .done (some (.exit 0)))) := by
      rcases h with ⟨i, hend, ⟨lv, l, j1, j2, j3, rfl, j5⟩, r3, r4⟩ | ⟨⟨lv, l, j1, j2, j3, j4, j5⟩, r3, r4⟩
      · exact ⟨lv, l, none, lo, j1, j2, ⟨j3, .inr ⟨hm, by omega, .inl hend⟩⟩, r3, r4, .inl ⟨rfl, rfl⟩⟩
      · exact ⟨lv, l, some (.exit 0), _, j1, j2, ⟨j3, .inr ⟨hm, by omega, .inr ⟨j4, j5⟩⟩⟩, r3, r4, .inr ⟨rfl, rfl⟩⟩
    obtain ⟨lv, l, c, o, r1, r2, hIs, r3, r4, hco⟩ := hend
    have l1 := (Array.getElem?_eq_some_iff.1 r3).1
    have hfin : ∀ (pe : Option Code), (∃ Q : World, Q = W'.putObj (w1.heap.size + 1) (.loop (lst lo .exhausted pe)) ∧ RcBox w most lv Q ∧ RowAt 34 2 cells2 Q (w1.heap.size + 9) lv l ∧ Q.heap[w1.heap.size]? = some (.deferred (some []))) := fun pe =>
      ⟨_, rfl, r1.off (Off.of_but (but_putObj W' (w1.heap.size + 1) _ l1) (P := fun k => k = w1.heap.size + 1) rfl) (fun k hk h => by omega), r2.off (fun g g1 g2 => World.putObj_heap_other (by omega)), (World.putObj_heap_other (by omega)).trans r4⟩
    have HIs := Lib.hid hIs
    clear hIs h
    rcases hco with ⟨rfl, rfl⟩ | ⟨rfl, rfl⟩
    · refine ⟨⟨v0, rfl⟩, .inl ⟨r3, ?_⟩⟩
      obtain ⟨W5, hW5, x5, y5, D5⟩ := hfin none
      rw [← hW5]
      clear hfin hW5 r1 r2 r3 r4 l1 s2 z1 q1 q2 q3 q4 EL gP hOk
      have c0 := cell_of_row _ _ 0 _ _ _ x5.listb
      have X5 := Lib.hid x5
      have Y5 := Lib.hid y5
      have DD := Lib.hid D5
      clear x5 y5 D5
      gi_wp2
      have z1 := Z1.out
      have l6 := (Array.getElem?_eq_some_iff.1 DD.out).1
      refine ⟨by simp, .inl ⟨_, _, rfl, run_takeDeferred DD.out, ?_⟩⟩
      have x6 := X5.out.off (Off.of_but (but_putObj W5 w1.heap.size (.deferred none) l6) (P := fun k => k = w1.heap.size) rfl) (fun k hk h => by omega)
      have y6 := Y5.out.off (w' := W5.putObj w1.heap.size (.deferred none)) (fun g g1 g2 => World.putObj_heap_other (by omega))
      exact ⟨_, results_tmp rfl _ _ _, _, _, HIs.out, rfl, y6.base (by omega), x6.below⟩
    · refine ⟨⟨v0, rfl⟩, .inr ⟨.exit 0, r3, ?_⟩⟩
      obtain ⟨W5, hW5, x5, y5, D5⟩ := hfin (some (.exit 0))
      rw [← hW5]
      clear hfin hW5 r1 r2 r3 r4 l1 s2 z1 q1 q2 q3 q4 EL gP hOk
      have c0 := cell_of_row _ _ 0 _ _ _ x5.listb
      have X5 := Lib.hid x5
      have Y5 := Lib.hid y5
      have DD := Lib.hid D5
      clear x5 y5 D5
      gi_wp2
      have z1 := Z1.out
      have l6 := (Array.getElem?_eq_some_iff.1 DD.out).1
      refine ⟨by simp, .inl ⟨_, _, rfl, run_takeDeferred DD.out, ?_⟩⟩
      have x6 := X5.out.off (Off.of_but (but_putObj W5 w1.heap.size (.deferred none) l6) (P := fun k => k = w1.heap.size) rfl) (fun k hk h => by omega)
      have y6 := Y5.out.off (w' := W5.putObj w1.heap.size (.deferred none)) (fun g g1 g2 => World.putObj_heap_other (by omega))
      exact ⟨_, results_tmp rfl _ _ _, _, _, HIs.out, rfl, y6.base (by omega), x6.below⟩
set_option maxRecDepth 100000 in
set_option maxHeartbeats 4000000 in
theorem scan_records_low (ao : Option Addr) (n ca : Nat) (base s most : Int) (w : World) (hm : most < 1) :
    Calls Try.prog 35 #[.slice ao n ca, .int .i64 base, .int .u32 s, .int .i64 most] w fun e w' => e = .returned (.slice none 0 0) ∧ Below w.heap.size w w' := by
  have b1 := below_alloc w (.cells #[.int .i64 most] 3)
  have b2 := below_alloc (w.alloc (.cells #[.int .i64 most] 3)) (.cells #[.slice none 0 0] 22)
  have B := Lib.hid (below_trans b1 b2)
  have c2 : ((w.alloc (.cells #[.int .i64 most] 3)).alloc (.cells #[.slice none 0 0] 22)).cell? ⟨w.heap.size, 0, none⟩ = some (.int .i64 most) := cell_keep b2 (cell_of_row _ _ 0 _ _ _ (heap_alloc_new w _))
  clear b1 b2
  go_enter Try.func35, Try.ntmps35
  go_wp2_with fail
  go_ret
  exact ⟨rfl, B.out⟩
theorem scan_records (ao : Option Addr) (bs : List (BitVec 8)) (n ca : Nat) (base s most : Int) (seed : BitVec 32) (w : World) (hs : s = bv seed) (hb : BytesAt w ao bs) (hn : bs.length = n) (hz : ao = none → ca = 0) (hl : n ≤ 1000000) (h2 : base ≤ 9223372036854775807) :
    Calls Try.prog 35 #[.slice ao n ca, .int .i64 base, .int .u32 s, .int .i64 most] w fun e w' => ∃ lv l, RecordsIs bs base seed most l ∧ e = .returned lv ∧ RowAt 34 2 cells2 w' w.heap.size lv l ∧ Below w.heap.size w w' := by
  by_cases hm : most < 1
  · refine (scan_records_low ao n ca base s most w hm).mono ?_
    rintro e w' ⟨rfl, hb⟩
    exact ⟨_, [], ⟨Told.nil _ _, .inl ⟨hm, rfl⟩⟩, rfl, RowAt.nil _ _ _ _ _, hb⟩
  · exact callsIn_wide.1 (scan_records_in ao bs n ca base s most seed w hs hb hn hz hl h2 (by omega))
end Go.Proofs.Ytfadpjljokpenaa

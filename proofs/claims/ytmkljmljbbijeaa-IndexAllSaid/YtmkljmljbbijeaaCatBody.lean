/- The walk of catalog.body. -/
import Derived.Test.YtmkljmljbbijeaaCatRd
import Derived.Test.YtmkljmljbbijeaaSegsOwn
import Derived.Laws.BytesArg
namespace Go.Proofs.Ytmkljmljbbijeaa
open Go.RowKit

theorem RdAt.off {W W' : World} {b q k bad : Nat} {P : List (BitVec 8)} (h : RdAt W b P k bad) (hq : q ≠ b) (hx : ∃ x, W.cell? ⟨q, 0, none⟩ = some (.int .i64 x)) (hu : ∀ k, k < W.heap.size → k ≠ q → W'.heap[k]? = W.heap[k]?) : RdAt W' b P k bad := by
  obtain ⟨x, hx⟩ := hx
  obtain ⟨ao, cap, hc, hbs, r⟩ := h.bytes
  have hb := hu b h.lt (Ne.symm hq)
  have cb : ∀ o, W'.cell? ⟨b, o, none⟩ = W.cell? ⟨b, o, none⟩ := fun o => World.cell?_of_block (a := ⟨b, o, none⟩) hb
  have fb : ∀ o, W'.frozen? ⟨b, o, none⟩ = W.frozen? ⟨b, o, none⟩ := fun o => World.frozen?_of_block (a := ⟨b, o, none⟩) hb
  refine ⟨⟨ao, cap, (cb 0).trans hc, fun i hi => ?_, r⟩, (cb 1).trans h.at1, (cb 2).trans h.at2, (fb 1).trans h.free1, (fb 2).trans h.free2, h.le⟩
  obtain ⟨g, off, e, hcell⟩ := hbs i hi
  have hg : g ≠ q := fun e2 => by
    subst e2
    rcases r.1 with ⟨e3, -⟩ | ⟨g', e3, -⟩
    · rw [e3] at e; cases e
    · obtain ⟨g0, off0, e4, hc0⟩ := hbs 0 (by omega)
      rw [e3] at e e4
      injection e with e; injection e with e5 e6
      injection e4 with e4; injection e4 with e7 e8
      subst e5 e6 e7 e8
      rw [show (0 : Nat) + 0 = 0 from rfl, hx] at hc0
      cases hc0
  exact ⟨g, off, e, (World.cell?_of_block (a := ⟨g, off + i, none⟩) (hu g (block_lt_of_cell hcell) hg)).trans hcell⟩
/-- body's memory. -/
structure BI (w1 : World) (b C : Nat) (P : List (BitVec 8)) (k bad : Nat) (g f : Int) (lv : Value) (l : List SegV) (W : World) : Prop where
  rd : RdAt W b P k bad
  cat : W.heap[C]? = some (.cells #[.int .i64 g, .int .i64 f, lv] 29 (0, 0))
  own : OwnS W (C + 1) lv l
  low : Below w1.heap.size w1 W
  lb : w1.heap.size ≤ b
  bC : b < C
  emp : l = [] → lv = .slice none 0 0
section
variable {w1 W W' : World} {b C k bad : Nat} {P : List (BitVec 8)} {g f : Int} {lv : Value} {l : List SegV}
theorem BI.now (h : BI w1 b C P k bad g f lv l W) {k' bad' : Nat} (hn : RNow W W' b P k' bad') : BI w1 b C P k' bad' g f lv l W' :=
  ⟨hn.at', (hn.but.block C (heap_lt h.cat) (by have := h.bC; omega)).trans h.cat, rows_congr h.own fun z hz => hn.but.block z (let ⟨_, _, hh⟩ := rows_blk h.own hz; heap_lt hh) (by have := (rows_blk h.own hz).1; have := h.bC; omega), h.low.trans ⟨hn.but.os, hn.but.tape, hn.but.output, hn.but.size, fun z hz => hn.but.block z (by have := h.low.size; omega) (by have := h.lb; omega)⟩, h.lb, h.bC, h.emp⟩
theorem BI.on (h : BI w1 b C P k bad g f lv l W) (hb : Below W.heap.size W W') : BI w1 b C P k bad g f lv l W' :=
  ⟨h.rd.on hb, (hb.block C (heap_lt h.cat)).trans h.cat, h.own.keep hb, h.low.trans (hb.mono h.low.size), h.lb, h.bC, h.emp⟩
/-- A segment's box of this turn. -/
structure QRow (W : World) (q : Nat) (x y z u v : Value) : Prop where
  row : W.heap[q]? = some (.cells #[x, y, z, u, v] 53 (0, 0))
theorem BI.set (h : BI w1 b C P k bad g f lv l W) {q o : Nat} {x : Int} {y z u v : Value} (hq : QRow W q (.int .i64 x) y z u v) (hC : C < q) (hl : lv.ownBlock ≠ some q) (t : Value) : BI w1 b C P k bad g f lv l (W.setCell ⟨q, o, none⟩ t) := by
  have hne : ∀ z, z ≠ q → (W.setCell ⟨q, o, none⟩ t).heap[z]? = W.heap[z]? := fun z hz => Below.heap_setCell _ _ _ _ (by simpa using hz)
  have hb := h.bC
  have hlb := h.lb
  exact ⟨h.rd.off (by omega) ⟨x, cell_of_row _ _ 0 _ _ _ hq.row⟩ (fun z _ hz => hne z hz), (hne C (by omega)).trans h.cat, rows_congr h.own fun z hz => hne z (fun e => hl (by rw [hz, e])), h.low.setCell (p := ⟨q, o, none⟩) (by show _ ≤ q; omega) t, h.lb, h.bC, h.emp⟩
theorem QRow.now {q : Nat} {x y z u v : Value} (h : QRow W q x y z u v) {k' bad' : Nat} (hn : RNow W W' b P k' bad') (hq : q ≠ b) : QRow W' q x y z u v := ⟨(hn.but.block q (heap_lt h.row) hq).trans h.row⟩
/-- The list goes on. -/
theorem BI.push (h : BI w1 b C P k bad g f lv l W) {s : SegV} {lv' : Value} (ho : OwnS W' (C + 1) lv' (l ++ [s])) (hg : W.grownBy W' lv.ownBlock) : BI w1 b C P k bad g f lv' (l ++ [s]) (W'.setCell ⟨C, 2, none⟩ lv') := by
  have hlv : lv.ownBlock ≠ some C := fun e => by have := (rows_blk h.own e).1; omega
  have hC : W'.heap[C]? = _ := (hg.block C (heap_lt h.cat) (fun e => hlv e.symm)).trans h.cat
  have hrd : RdAt W' b P k bad := by
    cases hb : lv.ownBlock with
    | none => rw [hb] at hg; exact h.rd.on ⟨hg.os, hg.tape, hg.output, hg.size, fun z hz => hg.block z hz (fun e => by cases e)⟩
    | some z =>
      have hl : l ≠ [] := fun e => by rw [h.emp e] at hb; cases hb
      have hl0 : 0 < l.length := List.length_pos_iff.2 hl
      rcases h.own.2 with ⟨rfl, -⟩ | ⟨z', cap, cur, rfl, hz', -⟩
      · cases hb
      · have e : z' = z := by simpa [Value.ownBlock] using hb
        subst e
        obtain ⟨hc, -⟩ := h.own.cells (i := 0) hl0
        have hbC := h.bC
        exact h.rd.off (q := z') (by omega) ⟨_, by simpa using hc.c0⟩ (fun y hy hne => hg.block y hy (fun e => hne (by rw [hb] at e; injection e)))
  have hne : ∀ z, z ≠ C → (W'.setCell ⟨C, 2, none⟩ lv').heap[z]? = W'.heap[z]? := fun z hz => Below.heap_setCell _ _ _ _ (by simpa using hz)
  have hbC := h.bC
  have hlb := h.lb
  refine ⟨hrd.off (q := C) (by omega) ⟨g, cell_of_row _ _ 0 _ _ _ hC⟩ (fun z _ hz => hne z hz), Go.Joins.block_setCell hC lv' (i := 2), rows_congr ho fun z hz => hne z (by have := (rows_blk ho hz).1; omega), ?_, h.lb, h.bC, fun e => by simp at e⟩
  exact (h.low.grown hg h.low.size (fun z hz => by have := (rows_blk h.own hz).1; omega)).setCell (p := ⟨C, 2, none⟩) (by show _ ≤ C; omega) lv'
end

/-- What body answers. -/
def BodyB (w : World) (r : CatV) (er : Int) (e : Ending) (w' : World) : Prop := ∃ v, e = .returned (.tuple #[v, .int .i64 er]) ∧ CatOwn w' w.heap.size v r ∧ Below w.heap.size w w'
set_option maxRecDepth 100000 in
set_option maxHeartbeats 8000000 in
theorem cat_body (ao : Option Addr) (P : List (BitVec 8)) (n ca : Nat) (w : World) (hP : BytesAt w ao P) (hn : P.length = n) (hz : ao = none → ca = 0) (hm : P.length ≤ 140737488351232) (r : CatV) (er : Int) (hr : bodyR P = (r, er)) :
    Calls Try.prog 83 #[.slice ao n ca] w (BodyB w r er) := by
  subst hn
  have b1 := below_alloc w (.cells #[.int .i64 0, .int .i64 0, .slice none 0 0] 29)
  have hn1 := heap_alloc_new w (.cells #[.int .i64 0, .int .i64 0, .slice none 0 0] 29)
  obtain ⟨w1, hw1⟩ : ∃ w1, w.alloc (.cells #[.int .i64 0, .int .i64 0, .slice none 0 0] 29) = w1 := ⟨_, rfl⟩
  rw [hw1] at b1 hn1
  have HZ := Lib.hid hn1
  have HB := Lib.hid b1
  have HL := Lib.hid (heap_lt hn1)
  have HP := Lib.hid (hP.below b1)
  have HNil := Lib.hid hz
  have HM := Lib.hid hm
  have HR := Lib.hid hr
  clear b1 hn1 hP hz hm hr
  go_enter Try.func83, Try.ntmps83
  go_wp2_with fail
  refine (new_reader_far ao P ca _ HP.out HNil.out HM.out).mono ?_
  rintro e w2 ⟨b, rfl, hb, hR, hb2⟩
  have HLB := Lib.hid hb
  have HRD := Lib.hid hR
  have HB2 := Lib.hid hb2
  have HM2 := Lib.hid (show P.length ≤ 140737488355328 by have := HM.out; omega)
  clear hb hR hb2
  obtain ⟨v1, k1, e1, hv1⟩ := varH_some P 0 0 topN
  have V1 := Lib.hid hv1
  clear hv1
  go_wp2_with fail
  refine (rd_number b P 0 0 w2 HRD.out HM2.out v1 k1 e1 V1.out).mono ?_
  rintro e w3 ⟨rfl, hN⟩
  have N3 := Lib.hid hN
  clear hN
  obtain ⟨v2, k2, e2, hv2⟩ := varH_some P k1 e1 topN
  have V2 := Lib.hid hv2
  clear hv2
  go_wp2_with fail
  refine (rd_number b P k1 e1 w3 N3.out.at' HM2.out v2 k2 e2 V2.out).mono ?_
  rintro e w4 ⟨rfl, hN⟩
  have N4 := Lib.hid hN
  clear hN
  obtain ⟨gg, hgg⟩ : ∃ gg, bv v1 = gg := ⟨_, rfl⟩
  obtain ⟨ff, hff⟩ : ∃ ff, bv v2 = ff := ⟨_, rfl⟩
  rw [hgg, hff]
  have b5 := below_alloc w4 (.cells #[.int .i64 gg, .int .i64 ff, .slice none 0 0] 29)
  have h5 := heap_alloc_new w4 (.cells #[.int .i64 gg, .int .i64 ff, .slice none 0 0] 29)
  obtain ⟨w5, hw5⟩ : ∃ w5, w4.alloc (.cells #[.int .i64 gg, .int .i64 ff, .slice none 0 0] 29) = w5 := ⟨_, rfl⟩
  rw [hw5] at b5 h5
  have bC : b < w4.heap.size := N4.out.at'.lt
  have I5 := Lib.hid (show BI w1 b w4.heap.size P k2 e2 gg ff (.slice none 0 0) [] w5 from ⟨N4.out.at'.on b5, h5, OwnS.nil _ _, by
    have h2 : Below w1.heap.size w1 w2 := HB2.out
    have h3 : Below w1.heap.size w1 w3 := N3.out.but.below h2 HLB.out h2.size
    have h4 : Below w1.heap.size w1 w4 := N4.out.but.below h3 HLB.out h3.size
    exact below_trans h4 b5, HLB.out, bC, fun _ => rfl⟩)
  have GG := Lib.hid hgg
  have FF := Lib.hid hff
  have HW5 := Lib.hid hw5
  clear b5 h5 hgg hff hw5
  obtain ⟨v3, k3, e3, hv3⟩ := varH_some P k2 e2 64#64
  have V3 := Lib.hid hv3
  clear hv3
  go_wp2_with fail
  rw [HW5.out]
  refine (rd_varint b P k2 e2 64#64 w5 I5.out.rd HM2.out v3 k3 e3 V3.out).mono ?_
  rintro e w6 ⟨rfl, hN⟩
  have I6 := Lib.hid (I5.out.now hN)
  clear hN
  obtain ⟨N, hN⟩ : ∃ N : Nat, v3.toNat = N := ⟨_, rfl⟩
  have hbv : bv v3 = (N : Int) := by rw [← hN]; rfl
  have hN64 : N ≤ 64 := by
    have h := varH_stp V3.out
    have e : bv 64#64 = 64 := rfl
    unfold stp at h
    have h0 : bv v3 ≤ 64 := by
      split at h
      · split at h
        · split at h
          · rename_i hm; injection h with h1 _; rw [← h1, ← e]; exact hm
          · injection h with h1 _; rw [← h1]; decide
        · injection h with h1 _; rw [← h1]; decide
      · injection h with h1 _; rw [← h1]; decide
    rw [hbv] at h0; omega
  obtain ⟨s3, hs3⟩ : ∃ s3 : RS, (stp 64#64 (stp topN (stp topN (P, 0)).2).2).2 = s3 := ⟨_, rfl⟩
  have hP0 : P.drop 0 = P := rfl
  have S3 : Hid ((P.drop k3, e3) = s3) := Lib.hid (by
    have a1 := varH_stp V1.out
    have a2 := varH_stp V2.out
    have a3 := varH_stp V3.out
    rw [hP0] at a1
    rw [← hs3, a1, a2, a3])
  have BR : Hid (bodyR P = endR gg ff (segsR N s3)) := Lib.hid (by
    have a1 := varH_stp V1.out
    have a2 := varH_stp V2.out
    have a3 := varH_stp V3.out
    rw [hP0] at a1
    unfold bodyR
    simp only [a1, a2, a3, hN, S3.out, GG.out, FF.out])
  have RG : Hid (R64 gg ∧ R64 ff) := Lib.hid (by
    have a1 := varH_stp V1.out
    have a2 := varH_stp V2.out
    rw [← GG.out, ← FF.out]
    exact ⟨top_r64 a1, top_r64 a2⟩)
  clear hN hs3 hP0 V1 V2 V3 N3 N4 I5
  rw [hbv]
  clear hbv
  go_wp2_with fail
  go_loopw [20, 7] (fun i _ wr => ∃ (i' k bad : Nat) (lv : Value), i' ≤ N ∧ i = .int .u64 i' ∧ Hid (BI w1 b w4.heap.size P k bad gg ff lv (segsR i' s3).1 wr) ∧ Hid ((P.drop k, bad) = (segsR i' s3).2)) (fun i _ _ => N - (intOf i).toNat)
  case atStart => exact ⟨0, k3, e3, _, Nat.zero_le _, rfl, I6, S3⟩
  case round =>
    obtain ⟨i', k, bad, lv, hi, rfl, HI, HS⟩ := hrel
    by_cases hlt : i' < N
    · have kz : (i' : Int) < (N : Int) := by omega
      obtain ⟨a1, p1, c1, H1⟩ := varH_some P k bad topN
      obtain ⟨a2, p2, c2, H2⟩ := varH_some P p1 c1 topN
      have V1 := Lib.hid H1
      have V2 := Lib.hid H2
      clear H1 H2
      go_wp2_with fail
      refine (rd_number b P k bad wr HI.out.rd HM2.out a1 p1 c1 V1.out).mono ?_
      rintro e x1 ⟨rfl, hN⟩
      have I1 := Lib.hid (HI.out.now hN)
      clear hN
      go_wp2_with fail
      refine (rd_number b P p1 c1 x1 I1.out.rd HM2.out a2 p2 c2 V2.out).mono ?_
      rintro e x2 ⟨rfl, hN⟩
      have I2 := Lib.hid (I1.out.now hN)
      clear hN
      obtain ⟨z1, hz1⟩ : ∃ z, bv a1 = z := ⟨_, rfl⟩
      obtain ⟨z2, hz2⟩ : ∃ z, bv a2 = z := ⟨_, rfl⟩
      rw [hz1, hz2]
      have Z1 := Lib.hid hz1
      have Z2 := Lib.hid hz2
      have bq := below_alloc x2 (.cells #[.int .i64 z1, .int .i64 z2, .int .u32 0, .int .i64 0, .int .i64 0] 53)
      have nq := heap_alloc_new x2 (.cells #[.int .i64 z1, .int .i64 z2, .int .u32 0, .int .i64 0, .int .i64 0] 53)
      obtain ⟨x3, hx3⟩ : ∃ x3, x2.alloc (.cells #[.int .i64 z1, .int .i64 z2, .int .u32 0, .int .i64 0, .int .i64 0] 53) = x3 := ⟨_, rfl⟩
      rw [hx3] at bq nq
      have Q3 := Lib.hid (show QRow x3 x2.heap.size (.int .i64 z1) (.int .i64 z2) (.int .u32 0) (.int .i64 0) (.int .i64 0) from ⟨nq⟩)
      have CQ := Lib.hid (show w4.heap.size < x2.heap.size from heap_lt I2.out.cat)
      have BQ := Lib.hid (show x2.heap.size ≠ b by have := CQ.out; omega)
      have LQ := Lib.hid (show lv.ownBlock ≠ some x2.heap.size from fun e => by obtain ⟨-, cur, hh⟩ := rows_blk I2.out.own e; have := heap_lt hh; omega)
      have I3 := Lib.hid (I2.out.on bq)
      have HX3 := Lib.hid hx3
      clear bq nq hz1 hz2 I1 I2 hx3
      obtain ⟨a3, p3, c3, H3⟩ := fixH_some P p2 c2 4 I3.out.rd.le
      have V3 := Lib.hid H3
      clear H3
      go_wp2_with fail
      rw [HX3.out]
      refine (rd_fixed32 b P p2 c2 x3 I3.out.rd HM2.out a3 p3 c3 V3.out).mono ?_
      rintro e x4 ⟨rfl, hN⟩
      have I4 := Lib.hid (I3.out.now hN)
      have Q4 := Lib.hid (Q3.out.now hN BQ.out)
      clear hN I3 Q3
      have g2 := cell_of_row _ _ 2 _ _ _ Q4.out.row
      have j2 := frozen_of_row _ _ 2 _ _ Q4.out.row
      obtain ⟨x5, hx5⟩ : ∃ x5, x4.setCell ⟨x2.heap.size, 2, none⟩ (.int .u32 (bv (a3.setWidth 32))) = x5 := ⟨_, rfl⟩
      have I5 := Lib.hid (I4.out.set (o := 2) Q4.out CQ.out LQ.out (.int .u32 (bv (a3.setWidth 32))))
      have Q5 := Lib.hid (show QRow (x4.setCell ⟨x2.heap.size, 2, none⟩ (.int .u32 (bv (a3.setWidth 32)))) x2.heap.size (.int .i64 z1) (.int .i64 z2) (.int .u32 (bv (a3.setWidth 32))) (.int .i64 0) (.int .i64 0) from ⟨Go.Joins.block_setCell Q4.out.row _ (i := 2)⟩)
      rw [hx5] at I5 Q5
      obtain ⟨a4, p4, c4, H4⟩ := varH_some P p3 c3 topN
      have V4 := Lib.hid H4
      clear H4
      go_wp2_with fail
      refine (rd_number b P p3 c3 x5 I5.out.rd HM2.out a4 p4 c4 V4.out).mono ?_
      rintro e x6 ⟨rfl, hN⟩
      have I6' := Lib.hid (I5.out.now hN)
      have Q6 := Lib.hid (Q5.out.now hN BQ.out)
      clear hN g2 j2 hx5 I4 Q4 I5 Q5
      obtain ⟨z4, hz4⟩ : ∃ z, bv a4 = z := ⟨_, rfl⟩
      rw [hz4]
      have Z4 := Lib.hid hz4
      clear hz4
      have g3 := cell_of_row _ _ 3 _ _ _ Q6.out.row
      have j3 := frozen_of_row _ _ 3 _ _ Q6.out.row
      obtain ⟨x7, hx7⟩ : ∃ x7, x6.setCell ⟨x2.heap.size, 3, none⟩ (.int .i64 z4) = x7 := ⟨_, rfl⟩
      have I7 := Lib.hid (I6'.out.set (o := 3) Q6.out CQ.out LQ.out (.int .i64 z4))
      have Q7 := Lib.hid (show QRow (x6.setCell ⟨x2.heap.size, 3, none⟩ (.int .i64 z4)) x2.heap.size (.int .i64 z1) (.int .i64 z2) (.int .u32 (bv (a3.setWidth 32))) (.int .i64 z4) (.int .i64 0) from ⟨Go.Joins.block_setCell Q6.out.row _ (i := 3)⟩)
      rw [hx7] at I7 Q7
      obtain ⟨a5, p5, c5, H5⟩ := varH_some P p4 c4 topN
      have V5 := Lib.hid H5
      clear H5
      go_wp2_with fail
      refine (rd_number b P p4 c4 x7 I7.out.rd HM2.out a5 p5 c5 V5.out).mono ?_
      rintro e x8 ⟨rfl, hN⟩
      have I8 := Lib.hid (I7.out.now hN)
      have Q8 := Lib.hid (Q7.out.now hN BQ.out)
      clear hN g3 j3 hx7 I6' Q6 I7 Q7
      obtain ⟨z5, hz5⟩ : ∃ z, bv a5 = z := ⟨_, rfl⟩
      rw [hz5]
      have Z5 := Lib.hid hz5
      clear hz5
      have g4 := cell_of_row _ _ 4 _ _ _ Q8.out.row
      have j4 := frozen_of_row _ _ 4 _ _ Q8.out.row
      obtain ⟨x9, hx9⟩ : ∃ x9, x8.setCell ⟨x2.heap.size, 4, none⟩ (.int .i64 z5) = x9 := ⟨_, rfl⟩
      have I9 := Lib.hid (I8.out.set (o := 4) Q8.out CQ.out LQ.out (.int .i64 z5))
      have Q9 := Lib.hid (show QRow (x8.setCell ⟨x2.heap.size, 4, none⟩ (.int .i64 z5)) x2.heap.size (.int .i64 z1) (.int .i64 z2) (.int .u32 (bv (a3.setWidth 32))) (.int .i64 z4) (.int .i64 z5) from ⟨Go.Joins.block_setCell Q8.out.row _ (i := 4)⟩)
      rw [hx9] at I9 Q9
      have m2 := cell_of_row _ _ 2 _ _ _ I9.out.cat
      have u0 := cell_of_row _ _ 0 _ _ _ Q9.out.row
      have u1 := cell_of_row _ _ 1 _ _ _ Q9.out.row
      have u2 := cell_of_row _ _ 2 _ _ _ Q9.out.row
      have u3 := cell_of_row _ _ 3 _ _ _ Q9.out.row
      have u4 := cell_of_row _ _ 4 _ _ _ Q9.out.row
      have bN := below_alloc x9 (.cells #[.int .i64 z1, .int .i64 z2, .int .u32 (bv (a3.setWidth 32)), .int .i64 z4, .int .i64 z5] 53)
      have SEG : Hid ((segR (segsR i' s3).2) = (⟨z1, z2, a3.setWidth 32, z4, z5⟩, (P.drop p5, c5))) := Lib.hid (by
        rw [← HS.out]
        have h1 := varH_stp V1.out
        have h2 := varH_stp V2.out
        have h3 := fixH_fx V3.out
        have h4 := varH_stp V4.out
        have h5 := varH_stp V5.out
        unfold segR
        simp only [h1, h2, h3, h4, h5, Z1.out, Z2.out, Z4.out, Z5.out])
      have IN := Lib.hid (I9.out.on bN)
      have SG : Hid (SegsAt (x9.alloc (.cells #[.int .i64 z1, .int .i64 z2, .int .u32 (bv (a3.setWidth 32)), .int .i64 z4, .int .i64 z5] 53)) (some ⟨x9.heap.size, 0, none⟩) [⟨z1, z2, a3.setWidth 32, z4, z5⟩]) := Lib.hid fun i hi => by
        obtain rfl : i = 0 := by simp at hi; exact hi
        have h := segR_ok (segsR i' s3).2
        rw [SEG.out] at h
        exact ⟨h, x9.heap.size, 0, rfl, seg_new x9 ⟨z1, z2, a3.setWidth 32, z4, z5⟩ _⟩
      have SZ := Lib.hid (show w4.heap.size + 1 ≤ (x9.alloc (.cells #[.int .i64 z1, .int .i64 z2, .int .u32 (bv (a3.setWidth 32)), .int .i64 z4, .int .i64 z5] 53)).heap.size from heap_lt IN.out.cat)
      have LEN : Hid ((segsR i' s3).1.length + [(⟨z1, z2, a3.setWidth 32, z4, z5⟩ : SegV)].length ≤ 3518437208883) := Lib.hid (by rw [segsR_len]; simp; omega)
      clear bN I8 Q8 Q9
      go_wp2_with (refine wpList_append_segs (o := ⟨some 40, _, _, _, _, _⟩) rfl _ _ rfl (w4.heap.size + 1) lv (segsR i' s3).1 rfl IN.out.own (some ⟨x9.heap.size, 0, none⟩) 1 1 [⟨z1, z2, a3.setWidth 32, z4, z5⟩] rfl rfl SG.out (fun e => by cases e) LEN.out SZ.out ?_)
      intro lv' xa hoa hga
      have SN : (segsR (i' + 1) s3).1 = (segsR i' s3).1 ++ [⟨z1, z2, a3.setWidth 32, z4, z5⟩] ∧ (segsR (i' + 1) s3).2 = (P.drop p5, c5) := by
        rw [segsR_snoc, SEG.out]; exact ⟨rfl, rfl⟩
      have HN := Lib.hid SN
      have IP := Lib.hid (show BI w1 b w4.heap.size P p5 c5 gg ff lv' (segsR (i' + 1) s3).1 (xa.setCell ⟨w4.heap.size, 2, none⟩ lv') by rw [HN.out.1]; exact IN.out.push hoa hga)
      have hC2 := (hga.block w4.heap.size (heap_lt IN.out.cat) (fun e => by have := (rows_blk IN.out.own e.symm).1; omega)).trans IN.out.cat
      have n2 := cell_of_row _ _ 2 _ _ _ hC2
      have nf2 := frozen_of_row _ _ 2 _ _ hC2
      obtain ⟨alv, clv, hlv, -⟩ := hoa.there (ok_append (segsR_ok i' s3) (ok_of_at SG.out)) (by have := LEN.out; rw [List.length_append]; omega)
      generalize hLN : ((segsR i' s3).1 ++ [(⟨z1, z2, a3.setWidth 32, z4, z5⟩ : SegV)]).length = LN at hlv
      subst hlv
      clear SN hoa hga hC2 hLN m2 u0 u1 u2 u3 u4 g4 j4
      go_wp2_with fail
      go_roundw
      case rel => exact ⟨i' + 1, p5, c5, _, by omega, by go_num, IP.out, HN.out.2.symm⟩
      case measure => simp [intOf]; omega
    · obtain rfl : i' = N := by omega
      clear hlt hi
      have HZR : ∀ (W : World), Below wr.heap.size wr W → W.heap[w.heap.size]? = some (.cells #[.int .i64 0, .int .i64 0, .slice none 0 0] 29 (0, 0)) := fun W hW => ((below_trans HI.out.low hW).block _ HL.out).trans HZ.out
      have HZW := Lib.hid HZR
      have fin : ∀ (W : World) (v : Value) (er' : Int), Below wr.heap.size wr W → BodyB w catZ er' (.returned (.tuple #[.agg #[.int .i64 0, .int .i64 0, .slice none 0 0], .int .i64 er'])) (((W.setCell ⟨w.heap.size, 0, none⟩ (.int .i64 0)).setCell ⟨w.heap.size, 1, none⟩ (.int .i64 0)).setCell ⟨w.heap.size, 2, none⟩ (.slice none 0 0)) := fun W _ er' hW => ⟨_, rfl, CatOwn.z _ _, put3_below (below_trans HB.out (below_trans HI.out.low hW)) (Nat.le_refl _) _ _ _⟩
      have FIN := Lib.hid fin
      clear HZR fin
      go_wp2_with fail
      refine (reader_err b P k bad wr HI.out.rd).mono ?_
      rintro e xx ⟨rfl, nn, hxx⟩
      have BX := Lib.hid (show Below wr.heap.size wr xx by rw [hxx]; exact below_drewN _ _)
      generalize (if bad = 0 then (0 : Int) else (k : Int)) = pk
      clear hxx
      have rows : ∀ {W : World}, W.heap[w.heap.size]? = some (.cells #[.int .i64 0, .int .i64 0, .slice none 0 0] 29 (0, 0)) → True := fun _ => trivial
      clear rows
      have hz := HZW.out xx BX.out
      have HX := Lib.hid hz
      have r0 := cell_of_row _ _ 0 _ _ _ hz
      have r1 := cell_of_row _ _ 1 _ _ _ hz
      have r2 := cell_of_row _ _ 2 _ _ _ hz
      have f0 := frozen_of_row _ _ 0 _ _ hz
      have f1 := frozen_of_row _ _ 1 _ _ hz
      have f2 := frozen_of_row _ _ 2 _ _ hz
      clear hz
      have ER : Hid ((r, er) = endR gg ff (segsR i' s3)) := Lib.hid (HR.out.symm.trans BR.out)
      by_cases h2 : bad = 2
      · have t1 : ((bad : Int) == 2) = true := by simp [h2]
        have E : Hid (r = catZ ∧ er = bad) := Lib.hid (by
          have h := ER.out
          rw [endR_short (by rw [← HS.out]; exact h2)] at h
          injection h with h3 h4
          exact ⟨h3, by rw [h4, h2]; rfl⟩)
        clear h2
        go_wp2_with fail
        refine bodyPost_ret (results_cat2 rfl _ _ w.heap.size _ _ _ rfl (cell_of_row _ _ 0 _ _ _ (put3 HX.out _ _ _)) (cell_of_row _ _ 1 _ _ _ (put3 HX.out _ _ _)) (cell_of_row _ _ 2 _ _ _ (put3 HX.out _ _ _))) rfl ?_
        rw [E.out.1, E.out.2]
        exact FIN.out _ (.slice none 0 0) _ BX.out
      · have t1 : ((bad : Int) == 2) = false := beq_false_of_ne (by omega)
        by_cases h0 : bad = 0
        · have H0 := Lib.hid h0
          subst h0
          have I9 := Lib.hid (HI.out.on BX.out)
          clear h2
          have t0 : (((0 : Nat) : Int) != 0) = false := by decide
          simp only [Int.natCast_zero]
          go_wp2_with fail
          refine (reader_left b P k 0 _ I9.out.rd HM2.out).mono ?_
          rintro e xy ⟨rfl, nn, hxy⟩
          have BY := Lib.hid (show Below wr.heap.size wr xy by rw [hxy]; exact below_trans BX.out (below_drewN _ _))
          have hz := HZW.out xy BY.out
          have HXY := Lib.hid hz
          clear hxy r0 r1 r2 f0 f1 f2 HX
          have r0 := cell_of_row _ _ 0 _ _ _ hz
          have r1 := cell_of_row _ _ 1 _ _ _ hz
          have r2 := cell_of_row _ _ 2 _ _ _ hz
          have f0 := frozen_of_row _ _ 0 _ _ hz
          have f1 := frozen_of_row _ _ 1 _ _ hz
          have f2 := frozen_of_row _ _ 2 _ _ hz
          have I10 := Lib.hid (HI.out.on BY.out)
          have m0 := cell_of_row _ _ 0 _ _ _ I10.out.cat
          have m1 := cell_of_row _ _ 1 _ _ _ I10.out.cat
          have m2 := cell_of_row _ _ 2 _ _ _ I10.out.cat
          clear hz
          obtain ⟨lf, hlf⟩ : ∃ lf, P.length - k = lf := ⟨_, rfl⟩
          rw [hlf]
          by_cases hl0 : lf = 0
          · have DR : Hid (P.drop k = []) := Lib.hid (List.drop_eq_nil_of_le (by omega))
            subst hl0
            simp only [Int.natCast_zero]
            clear hlf
            obtain ⟨t, ht⟩ : ∃ t : Bool, t = true ↔ MayC ⟨gg, ff, (segsR i' s3).1⟩ := by
              by_cases h : MayC ⟨gg, ff, (segsR i' s3).1⟩
              · exact ⟨true, by simp [h]⟩
              · exact ⟨false, by simp [h]⟩
            have HT := Lib.hid ht
            have FEW : Hid ((segsR i' s3).1.length ≤ 140737488355328) := Lib.hid (by rw [segsR_len]; omega)
            have CA := Lib.hid (CatAt.of_own I10.out.own (segsR_ok _ _) FEW.out RG.out.1 RG.out.2)
            clear ht
            obtain ⟨alv, clv, hlv, -⟩ := I10.out.own.there (segsR_ok _ _) FEW.out
            generalize (segsR i' s3).1.length = LN at hlv
            subst hlv
            go_wp2_with fail
            refine (cat_may _ _ _ CA.out t HT.out).mono ?_
            rintro e xz ⟨rfl, hbz⟩
            have BZ := Lib.hid (below_trans BY.out hbz)
            have I11 := Lib.hid (I10.out.on hbz)
            have hz := HZW.out xz BZ.out
            have HXZ := Lib.hid hz
            clear hbz r0 r1 r2 f0 f1 f2 m0 m1 m2 HXY
            have r0 := cell_of_row _ _ 0 _ _ _ hz
            have r1 := cell_of_row _ _ 1 _ _ _ hz
            have r2 := cell_of_row _ _ 2 _ _ _ hz
            have f0 := frozen_of_row _ _ 0 _ _ hz
            have f1 := frozen_of_row _ _ 1 _ _ hz
            have f2 := frozen_of_row _ _ 2 _ _ hz
            have m0 := cell_of_row _ _ 0 _ _ _ I11.out.cat
            have m1 := cell_of_row _ _ 1 _ _ _ I11.out.cat
            have m2 := cell_of_row _ _ 2 _ _ _ I11.out.cat
            clear hz
            cases t
            · have E : Hid (r = catZ ∧ er = 4) := Lib.hid (by
                have h := ER.out
                rw [endR_bad (by rw [← HS.out]; exact (show (0 : Nat) ≠ 2 by decide)) (.inr (.inr fun h => absurd (HT.out.2 h) (by simp)))] at h
                injection h with h3 h4
                exact ⟨h3, h4⟩)
              go_wp2_with fail
              refine bodyPost_ret (results_cat2 rfl _ _ w.heap.size _ _ _ rfl (cell_of_row _ _ 0 _ _ _ (put3 HXZ.out _ _ _)) (cell_of_row _ _ 1 _ _ _ (put3 HXZ.out _ _ _)) (cell_of_row _ _ 2 _ _ _ (put3 HXZ.out _ _ _))) rfl ?_
              rw [E.out.1, E.out.2]
              exact FIN.out _ (.slice none 0 0) _ BZ.out
            · have E : Hid (r = ⟨gg, ff, (segsR i' s3).1⟩ ∧ er = 0) := Lib.hid (by
                have h := ER.out
                rw [endR_ok (by rw [← HS.out]) (by rw [← HS.out]; exact DR.out) (HT.out.1 rfl)] at h
                injection h with h3 h4
                exact ⟨h3, h4⟩)
              have LB := Lib.hid (show w.heap.size < w4.heap.size by have := HL.out; have := HLB.out; omega)
              go_wp2_with fail
              refine bodyPost_ret (results_cat2 rfl _ _ w.heap.size _ _ _ rfl (cell_of_row _ _ 0 _ _ _ (put3 HXZ.out _ _ _)) (cell_of_row _ _ 1 _ _ _ (put3 HXZ.out _ _ _)) (cell_of_row _ _ 2 _ _ _ (put3 HXZ.out _ _ _))) rfl ?_
              rw [E.out.1, E.out.2]
              refine ⟨_, rfl, ⟨⟨_, rfl, OwnS.base (base := w4.heap.size + 1) ?_ (by have := LB.out; omega)⟩, ⟨RG.out.1, RG.out.2, segsR_ok _ _⟩, FEW.out⟩, put3_below (below_trans HB.out (below_trans HI.out.low BZ.out)) (Nat.le_refl _) _ _ _⟩
              exact rows_congr I11.out.own fun z hz => put3_off (by have := (rows_blk I11.out.own hz).1; have := LB.out; omega) _ _ _
          · have tl : decide ((0 : Int) < (lf : Int)) = true := decide_eq_true (by omega)
            have E : Hid (r = catZ ∧ er = 4) := Lib.hid (by
              have h := ER.out
              rw [endR_bad (by rw [← HS.out]; exact (show (0 : Nat) ≠ 2 by decide)) (.inr (.inl (by rw [← HS.out]; intro h9; have h8 := congrArg List.length h9; rw [List.length_drop] at h8; exact hl0 (by rw [← hlf]; exact h8))))] at h
              injection h with h3 h4
              exact ⟨h3, h4⟩)
            have hlf0 : 0 < lf := by omega
            clear hl0 hlf
            go_wp2_with fail
            refine bodyPost_ret (results_cat2 rfl _ _ w.heap.size _ _ _ rfl (cell_of_row _ _ 0 _ _ _ (put3 HXY.out _ _ _)) (cell_of_row _ _ 1 _ _ _ (put3 HXY.out _ _ _)) (cell_of_row _ _ 2 _ _ _ (put3 HXY.out _ _ _))) rfl ?_
            rw [E.out.1, E.out.2]
            exact FIN.out _ (.slice none 0 0) _ BY.out
        · have t0 : ((bad : Int) != 0) = true := by simp [h0]
          have E : Hid (r = catZ ∧ er = 4) := Lib.hid (by
            have h := ER.out
            rw [endR_bad (by rw [← HS.out]; exact h2) (.inl (by rw [← HS.out]; exact h0))] at h
            injection h with h3 h4
            exact ⟨h3, h4⟩)
          clear h2 h0
          go_wp2_with fail
          refine bodyPost_ret (results_cat2 rfl _ _ w.heap.size _ _ _ rfl (cell_of_row _ _ 0 _ _ _ (put3 HX.out _ _ _)) (cell_of_row _ _ 1 _ _ _ (put3 HX.out _ _ _)) (cell_of_row _ _ 2 _ _ _ (put3 HX.out _ _ _))) rfl ?_
          rw [E.out.1, E.out.2]
          exact FIN.out _ (.slice none 0 0) _ BX.out
end Go.Proofs.Ytmkljmljbbijeaa

/-! The walk of catalog.Read. -/
namespace Go.Proofs.Ytmkljmljbbijeaa
open Go.RowKit

/-- Bytes as a string. -/
def strB (bs : List (BitVec 8)) : ByteArray := strOfNums (bs.map bv)
theorem conv_string (w : World) (gb off cap n : Nat) (xs : List (BitVec 8)) (hb : BytesAt w (some ⟨gb, off, none⟩) xs) (hn : xs.length = n) : (convert 31 9 (.slice (some ⟨gb, off, none⟩) n cap)).run Try.prog w = .ok (.string (strB xs)) w := by
  refine run_convert_bytes_arg w 31 5 Try.underlying31 Try.underlying5 gb off n cap (xs.map bv) (by simpa using hn) (fun i hi => ?_) 9 Try.underlying9
  obtain ⟨b, o, e, hc⟩ := hb i (by omega)
  injection e with e; injection e with e1 e2; subst e1 e2
  rw [hc]
  congr 2
  have hi' : i < xs.length := by omega
  rw [at8_get hi']
  simp [hi']
theorem strB_inj {xs ys : List (BitVec 8)} (h : strB xs = strB ys) : xs = ys := by
  unfold strB at h
  have h2 := congrArg (fun s => s.data.toList) h
  rw [strOfNums_data, strOfNums_data, List.map_map, List.map_map] at h2
  have inj : ∀ a b : BitVec 8, (UInt8.ofNat (bv a).toNat) = (UInt8.ofNat (bv b).toNat) → a = b := fun a b e => by
    have e2 := congrArg UInt8.toNat e
    have h1 := a.isLt
    have h2 := b.isLt
    have ea : (bv a).toNat = a.toNat := rfl
    have eb : (bv b).toNat = b.toNat := rfl
    rw [UInt8.toNat_ofNat', UInt8.toNat_ofNat', ea, eb] at e2
    apply BitVec.eq_of_toNat_eq
    omega
  clear h
  induction xs generalizing ys with
  | nil => cases ys with
    | nil => rfl
    | cons b ys => simp at h2
  | cons a xs ih => cases ys with
    | nil => simp at h2
    | cons b ys =>
      simp only [List.map_cons, Function.comp] at h2
      injection h2 with h3 h4
      rw [inj a b h3, ih h4]
theorem fcat_data {S : ByteArray} (h : S.data.toList = [70, 67, 65, 84]) : S = ⟨#[70, 67, 65, 84]⟩ := by
  obtain ⟨a⟩ := S
  congr 1
  exact Array.toList_inj.1 h
theorem strB_fcat : strB fcatL = ⟨#[70, 67, 65, 84]⟩ := by decide
theorem new_reader_n (ao : Option Addr) (bs : List (BitVec 8)) (n ca : Nat) (w : World) (hb : BytesAt w ao bs) (hl : bs.length = n) (hn : ao = none → ca = 0) (hm : n ≤ 140737488351232) :
    Calls Try.prog 66 #[.slice ao n ca] w fun e w' => ∃ b, e = .returned (.pointer (some ⟨b, 0, none⟩)) ∧ w.heap.size ≤ b ∧ RdAt w' b bs 0 0 ∧ Below w.heap.size w w' := by
  subst hl; exact new_reader_far ao bs ca w hb hn hm
theorem crc_sum_n (ao : Option Addr) (bs : List (BitVec 8)) (n cap : Nat) (w : World) (hb : BytesAt w ao bs) (hn : bs.length = n) (hm : n ≤ 140737488351232) :
    Calls Try.prog 73 #[.slice ao n cap] w fun e w' => e = .returned (.int .u32 (bv (Crc.sum bs))) ∧ Below w.heap.size w w' := by
  subst hn; exact crc_sum ao bs cap w hb hm
theorem upd_low {n : Nat} {w0 w w' : World} {b k : Nat} {v : Value} (h0 : Below n w0 w) (h : Upd b k v w w') (hb : n ≤ b) (hs : n ≤ w.heap.size) : Below n w0 w' := h.but.below h0 hb hs
theorem cat_read_short (ao : Option Addr) (n ca : Nat) (w : World) (hn : n < 8) : Calls Try.prog 32 #[.slice ao n ca] w (BodyB w catZ 2) := by
  have b1 := below_alloc w (.cells #[.int .i64 0, .int .i64 0, .slice none 0 0] 29)
  have hn1 := heap_alloc_new w (.cells #[.int .i64 0, .int .i64 0, .slice none 0 0] 29)
  obtain ⟨w1, hw1⟩ : ∃ w1, w.alloc (.cells #[.int .i64 0, .int .i64 0, .slice none 0 0] 29) = w1 := ⟨_, rfl⟩
  rw [hw1] at b1 hn1
  have HZ := Lib.hid hn1
  have HB := Lib.hid b1
  clear b1 hn1
  have r0 := cell_of_row _ _ 0 _ _ _ HZ.out
  have f0 := frozen_of_row _ _ 0 _ _ HZ.out
  have r1 := cell_of_row _ _ 1 _ _ _ HZ.out
  have f1 := frozen_of_row _ _ 1 _ _ HZ.out
  have r2 := cell_of_row _ _ 2 _ _ _ HZ.out
  have f2 := frozen_of_row _ _ 2 _ _ HZ.out
  have hz : (n : Int) - 4 < 4 := by omega
  go_enter Try.func32, Try.ntmps32
  go_wp2_with fail
  refine bodyPost_ret (results_cat2 rfl _ _ w.heap.size _ _ _ rfl (cell_of_row _ _ 0 _ _ _ (put3 HZ.out _ _ _)) (cell_of_row _ _ 1 _ _ _ (put3 HZ.out _ _ _)) (cell_of_row _ _ 2 _ _ _ (put3 HZ.out _ _ _))) rfl ?_
  exact ⟨_, rfl, CatOwn.z _ _, put3_below HB.out (Nat.le_refl _) _ _ _⟩
set_option maxRecDepth 100000 in
set_option maxHeartbeats 4000000 in
theorem cat_read_long (gb off p ca : Nat) (bs : List (BitVec 8)) (w : World) (hb : BytesAt w (some ⟨gb, off, none⟩) bs) (hn : bs.length = p + 8) (hc : p + 8 ≤ ca) (hm : p + 8 ≤ 140737488351232) (r : CatV) (er : Int) (hr : catR bs = (r, er)) :
    Calls Try.prog 32 #[.slice (some ⟨gb, off, none⟩) (p + 8) ca] w (BodyB w r er) := by
  have b1 := below_alloc w (.cells #[.int .i64 0, .int .i64 0, .slice none 0 0] 29)
  have hn1 := heap_alloc_new w (.cells #[.int .i64 0, .int .i64 0, .slice none 0 0] 29)
  obtain ⟨w1, hw1⟩ : ∃ w1, w.alloc (.cells #[.int .i64 0, .int .i64 0, .slice none 0 0] 29) = w1 := ⟨_, rfl⟩
  rw [hw1] at b1 hn1
  have HZ := Lib.hid hn1
  have HB := Lib.hid b1
  have HP := Lib.hid (hb.below b1)
  have HN := Lib.hid hn
  have HR := Lib.hid hr
  clear b1 hn1 hb hn hr
  have n1 : ¬ (ca = 4) := by omega
  have n2 : ¬ (ca = p + 4) := by omega
  have n3 : ¬ ((p : Int) + 4 < 4) := by omega
  have FIN := Lib.hid (show ∀ (W : World) (er' : Int), Below w1.heap.size w1 W → BodyB w catZ er' (.returned (.tuple #[.agg #[.int .i64 0, .int .i64 0, .slice none 0 0], .int .i64 er'])) (((W.setCell ⟨w.heap.size, 0, none⟩ (.int .i64 0)).setCell ⟨w.heap.size, 1, none⟩ (.int .i64 0)).setCell ⟨w.heap.size, 2, none⟩ (.slice none 0 0)) from fun W er' hW => ⟨_, rfl, CatOwn.z _ _, put3_below (below_trans HB.out hW) (Nat.le_refl _) _ _ _⟩)
  have kcs := conv_string w1 gb off ca 4 (bs.take 4) (HP.out.take 4) (by have := HN.out; simp; omega)
  have r0 := cell_of_row _ _ 0 _ _ _ HZ.out
  have f0 := frozen_of_row _ _ 0 _ _ HZ.out
  have r1 := cell_of_row _ _ 1 _ _ _ HZ.out
  have f1 := frozen_of_row _ _ 1 _ _ HZ.out
  have r2 := cell_of_row _ _ 2 _ _ _ HZ.out
  have f2 := frozen_of_row _ _ 2 _ _ HZ.out
  have L8 : ¬ bs.length < 8 := by have := HN.out; omega
  have HL8 := Lib.hid L8
  clear L8
  go_enter Try.func32, Try.ntmps32
  by_cases hmg : bs.take 4 = fcatL
  · rw [hmg, strB_fcat] at kcs
    have HMG := Lib.hid hmg
    clear hmg
    obtain ⟨s, hs⟩ : ∃ s : BitVec 32, (leB ((bs.drop (p + 4)).take 4)).setWidth 32 = s := ⟨_, rfl⟩
    have HSS := Lib.hid hs
    have D4 : Hid ((bs.drop (p + 4)).length = 4) := Lib.hid (by rw [List.length_drop, HN.out]; omega)
    clear hs
    go_wp2_with fail
    refine wp_region_mixed [0, 1, 2, 5, 6, 7, 3, 4, 8, 9, 10] (fun _ => True) (by kernel_rfl) (by kernel_rfl) (by intro c a d v w h; cases d <;> exact h) trivial ?_
    intro hne
    simp only [pick, List.map_cons, List.map_nil, List.getD_cons_zero, List.getD_cons_succ]
    refine wpMix_reads 6 _ (by kernel_rfl) ?_
    simp only [List.take_succ_cons, List.take_zero, List.drop_succ_cons, List.drop_zero]
    repeat (go_big_quiet_step (fail))
    refine wpQuiet_nil ?_
    refine wpMix_act rfl ?_ rfl
    go_wp2_with fail
    refine (new_reader_n (some ⟨gb, off + (p + 4), none⟩) (bs.drop (p + 4)) 4 _ _ ((HP.out.drop (p + 4)).below (below_drew w1)) D4.out (fun h => nomatch h) (by decide)).mono ?_
    rintro e w2 ⟨b, rfl, hbb, hR, hb2⟩
    have RD := Lib.hid hR
    have LB := Lib.hid (show w1.heap.size ≤ b from hbb)
    have B2 := Lib.hid (show Below w1.heap.size w1 w2 from below_trans (below_drew w1) hb2)
    clear hR hbb hb2
    go_wp2_with fail
    refine ⟨⟨⟨_, trivial⟩, rfl⟩, ?_⟩
    refine wpMix_act rfl ?_ rfl
    go_wp2_with fail
    refine (fixed32_ok b (bs.drop (p + 4)) 0 w2 RD.out (by rw [D4.out]; decide) (by rw [D4.out]; decide)).mono ?_
    rintro e w3 ⟨rfl, hu⟩
    have B3 := Lib.hid (upd_low B2.out hu LB.out B2.out.size)
    clear hu
    rw [List.drop_zero, HSS.out]
    go_wp2_with fail
    refine ⟨⟨⟨_, trivial⟩, rfl⟩, ?_⟩
    refine wpMix_act rfl ?_ rfl
    go_wp2_with fail
    refine (crc_sum_n (some ⟨gb, off, none⟩) (bs.take (p + 4)) (p + 4) ca w3 ((HP.out.take (p + 4)).below B3.out) (by rw [List.length_take, HN.out]; omega) (by omega)).mono ?_
    rintro e w4 ⟨rfl, hb4⟩
    have B4 := Lib.hid (below_trans B3.out hb4)
    obtain ⟨sm, hsm⟩ : ∃ sm, Crc.sum (bs.take (p + 4)) = sm := ⟨_, rfl⟩
    rw [hsm]
    have SM := Lib.hid hsm
    clear hb4 hsm
    have CR : Hid (catR bs = if s ≠ sm then (catZ, 5) else bodyR ((bs.take (p + 4)).drop 4)) := Lib.hid (by
      have e4 : bs.length - 4 = p + 4 := by rw [HN.out]; omega
      have e5 : (bs.drop (p + 4)).take 4 = bs.drop (p + 4) := List.take_of_length_le (by rw [D4.out]; exact Nat.le_refl _)
      unfold catR
      rw [if_neg HL8.out, if_neg (by rw [HMG.out]; simp), e4, SM.out, ← e5, HSS.out])
    have hz4 := (B4.out.block _ (heap_lt HZ.out)).trans HZ.out
    have HZ4 := Lib.hid hz4
    clear r0 r1 r2 f0 f1 f2 kcs
    have r0 := cell_of_row _ _ 0 _ _ _ hz4
    have f0 := frozen_of_row _ _ 0 _ _ hz4
    have r1 := cell_of_row _ _ 1 _ _ _ hz4
    have f1 := frozen_of_row _ _ 1 _ _ hz4
    have r2 := cell_of_row _ _ 2 _ _ _ hz4
    have f2 := frozen_of_row _ _ 2 _ _ hz4
    clear hz4
    by_cases hq : s = sm
    · have t5 : (s != sm) = false := by simp [hq]
      have EB : Hid (bodyR ((bs.take (p + 4)).drop 4) = (r, er)) := Lib.hid (by rw [← HR.out, CR.out, if_neg (by simp [hq])])
      have PB : Hid (BytesAt w4 (some ⟨gb, off + 4, none⟩) ((bs.take (p + 4)).drop 4)) := Lib.hid (((HP.out.take (p + 4)).drop 4).below B4.out)
      have PL : Hid (((bs.take (p + 4)).drop 4).length = p) := Lib.hid (by rw [List.length_drop, List.length_take, HN.out]; omega)
      clear hq
      go_wp2_with fail
      refine ⟨⟨⟨_, trivial⟩, rfl⟩, ?_⟩
      refine wpMix_reads 2 _ (by kernel_rfl) ?_
      simp only [List.take_succ_cons, List.take_zero, List.drop_succ_cons, List.drop_zero]
      repeat (go_big_quiet_step (fail))
      refine wpQuiet_nil ?_
      refine wpMix_nil ?_
      clear hne
      go_wp2_with fail
      refine (cat_body (some ⟨gb, off + 4, none⟩) _ p (ca - 4) w4 PB.out PL.out (fun h => nomatch h) (by rw [PL.out]; omega) r er EB.out).mono ?_
      rintro e w5 ⟨v, rfl, hO, hb5⟩
      obtain ⟨vs, rfl, ho⟩ := hO.own
      have OK := Lib.hid (And.intro hO.ok hO.few)
      have OW := Lib.hid ho
      have B5 := Lib.hid (below_trans B4.out hb5)
      have hz5 := (B5.out.block _ (heap_lt HZ.out)).trans HZ.out
      have HZ5 := Lib.hid hz5
      have LZ := Lib.hid (Nat.lt_of_lt_of_le (heap_lt HZ.out) B4.out.size)
      clear hO hb5 r0 r1 r2 f0 f1 f2
      have r0 := cell_of_row _ _ 0 _ _ _ hz5
      have f0 := frozen_of_row _ _ 0 _ _ hz5
      have r1 := cell_of_row _ _ 1 _ _ _ hz5
      have f1 := frozen_of_row _ _ 1 _ _ hz5
      have r2 := cell_of_row _ _ 2 _ _ _ hz5
      have f2 := frozen_of_row _ _ 2 _ _ hz5
      clear hz5
      obtain ⟨av, cv, hvs, -⟩ := ho.there OK.out.1.segs OK.out.2
      clear ho
      generalize r.segs.length = LN at hvs
      subst hvs
      go_wp2_with fail
      refine bodyPost_ret (results_cat2 rfl _ _ w.heap.size _ _ _ rfl (cell_of_row _ _ 0 _ _ _ (put3 HZ5.out _ _ _)) (cell_of_row _ _ 1 _ _ _ (put3 HZ5.out _ _ _)) (cell_of_row _ _ 2 _ _ _ (put3 HZ5.out _ _ _))) rfl ?_
      refine ⟨_, rfl, ⟨⟨_, rfl, OwnS.base (base := w4.heap.size) ?_ (by have := LZ.out; omega)⟩, OK.out.1, OK.out.2⟩, put3_below (below_trans HB.out B5.out) (Nat.le_refl _) _ _ _⟩
      exact rows_congr OW.out fun z hz => put3_off (by have := (rows_blk OW.out hz).1; have := LZ.out; omega) _ _ _
    · have t5 : (s != sm) = true := by simp [hq]
      have E : Hid (r = catZ ∧ er = 5) := Lib.hid (by
        have h := HR.out.symm.trans CR.out
        rw [if_pos hq] at h
        injection h with h3 h4
        exact ⟨h3, h4⟩)
      clear hq
      go_wp2_with fail
      refine ⟨⟨⟨_, trivial⟩, rfl⟩, ?_⟩
      refine wpMix_reads 2 _ (by kernel_rfl) ?_
      simp only [List.take_succ_cons, List.take_zero, List.drop_succ_cons, List.drop_zero]
      repeat (go_big_quiet_step (fail))
      refine wpQuiet_nil ?_
      refine wpMix_nil ?_
      clear hne
      go_wp2_with fail
      refine bodyPost_ret (results_cat2 rfl _ _ w.heap.size _ _ _ rfl (cell_of_row _ _ 0 _ _ _ (put3 HZ4.out _ _ _)) (cell_of_row _ _ 1 _ _ _ (put3 HZ4.out _ _ _)) (cell_of_row _ _ 2 _ _ _ (put3 HZ4.out _ _ _))) rfl ?_
      rw [E.out.1, E.out.2]
      exact FIN.out _ _ B4.out
  · obtain ⟨S, hS⟩ : ∃ S, strB (bs.take 4) = S := ⟨_, rfl⟩
    have hne : ¬ S = ⟨#[70, 67, 65, 84]⟩ := fun h => hmg (strB_inj (by rw [hS, h, strB_fcat]))
    have E : Hid (r = catZ ∧ er = 4) := Lib.hid (by
      have h := HR.out
      unfold catR at h
      rw [if_neg HL8.out, if_pos hmg] at h
      injection h with h3 h4
      exact ⟨h3.symm, h4.symm⟩)
    have tS : (S.toList == [70, 67, 65, 84]) = false := beq_false_of_ne fun h => by
      rw [ByteArray.toList_eq] at h
      exact hne (fcat_data h)
    rw [hS] at kcs
    clear hS hne hmg
    go_wp2_with fail
    refine bodyPost_ret (results_cat2 rfl _ _ w.heap.size _ _ _ rfl (cell_of_row _ _ 0 _ _ _ (put3 HZ.out _ _ _)) (cell_of_row _ _ 1 _ _ _ (put3 HZ.out _ _ _)) (cell_of_row _ _ 2 _ _ _ (put3 HZ.out _ _ _))) rfl ?_
    rw [E.out.1, E.out.2]
    exact FIN.out _ _ (Below.refl _ _)
theorem cat_read (ao : Option Addr) (bs : List (BitVec 8)) (n ca : Nat) (w : World) (hb : BytesAt w ao bs) (hn : bs.length = n) (_hz : ao = none → ca = 0) (hc : n ≤ ca) (hm : n ≤ 140737488351232) (r : CatV) (er : Int) (hr : catR bs = (r, er)) :
    Calls Try.prog 32 #[.slice ao n ca] w (BodyB w r er) := by
  by_cases h : n < 8
  · have e : catR bs = (catZ, 2) := by unfold catR; rw [if_pos (by omega)]
    rw [e] at hr
    injection hr with h1 h2
    subst h1 h2
    exact cat_read_short ao n ca w h
  · obtain ⟨p, rfl⟩ : ∃ p, n = p + 8 := ⟨n - 8, by omega⟩
    obtain ⟨gb, off, rfl, -⟩ := hb 0 (by omega)
    exact cat_read_long gb off p ca bs w hb hn hc hm r er hr
end Go.Proofs.Ytmkljmljbbijeaa

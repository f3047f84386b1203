/- The walk of flumelaw6's FrameReads. -/
import Derived.Test.YtfadpjljokpenaaFrameAll
import Derived.Test.YtfadpjljokpenaaMixed
namespace Go.Proofs.Ytfadpjljokpenaa
open Go.RowKit

theorem rF_data (seed : BitVec 32) (bs : List (BitVec 8)) : (rF seed bs).data.length ≤ 4096 := by
  by_cases h : (rF seed bs).err = 0
  · exact (rF_ok h).2.2.1
  · rw [rF_bad h]; exact Nat.zero_le _
theorem ref_read_x (s : Int) (seed : BitVec 32) (ao : Option Addr) (bs : List (BitVec 8)) (n cap : Nat) (w : World) (hs : s = bv seed) (hb : BytesAt w ao bs) (hl : bs.length = n) (hn : ao = none → cap = 0) (hc : n ≤ cap) (hm : cap ≤ 9223372036854775807) (r : Rd) (h : rF seed bs = r) :
    Calls Try.prog 26 #[.int .u32 s, .slice ao n cap] w (ReadB w r) := by
  subst hs hl h; exact ref_read seed ao bs cap w hb hn hc hm

set_option maxHeartbeats 16000000 in
set_option maxRecDepth 100000 in
theorem frame_reads (a : Option Addr) (L : List (List (BitVec 8))) (ca : Nat) (m : Option Addr) (S : List (BitVec 32)) (cm : Nat) (w : World) (hL : ListsAt w a L) (hU : U32sAt w m S)
    (lL : L.length ≤ 5864062014806) (_lU : S.length ≤ 35184372087808) :
    Calls Try.prog 4 #[.slice a L.length ca, .slice m S.length cm] w (TrueBelow w) := by
  have HL := Lib.hid hL
  have HU := Lib.hid hU
  clear hL hU
  go_enter Try.func4, Try.ntmps4
  go_wp2_with fail
  refine (frame_begun _).mono ?_
  rintro e w1 ⟨rfl, hb⟩
  have H1 := Lib.hid hb
  clear hb
  have K1 := Lib.hid (kept_box w1)
  have A1 := Lib.hid (below_alloc w1 (.cells #[.slice none 0 0, .int .i64 0] 30 (0, 0)))
  go_wp2_with fail
  go_loopw [6, 7, 8, 9, 10, 11, 12, 13, 14, 15, 16, 17, 18, 19] (fun i _ _ _ _ _ _ _ _ _ _ _ _ _ wr => ∃ (k : Nat) (lv : Value) (z : Nat) (xs : List Value), k ≤ L.length ∧ i = .int .i64 k ∧ Kept wr w1.heap.size w1.heap.size lv z xs ∧ Hid (Short xs) ∧ Below w1.heap.size w1 wr) (fun i _ _ _ _ _ _ _ _ _ _ _ _ _ _ => L.length - (intOf i).toNat)
  case atStart => exact ⟨0, _, 0, [], by omega, rfl, K1.out, Lib.hid short_none, A1.out⟩
  case round =>
    clear K1 A1
    obtain ⟨k, lv, z, xs, hk, rfl, hK, hS, hb⟩ := hrel
    have KK := Lib.hid hK
    have HB := Lib.hid hb
    clear hK hb
    by_cases hall : k < L.length ∧ k < S.length ∧ k < 40
    · obtain ⟨g1, g2, g3⟩ := hall
      have HW := Lib.hid (below_trans H1.out HB.out)
      obtain ⟨b, off, ai, ci, rfl, hc, hbs, hnil, hle, hci⟩ := HL.out k g1
      obtain ⟨bm, om, rfl, hu⟩ := HU.out k g2
      obtain ⟨D, hD⟩ : ∃ D, nth L k = D := ⟨_, rfl⟩
      obtain ⟨sd, hsd⟩ : ∃ u, at32 S k = u := ⟨_, rfl⟩
      rw [hD] at hc hbs hle
      rw [hsd] at hu
      obtain ⟨r, hr⟩ : ∃ r, rF sd D = r := ⟨_, rfl⟩
      have HR := Lib.hid hr
      have DL := Lib.hid (show r.data.length ≤ 4096 from hr ▸ rF_data sd D)
      have HBS := Lib.hid hbs
      have HNil := Lib.hid hnil
      have C0 := Lib.hid (show (Cells3 ⟨bm, om + k, none⟩ ⟨b, off + k, none⟩ ⟨b, off + k, none⟩ (.int .u32 (bv sd)) (.slice ai D.length ci) (.slice ai D.length ci)) wr from ⟨cell_keep HW.out hu, cell_keep HW.out hc, cell_keep HW.out hc⟩)
      have e1 := C0.out.c1
      clear hbs hnil hu hc hD hsd hr
      go_wp2_with fail
      refine (lent ai D ci _ (HBS.out.below HW.out) HNil.out (by omega)).mono ?_
      rintro e w3 ⟨g, cap, rfl, hc2, hcm, hM⟩
      have HM := Lib.hid hM
      have HC2 := Lib.hid hc2
      have HCM := Lib.hid hcm
      have GL : Hid (g < w3.heap.size) := block_lt_of_cell (hM.bytes 0 (by simp))
      have SB := Lib.hid (show wr.heap.size ≤ w3.heap.size from hM.below.size)
      have C3 := Lib.hid (C0.out.on hM.below)
      have F3 := Lib.hid (Fresh.nil w3)
      have e0 := C3.out.c0
      clear hM hcm e1 hc2
      go_wp2_with fail
      refine (frame_read_x _ sd (some ⟨g, 0, none⟩) D _ cap _ rfl HM.out.front rfl (fun h => by cases h) (by have := HC2.out; omega) (by have := HCM.out; unfold maxLen at this; omega) r HR.out).mono ?_
      rintro e w4 ⟨v4, he, hO, hb⟩
      obtain ⟨a4, c4, rfl, x4, -, -, -, n4⟩ := hO.slice
      subst he
      have ba := below_alloc w4 (.cells #[.int .i64 (bv r.lsn), .slice a4 r.data.length c4] 34)
      have b5 := below_trans hb ba
      have RR5 := Lib.hid (rec_new w4 (bv r.lsn) (.slice a4 r.data.length c4))
      have F5 := Lib.hid (show Fresh w3.heap.size (w4.alloc (.cells #[.int .i64 (bv r.lsn), .slice a4 r.data.length c4] 34)) [.slice a4 r.data.length c4] from (F3.out.snoc hb hO (by have := DL.out; omega)).keep ba)
      have X45 := Lib.hid (x4.below ba)
      have N4 := Lib.hid n4
      have M5 := Lib.hid (HM.out.on b5)
      have C5 := Lib.hid (C3.out.on b5)
      have S34 := Lib.hid (show w3.heap.size ≤ w4.heap.size from hb.size)
      obtain ⟨w5, hw5⟩ : ∃ w5, w4.alloc (.cells #[.int .i64 (bv r.lsn), .slice a4 r.data.length c4] 34) = w5 := ⟨_, rfl⟩
      rw [hw5] at RR5 F5 X45 M5 C5
      have GL0_w5 := Lib.hid (show g < w5.heap.size by have := F5.out.size; have := GL.out; omega)
      clear hb hO x4 n4 ba b5 e0 HM C3 F3
      have qs0 : ∀ p : In (Cells3 ⟨bm, om + k, none⟩ ⟨b, off + k, none⟩ ⟨b, off + k, none⟩ (.int .u32 (bv sd)) (.slice ai D.length ci) (.slice ai D.length ci)), p.w.cell? ⟨bm, om + k, none⟩ = some (.int .u32 (bv sd)) := fun p => p.h.c0
      have qs1 : ∀ p : In (Cells3 ⟨bm, om + k, none⟩ ⟨b, off + k, none⟩ ⟨b, off + k, none⟩ (.int .u32 (bv sd)) (.slice ai D.length ci) (.slice ai D.length ci)), p.w.cell? ⟨b, off + k, none⟩ = some (.slice ai D.length ci) := fun p => p.h.c1
      go_wp2_with fail
      refine wp_region_fork [0, 1, 2, 3, 4, 5, 6, 7] 8 14 [9, 10, 11, 12, 13, 14, 15, 16, 17, 18] [8, 9, 10, 11, 12, 13, 15, 16, 17, 18] (Cells3 ⟨bm, om + k, none⟩ ⟨b, off + k, none⟩ ⟨b, off + k, none⟩ (.int .u32 (bv sd)) (.slice ai D.length ci) (.slice ai D.length ci)) (by kernel_rfl) (by kernel_rfl) (by intro c a d v w h; cases d <;> exact h) (C5.out.on (below_drew _)) ?_
      intro hne
      simp only [pick, List.map_cons, List.map_nil, List.getD_cons_zero, List.getD_cons_succ]
      repeat (go_big_quiet_step (fail))
      refine wpQuiet_nil ?_
      refine ⟨?_, ?_⟩
      · refine wpMix_act rfl ?_ rfl
        go_wp2_with fail
        refine (ref_read_x _ sd ai D _ ci _ rfl ((HBS.out.below HW.out).below (below_trans M5.out.below (below_drew w5))) rfl HNil.out hle (by omega) r HR.out).mono ?_
        rintro e x1 ⟨vq, he, hO, hb⟩
        obtain ⟨aq, cq, rfl, -, -, -, -, -⟩ := hO.slice
        subst he
        have CX := Lib.hid (C5.out.on (below_trans (below_drew _) hb))
        have BQ := Lib.hid (below_trans (below_drew w5) (below_trans hb (below_alloc x1 (.cells #[.int .i64 (bv r.lsn), .slice aq r.data.length cq] 34))))
        have Q := Lib.hid (rec_new x1 (bv r.lsn) (.slice aq r.data.length cq))
        have OQ := Lib.hid (show OwnB (x1.alloc (.cells #[.int .i64 (bv r.lsn), .slice aq r.data.length cq] 34)) w5.heap.size (.slice aq r.data.length cq) r.data from OwnB.keep hO (below_alloc x1 (.cells #[.int .i64 (bv r.lsn), .slice aq r.data.length cq] 34)))
        have NQ := Lib.hid (show x1.heap.size ≠ g by have := hb.size; have : w5.drew.heap.size = w5.heap.size := rfl; have := GL0_w5.out; omega)
        have HZ := heap_alloc_new x1 (.cells #[.int .i64 0, .slice none 0 0] 34)
        have z0 := cell_of_row _ _ 0 _ _ _ HZ
        have z1 := cell_of_row _ _ 1 _ _ _ HZ
        have fz0 := frozen_of_row _ _ 0 _ _ HZ
        have fz1 := frozen_of_row _ _ 1 _ _ HZ
        have CZ := Lib.hid (CX.out.on (below_alloc x1 (.cells #[.int .i64 0, .slice none 0 0] 34)))
        have CF := Lib.hid (CX.out.on (below_alloc x1 (.cells #[.int .i64 (bv r.lsn), .slice aq r.data.length cq] 34)))
        clear hO hb HZ
        go_wp2_with fail
        refine ⟨⟨⟨_, CX.out⟩, rfl⟩, ?_⟩
        refine wpMix_reads 5 _ (by kernel_rfl) ?_
        simp only [List.take_succ_cons, List.take_zero, List.drop_succ_cons, List.drop_zero]
        repeat (go_big_quiet_step (fail))
        refine wpQuiet_nil ?_
        refine wpMix_act rfl ?_ rfl
        go_wp2_with fail
        refine ⟨⟨⟨_, CZ.out⟩, rfl⟩, ?_⟩
        refine wpMix_act rfl ?_ rfl
        go_wp2_with fail
        refine ⟨⟨⟨_, CF.out⟩, rfl⟩, ?_⟩
        refine wpMix_reads 3 _ (by kernel_rfl) ?_
        simp only [List.take_succ_cons, List.take_zero, List.drop_succ_cons, List.drop_zero]
        repeat (go_big_quiet_step (fail))
        refine wpQuiet_nil ?_
        refine wpMix_nil ?_
        clear hne z0 z1 fz0 fz1 CX CZ CF
        obtain ⟨wq, hwq⟩ : ∃ wq, x1.alloc (.cells #[.int .i64 (bv r.lsn), .slice aq r.data.length cq] 34) = wq := ⟨_, rfl⟩
        rw [hwq] at BQ Q OQ
        rw [hwq]
        clear hwq
        have M6 := Lib.hid (M5.out.on BQ.out)
        have RR6 := Lib.hid (RR5.out.on BQ.out)
        have F6 := Lib.hid (F5.out.keep BQ.out)
        have X46 := Lib.hid (X45.out.below BQ.out)
        obtain ⟨aq', cq', hva, xq, -, -, -, nq'⟩ := OQ.out.slice
        injection hva with ea1 ea2 ea3
        subst ea1 ea3
        clear ea2
        have XQ := Lib.hid xq
        have N6 := Lib.hid nq'
        have r0 := RR6.out.c0
        have r1 := RR6.out.c1
        have q0 := Q.out.c0
        have q1 := Q.out.c1
        have QL := Lib.hid (show x1.heap.size < wq.heap.size from block_lt_of_cell q0)
        clear xq nq' OQ
        go_wp2_with fail
        refine (rec_same (bv r.lsn) a4 aq r.data _ c4 cq _ X46.out XQ.out rfl (by have := DL.out; omega)).mono ?_
        rintro e w7 ⟨rfl, hb⟩
        have M7 := Lib.hid (M6.out.on hb)
        have RR7 := Lib.hid (RR6.out.on hb)
        have Q7 := Lib.hid (Q.out.on hb)
        have F7 := Lib.hid (F6.out.keep hb)
        have X47 := Lib.hid (X46.out.below hb)
        have XQ7 := Lib.hid (XQ.out.below hb)
        have r0 := RR7.out.c0
        have r1 := RR7.out.c1
        have q0 := Q7.out.c0
        have q1 := Q7.out.c1
        have e2 := cell_keep M7.out.below C0.out.c1
        clear hb M6 RR6 Q F6 X46 XQ
        go_wp2_with fail
        refine (back_but wr g cap ai D ci _ M7.out HC2.out HCM.out (fun w' hw' => (HBS.out.below HW.out).but M7.out.below hw' M7.out.own)).mono ?_
        rintro e w8 ⟨rfl, hb8⟩
        have B8 := Lib.hid (show Below wr.heap.size wr w8 from hb8.below M7.out.below M7.out.own M7.out.below.size)
        have F8 := Lib.hid (F7.out.but hb8 GL.out)
        have X48 := Lib.hid (show BytesAt w8 a4 r.data from hb8.bytes X47.out (fun g' off e h => by have := (N4.out g' off e).1; have := GL.out; omega))
        have XQ8 := Lib.hid (show BytesAt w8 aq r.data from hb8.bytes XQ7.out (fun g' off e h => by have := (N6.out g' off e).1; have := GL0_w5.out; omega))
        have RR8 := Lib.hid (show RecIn w8 w4.heap.size (bv r.lsn) (.slice a4 r.data.length c4) from ⟨hb8.cell RR7.out.c0 (show w4.heap.size ≠ g by have := GL.out; have := S34.out; omega), hb8.cell RR7.out.c1 (show w4.heap.size ≠ g by have := GL.out; have := S34.out; omega)⟩)
        have Q8 := Lib.hid (show RecIn w8 (x1.heap.size) (bv r.lsn) (.slice aq r.data.length cq) from ⟨hb8.cell Q7.out.c0 (show x1.heap.size ≠ g from NQ.out), hb8.cell Q7.out.c1 (show x1.heap.size ≠ g from NQ.out)⟩)
        have r0 := RR8.out.c0
        have r1 := RR8.out.c1
        have q0 := Q8.out.c0
        have q1 := Q8.out.c1
        clear hb8 F7 X47 XQ7 RR7 Q7 M7 e2
        go_wp2_with fail
        refine (rec_same (bv r.lsn) a4 aq r.data _ c4 cq _ X48.out XQ8.out rfl (by have := DL.out; omega)).mono ?_
        rintro e w9 ⟨rfl, hb⟩
        have B9 := Lib.hid (below_trans B8.out hb)
        have F9 := Lib.hid (F8.out.keep hb)
        have RR9 := Lib.hid (RR8.out.on hb)
        have C9 := Lib.hid (C0.out.on B9.out)
        have GL0_w9 := Lib.hid (show g < w9.heap.size by have := F9.out.size; have := GL.out; omega)
        clear hb B8 F8 X48 XQ8 RR8 Q8 r0 r1 q0 q1 NQ BQ
        go_wp2_with fail
        refine wp_region_fork [0, 1, 2, 3, 4, 5, 6, 7] 8 14 [9, 10, 11, 12, 13, 14, 15, 16, 17, 18] [8, 9, 10, 11, 12, 13, 15, 16, 17, 18] (Cells3 ⟨bm, om + k, none⟩ ⟨b, off + k, none⟩ ⟨b, off + k, none⟩ (.int .u32 (bv sd)) (.slice ai D.length ci) (.slice ai D.length ci)) (by kernel_rfl) (by kernel_rfl) (by intro c a d v w h; cases d <;> exact h) (C9.out.on (below_drew _)) ?_
        intro hne
        simp only [pick, List.map_cons, List.map_nil, List.getD_cons_zero, List.getD_cons_succ]
        repeat (go_big_quiet_step (fail))
        refine wpQuiet_nil ?_
        refine ⟨?_, ?_⟩
        · refine wpMix_act rfl ?_ rfl
          go_wp2_with fail
          refine (frame_read_x _ sd ai D _ ci _ rfl ((HBS.out.below HW.out).below (below_trans B9.out (below_drew w9))) rfl HNil.out hle (by omega) r HR.out).mono ?_
          rintro e x1 ⟨vq, he, hO, hb⟩
          obtain ⟨ap, cp, rfl, -, -, -, -, -⟩ := hO.slice
          subst he
          have CX := Lib.hid (C9.out.on (below_trans (below_drew _) hb))
          have BP := Lib.hid (below_trans (below_drew w9) (below_trans hb (below_alloc x1 (.cells #[.int .i64 (bv r.lsn), .slice ap r.data.length cp] 34))))
          have P := Lib.hid (rec_new x1 (bv r.lsn) (.slice ap r.data.length cp))
          have OP := Lib.hid (show OwnB (x1.alloc (.cells #[.int .i64 (bv r.lsn), .slice ap r.data.length cp] 34)) w9.heap.size (.slice ap r.data.length cp) r.data from OwnB.keep hO (below_alloc x1 (.cells #[.int .i64 (bv r.lsn), .slice ap r.data.length cp] 34)))
          have NP := Lib.hid (show x1.heap.size ≠ g by have := hb.size; have : w9.drew.heap.size = w9.heap.size := rfl; have := GL0_w9.out; omega)
          have HZ := heap_alloc_new x1 (.cells #[.int .i64 0, .slice none 0 0] 34)
          have z0 := cell_of_row _ _ 0 _ _ _ HZ
          have z1 := cell_of_row _ _ 1 _ _ _ HZ
          have fz0 := frozen_of_row _ _ 0 _ _ HZ
          have fz1 := frozen_of_row _ _ 1 _ _ HZ
          have CZ := Lib.hid (CX.out.on (below_alloc x1 (.cells #[.int .i64 0, .slice none 0 0] 34)))
          have CF := Lib.hid (CX.out.on (below_alloc x1 (.cells #[.int .i64 (bv r.lsn), .slice ap r.data.length cp] 34)))
          clear hO hb HZ
          go_wp2_with fail
          refine ⟨⟨⟨_, CX.out⟩, rfl⟩, ?_⟩
          refine wpMix_reads 5 _ (by kernel_rfl) ?_
          simp only [List.take_succ_cons, List.take_zero, List.drop_succ_cons, List.drop_zero]
          repeat (go_big_quiet_step (fail))
          refine wpQuiet_nil ?_
          refine wpMix_act rfl ?_ rfl
          go_wp2_with fail
          refine ⟨⟨⟨_, CZ.out⟩, rfl⟩, ?_⟩
          refine wpMix_act rfl ?_ rfl
          go_wp2_with fail
          refine ⟨⟨⟨_, CF.out⟩, rfl⟩, ?_⟩
          refine wpMix_reads 3 _ (by kernel_rfl) ?_
          simp only [List.take_succ_cons, List.take_zero, List.drop_succ_cons, List.drop_zero]
          repeat (go_big_quiet_step (fail))
          refine wpQuiet_nil ?_
          refine wpMix_nil ?_
          clear hne z0 z1 fz0 fz1 CX CZ CF
          obtain ⟨wp, hwp⟩ : ∃ wp, x1.alloc (.cells #[.int .i64 (bv r.lsn), .slice ap r.data.length cp] 34) = wp := ⟨_, rfl⟩
          rw [hwp] at BP P OP
          rw [hwp]
          clear hwp
          have RR10 := Lib.hid (RR9.out.on BP.out)
          have F10 := Lib.hid (show Fresh w3.heap.size wp [.slice a4 r.data.length c4, .slice ap r.data.length cp] from F9.out.snoc BP.out OP.out (by have := DL.out; omega))
          have B10 := Lib.hid (below_trans B9.out BP.out)
          have rr1 := RR10.out.c1
          have pp1 := P.out.c1
          have hbA : Below wp.heap.size wp (wp.alloc (.cells #[.slice a4 r.data.length c4, .slice ap r.data.length cp] 31 (0, 0))) := below_alloc _ _
          have SW := Lib.hid (show w1.heap.size ≤ wr.heap.size from HB.out.size)
          have CM := Lib.hid (show Come (wp.alloc (.cells #[.slice a4 r.data.length c4, .slice ap r.data.length cp] 31 (0, 0))) w1.heap.size wp.heap.size xs [.slice a4 r.data.length c4, .slice ap r.data.length cp] 0 from F10.out.come KK.out SB.out (Nat.le_trans SW.out SB.out))
          have K10 := Lib.hid (KK.out.keep (below_trans B10.out hbA))
          have D10 := Lib.hid (HB.out.trans ((below_trans B10.out hbA).mono HB.out.size))
          have KB := Lib.hid (show w1.heap.size ≠ wp.heap.size by have := heap_lt KK.out.box; have := B10.out.size; omega)
          have KL := Lib.hid (show lv.ownBlock ≠ some wp.heap.size from fun e => by obtain ⟨_, _, hc⟩ := rows_blk KK.out.list e; have := heap_lt hc; have := B10.out.size; omega)
          clear hbA F10 RR10 P OP BP NP
          go_wp2_with fail
          refine (keep w1.heap.size w1.heap.size wp.heap.size 2 lv z xs [.slice a4 r.data.length c4, .slice ap r.data.length cp] _ K10.out CM.out KB.out KL.out (by simp) D10.out.size hS.out).mono ?_
          rintro e w11 ⟨rfl, lv', z', xs', hK, hB, -, -, hS'⟩
          have K11 := Lib.hid hK
          have B11 := Lib.hid (D10.out.trans hB)
          have S11 := Lib.hid hS'
          clear hK hB hS' rr1 pp1
          go_wp2_with fail
          go_roundw
          case rel => exact ⟨k + 1, lv', z', xs', by omega, by go_num, K11.out, S11, B11.out⟩
          case measure => simp [intOf]; omega
        · have bz : Below w9.heap.size w9 (w9.alloc (.cells #[.int .i64 0, .slice none 0 0] 34)).drew := below_trans (below_alloc w9 (.cells #[.int .i64 0, .slice none 0 0] 34)) (below_drew _)
          have BZ := Lib.hid bz
          have SZ0 : (w9.alloc (.cells #[.int .i64 0, .slice none 0 0] 34)).heap.size = w9.heap.size + 1 := by show (w9.heap.push _).size = _; rw [Array.size_push]
          have SZ := Lib.hid SZ0
          have CZ := Lib.hid (C9.out.on bz)
          have HZ := heap_alloc_new w9 (.cells #[.int .i64 0, .slice none 0 0] 34)
          have Z0 := Lib.hid (show ((w9.alloc (.cells #[.int .i64 0, .slice none 0 0] 34)).drew).cell? ⟨w9.heap.size, 0, none⟩ = some (.int .i64 0) from cell_of_row _ _ 0 _ _ _ HZ)
          have Z1 := Lib.hid (show ((w9.alloc (.cells #[.int .i64 0, .slice none 0 0] 34)).drew).cell? ⟨w9.heap.size, 1, none⟩ = some (.slice none 0 0) from cell_of_row _ _ 1 _ _ _ HZ)
          have FZ := Lib.hid (show ∀ j, ((w9.alloc (.cells #[.int .i64 0, .slice none 0 0] 34)).drew).frozen? ⟨w9.heap.size, j, none⟩ = false from fun j => frozen_of_row _ _ j _ _ HZ)
          clear bz HZ SZ0
          refine wpMix_act rfl ?_ rfl
          go_wp2_with fail
          refine ⟨⟨⟨_, CZ.out⟩, rfl⟩, ?_⟩
          refine wpMix_act rfl ?_ rfl
          go_wp2_with fail
          refine (frame_read_x _ sd ai D _ ci _ rfl ((HBS.out.below HW.out).below (below_trans B9.out BZ.out)) rfl HNil.out hle (by omega) r HR.out).mono ?_
          rintro e x1 ⟨vq, he, hO, hb⟩
          obtain ⟨ap, cp, rfl, -, -, -, -, -⟩ := hO.slice
          subst he
          have hl : w9.heap.size < ((w9.alloc (.cells #[.int .i64 0, .slice none 0 0] 34)).drew).heap.size := by show w9.heap.size < (w9.alloc (.cells #[.int .i64 0, .slice none 0 0] 34)).heap.size; rw [SZ.out]; omega
          have CX := Lib.hid (CZ.out.on hb)
          have z0 := cell_keep hb Z0.out
          have z1 := cell_keep hb Z1.out
          have fz0 := (hb.frozen (p := ⟨w9.heap.size, 0, none⟩) hl).trans (FZ.out 0)
          have fz1 := (hb.frozen (p := ⟨w9.heap.size, 1, none⟩) hl).trans (FZ.out 1)
          have bu : But w9.heap.size x1 ((x1.setCell ⟨w9.heap.size, 0, none⟩ (.int .i64 (bv r.lsn))).setCell ⟨w9.heap.size, 1, none⟩ (.slice ap r.data.length cp)) := ((But.refl w9.heap.size x1).setB 0 _).setB 1 _
          have BP := Lib.hid (show Below w9.heap.size w9 ((x1.setCell ⟨w9.heap.size, 0, none⟩ (.int .i64 (bv r.lsn))).setCell ⟨w9.heap.size, 1, none⟩ (.slice ap r.data.length cp)) from ((below_trans BZ.out hb).setCell (p := ⟨w9.heap.size, 0, none⟩) (Nat.le_refl _) _).setCell (p := ⟨w9.heap.size, 1, none⟩) (Nat.le_refl _) _)
          have zz : (x1.setCell ⟨w9.heap.size, 0, none⟩ (.int .i64 (bv r.lsn))).cell? ⟨w9.heap.size, 1, none⟩ = some (.slice none 0 0) := by
            rw [World.cell?_setCell_other _ _ _ _ (by intro e; injection e; omega)]; exact z1
          have P := Lib.hid (show RecIn ((x1.setCell ⟨w9.heap.size, 0, none⟩ (.int .i64 (bv r.lsn))).setCell ⟨w9.heap.size, 1, none⟩ (.slice ap r.data.length cp)) w9.heap.size (bv r.lsn) (.slice ap r.data.length cp) from ⟨by
            rw [World.cell?_setCell_other _ _ _ _ (by intro e; injection e; omega)]; exact World.cell?_setCell_same _ _ _ z0, World.cell?_setCell_same _ _ _ zz⟩)
          have OP := Lib.hid (show OwnB ((x1.setCell ⟨w9.heap.size, 0, none⟩ (.int .i64 (bv r.lsn))).setCell ⟨w9.heap.size, 1, none⟩ (.slice ap r.data.length cp)) w9.heap.size (.slice ap r.data.length cp) r.data from OwnB.base (OwnB.but hO bu hl) (by omega))
          have NP := Lib.hid (show w9.heap.size ≠ g by have := GL0_w9.out; omega)
          have CF := Lib.hid (C9.out.on BP.out)
          clear hO hb hl bu zz
          go_wp2_with fail
          refine ⟨⟨⟨_, CX.out⟩, rfl⟩, ?_⟩
          refine wpMix_reads 5 _ (by kernel_rfl) ?_
          simp only [List.take_succ_cons, List.take_zero, List.drop_succ_cons, List.drop_zero]
          repeat (go_big_quiet_step (fail))
          refine wpQuiet_nil ?_
          refine wpMix_act rfl ?_ rfl
          go_wp2_with fail
          refine ⟨⟨⟨_, CF.out⟩, rfl⟩, ?_⟩
          refine wpMix_reads 3 _ (by kernel_rfl) ?_
          simp only [List.take_succ_cons, List.take_zero, List.drop_succ_cons, List.drop_zero]
          repeat (go_big_quiet_step (fail))
          refine wpQuiet_nil ?_
          refine wpMix_nil ?_
          clear hne z0 z1 fz0 fz1 CX CZ CF BZ Z0 Z1 FZ SZ
          obtain ⟨wp, hwp⟩ : ∃ wp, ((x1.setCell ⟨w9.heap.size, 0, none⟩ (.int .i64 (bv r.lsn))).setCell ⟨w9.heap.size, 1, none⟩ (.slice ap r.data.length cp)) = wp := ⟨_, rfl⟩
          rw [hwp] at BP P OP
          rw [hwp]
          clear hwp
          have RR10 := Lib.hid (RR9.out.on BP.out)
          have F10 := Lib.hid (show Fresh w3.heap.size wp [.slice a4 r.data.length c4, .slice ap r.data.length cp] from F9.out.snoc BP.out OP.out (by have := DL.out; omega))
          have B10 := Lib.hid (below_trans B9.out BP.out)
          have rr1 := RR10.out.c1
          have pp1 := P.out.c1
          have hbA : Below wp.heap.size wp (wp.alloc (.cells #[.slice a4 r.data.length c4, .slice ap r.data.length cp] 31 (0, 0))) := below_alloc _ _
          have SW := Lib.hid (show w1.heap.size ≤ wr.heap.size from HB.out.size)
          have CM := Lib.hid (show Come (wp.alloc (.cells #[.slice a4 r.data.length c4, .slice ap r.data.length cp] 31 (0, 0))) w1.heap.size wp.heap.size xs [.slice a4 r.data.length c4, .slice ap r.data.length cp] 0 from F10.out.come KK.out SB.out (Nat.le_trans SW.out SB.out))
          have K10 := Lib.hid (KK.out.keep (below_trans B10.out hbA))
          have D10 := Lib.hid (HB.out.trans ((below_trans B10.out hbA).mono HB.out.size))
          have KB := Lib.hid (show w1.heap.size ≠ wp.heap.size by have := heap_lt KK.out.box; have := B10.out.size; omega)
          have KL := Lib.hid (show lv.ownBlock ≠ some wp.heap.size from fun e => by obtain ⟨_, _, hc⟩ := rows_blk KK.out.list e; have := heap_lt hc; have := B10.out.size; omega)
          clear hbA F10 RR10 P OP BP NP
          go_wp2_with fail
          refine (keep w1.heap.size w1.heap.size wp.heap.size 2 lv z xs [.slice a4 r.data.length c4, .slice ap r.data.length cp] _ K10.out CM.out KB.out KL.out (by simp) D10.out.size hS.out).mono ?_
          rintro e w11 ⟨rfl, lv', z', xs', hK, hB, -, -, hS'⟩
          have K11 := Lib.hid hK
          have B11 := Lib.hid (D10.out.trans hB)
          have S11 := Lib.hid hS'
          clear hK hB hS' rr1 pp1
          go_wp2_with fail
          go_roundw
          case rel => exact ⟨k + 1, lv', z', xs', by omega, by go_num, K11.out, S11, B11.out⟩
          case measure => simp [intOf]; omega
      · have bz : Below w5.heap.size w5 (w5.alloc (.cells #[.int .i64 0, .slice none 0 0] 34)).drew := below_trans (below_alloc w5 (.cells #[.int .i64 0, .slice none 0 0] 34)) (below_drew _)
        have BZ := Lib.hid bz
        have SZ0 : (w5.alloc (.cells #[.int .i64 0, .slice none 0 0] 34)).heap.size = w5.heap.size + 1 := by show (w5.heap.push _).size = _; rw [Array.size_push]
        have SZ := Lib.hid SZ0
        have CZ := Lib.hid (C5.out.on bz)
        have HZ := heap_alloc_new w5 (.cells #[.int .i64 0, .slice none 0 0] 34)
        have Z0 := Lib.hid (show ((w5.alloc (.cells #[.int .i64 0, .slice none 0 0] 34)).drew).cell? ⟨w5.heap.size, 0, none⟩ = some (.int .i64 0) from cell_of_row _ _ 0 _ _ _ HZ)
        have Z1 := Lib.hid (show ((w5.alloc (.cells #[.int .i64 0, .slice none 0 0] 34)).drew).cell? ⟨w5.heap.size, 1, none⟩ = some (.slice none 0 0) from cell_of_row _ _ 1 _ _ _ HZ)
        have FZ := Lib.hid (show ∀ j, ((w5.alloc (.cells #[.int .i64 0, .slice none 0 0] 34)).drew).frozen? ⟨w5.heap.size, j, none⟩ = false from fun j => frozen_of_row _ _ j _ _ HZ)
        clear bz HZ SZ0
        refine wpMix_act rfl ?_ rfl
        go_wp2_with fail
        refine ⟨⟨⟨_, CZ.out⟩, rfl⟩, ?_⟩
        refine wpMix_act rfl ?_ rfl
        go_wp2_with fail
        refine (ref_read_x _ sd ai D _ ci _ rfl ((HBS.out.below HW.out).below (below_trans M5.out.below BZ.out)) rfl HNil.out hle (by omega) r HR.out).mono ?_
        rintro e x1 ⟨vq, he, hO, hb⟩
        obtain ⟨aq, cq, rfl, -, -, -, -, -⟩ := hO.slice
        subst he
        have hl : w5.heap.size < ((w5.alloc (.cells #[.int .i64 0, .slice none 0 0] 34)).drew).heap.size := by show w5.heap.size < (w5.alloc (.cells #[.int .i64 0, .slice none 0 0] 34)).heap.size; rw [SZ.out]; omega
        have CX := Lib.hid (CZ.out.on hb)
        have z0 := cell_keep hb Z0.out
        have z1 := cell_keep hb Z1.out
        have fz0 := (hb.frozen (p := ⟨w5.heap.size, 0, none⟩) hl).trans (FZ.out 0)
        have fz1 := (hb.frozen (p := ⟨w5.heap.size, 1, none⟩) hl).trans (FZ.out 1)
        have bu : But w5.heap.size x1 ((x1.setCell ⟨w5.heap.size, 0, none⟩ (.int .i64 (bv r.lsn))).setCell ⟨w5.heap.size, 1, none⟩ (.slice aq r.data.length cq)) := ((But.refl w5.heap.size x1).setB 0 _).setB 1 _
        have BQ := Lib.hid (show Below w5.heap.size w5 ((x1.setCell ⟨w5.heap.size, 0, none⟩ (.int .i64 (bv r.lsn))).setCell ⟨w5.heap.size, 1, none⟩ (.slice aq r.data.length cq)) from ((below_trans BZ.out hb).setCell (p := ⟨w5.heap.size, 0, none⟩) (Nat.le_refl _) _).setCell (p := ⟨w5.heap.size, 1, none⟩) (Nat.le_refl _) _)
        have zz : (x1.setCell ⟨w5.heap.size, 0, none⟩ (.int .i64 (bv r.lsn))).cell? ⟨w5.heap.size, 1, none⟩ = some (.slice none 0 0) := by
          rw [World.cell?_setCell_other _ _ _ _ (by intro e; injection e; omega)]; exact z1
        have Q := Lib.hid (show RecIn ((x1.setCell ⟨w5.heap.size, 0, none⟩ (.int .i64 (bv r.lsn))).setCell ⟨w5.heap.size, 1, none⟩ (.slice aq r.data.length cq)) w5.heap.size (bv r.lsn) (.slice aq r.data.length cq) from ⟨by
          rw [World.cell?_setCell_other _ _ _ _ (by intro e; injection e; omega)]; exact World.cell?_setCell_same _ _ _ z0, World.cell?_setCell_same _ _ _ zz⟩)
        have OQ := Lib.hid (show OwnB ((x1.setCell ⟨w5.heap.size, 0, none⟩ (.int .i64 (bv r.lsn))).setCell ⟨w5.heap.size, 1, none⟩ (.slice aq r.data.length cq)) w5.heap.size (.slice aq r.data.length cq) r.data from OwnB.base (OwnB.but hO bu hl) (by omega))
        have NQ := Lib.hid (show w5.heap.size ≠ g by have := GL0_w5.out; omega)
        have CF := Lib.hid (C5.out.on BQ.out)
        clear hO hb hl bu zz
        go_wp2_with fail
        refine ⟨⟨⟨_, CX.out⟩, rfl⟩, ?_⟩
        refine wpMix_reads 5 _ (by kernel_rfl) ?_
        simp only [List.take_succ_cons, List.take_zero, List.drop_succ_cons, List.drop_zero]
        repeat (go_big_quiet_step (fail))
        refine wpQuiet_nil ?_
        refine wpMix_act rfl ?_ rfl
        go_wp2_with fail
        refine ⟨⟨⟨_, CF.out⟩, rfl⟩, ?_⟩
        refine wpMix_reads 3 _ (by kernel_rfl) ?_
        simp only [List.take_succ_cons, List.take_zero, List.drop_succ_cons, List.drop_zero]
        repeat (go_big_quiet_step (fail))
        refine wpQuiet_nil ?_
        refine wpMix_nil ?_
        clear hne z0 z1 fz0 fz1 CX CZ CF BZ Z0 Z1 FZ SZ
        obtain ⟨wq, hwq⟩ : ∃ wq, ((x1.setCell ⟨w5.heap.size, 0, none⟩ (.int .i64 (bv r.lsn))).setCell ⟨w5.heap.size, 1, none⟩ (.slice aq r.data.length cq)) = wq := ⟨_, rfl⟩
        rw [hwq] at BQ Q OQ
        rw [hwq]
        clear hwq
        have M6 := Lib.hid (M5.out.on BQ.out)
        have RR6 := Lib.hid (RR5.out.on BQ.out)
        have F6 := Lib.hid (F5.out.keep BQ.out)
        have X46 := Lib.hid (X45.out.below BQ.out)
        obtain ⟨aq', cq', hva, xq, -, -, -, nq'⟩ := OQ.out.slice
        injection hva with ea1 ea2 ea3
        subst ea1 ea3
        clear ea2
        have XQ := Lib.hid xq
        have N6 := Lib.hid nq'
        have r0 := RR6.out.c0
        have r1 := RR6.out.c1
        have q0 := Q.out.c0
        have q1 := Q.out.c1
        have QL := Lib.hid (show w5.heap.size < wq.heap.size from block_lt_of_cell q0)
        clear xq nq' OQ
        go_wp2_with fail
        refine (rec_same (bv r.lsn) a4 aq r.data _ c4 cq _ X46.out XQ.out rfl (by have := DL.out; omega)).mono ?_
        rintro e w7 ⟨rfl, hb⟩
        have M7 := Lib.hid (M6.out.on hb)
        have RR7 := Lib.hid (RR6.out.on hb)
        have Q7 := Lib.hid (Q.out.on hb)
        have F7 := Lib.hid (F6.out.keep hb)
        have X47 := Lib.hid (X46.out.below hb)
        have XQ7 := Lib.hid (XQ.out.below hb)
        have r0 := RR7.out.c0
        have r1 := RR7.out.c1
        have q0 := Q7.out.c0
        have q1 := Q7.out.c1
        have e2 := cell_keep M7.out.below C0.out.c1
        clear hb M6 RR6 Q F6 X46 XQ
        go_wp2_with fail
        refine (back_but wr g cap ai D ci _ M7.out HC2.out HCM.out (fun w' hw' => (HBS.out.below HW.out).but M7.out.below hw' M7.out.own)).mono ?_
        rintro e w8 ⟨rfl, hb8⟩
        have B8 := Lib.hid (show Below wr.heap.size wr w8 from hb8.below M7.out.below M7.out.own M7.out.below.size)
        have F8 := Lib.hid (F7.out.but hb8 GL.out)
        have X48 := Lib.hid (show BytesAt w8 a4 r.data from hb8.bytes X47.out (fun g' off e h => by have := (N4.out g' off e).1; have := GL.out; omega))
        have XQ8 := Lib.hid (show BytesAt w8 aq r.data from hb8.bytes XQ7.out (fun g' off e h => by have := (N6.out g' off e).1; have := GL0_w5.out; omega))
        have RR8 := Lib.hid (show RecIn w8 w4.heap.size (bv r.lsn) (.slice a4 r.data.length c4) from ⟨hb8.cell RR7.out.c0 (show w4.heap.size ≠ g by have := GL.out; have := S34.out; omega), hb8.cell RR7.out.c1 (show w4.heap.size ≠ g by have := GL.out; have := S34.out; omega)⟩)
        have Q8 := Lib.hid (show RecIn w8 (w5.heap.size) (bv r.lsn) (.slice aq r.data.length cq) from ⟨hb8.cell Q7.out.c0 (show w5.heap.size ≠ g from NQ.out), hb8.cell Q7.out.c1 (show w5.heap.size ≠ g from NQ.out)⟩)
        have r0 := RR8.out.c0
        have r1 := RR8.out.c1
        have q0 := Q8.out.c0
        have q1 := Q8.out.c1
        clear hb8 F7 X47 XQ7 RR7 Q7 M7 e2
        go_wp2_with fail
        refine (rec_same (bv r.lsn) a4 aq r.data _ c4 cq _ X48.out XQ8.out rfl (by have := DL.out; omega)).mono ?_
        rintro e w9 ⟨rfl, hb⟩
        have B9 := Lib.hid (below_trans B8.out hb)
        have F9 := Lib.hid (F8.out.keep hb)
        have RR9 := Lib.hid (RR8.out.on hb)
        have C9 := Lib.hid (C0.out.on B9.out)
        have GL0_w9 := Lib.hid (show g < w9.heap.size by have := F9.out.size; have := GL.out; omega)
        clear hb B8 F8 X48 XQ8 RR8 Q8 r0 r1 q0 q1 NQ BQ
        go_wp2_with fail
        refine wp_region_fork [0, 1, 2, 3, 4, 5, 6, 7] 8 14 [9, 10, 11, 12, 13, 14, 15, 16, 17, 18] [8, 9, 10, 11, 12, 13, 15, 16, 17, 18] (Cells3 ⟨bm, om + k, none⟩ ⟨b, off + k, none⟩ ⟨b, off + k, none⟩ (.int .u32 (bv sd)) (.slice ai D.length ci) (.slice ai D.length ci)) (by kernel_rfl) (by kernel_rfl) (by intro c a d v w h; cases d <;> exact h) (C9.out.on (below_drew _)) ?_
        intro hne
        simp only [pick, List.map_cons, List.map_nil, List.getD_cons_zero, List.getD_cons_succ]
        repeat (go_big_quiet_step (fail))
        refine wpQuiet_nil ?_
        refine ⟨?_, ?_⟩
        · refine wpMix_act rfl ?_ rfl
          go_wp2_with fail
          refine (frame_read_x _ sd ai D _ ci _ rfl ((HBS.out.below HW.out).below (below_trans B9.out (below_drew w9))) rfl HNil.out hle (by omega) r HR.out).mono ?_
          rintro e x1 ⟨vq, he, hO, hb⟩
          obtain ⟨ap, cp, rfl, -, -, -, -, -⟩ := hO.slice
          subst he
          have CX := Lib.hid (C9.out.on (below_trans (below_drew _) hb))
          have BP := Lib.hid (below_trans (below_drew w9) (below_trans hb (below_alloc x1 (.cells #[.int .i64 (bv r.lsn), .slice ap r.data.length cp] 34))))
          have P := Lib.hid (rec_new x1 (bv r.lsn) (.slice ap r.data.length cp))
          have OP := Lib.hid (show OwnB (x1.alloc (.cells #[.int .i64 (bv r.lsn), .slice ap r.data.length cp] 34)) w9.heap.size (.slice ap r.data.length cp) r.data from OwnB.keep hO (below_alloc x1 (.cells #[.int .i64 (bv r.lsn), .slice ap r.data.length cp] 34)))
          have NP := Lib.hid (show x1.heap.size ≠ g by have := hb.size; have : w9.drew.heap.size = w9.heap.size := rfl; have := GL0_w9.out; omega)
          have HZ := heap_alloc_new x1 (.cells #[.int .i64 0, .slice none 0 0] 34)
          have z0 := cell_of_row _ _ 0 _ _ _ HZ
          have z1 := cell_of_row _ _ 1 _ _ _ HZ
          have fz0 := frozen_of_row _ _ 0 _ _ HZ
          have fz1 := frozen_of_row _ _ 1 _ _ HZ
          have CZ := Lib.hid (CX.out.on (below_alloc x1 (.cells #[.int .i64 0, .slice none 0 0] 34)))
          have CF := Lib.hid (CX.out.on (below_alloc x1 (.cells #[.int .i64 (bv r.lsn), .slice ap r.data.length cp] 34)))
          clear hO hb HZ
          go_wp2_with fail
          refine ⟨⟨⟨_, CX.out⟩, rfl⟩, ?_⟩
          refine wpMix_reads 5 _ (by kernel_rfl) ?_
          simp only [List.take_succ_cons, List.take_zero, List.drop_succ_cons, List.drop_zero]
          repeat (go_big_quiet_step (fail))
          refine wpQuiet_nil ?_
          refine wpMix_act rfl ?_ rfl
          go_wp2_with fail
          refine ⟨⟨⟨_, CZ.out⟩, rfl⟩, ?_⟩
          refine wpMix_act rfl ?_ rfl
          go_wp2_with fail
          refine ⟨⟨⟨_, CF.out⟩, rfl⟩, ?_⟩
          refine wpMix_reads 3 _ (by kernel_rfl) ?_
          simp only [List.take_succ_cons, List.take_zero, List.drop_succ_cons, List.drop_zero]
          repeat (go_big_quiet_step (fail))
          refine wpQuiet_nil ?_
          refine wpMix_nil ?_
          clear hne z0 z1 fz0 fz1 CX CZ CF
          obtain ⟨wp, hwp⟩ : ∃ wp, x1.alloc (.cells #[.int .i64 (bv r.lsn), .slice ap r.data.length cp] 34) = wp := ⟨_, rfl⟩
          rw [hwp] at BP P OP
          rw [hwp]
          clear hwp
          have RR10 := Lib.hid (RR9.out.on BP.out)
          have F10 := Lib.hid (show Fresh w3.heap.size wp [.slice a4 r.data.length c4, .slice ap r.data.length cp] from F9.out.snoc BP.out OP.out (by have := DL.out; omega))
          have B10 := Lib.hid (below_trans B9.out BP.out)
          have rr1 := RR10.out.c1
          have pp1 := P.out.c1
          have hbA : Below wp.heap.size wp (wp.alloc (.cells #[.slice a4 r.data.length c4, .slice ap r.data.length cp] 31 (0, 0))) := below_alloc _ _
          have SW := Lib.hid (show w1.heap.size ≤ wr.heap.size from HB.out.size)
          have CM := Lib.hid (show Come (wp.alloc (.cells #[.slice a4 r.data.length c4, .slice ap r.data.length cp] 31 (0, 0))) w1.heap.size wp.heap.size xs [.slice a4 r.data.length c4, .slice ap r.data.length cp] 0 from F10.out.come KK.out SB.out (Nat.le_trans SW.out SB.out))
          have K10 := Lib.hid (KK.out.keep (below_trans B10.out hbA))
          have D10 := Lib.hid (HB.out.trans ((below_trans B10.out hbA).mono HB.out.size))
          have KB := Lib.hid (show w1.heap.size ≠ wp.heap.size by have := heap_lt KK.out.box; have := B10.out.size; omega)
          have KL := Lib.hid (show lv.ownBlock ≠ some wp.heap.size from fun e => by obtain ⟨_, _, hc⟩ := rows_blk KK.out.list e; have := heap_lt hc; have := B10.out.size; omega)
          clear hbA F10 RR10 P OP BP NP
          go_wp2_with fail
          refine (keep w1.heap.size w1.heap.size wp.heap.size 2 lv z xs [.slice a4 r.data.length c4, .slice ap r.data.length cp] _ K10.out CM.out KB.out KL.out (by simp) D10.out.size hS.out).mono ?_
          rintro e w11 ⟨rfl, lv', z', xs', hK, hB, -, -, hS'⟩
          have K11 := Lib.hid hK
          have B11 := Lib.hid (D10.out.trans hB)
          have S11 := Lib.hid hS'
          clear hK hB hS' rr1 pp1
          go_wp2_with fail
          go_roundw
          case rel => exact ⟨k + 1, lv', z', xs', by omega, by go_num, K11.out, S11, B11.out⟩
          case measure => simp [intOf]; omega
        · have bz : Below w9.heap.size w9 (w9.alloc (.cells #[.int .i64 0, .slice none 0 0] 34)).drew := below_trans (below_alloc w9 (.cells #[.int .i64 0, .slice none 0 0] 34)) (below_drew _)
          have BZ := Lib.hid bz
          have SZ0 : (w9.alloc (.cells #[.int .i64 0, .slice none 0 0] 34)).heap.size = w9.heap.size + 1 := by show (w9.heap.push _).size = _; rw [Array.size_push]
          have SZ := Lib.hid SZ0
          have CZ := Lib.hid (C9.out.on bz)
          have HZ := heap_alloc_new w9 (.cells #[.int .i64 0, .slice none 0 0] 34)
          have Z0 := Lib.hid (show ((w9.alloc (.cells #[.int .i64 0, .slice none 0 0] 34)).drew).cell? ⟨w9.heap.size, 0, none⟩ = some (.int .i64 0) from cell_of_row _ _ 0 _ _ _ HZ)
          have Z1 := Lib.hid (show ((w9.alloc (.cells #[.int .i64 0, .slice none 0 0] 34)).drew).cell? ⟨w9.heap.size, 1, none⟩ = some (.slice none 0 0) from cell_of_row _ _ 1 _ _ _ HZ)
          have FZ := Lib.hid (show ∀ j, ((w9.alloc (.cells #[.int .i64 0, .slice none 0 0] 34)).drew).frozen? ⟨w9.heap.size, j, none⟩ = false from fun j => frozen_of_row _ _ j _ _ HZ)
          clear bz HZ SZ0
          refine wpMix_act rfl ?_ rfl
          go_wp2_with fail
          refine ⟨⟨⟨_, CZ.out⟩, rfl⟩, ?_⟩
          refine wpMix_act rfl ?_ rfl
          go_wp2_with fail
          refine (frame_read_x _ sd ai D _ ci _ rfl ((HBS.out.below HW.out).below (below_trans B9.out BZ.out)) rfl HNil.out hle (by omega) r HR.out).mono ?_
          rintro e x1 ⟨vq, he, hO, hb⟩
          obtain ⟨ap, cp, rfl, -, -, -, -, -⟩ := hO.slice
          subst he
          have hl : w9.heap.size < ((w9.alloc (.cells #[.int .i64 0, .slice none 0 0] 34)).drew).heap.size := by show w9.heap.size < (w9.alloc (.cells #[.int .i64 0, .slice none 0 0] 34)).heap.size; rw [SZ.out]; omega
          have CX := Lib.hid (CZ.out.on hb)
          have z0 := cell_keep hb Z0.out
          have z1 := cell_keep hb Z1.out
          have fz0 := (hb.frozen (p := ⟨w9.heap.size, 0, none⟩) hl).trans (FZ.out 0)
          have fz1 := (hb.frozen (p := ⟨w9.heap.size, 1, none⟩) hl).trans (FZ.out 1)
          have bu : But w9.heap.size x1 ((x1.setCell ⟨w9.heap.size, 0, none⟩ (.int .i64 (bv r.lsn))).setCell ⟨w9.heap.size, 1, none⟩ (.slice ap r.data.length cp)) := ((But.refl w9.heap.size x1).setB 0 _).setB 1 _
          have BP := Lib.hid (show Below w9.heap.size w9 ((x1.setCell ⟨w9.heap.size, 0, none⟩ (.int .i64 (bv r.lsn))).setCell ⟨w9.heap.size, 1, none⟩ (.slice ap r.data.length cp)) from ((below_trans BZ.out hb).setCell (p := ⟨w9.heap.size, 0, none⟩) (Nat.le_refl _) _).setCell (p := ⟨w9.heap.size, 1, none⟩) (Nat.le_refl _) _)
          have zz : (x1.setCell ⟨w9.heap.size, 0, none⟩ (.int .i64 (bv r.lsn))).cell? ⟨w9.heap.size, 1, none⟩ = some (.slice none 0 0) := by
            rw [World.cell?_setCell_other _ _ _ _ (by intro e; injection e; omega)]; exact z1
          have P := Lib.hid (show RecIn ((x1.setCell ⟨w9.heap.size, 0, none⟩ (.int .i64 (bv r.lsn))).setCell ⟨w9.heap.size, 1, none⟩ (.slice ap r.data.length cp)) w9.heap.size (bv r.lsn) (.slice ap r.data.length cp) from ⟨by
            rw [World.cell?_setCell_other _ _ _ _ (by intro e; injection e; omega)]; exact World.cell?_setCell_same _ _ _ z0, World.cell?_setCell_same _ _ _ zz⟩)
          have OP := Lib.hid (show OwnB ((x1.setCell ⟨w9.heap.size, 0, none⟩ (.int .i64 (bv r.lsn))).setCell ⟨w9.heap.size, 1, none⟩ (.slice ap r.data.length cp)) w9.heap.size (.slice ap r.data.length cp) r.data from OwnB.base (OwnB.but hO bu hl) (by omega))
          have NP := Lib.hid (show w9.heap.size ≠ g by have := GL0_w9.out; omega)
          have CF := Lib.hid (C9.out.on BP.out)
          clear hO hb hl bu zz
          go_wp2_with fail
          refine ⟨⟨⟨_, CX.out⟩, rfl⟩, ?_⟩
          refine wpMix_reads 5 _ (by kernel_rfl) ?_
          simp only [List.take_succ_cons, List.take_zero, List.drop_succ_cons, List.drop_zero]
          repeat (go_big_quiet_step (fail))
          refine wpQuiet_nil ?_
          refine wpMix_act rfl ?_ rfl
          go_wp2_with fail
          refine ⟨⟨⟨_, CF.out⟩, rfl⟩, ?_⟩
          refine wpMix_reads 3 _ (by kernel_rfl) ?_
          simp only [List.take_succ_cons, List.take_zero, List.drop_succ_cons, List.drop_zero]
          repeat (go_big_quiet_step (fail))
          refine wpQuiet_nil ?_
          refine wpMix_nil ?_
          clear hne z0 z1 fz0 fz1 CX CZ CF BZ Z0 Z1 FZ SZ
          obtain ⟨wp, hwp⟩ : ∃ wp, ((x1.setCell ⟨w9.heap.size, 0, none⟩ (.int .i64 (bv r.lsn))).setCell ⟨w9.heap.size, 1, none⟩ (.slice ap r.data.length cp)) = wp := ⟨_, rfl⟩
          rw [hwp] at BP P OP
          rw [hwp]
          clear hwp
          have RR10 := Lib.hid (RR9.out.on BP.out)
          have F10 := Lib.hid (show Fresh w3.heap.size wp [.slice a4 r.data.length c4, .slice ap r.data.length cp] from F9.out.snoc BP.out OP.out (by have := DL.out; omega))
          have B10 := Lib.hid (below_trans B9.out BP.out)
          have rr1 := RR10.out.c1
          have pp1 := P.out.c1
          have hbA : Below wp.heap.size wp (wp.alloc (.cells #[.slice a4 r.data.length c4, .slice ap r.data.length cp] 31 (0, 0))) := below_alloc _ _
          have SW := Lib.hid (show w1.heap.size ≤ wr.heap.size from HB.out.size)
          have CM := Lib.hid (show Come (wp.alloc (.cells #[.slice a4 r.data.length c4, .slice ap r.data.length cp] 31 (0, 0))) w1.heap.size wp.heap.size xs [.slice a4 r.data.length c4, .slice ap r.data.length cp] 0 from F10.out.come KK.out SB.out (Nat.le_trans SW.out SB.out))
          have K10 := Lib.hid (KK.out.keep (below_trans B10.out hbA))
          have D10 := Lib.hid (HB.out.trans ((below_trans B10.out hbA).mono HB.out.size))
          have KB := Lib.hid (show w1.heap.size ≠ wp.heap.size by have := heap_lt KK.out.box; have := B10.out.size; omega)
          have KL := Lib.hid (show lv.ownBlock ≠ some wp.heap.size from fun e => by obtain ⟨_, _, hc⟩ := rows_blk KK.out.list e; have := heap_lt hc; have := B10.out.size; omega)
          clear hbA F10 RR10 P OP BP NP
          go_wp2_with fail
          refine (keep w1.heap.size w1.heap.size wp.heap.size 2 lv z xs [.slice a4 r.data.length c4, .slice ap r.data.length cp] _ K10.out CM.out KB.out KL.out (by simp) D10.out.size hS.out).mono ?_
          rintro e w11 ⟨rfl, lv', z', xs', hK, hB, -, -, hS'⟩
          have K11 := Lib.hid hK
          have B11 := Lib.hid (D10.out.trans hB)
          have S11 := Lib.hid hS'
          clear hK hB hS' rr1 pp1
          go_wp2_with fail
          go_roundw
          case rel => exact ⟨k + 1, lv', z', xs', by omega, by go_num, K11.out, S11, B11.out⟩
          case measure => simp [intOf]; omega
    · by_cases h1 : k < L.length
      · by_cases h2 : k < S.length
        · have h3 : ¬ ((k : Int) < 40) := by omega
          go_wp2_with fail
          refine (apart_kept KK.out hS.out HB.out.size).mono ?_
          rintro e w2 ⟨rfl, hb2⟩
          have B2 := Lib.hid (HB.out.trans hb2)
          clear hb2
          go_wp2_with fail
          go_ret
          exact ⟨rfl, below_trans H1.out B2.out⟩
        · have h2' : ¬ ((k : Int) < (S.length : Int)) := by omega
          go_wp2_with fail
          refine (apart_kept KK.out hS.out HB.out.size).mono ?_
          rintro e w2 ⟨rfl, hb2⟩
          have B2 := Lib.hid (HB.out.trans hb2)
          clear hb2
          go_wp2_with fail
          go_ret
          exact ⟨rfl, below_trans H1.out B2.out⟩
      · have h1' : ¬ ((k : Int) < (L.length : Int)) := by omega
        go_wp2_with fail
        refine (apart_kept KK.out hS.out HB.out.size).mono ?_
        rintro e w2 ⟨rfl, hb2⟩
        have B2 := Lib.hid (HB.out.trans hb2)
        clear hb2
        go_wp2_with fail
        go_ret
        exact ⟨rfl, below_trans H1.out B2.out⟩
end Go.Proofs.Ytfadpjljokpenaa

/- The walk of flumelaw10.CatalogRuns. -/
import Derived.Test.YtmkljmljbbijeaaCatRunsC
namespace Go.Proofs.Ytmkljmljbbijeaa
open Go.RowKit

set_option maxHeartbeats 16000000 in
set_option maxRecDepth 100000 in
theorem cat_runs (base : Int) (a : Option Addr) (L : List COpV) (ca : Nat) (w : World) (hbase : R64 base) (hL : COpsAt w a L) (lL : L.length ≤ 4398046511104) :
    Calls Try.prog 5 #[.int .i64 base, .slice a L.length ca] w (TrueBelow w) := by
  have HL := Lib.hid hL
  obtain ⟨r1, r2⟩ := hbase
  clear hL
  go_enter Try.func5, Try.ntmps5
  go_wp2_with fail
  refine (cat_begun _).mono ?_
  rintro e w1 ⟨rfl, hb⟩
  have H1 := Lib.hid hb
  clear hb
  by_cases q1 : 1 ≤ base
  · by_cases q2 : base ≤ 1152921504606846976
    · have bS := below_alloc w1 (.cells #[.int .i64 1, .int .i64 base, .int .u32 0, .int .i64 0, .int .i64 0] 53)
      have hS : SegCells (w1.alloc (.cells #[.int .i64 1, .int .i64 base, .int .u32 0, .int .i64 0, .int .i64 0] 53)) w1.heap.size 0 ⟨1, base, 0#32, 0, 0⟩ := seg_new w1 ⟨1, base, 0#32, 0, 0⟩ _
      obtain ⟨w2, hw2⟩ : ∃ w2, w1.alloc (.cells #[.int .i64 1, .int .i64 base, .int .u32 0, .int .i64 0, .int .i64 0] 53) = w2 := ⟨_, rfl⟩
      rw [hw2] at bS hS
      have bC := below_alloc w2 (.cells #[.int .i64 1, .int .i64 base, .slice (some ⟨w1.heap.size, 0, none⟩) 1 1] 29)
      have hC := heap_alloc_new w2 (.cells #[.int .i64 1, .int .i64 base, .slice (some ⟨w1.heap.size, 0, none⟩) 1 1] 29)
      obtain ⟨w3, hw3⟩ : ∃ w3, w2.alloc (.cells #[.int .i64 1, .int .i64 base, .slice (some ⟨w1.heap.size, 0, none⟩) 1 1] 29) = w3 := ⟨_, rfl⟩
      rw [hw3] at bC hC
      have HS3 := hS.below bC
      have W3 := Lib.hid (show RunW w2.heap.size w3 ⟨1, base, [⟨1, base, 0#32, 0, 0⟩]⟩ (some ⟨w1.heap.size, 0, none⟩) 1 1 from ⟨hC, ⟨⟨_, _, rfl, fun i hi => by
        obtain rfl : i = 0 := by have h : i < 1 := hi; omega
        exact ⟨⟨⟨by simp [nthS], by simp [nthS]⟩, ⟨r1, r2⟩, ⟨by simp [nthS], by simp [nthS]⟩, ⟨by simp [nthS], by simp [nthS]⟩⟩, w1.heap.size, 0, rfl, HS3⟩, by simp, by simp, fun e => by cases e⟩, ⟨by simp, by simp⟩, ⟨r1, r2⟩⟩, fun b off e => by
          injection e with e; injection e with e; subst e
          have := heap_alloc_new w1 (.cells #[.int .i64 1, .int .i64 base, .int .u32 0, .int .i64 0, .int .i64 0] 53)
          rw [hw2] at this
          have := heap_lt this
          omega, rfl⟩)
      have R3 := Lib.hid (show RunC (1 + 2 * ((0 : Nat) : Int)) (1152921504606846976 + 500 * ((0 : Nat) : Int)) (1 + ((0 : Nat) : Int)) (1152921504606846976 + 1000 * ((0 : Nat) : Int)) ⟨1, base, [⟨1, base, 0#32, 0, 0⟩]⟩ from (run_one q1).mono (by omega) (by omega) (by omega) (by omega))
      have B3 := Lib.hid (below_trans H1.out (below_trans bS bC))
      have CB := Lib.hid (show w.heap.size ≤ w2.heap.size by have := H1.out.size; have := bS.size; omega)
      clear bS hS bC hC HS3 H1
      go_wp2_with fail
      go_loopw [6] (fun i wr => ∃ (k : Nat) (g f : Int) (ao : Option Addr) (n ca : Nat) (S : List SegV), k ≤ L.length ∧ k ≤ 100 ∧ i = .int .i64 k ∧ Hid (RunC (1 + 2 * (k : Int)) (1152921504606846976 + 500 * (k : Int)) (1 + (k : Int)) (1152921504606846976 + 1000 * (k : Int)) ⟨g, f, S⟩) ∧ Hid (RunW w2.heap.size wr ⟨g, f, S⟩ ao n ca) ∧ Hid (Below w.heap.size w wr)) (fun i _ => L.length - (intOf i).toNat)
      case atStart => exact ⟨0, _, _, _, _, _, _, by omega, by omega, rfl, R3, W3, B3⟩
      case round =>
        clear R3 W3 B3 hw2 hw3
        obtain ⟨k, g, f, ao, n, ca, S, hk, hk100, rfl, HR, HW, HB⟩ := hrel
        by_cases hlt : k < L.length
        · by_cases h100 : k < 100
          · obtain ⟨ok, b, off, rfl, p⟩ := (HL.out.below HB.out) k hlt
            obtain ⟨O, hO⟩ : ∃ O, nthO L k = O := ⟨_, rfl⟩
            rw [hO] at ok p
            obtain ⟨ol, oe, os, od⟩ := O
            obtain ⟨⟨l1, l2⟩, ⟨e1, e2⟩, ⟨s1, s2⟩⟩ := ok
            dsimp only at l1 l2 e1 e2 s1 s2
            obtain ⟨p0, p1, p2, p3⟩ := p
            dsimp only at p0 p1 p2 p3
            have qe1 := Int.lt_tmod_of_pos oe (b := 1000) (by decide)
            have qe2 := Int.tmod_lt_of_pos oe (b := 1000) (by decide)
            have qs1 := Int.lt_tmod_of_pos os (b := 100000) (by decide)
            have qs2 := Int.tmod_lt_of_pos os (b := 100000) (by decide)
            have ql1 := Int.lt_tmod_of_pos ol (b := 500) (by decide)
            have ql2 := Int.tmod_lt_of_pos ol (b := 500) (by decide)
            have HN := Lib.hid HW.out.len
            obtain ⟨hsg, -, hle, -, -⟩ := HW.out.there.segs
            have n1 : 1 ≤ n := by have h := HR.out.may.some; have := HN.out; dsimp only at h this; omega
            have n64 : n ≤ 64 := by have h := HR.out.may.few; have := HN.out; dsimp only at h this; omega
            obtain ⟨m, rfl⟩ : ∃ m, n = m + 1 := ⟨n - 1, by omega⟩
            obtain ⟨-, sb, so, rfl, -⟩ := hsg 0 (by rw [HN.out]; omega)
            have HLS := Lib.hid (show lastS ⟨g, f, S⟩ = nthS S m by unfold lastS; dsimp only; rw [show S.length = m + 1 from HN.out, Nat.add_sub_cancel])
            have hb1 : (nthS S m).base ≤ 1152921504606846976 + 1000 * (k : Int) := by have h := HR.out.base; rw [HLS.out] at h; exact h
            have hb0 : 1 ≤ (nthS S m).base := HR.out.may.base_pos m (by have := HN.out; dsimp only at this ⊢; omega)
            have hf1 : f ≤ 1152921504606846976 + 500 * (k : Int) := HR.out.first
            have hf0 : 1 ≤ f := HR.out.may.first
            clear hO n1 hsg
            have bO := below_alloc wr (.cells #[.int .i64 ol, .int .i64 oe, .int .i64 os, .int .u32 (bv od)] 25)
            have nO := heap_alloc_new wr (.cells #[.int .i64 ol, .int .i64 oe, .int .i64 os, .int .u32 (bv od)] 25)
            obtain ⟨w4, hw4⟩ : ∃ w4, wr.alloc (.cells #[.int .i64 ol, .int .i64 oe, .int .i64 os, .int .u32 (bv od)] 25) = w4 := ⟨_, rfl⟩
            rw [hw4] at bO nO
            have W4 := Lib.hid (HW.out.keep bO)
            obtain ⟨hsg, -⟩ := W4.out.there.segs
            obtain ⟨-, d0, d1, d2, d3, d4⟩ := hsg.get (i := m) (by have := HN.out; dsimp only at this ⊢; omega)
            have z2 := cell_of_row _ _ 2 _ _ _ W4.out.box
            dsimp only at d0 d1 d2 d3 d4 z2
            have bS := below_alloc w4 (.cells #[.int .i64 (nthS S m).num, .int .i64 (nthS S m).base, .int .u32 (bv (nthS S m).seed), .int .i64 (nthS S m).end_, .int .i64 (nthS S m).size] 53)
            have nS := heap_alloc_new w4 (.cells #[.int .i64 (nthS S m).num, .int .i64 (nthS S m).base, .int .u32 (bv (nthS S m).seed), .int .i64 (nthS S m).end_, .int .i64 (nthS S m).size] 53)
            obtain ⟨w5, hw5⟩ : ∃ w5, w4.alloc (.cells #[.int .i64 (nthS S m).num, .int .i64 (nthS S m).base, .int .u32 (bv (nthS S m).seed), .int .i64 (nthS S m).end_, .int .i64 (nthS S m).size] 53) = w5 := ⟨_, rfl⟩
            rw [hw5] at bS nS
            have W5 := Lib.hid (W4.out.keep bS)
            have N5 := Lib.hid nS
            have O5 := Lib.hid ((bS.block _ (heap_lt nO)).trans nO)
            have B5 := Lib.hid (below_trans bO bS)
            have y0 := cell_of_row _ _ 0 _ _ _ W5.out.box
            have y1 := cell_of_row _ _ 1 _ _ _ W5.out.box
            have y2 := cell_of_row _ _ 2 _ _ _ W5.out.box
            have t1 := cell_of_row _ _ 1 _ _ _ N5.out
            have v1 := cell_of_row _ _ 1 _ _ _ O5.out
            have v2 := cell_of_row _ _ 2 _ _ _ O5.out
            have v3 := cell_of_row _ _ 3 _ _ _ O5.out
            dsimp only at y0 y1 y2
            clear bO nO bS nS hsg
            go_wp2_with fail
            refine (cat_roll g f ((nthS S m).base + oe.tmod 1000) (32 + os.tmod 100000) (bv od) od _ _ _ S w5 rfl HN.out W5.out.there ⟨by omega, by omega⟩ ⟨by omega, by omega⟩).mono ?_
            rintro e w6 ⟨v, r, er, hI, rfl, hO, hb6⟩
            obtain ⟨ar, cr, rfl, -⟩ := hO.shown
            have HI := Lib.hid hI
            have R6 := Lib.hid hO
            have bD := below_alloc w6 (.cells #[.int .i64 r.gen, .int .i64 r.first, .slice ar r.segs.length cr] 29)
            have nD := heap_alloc_new w6 (.cells #[.int .i64 r.gen, .int .i64 r.first, .slice ar r.segs.length cr] 29)
            obtain ⟨w7, hw7⟩ : ∃ w7, w6.alloc (.cells #[.int .i64 r.gen, .int .i64 r.first, .slice ar r.segs.length cr] 29) = w7 := ⟨_, rfl⟩
            rw [hw7] at bD nD
            have B7 := Lib.hid (below_trans B5.out (below_trans hb6 bD))
            have B57 := Lib.hid (below_trans hb6 bD)
            have R7 := Lib.hid (hO.keep bD)
            have W7 := Lib.hid (W5.out.keep B57.out)
            have N7 := Lib.hid ((B57.out.block _ (heap_lt N5.out)).trans N5.out)
            have O7 := Lib.hid ((B57.out.block _ (heap_lt O5.out)).trans O5.out)
            have D7 := Lib.hid nD
            have L56 := Lib.hid (show w5.heap.size ≤ w6.heap.size from hb6.size)
            clear hO hI hb6 bD nD y0 y1 y2 t1 v1 v2 v3 p0 p1 p2 p3 d0 d1 d2 d3 d4 z2
            go_upto_if 73 with (fail)
            go_cut [7, 9] (fun ob db wc => ∃ (g f : Int) (ao : Option Addr) (n ca : Nat) (S : List SegV), ob = .pointer (some ⟨wr.heap.size, 0, none⟩) ∧ db = .pointer (some ⟨w6.heap.size, 0, none⟩) ∧ RunM k w2.heap.size wr.heap.size w6.heap.size ⟨ol, oe, os, od⟩ w wc g f ao n ca S)
            case first =>
              by_cases h0 : er = 0
              · subst h0
                refine runs_rolled k m w2.heap.size wr.heap.size w4.heap.size w6.heap.size w5.heap.size ca cr g f ol oe os od (some ⟨sb, so, none⟩) ar S r w w7 _ _ _ _ _ _ _ _ _ _ _ _ _ _ _ _ _ _ _ _ _ _ _ _ _ _ _ _ _ _ _ _ _ _ _ _ _ _ _ _ _ _ _ _ _ _ _ _ _ _ _ _ _ _ _ _ _ _ _ _ _ _ _ _ _ _ _ _ _ _ _ _ _ _ _ _ _ _ _ _ _ _ _ _ _ _ _ _ _ _ _ _ _ _ _ _ _ _ _ _ _ _ _ _ _ _ _ _ _ _ _ _ _ _ _ _ _ _ _ _ _ _ _ _ _ _ _ _ _ _ _ _ _ _ _ _ _ _ _ _ _ _ _ _ _ _ _ _ _ _ _ _ _ _ _ _ _ _ _ _ _ _ _ _ _ _ _ _ _ _ _ _ _ _ _ _ _ _ _ _ _ _ _ _ _ _ _ _ _ _ _ _ _ _ _ _ _ _ _ _ _ _ _ _ _ _ _ _ _ _ _ _ _ _ _ _ _ _ _ _ _ _ _ _ _ _ _ _ _ _ _ _ _ _ _ _ _ _ _ _ _ _ _ _ _ _ _ _ _ _ _ h100 HR HN n64 HLS qe1 qe2 hb1 hb0 HI W7 R7 (Lib.hid fun h1 b off e => by have := CatAt.low R6.out.at h1 b off e; omega) N7 O7 D7 (Lib.hid (below_trans HB.out B7.out)) CB (Lib.hid (heap_lt W5.out.box)) (Lib.hid (by have := heap_lt HW.out.box; omega)) (Lib.hid (by have := heap_lt W5.out.box; have := L56.out; omega)) ?_
                intro g1 f1 ao1 n1 ca1 S1 wd x4 x11 x74 x75 x76 x77 x78 x79 x80 x81 x82 x83 x84 x85 x86 x87 x88 x89 x90 x91 x92 x93 x94 x95 x96 x97 x98 x99 x100 x101 x102 x103 x104 x105 x106 x107 x108 x109 x110 x111 x112 x113 x114 x115 x116 x117 x118 x119 x120 x121 x122 x123 x124 x125 x126 x127 x128 x129 x130 x131 x132 x133 x134 x135 x136 x137 hM
                go_wp2_with fail
                go_meet
                exact ⟨_, _, _, _, _, _, rfl, rfl, hM⟩
              · have t0 : (er == 0) = false := by simp [h0]
                clear h0
                go_wp2_with fail
                go_meet
                exact ⟨_, _, _, _, _, _, rfl, rfl, HR.out.mono (by omega) (by omega) (by omega) (by omega), W7.out, below_trans HB.out B7.out, O7.out, ⟨_, _, _, D7.out⟩, fun b off e => by have := (CatAt.low W5.out.there (by omega)) b off e; have := L56.out; omega⟩
            case rest =>
              have LD := Lib.hid (show w2.heap.size < w6.heap.size by have := heap_lt W5.out.box; have := L56.out; omega)
              obtain ⟨g', f', ao', n', ca', S', rfl, rfl, MM⟩ := hcut
              have HM := Lib.hid MM
              obtain ⟨x, y, z, DX⟩ := MM.box
              have DM := Lib.hid DX
              clear HR HW HB HN HLS hb1 hb0 hf1 hf0 W4 W5 N5 O5 B5 B7 B57 R6 R7 W7 N7 O7 D7 L56 hle n64 DX MM
              have hf1 : f' ≤ 1152921504606846976 + 500 * (k : Int) := HM.out.run.first
              have hf0 : 1 ≤ f' := HM.out.run.may.first
              have y0 := cell_of_row _ _ 0 _ _ _ HM.out.at'.box
              have y1 := cell_of_row _ _ 1 _ _ _ HM.out.at'.box
              have y2 := cell_of_row _ _ 2 _ _ _ HM.out.at'.box
              have v0 := cell_of_row _ _ 0 _ _ _ HM.out.op
              dsimp only at y0 y1 y2
              go_wp2_with fail
              refine (cat_cut g' f' (f' + ol.tmod 500) ao' n' ca' S' wc HM.out.at'.len HM.out.at'.there ⟨by omega, by omega⟩).mono ?_
              rintro e w8 ⟨v, nv, r, nums, er, hI, rfl, hO, hnv, hb8⟩
              obtain ⟨ar, cr, rfl, -⟩ := hO.shown
              obtain ⟨an, cn, rfl, -⟩ := hnv.there
              obtain ⟨T, hT⟩ : ∃ T, f' + ol.tmod 500 = T := ⟨_, rfl⟩
              rw [hT] at hI
              have HI := Lib.hid hI
              have HT2 := Lib.hid (show T ≤ 1152921504606846976 + 500 * (k : Int) + 500 by omega)
              have D8 := Lib.hid ((hb8.block _ (heap_lt DM.out)).trans DM.out)
              have r0 := cell_of_row _ _ 0 _ _ _ D8.out
              have r1 := cell_of_row _ _ 1 _ _ _ D8.out
              have r2 := cell_of_row _ _ 2 _ _ _ D8.out
              have f0 := frozen_of_row _ _ 0 _ _ D8.out
              have f1 := frozen_of_row _ _ 1 _ _ D8.out
              have f2 := frozen_of_row _ _ 2 _ _ D8.out
              obtain ⟨w9, hw9⟩ : ∃ w9, (((w8.setCell ⟨w6.heap.size, 0, none⟩ (.int .i64 r.gen)).setCell ⟨w6.heap.size, 1, none⟩ (.int .i64 r.first)).setCell ⟨w6.heap.size, 2, none⟩ (.slice ar r.segs.length cr)) = w9 := ⟨_, rfl⟩
              have off9 : ∀ q, q ≠ w6.heap.size → w9.heap[q]? = w8.heap[q]? := fun q hq => by rw [← hw9]; exact put3_off (fun e => hq e.symm) _ _ _
              have LC8 := heap_lt DM.out
              have W9 := Lib.hid ((HM.out.at'.keep hb8).move (off9 _ (by have := LD.out; omega)) (fun b off e => off9 b (by have := HM.out.segs b off e; omega)))
              have R9 := Lib.hid (hO.move (fun q hq => off9 q (by omega)))
              have I9 := Lib.hid (hnv.move (fun q hq => off9 q (by omega)))
              have D9 := Lib.hid (show w9.heap[w6.heap.size]? = some (.cells #[.int .i64 r.gen, .int .i64 r.first, .slice ar r.segs.length cr] 29 (0, 0)) by rw [← hw9]; exact put3 D8.out (.int .i64 r.gen) (.int .i64 r.first) (.slice ar r.segs.length cr))
              have B9 := Lib.hid (show Below w.heap.size w w9 by rw [← hw9]; exact put3_below (below_trans HM.out.low hb8) (by have := CB.out; have := LD.out; omega) _ _ _)
              have LCC := Lib.hid (show w2.heap.size < wc.heap.size by have := LD.out; omega)
              clear hO hI hnv hb8 off9 LC8 y0 y1 y2 v0 hT hf1 hf0
              go_upto_if 151 with (fail)
              go_cut [12] (fun _ wd => ∃ (g f : Int) (ao : Option Addr) (n ca : Nat) (S : List SegV), RunE k w2.heap.size w wd g f ao n ca S)
              case first =>
                by_cases h0 : er = 0
                · subst h0
                  obtain ⟨kk, hk1, rfl, rfl, hk4⟩ := HM.out.run.cut HI.out HT2.out
                  have hn9 := HM.out.at'.len
                  obtain ⟨p, hp⟩ : ∃ p, n' = kk + p := ⟨n' - kk, by have := hk1.1; dsimp only at this hn9; omega⟩
                  subst hp
                  have hnl : (numsC S' kk).length = kk := numsC_length (by have := hk1.1; dsimp only at this; omega)
                  have hdl : (cutC ⟨g', f', S'⟩ T kk).segs.length = p := by show (S'.drop kk).length = p; rw [List.length_drop]; dsimp only at hn9; omega
                  have hn64 := HM.out.run.may.few
                  dsimp only at hn9 hn64
                  have p1 : 1 ≤ p := by have := hk1.1; dsimp only at this; omega
                  have n64 : kk + p ≤ 64 := by omega
                  dsimp only at R9 I9 D9
                  rw [hnl] at I9 ⊢
                  rw [hdl] at R9 D9
                  refine runs_cut k w2.heap.size w6.heap.size wc.heap.size kk p ca' cr cn g' f' T ao' ar an S' w w9 _ _ _ _ _ _ _ _ _ _ _ _ _ _ _ _ _ _ _ _ _ _ _ _ _ _ _ _ _ _ _ _ _ _ _ _ _ _ _ _ _ _ _ _ _ _ _ _ _ _ _ _ _ _ _ _ _ _ _ _ _ _ _ _ _ _ _ _ _ _ _ _ _ _ _ _ _ _ _ _ _ _ _ _ _ _ _ _ _ _ _ _ _ _ _ _ _ _ _ _ _ _ _ _ _ _ _ _ _ _ _ _ _ _ _ _ _ _ _ _ _ _ _ _ _ _ _ _ _ _ _ _ _ _ _ _ _ _ _ _ _ _ _ _ _ _ _ _ _ _ _ _ _ _ _ _ _ _ _ _ _ _ _ _ _ _ _ _ _ _ _ _ _ _ _ _ _ _ _ _ _ _ _ _ _ _ _ _ _ _ _ _ _ _ _ _ _ _ _ _ _ _ _ _ _ _ _ _ _ _ _ _ _ _ _ _ _ _ _ _ _ _ _ _ _ _ _ _ _ _ _ _ _ _ _ _ _ _ _ _ _ _ _ _ _ _ _ _ _ _ _ _ h100 (Lib.hid HM.out.run) (Lib.hid hn9) p1 n64 (Lib.hid hk1) (Lib.hid (hk4.mono (by omega) (by omega) (by omega) (by omega))) W9 R9 I9 D9 B9 CB LCC ?_
                  intro g1 f1 ao1 n1 ca1 S1 wd x4 x13 x14 x15 x152 x153 x154 x155 x156 x157 x158 x159 x160 x161 x162 x163 x164 x165 x166 x167 x168 x169 x170 x171 x172 x173 x174 x175 x176 x177 x178 x179 x180 x181 x182 x183 x184 x185 x186 x187 x188 x189 x190 x191 x192 x193 x194 x195 x196 x197 x198 x199 x200 x201 x202 x203 x204 x205 x206 x207 x208 x209 x210 x211 x212 x213 x214 x215 x216 x217 x218 x219 x220 x221 x222 x223 x224 x225 x226 hE
                  go_wp2_with fail
                  go_meet
                  exact ⟨_, _, _, _, _, _, hE⟩
                · have t0 : (er == 0) = false := by simp [h0]
                  clear h0
                  go_wp2_with fail
                  go_meet
                  exact ⟨_, _, _, _, _, _, HM.out.run.mono (by omega) (by omega) (by omega) (by omega), W9.out, B9.out⟩
              case rest =>
                obtain ⟨g5, f5, ao5, n5, ca5, S5, EE⟩ := hcut
                have HE := Lib.hid EE
                clear HM DM HI HT2 D8 W9 R9 I9 D9 B9 LCC LD r0 r1 r2 f0 f1 f2 hw9 EE
                go_step
                refine runs_tail k w2.heap.size g5 f5 ao5 n5 ca5 S5 w wc _ _ _ _ _ _ _ _ _ _ _ _ _ _ _ _ _ _ _ _ _ _ _ _ _ _ _ _ _ _ _ _ _ _ _ _ _ _ _ _ _ _ _ _ _ _ _ _ _ _ _ _ _ _ _ _ _ _ _ _ _ _ _ _ _ _ _ _ _ _ _ _ _ _ _ _ _ _ _ _ _ _ _ _ _ _ _ _ _ _ _ _ _ _ _ _ _ _ _ _ _ _ _ _ _ _ _ _ _ _ _ _ _ _ _ _ _ _ _ _ _ _ _ _ _ _ _ _ _ _ _ _ _ _ _ _ _ _ _ _ _ _ _ _ _ _ _ _ _ _ _ _ _ _ _ _ _ _ _ _ _ _ _ _ _ _ _ _ _ _ _ _ _ _ _ _ _ _ _ _ _ _ _ _ _ _ _ _ _ _ _ _ _ _ _ _ _ _ _ _ _ _ _ _ _ _ _ _ _ _ _ _ _ _ _ _ _ _ _ _ _ _ _ _ _ _ _ _ _ _ _ _ _ _ _ _ _ _ _ _ _ _ _ _ _ _ _ _ _ _ _ _ _ _ HE ?_
                intro wd x4 x16 x17 x18 x19 x227 x228 x229 x230 x231 x232 x233 x234 x235 x236 x237 x238 x239 x240 x241 x242 x243 x244 x245 x246 x247 x248 x249 x250 x251 x252 x253 hE
                have HF := Lib.hid hE
                clear hE HE
                go_wp2_with fail
                go_roundw
                case rel => exact ⟨k + 1, g5, f5, ao5, n5, ca5, S5, by omega, by omega, by go_num, Lib.hid (HF.out.run.mono (by omega) (by omega) (by omega) (by omega)), Lib.hid HF.out.at', Lib.hid HF.out.low⟩
                case measure => simp [intOf]; omega
          · obtain rfl : k = 100 := by omega
            go_wp2_with fail
            go_ret
            exact ⟨rfl, HB.out⟩
        · have hge : (L.length : Int) ≤ (k : Int) := by omega
          go_wp2_with fail
          go_ret
          exact ⟨rfl, HB.out⟩
    · go_wp2_with fail
      go_ret
      exact ⟨rfl, H1.out⟩
  · go_wp2_with fail
    go_ret
    exact ⟨rfl, H1.out⟩
end Go.Proofs.Ytmkljmljbbijeaa

/- The walk of the document's Cut. -/
import Derived.Test.YtmkljmljbbijeaaCatRef
import Derived.Test.YtmkljmljbbijeaaPlainCatRuns
import Derived.Test.YtmkljmljbbijeaaCatRefRoll
import Derived.Test.YtmkljmljbbijeaaPiece
namespace Go.Proofs.Ytmkljmljbbijeaa
open Go.RowKit

/-- What a round's reads lean on. -/
structure CutR (cb db b o : Nat) (x y : Value) (s : SegV) (w : World) : Prop where
  c : w.cell? ⟨cb, 2, none⟩ = some x
  d : w.cell? ⟨db, 2, none⟩ = some y
  s : SegCells w b o s
theorem CutR.below {cb db b o : Nat} {x y : Value} {s : SegV} {w w' : World} (h : CutR cb db b o x y s w) (hb : Below w.heap.size w w') : CutR cb db b o x y s w' := ⟨cell_keep hb h.c, cell_keep hb h.d, h.s.below hb⟩
/-- What is kept in the loop. -/
structure CutJ (base db : Nat) (g lsn : Int) (L : List SegV) (kk i : Nat) (gone : Value) (wr : World) : Prop where
  nums : OwnI wr base gone (numsC L (min i kk))
  size : base ≤ wr.heap.size
  box : ∃ vs, wr.heap[db]? = some (.cells #[.int .i64 g, .int .i64 lsn, vs] 29 (0, 0)) ∧ OwnS wr base vs ((L.take i).drop kk) ∧ (i ≤ kk → vs = .slice none 0 0)
theorem take_drop_succ {L : List SegV} {kk i : Nat} (hi : i < L.length) (hk : kk ≤ i) : (L.take i).drop kk ++ [nthS L i] = (L.take (i + 1)).drop kk := by
  rw [List.take_add_one, List.getElem?_eq_getElem hi, List.drop_append_of_le_length (by rw [List.length_take]; omega)]
  simp [nthS, List.getD, hi]
theorem own_types {w : World} {b1 b2 : Nat} {v u : Value} {l : List Int} {S : List SegV} (h : OwnI w b1 v l) (h2 : OwnS w b2 u S) {k : Nat} (hk : v.ownBlock = some k) : u.ownBlock ≠ some k := fun e => by
  obtain ⟨-, c1, e1⟩ := rows_blk h hk
  obtain ⟨-, c2, e2⟩ := rows_blk h2 e
  rw [e1] at e2
  simp at e2
theorem seg_alloc (w : World) (s : SegV) (h : SegOk s) (t : TypeId) : SegsAt (w.alloc (.cells #[.int .i64 s.num, .int .i64 s.base, .int .u32 (bv s.seed), .int .i64 s.end_, .int .i64 s.size] t)) (some ⟨w.heap.size, 0, none⟩) [s] := fun i hi => by
  obtain rfl : i = 0 := by simp at hi; exact hi
  exact ⟨h, w.heap.size, 0, rfl, seg_new w s _⟩

set_option maxRecDepth 100000 in
set_option maxHeartbeats 8000000 in
theorem ref_cut (gen first lsn : Int) (ao : Option Addr) (n ca : Nat) (L : List SegV) (w : World) (hn : L.length = n) (hA : CatAt w (.agg #[.int .i64 gen, .int .i64 first, .slice ao n ca]) ⟨gen, first, L⟩) (h1 : R64 lsn) :
    Calls Try.prog 27 #[.agg #[.int .i64 gen, .int .i64 first, .slice ao n ca], .int .i64 lsn] w (CutB w ⟨gen, first, L⟩ lsn) := by
  have hgen := hA.gen
  obtain ⟨ao', ca', e1, hsg, hle, hcm, hnil⟩ := hA.shape
  injection e1 with e1
  simp only [Array.mk.injEq, List.cons.injEq, Value.slice.injEq, and_true, true_and] at e1
  obtain ⟨rfl, -, rfl⟩ := e1
  dsimp only at hsg hle hgen hcm
  have b1 := below_alloc w (.cells #[.int .i64 gen, .int .i64 first, .slice ao n ca] 29)
  have hn1 := heap_alloc_new w (.cells #[.int .i64 gen, .int .i64 first, .slice ao n ca] 29)
  obtain ⟨w1, hw1⟩ : ∃ w1, w.alloc (.cells #[.int .i64 gen, .int .i64 first, .slice ao n ca] 29) = w1 := ⟨_, rfl⟩
  rw [hw1] at b1 hn1
  have b2 := below_alloc w1 (.cells #[.int .i64 0, .int .i64 0, .slice none 0 0] 29)
  have hn2 := heap_alloc_new w1 (.cells #[.int .i64 0, .int .i64 0, .slice none 0 0] 29)
  obtain ⟨w2, hw2⟩ : ∃ w2, w1.alloc (.cells #[.int .i64 0, .int .i64 0, .slice none 0 0] 29) = w2 := ⟨_, rfl⟩
  rw [hw2] at b2 hn2
  have hn12 : w2.heap[w.heap.size]? = _ := (b2.block _ (heap_lt hn1)).trans hn1
  have HC := Lib.hid hn12
  have HR := Lib.hid hn2
  have HB2 := Lib.hid (below_trans b1 b2)
  have HLT := Lib.hid (heap_lt hn1)
  have HA := Lib.hid (hA.below HB2.out)
  have HS := Lib.hid (hsg.below HB2.out)
  have HN := Lib.hid hn
  have k0 := cell_of_row _ _ 0 _ _ _ hn12
  have k1 := cell_of_row _ _ 1 _ _ _ hn12
  have k2 := cell_of_row _ _ 2 _ _ _ hn12
  clear b1 b2 hn1 hn2 hn12 hA hn hsg hnil
  obtain ⟨t, ht⟩ : ∃ t : Bool, t = true ↔ MayC ⟨gen, first, L⟩ := by
    by_cases h : MayC ⟨gen, first, L⟩
    · exact ⟨true, by simp [h]⟩
    · exact ⟨false, by simp [h]⟩
  have HT := Lib.hid ht
  clear ht
  go_enter Try.func27, Try.ntmps27
  go_wp2_with fail
  refine (ref_may _ _ w2 HA.out t HT.out).mono ?_
  rintro e w3 ⟨rfl, hb3⟩
  have HB3 := Lib.hid hb3
  have HS3 := Lib.hid (HS.out.below hb3)
  clear hb3 k0 k1 k2
  have bad : ∀ (W : World), Below w.heap.size w W → ∀ (er : Int), CutIs ⟨gen, first, L⟩ lsn catZ [] er →
      CutB w ⟨gen, first, L⟩ lsn (.returned (.tuple #[.agg #[.int .i64 0, .int .i64 0, .slice none 0 0], .slice none 0 0, .int .i64 er])) (((W.setCell ⟨w1.heap.size, 0, none⟩ (.int .i64 0)).setCell ⟨w1.heap.size, 1, none⟩ (.int .i64 0)).setCell ⟨w1.heap.size, 2, none⟩ (.slice none 0 0)) :=
    fun W hb er hr => ⟨_, _, _, _, _, hr, rfl, CatOwn.z _ _, OwnI.nil _ _, put3_below hb (Nat.le_of_lt HLT.out) _ _ _⟩
  have box : ∀ (W : World), Below w2.heap.size w2 W → W.heap[w.heap.size]? = some (.cells #[.int .i64 gen, .int .i64 first, .slice ao n ca] 29 (0, 0)) ∧ W.heap[w1.heap.size]? = some (.cells #[.int .i64 0, .int .i64 0, .slice none 0 0] 29 (0, 0)) :=
    fun W hb => ⟨(hb.block _ (heap_lt HC.out)).trans HC.out, (hb.block _ (heap_lt HR.out)).trans HR.out⟩
  have BAD := Lib.hid bad
  have BOX := Lib.hid box
  have S23 := Lib.hid HB3.out.size
  clear bad box
  obtain ⟨hc3, hr3⟩ := BOX.out w3 HB3.out
  have HC3 := Lib.hid hc3
  have HR3 := Lib.hid hr3
  have HBW := Lib.hid (below_trans HB2.out HB3.out)
  have k0 := cell_of_row _ _ 0 _ _ _ hc3
  have k1 := cell_of_row _ _ 1 _ _ _ hc3
  have k2 := cell_of_row _ _ 2 _ _ _ hc3
  have r0 := cell_of_row _ _ 0 _ _ _ hr3
  have r1 := cell_of_row _ _ 1 _ _ _ hr3
  have r2 := cell_of_row _ _ 2 _ _ _ hr3
  have f0 := frozen_of_row _ _ 0 _ _ hr3
  have f1 := frozen_of_row _ _ 1 _ _ hr3
  have f2 := frozen_of_row _ _ 2 _ _ hr3
  clear hc3 hr3
  cases t
  · go_wp2_with fail
    refine bodyPost_ret (results_cat3 rfl _ _ w1.heap.size _ _ _ rfl (cell_of_row _ _ 0 _ _ _ (put3 HR3.out _ _ _)) (cell_of_row _ _ 1 _ _ _ (put3 HR3.out _ _ _)) (cell_of_row _ _ 2 _ _ _ (put3 HR3.out _ _ _))) rfl ?_
    exact BAD.out _ HBW.out _ (.inl ⟨fun h => absurd (HT.out.2 h) (by simp), rfl, rfl, rfl⟩)
  · have M := Lib.hid (HT.out.1 rfl)
    have hm0 : 1 ≤ n ∧ n ≤ 64 := by have h3 := M.out.some; have h4 := M.out.few; have := HN.out; dsimp only at h3 h4; omega
    obtain ⟨m, rfl⟩ : ∃ m, n = m + 1 := ⟨n - 1, by omega⟩
    have hm : m < 64 := by omega
    clear hm0
    obtain ⟨kk, hkk⟩ := cutK_ex ⟨gen, first, L⟩ lsn (by dsimp only; rw [HN.out]; omega)
    have KK := Lib.hid hkk
    have kkm : kk ≤ m := by have := hkk.1; have := HN.out; dsimp only at *; omega
    clear hkk
    by_cases q : first ≤ lsn ∧ gen ≠ 9223372036854775807
    · obtain ⟨q1, q2⟩ := q
      have bq : (gen == 9223372036854775807) = false := by simp [q2]
      have Q2 := Lib.hid q2
      have gb : gen < 9223372036854775807 := by have := hgen.2; omega
      obtain ⟨hg1, -⟩ := hgen
      clear q2
      clear r0 r1 r2 f0 f1 f2
      go_wp2_with fail
      have b4 := below_alloc w3 (.cells #[.int .i64 (gen + 1), .int .i64 lsn, .slice none 0 0] 29)
      have n4 := heap_alloc_new w3 (.cells #[.int .i64 (gen + 1), .int .i64 lsn, .slice none 0 0] 29)
      obtain ⟨w4, hw4⟩ : ∃ w4, w3.alloc (.cells #[.int .i64 (gen + 1), .int .i64 lsn, .slice none 0 0] 29) = w4 := ⟨_, rfl⟩
      rw [hw4] at b4 n4
      have D4 := Lib.hid n4
      have S34 := Lib.hid (heap_lt n4)
      have HBS := Lib.hid (show w.heap.size ≤ w4.heap.size by have := HBW.out.size; have := S34.out; omega)
      have J4 := Lib.hid (show CutJ w4.heap.size w3.heap.size (gen + 1) lsn L kk 0 (.slice none 0 0) w4 from ⟨by rw [Nat.zero_min]; exact OwnI.nil _ _, Nat.le_refl _, _, n4, by simp; exact OwnS.nil _ _, fun _ => rfl⟩)
      have B4 := Lib.hid b4
      clear b4 n4
      rw [hw4]
      clear k0 k1 k2 hw4
      go_loopw [9, 8] (fun i gone wr => ∃ (k : Nat), k ≤ m + 1 ∧ i = .int .i64 k ∧ Hid (CutJ w4.heap.size w3.heap.size (gen + 1) lsn L kk k gone wr) ∧ Hid (Below w3.heap.size w3 wr)) (fun i _ _ => m + 1 - (intOf i).toNat)
      case atStart => exact ⟨0, by omega, rfl, J4, B4⟩
      case round =>
        clear J4 B4
        obtain ⟨k, hk, rfl, HJ, HW⟩ := hrel
        have W2 := Lib.hid (below_trans HB3.out HW.out)
        obtain ⟨hcr, hrr⟩ := BOX.out wr W2.out
        have HCR := Lib.hid hcr
        have HRR := Lib.hid hrr
        obtain ⟨vs, hbx, hos, hvn⟩ := HJ.out.box
        have BX := Lib.hid hbx
        have OS := Lib.hid hos
        have VN := Lib.hid hvn
        clear hcr hrr hbx hos hvn
        have c0 := cell_of_row _ _ 0 _ _ _ HCR.out
        have c1 := cell_of_row _ _ 1 _ _ _ HCR.out
        have c2 := cell_of_row _ _ 2 _ _ _ HCR.out
        by_cases hlt : k < m + 1
        · obtain ⟨ok, b, off, rfl, hsc⟩ := (HS3.out.below HW.out) k (by have := HN.out; omega)
          have HSC := Lib.hid hsc
          have OK := Lib.hid ok
          obtain ⟨d0, d1, d2, d3, d4⟩ := hsc
          by_cases hkk : k < kk
          · obtain ⟨-, e2, -⟩ := below_yes M.out KK.out hkk
            have kz : (k : Int) < (m : Int) := by omega
            dsimp only at e2
            have mk : min k kk = k := Nat.min_eq_left (by omega)
            have O5 := Lib.hid (show OwnI wr w4.heap.size u8 (numsC L k) from mk ▸ HJ.out.nums)
            have bO := below_alloc wr (.cells #[.int .i64 (nthS L k).num] 2)
            have O6 := Lib.hid (O5.out.keep bO)
            have SZ6 := Lib.hid (Nat.le_trans HJ.out.size bO.size)
            have LE := Lib.hid (show (numsC L k).length ≤ 1099511627776 by rw [numsC_length (by have := HN.out; omega)]; omega)
            have BO := Lib.hid bO
            have VZ := Lib.hid (VN.out (by omega))
            clear bO mk c0 c1 d1 d2 d4 ok
            go_wp2_with (refine wpList_append_i64 (o := ⟨some 60, _, _, _, _, _⟩) rfl _ _ rfl w4.heap.size u8 (numsC L k) rfl O6.out ⟨wr.heap.size, 0, none⟩ (nthS L k).num rfl (cell_one_new _ _ _) LE.out SZ6.out ?_)
            intro v5 w5 ho5 hg5
            have O7 := Lib.hid (show OwnI w5 w4.heap.size v5 (numsC L (k + 1)) by rw [← numsC_succ (by have := HN.out; omega)]; exact ho5)
            have W7 := Lib.hid (show Below w3.heap.size w3 w5 from (below_trans HW.out BO.out).grown hg5 (below_trans HW.out BO.out).size (fun j hj => by have := (rows_blk O6.out hj).1; have := S34.out; omega))
            have B7 := Lib.hid (show w5.heap[w3.heap.size]? = some (.cells #[.int .i64 (gen + 1), .int .i64 lsn, .slice none 0 0] 29 (0, 0)) by
              have h1 := (BO.out.block _ (heap_lt BX.out)).trans BX.out
              rw [VZ.out] at h1
              exact (hg5.block _ (heap_lt h1) (fun e => by have := (rows_blk O6.out e.symm).1; have := S34.out; omega)).trans h1)
            have SZ7 := Lib.hid (Nat.le_trans SZ6.out hg5.size)
            clear ho5 hg5 d0 d3 c2
            go_wp2_with fail
            go_roundw
            case rel => exact ⟨k + 1, by omega, by go_num, ⟨by rw [show min (k + 1) kk = k + 1 from Nat.min_eq_left (by omega)]; exact O7.out, SZ7.out, _, B7.out, by rw [List.drop_eq_nil_of_le (by rw [List.length_take]; omega)]; exact OwnS.nil _ _, fun _ => rfl⟩, W7.out⟩
            case measure => simp [intOf]; omega
          · have hge : kk ≤ k := by omega
            have tt : ((k : Int) < (m : Int) ∧ decide ((nthS L k).end_ ≤ lsn) = false) ∨ ¬ (k : Int) < (m : Int) := by
              by_cases h : k < m
              · left
                have h2 := below_no M.out KK.out hge (by have := HN.out; dsimp only; omega)
                have h3 := (M.out.link k (by have := HN.out; dsimp only; omega)).1
                dsimp only at h2 h3
                have := h3.2.1
                have := h3.2.2.1
                exact ⟨by omega, by simp; omega⟩
              · right; omega
            have hcm : ¬ k < kk := by omega
            obtain ⟨DS, hDS⟩ : ∃ DS, (L.take k).drop kk = DS := ⟨_, rfl⟩
            rw [hDS] at OS
            have DSE : Hid (DS ++ [nthS L k] = (L.take (k + 1)).drop kk) := Lib.hid (by rw [← hDS]; exact take_drop_succ (by have := HN.out; omega) hge)
            have OKD : Hid (OkL (DS ++ [nthS L k])) := Lib.hid (by
              rw [DSE.out]
              intro i hi
              have hi2 : kk + i < k + 1 ∧ kk + i < L.length := by rw [List.length_drop, List.length_take] at hi; omega
              have e : nthS ((L.take (k + 1)).drop kk) i = nthS L (kk + i) := by simp [nthS, List.getD_eq_getElem?_getD, hi2.1]
              rw [e]
              exact (HS3.out (kk + i) hi2.2).1)
            have LDS : Hid (DS.length ≤ 64) := Lib.hid (by rw [← hDS, List.length_drop, List.length_take]; omega)
            have CR := Lib.hid (show CutR w.heap.size w3.heap.size b (off + k * 5) (.slice (some ⟨b, off, none⟩) (m + 1) ca) vs (nthS L k) wr from ⟨c2, cell_of_row _ _ 2 _ _ _ BX.out, HSC.out⟩)
            have qs0 : ∀ p : In (CutR w.heap.size w3.heap.size b (off + k * 5) (.slice (some ⟨b, off, none⟩) (m + 1) ca) vs (nthS L k)), p.w.cell? ⟨w.heap.size, 2, none⟩ = some (.slice (some ⟨b, off, none⟩) (m + 1) ca) := fun p => p.h.c
            have qs1 : ∀ p : In (CutR w.heap.size w3.heap.size b (off + k * 5) (.slice (some ⟨b, off, none⟩) (m + 1) ca) vs (nthS L k)), p.w.cell? ⟨w3.heap.size, 2, none⟩ = some vs := fun p => p.h.d
            clear hDS c0 c1 VN
            rcases tt with ⟨tt, tu⟩ | tt
            all_goals
              go_wp2_with fail
              clear c2 d0 d1 d2 d3 d4
              refine wp_region_mixed_tail [0, 1, 2, 3, 4, 5, 6, 7, 8, 9] 10 (CutR w.heap.size w3.heap.size b (off + k * 5) (.slice (some ⟨b, off, none⟩) (m + 1) ca) vs (nthS L k)) (by kernel_rfl) (by kernel_rfl) (by intro c a d v w h; cases d <;> exact h) (CR.out.below (below_drew _)) ?_
              intro hne
              simp only [pick, List.map_cons, List.map_nil, List.getD_cons_zero, List.getD_cons_succ, List.drop_succ_cons, List.drop_zero]
              refine wpMix_reads 7 _ (by kernel_rfl) ?_
              simp only [List.take_succ_cons, List.take_zero, List.drop_succ_cons, List.drop_zero]
              repeat (go_big_quiet_step (fail))
              refine wpQuiet_load_mid (op := ⟨some 67, _, _, _, _, _⟩) rfl 53 _ rfl b (off + k * 5) rfl (segL (nthS L k)) _ (fun w hw => by obtain ⟨p, rfl⟩ := hw; exact p.h.s.range) Try.underlying53 rfl Try.sizeSeg ?_
              simp only [Act.put, List.setIfInBounds_toArray, List.set_cons_zero, List.set_cons_succ]
              unfold segL
              refine wpQuiet_nil ?_
              refine wpMix_act rfl ?_ rfl
              go_wp2_with fail
              have bN := below_alloc wr.drew (.cells #[.int .i64 (nthS L k).num, .int .i64 (nthS L k).base, .int .u32 (bv (nthS L k).seed), .int .i64 (nthS L k).end_, .int .i64 (nthS L k).size] 53)
              have BN := Lib.hid (below_trans (below_drew wr) bN)
              have SG := Lib.hid (seg_alloc wr.drew (nthS L k) OK.out 53)
              have OSN := Lib.hid (OS.out.keep BN.out)
              have SZN := Lib.hid (Nat.le_trans HJ.out.size BN.out.size)
              have BXN := Lib.hid ((BN.out.block _ (heap_lt BX.out)).trans BX.out)
              have LEN : Hid (DS.length + [nthS L k].length ≤ 3518437208883) := Lib.hid (by have := LDS.out; simp; omega)
              refine ⟨⟨⟨_, CR.out.below BN.out⟩, rfl⟩, ?_⟩
              refine wpMix_act rfl ?_ rfl
              go_wp2_with (refine wpList_append_segs (o := ⟨some 69, _, _, _, _, _⟩) rfl _ _ rfl w4.heap.size vs DS rfl OSN.out (some ⟨wr.heap.size, 0, none⟩) 1 1 [nthS L k] rfl rfl SG.out (fun e => by cases e) LEN.out SZN.out ?_)
              intro v5 w5 ho5 hg5
              obtain ⟨D5, hD5⟩ : ∃ D5, DS ++ [nthS L k] = D5 := ⟨_, rfl⟩
              have LD5 : D5.length ≤ 65 := by rw [← hD5, List.length_append]; have := LDS.out; simp; omega
              rw [hD5] at ho5 OKD DSE
              obtain ⟨a5, c5, rfl, -⟩ := OwnS.there ho5 OKD.out (by omega)
              have W5 := Lib.hid (show Below w3.heap.size w3 w5 from (below_trans HW.out BN.out).grown hg5 (below_trans HW.out BN.out).size (fun j hj => by have := (rows_blk OSN.out hj).1; have := S34.out; omega))
              have B5 := Lib.hid ((hg5.block _ (heap_lt BXN.out) (fun e => by have := (rows_blk OSN.out e.symm).1; have := S34.out; omega)).trans BXN.out)
              have NU5 := Lib.hid (show OwnI w5 w4.heap.size u8 (numsC L (min (k + 1) kk)) from by
                have h0 := HJ.out.nums.keep BN.out
                rw [Nat.min_eq_right (by omega)] at h0 ⊢
                exact rows_congr h0 fun j hj => hg5.block j (heap_lt (rows_blk h0 hj).2.choose_spec) (fun e => own_types h0 OSN.out hj e.symm))
              have SZ5 := Lib.hid (Nat.le_trans SZN.out hg5.size)
              have O5 := Lib.hid ho5
              have C5 := (BOX.out w5 (below_trans HB3.out W5.out)).1
              have CR5 := Lib.hid (show CutR w.heap.size w3.heap.size b (off + k * 5) (.slice (some ⟨b, off, none⟩) (m + 1) ca) vs (nthS L k) w5 from ⟨cell_of_row _ _ 2 _ _ _ C5, cell_of_row _ _ 2 _ _ _ B5.out, ((HS3.out.below W5.out).get (by have := HN.out; omega)).2⟩)
              have e2 := cell_of_row _ _ 2 _ _ _ B5.out
              have ef2 := frozen_of_row _ _ 2 _ _ B5.out
              clear ho5 hg5 C5 hD5
              go_wp2_with fail
              refine ⟨⟨⟨_, CR5.out⟩, rfl⟩, ?_⟩
              refine wpMix_reads 1 _ (by kernel_rfl) ?_
              simp only [List.take_succ_cons, List.take_zero, List.drop_succ_cons, List.drop_zero]
              repeat (go_big_quiet_step (fail))
              refine wpQuiet_nil ?_
              refine wpMix_nil ?_
              clear hne qs0 qs1
              change wpList _ _ _ _ _ _
              go_wp2_with fail
              go_roundw
              case rel => exact ⟨k + 1, by omega, by go_num, ⟨rows_congr NU5.out fun j hj => set_off (by have := (rows_blk NU5.out hj).1; have := S34.out; omega) _, by simpa using SZ5.out, _, set3_2 B5.out _, by rw [← DSE.out]; exact rows_congr O5.out fun j hj => set_off (by have := (rows_blk O5.out hj).1; have := S34.out; omega) _, fun h => absurd h (by omega)⟩, W5.out.setCell (p := ⟨w3.heap.size, 2, none⟩) (Nat.le_refl _) _⟩
              case measure => simp [intOf]; omega
        · obtain rfl : k = m + 1 := by omega
          have OSF := Lib.hid (show OwnS wr w4.heap.size vs (L.drop kk) by have h := OS.out; rwa [List.take_of_length_le (by have := HN.out; omega)] at h)
          have NUF := Lib.hid (show OwnI wr w4.heap.size u8 (numsC L kk) by have h := HJ.out.nums; rwa [Nat.min_eq_right (by omega)] at h)
          have OKF : Hid (OkL (L.drop kk)) := Lib.hid fun i hi => by
            rw [nthS_drop]
            rw [List.length_drop] at hi
            exact (HS3.out (kk + i) (by omega)).1
          have FEW : Hid ((L.drop kk).length ≤ 140737488355328) := Lib.hid (by rw [List.length_drop]; have := HN.out; omega)
          obtain ⟨aF, cF, rfl, -⟩ := OwnS.there OSF.out OKF.out FEW.out
          have AF := Lib.hid (show CatAt wr (.agg #[.int .i64 (gen + 1), .int .i64 lsn, .slice aF (L.drop kk).length cF]) ⟨gen + 1, lsn, L.drop kk⟩ from CatAt.of_own OSF.out OKF.out FEW.out ⟨by omega, by omega⟩ h1)
          obtain ⟨t2, ht2⟩ : ∃ t2 : Bool, t2 = true ↔ MayC ⟨gen + 1, lsn, L.drop kk⟩ := by
            by_cases h : MayC ⟨gen + 1, lsn, L.drop kk⟩
            · exact ⟨true, by simp [h]⟩
            · exact ⟨false, by simp [h]⟩
          have T2 := Lib.hid ht2
          have e0 := cell_of_row _ _ 0 _ _ _ BX.out
          have e1 := cell_of_row _ _ 1 _ _ _ BX.out
          have e2 := cell_of_row _ _ 2 _ _ _ BX.out
          obtain ⟨D, hD⟩ : ∃ D, L.drop kk = D := ⟨_, rfl⟩
          rw [hD] at OSF OKF FEW AF T2 BX e2
          have ED := Lib.hid hD
          clear ht2 hD OS VN hlt hk c0 c1
          have hge2 : ¬ (((m + 1 : Nat) : Int) < (m : Int) + 1) := by omega
          go_wp2_with fail
          refine (ref_may ⟨gen + 1, lsn, D⟩ _ wr AF.out t2 T2.out).mono ?_
          rintro e w9 ⟨rfl, hb9⟩
          have HR9 := Lib.hid ((hb9.block _ (heap_lt HRR.out)).trans HRR.out)
          have BX9 := Lib.hid ((hb9.block _ (heap_lt BX.out)).trans BX.out)
          have O9 := Lib.hid (OSF.out.keep hb9)
          have N9 := Lib.hid (NUF.out.keep hb9)
          have HB9 := Lib.hid (show Below w.heap.size w w9 from below_trans HB2.out (below_trans W2.out hb9))
          clear hb9 e0 e1 e2 c2
          have r0 := cell_of_row _ _ 0 _ _ _ HR9.out
          have r1 := cell_of_row _ _ 1 _ _ _ HR9.out
          have r2 := cell_of_row _ _ 2 _ _ _ HR9.out
          have f0 := frozen_of_row _ _ 0 _ _ HR9.out
          have f1 := frozen_of_row _ _ 1 _ _ HR9.out
          have f2 := frozen_of_row _ _ 2 _ _ HR9.out
          have e0 := cell_of_row _ _ 0 _ _ _ BX9.out
          have e1 := cell_of_row _ _ 1 _ _ _ BX9.out
          have e2 := cell_of_row _ _ 2 _ _ _ BX9.out
          have LR := Lib.hid (heap_lt HR.out)
          cases t2
          · go_wp2_with fail
            refine bodyPost_ret (results_cat3 rfl _ _ w1.heap.size _ _ _ rfl (cell_of_row _ _ 0 _ _ _ (put3 HR9.out _ _ _)) (cell_of_row _ _ 1 _ _ _ (put3 HR9.out _ _ _)) (cell_of_row _ _ 2 _ _ _ (put3 HR9.out _ _ _))) rfl ?_
            exact BAD.out _ HB9.out _ (.inr (.inl ⟨kk, KK.out, M.out, fun h => absurd (T2.out.2 (by rw [← ED.out]; exact h.2.2)) (by simp), rfl, rfl, rfl⟩))
          · go_wp2_with fail
            refine bodyPost_ret (results_cat3 rfl _ _ w1.heap.size _ _ _ rfl (cell_of_row _ _ 0 _ _ _ (put3 HR9.out _ _ _)) (cell_of_row _ _ 1 _ _ _ (put3 HR9.out _ _ _)) (cell_of_row _ _ 2 _ _ _ (put3 HR9.out _ _ _))) rfl ?_
            have hx : cutC ⟨gen, first, L⟩ lsn kk = ⟨gen + 1, lsn, D⟩ := by unfold cutC; dsimp only; rw [ED.out]
            refine ⟨_, u8, cutC ⟨gen, first, L⟩ lsn kk, numsC L kk, 0, .inr (.inr ⟨kk, KK.out, M.out, ⟨q1, Q2.out, by rw [hx]; exact T2.out.1 trivial⟩, rfl, rfl, rfl⟩), rfl, ?_, OwnI.base ?_ HBS.out, put3_below HB9.out (Nat.le_of_lt HLT.out) _ _ _⟩
            · rw [hx]
              exact ⟨⟨_, rfl, OwnS.base (rows_congr O9.out fun j hj => put3_off (by have := (rows_blk O9.out hj).1; have := LR.out; have := S23.out; have := S34.out; omega) _ _ _) HBS.out⟩, ⟨⟨by dsimp only; omega, by dsimp only; omega⟩, h1, OKF.out⟩, FEW.out⟩
            · exact rows_congr N9.out fun j hj => put3_off (by have := (rows_blk N9.out hj).1; have := LR.out; have := S23.out; have := S34.out; omega) _ _ _
    · have Q := Lib.hid q
      have bq : lsn < first ∨ (first ≤ lsn ∧ (gen == 9223372036854775807) = true) := by
        by_cases h : first ≤ lsn
        · exact .inr ⟨h, by simp; exact Decidable.byContradiction fun h2 => q ⟨h, h2⟩⟩
        · exact .inl (by omega)
      clear q
      rcases bq with bq | ⟨bq, bq2⟩
      all_goals
        go_wp2_with fail
        refine bodyPost_ret (results_cat3 rfl _ _ w1.heap.size _ _ _ rfl (cell_of_row _ _ 0 _ _ _ (put3 HR3.out _ _ _)) (cell_of_row _ _ 1 _ _ _ (put3 HR3.out _ _ _)) (cell_of_row _ _ 2 _ _ _ (put3 HR3.out _ _ _))) rfl ?_
        exact BAD.out _ HBW.out _ (.inr (.inl ⟨kk, KK.out, M.out, fun h => Q.out ⟨h.1, h.2.1⟩, rfl, rfl, rfl⟩))
end Go.Proofs.Ytmkljmljbbijeaa

/- The walk of the document's reading of catalogs. -/
import Derived.Test.YtmkljmljbbijeaaRefRd
import Derived.Test.YtmkljmljbbijeaaCatBody
import Derived.Test.YtmkljmljbbijeaaCatRef
namespace Go.Proofs.Ytmkljmljbbijeaa
open Go.RowKit

theorem sum_same {D : List (BitVec 8)} (hD : D.length = 4) (s : BitVec 32) : (leB D = s.setWidth 64) ↔ ((leB D).setWidth 32 = s) := by
  have h := leN_lt D
  rw [hD] at h
  have h2 := leB_lt (xs := D) (by omega)
  have e : (256 : Nat) ^ 4 = 4294967296 := rfl
  constructor
  · intro e2
    rw [e2]
    apply BitVec.eq_of_toNat_eq
    rw [BitVec.toNat_setWidth, BitVec.toNat_setWidth]
    have := s.isLt
    omega
  · intro e2
    rw [← e2]
    apply BitVec.eq_of_toNat_eq
    rw [BitVec.toNat_setWidth, BitVec.toNat_setWidth]
    omega
theorem ref_cat_short (ao : Option Addr) (n ca : Nat) (w : World) (hn : n < 8) : Calls Try.prog 33 #[.slice ao n ca] w (BodyB w catZ 2) := by
  have b1 := below_alloc w (.cells #[.int .i64 0, .int .i64 0, .slice none 0 0] 29)
  have hn1 := heap_alloc_new w (.cells #[.int .i64 0, .int .i64 0, .slice none 0 0] 29)
  obtain ⟨w1, hw1⟩ : ∃ w1, w.alloc (.cells #[.int .i64 0, .int .i64 0, .slice none 0 0] 29) = w1 := ⟨_, rfl⟩
  rw [hw1] at b1 hn1
  have HZ := Lib.hid hn1
  have HB := Lib.hid b1
  clear b1 hn1
  have r0 := cell_of_row _ _ 0 _ _ _ HZ.out
  have f0 := frozen_of_row _ _ 0 _ _ HZ.out
  have r1 := cell_of_row _ _ 1 _ _ _ HZ.out
  have f1 := frozen_of_row _ _ 1 _ _ HZ.out
  have r2 := cell_of_row _ _ 2 _ _ _ HZ.out
  have f2 := frozen_of_row _ _ 2 _ _ HZ.out
  have hz : (n : Int) < 8 := by omega
  go_enter Try.func33, Try.ntmps33
  go_wp2_with fail
  refine bodyPost_ret (results_cat2 rfl _ _ w.heap.size _ _ _ rfl (cell_of_row _ _ 0 _ _ _ (put3 HZ.out _ _ _)) (cell_of_row _ _ 1 _ _ _ (put3 HZ.out _ _ _)) (cell_of_row _ _ 2 _ _ _ (put3 HZ.out _ _ _))) rfl ?_
  exact ⟨_, rfl, CatOwn.z _ _, put3_below HB.out (Nat.le_refl _) _ _ _⟩
theorem ref_sum_n (ao : Option Addr) (bs : List (BitVec 8)) (n cap : Nat) (w : World) (hb : BytesAt w ao bs) (hn : bs.length = n) (hm : n ≤ 140737488351232) :
    Calls Try.prog 74 #[.slice ao n cap] w fun e w' => e = .returned (.int .u32 (bv (Crc.sum bs))) ∧ w = w' := by
  subst hn; exact ref_sum ao bs cap w hb hm
theorem bv_max (n : BitVec 64) : bv n ≤ bv 18446744073709551615#64 := bv_most n
theorem cnt_big {s : RS} (h0 : (stp 18446744073709551615#64 s).2.2 = 0) (h : 64 < bv (stp 18446744073709551615#64 s).1) : stp 64#64 s = (0#64, (s.1, 3)) := by
  have e64 : bv 64#64 = 64 := rfl
  unfold Go.Proofs.Ytmkljmljbbijeaa.stp at *
  split at h0
  · rename_i h1
    rw [if_pos h1] at h ⊢
    split at h0
    · rename_i h2
      rw [if_pos h2, if_pos (bv_max _)] at h
      rw [if_pos h2, if_neg (by rw [e64]; dsimp only at h; omega)]
    · rename_i h2
      exact absurd h0 h2
  · rename_i h1
    exact absurd h0 h1
theorem cnt_small {s : RS} (h : ¬ ((stp 18446744073709551615#64 s).2.2 = 0 ∧ 64 < bv (stp 18446744073709551615#64 s).1)) : stp 64#64 s = stp 18446744073709551615#64 s := by
  have e64 : bv 64#64 = 64 := rfl
  unfold Go.Proofs.Ytmkljmljbbijeaa.stp at *
  by_cases h1 : s.2 = 0
  · rw [if_pos h1] at h ⊢
    rw [if_pos h1]
    by_cases h2 : (rv s.1).2.2 = 0
    · rw [if_pos h2, if_pos (bv_max _)] at h ⊢
      rw [if_pos h2]
      dsimp only at h
      rw [if_pos (by rw [e64]; omega)]
    · rw [if_neg h2, if_neg h2]
  · rw [if_neg h1, if_neg h1]
theorem varH_ne3 {bs : List (BitVec 8)} {k bad k' b' : Nat} {v : BitVec 64} (h : VarH bs k bad 18446744073709551615#64 v k' b') (hb : bad ≠ 3) : b' ≠ 3 := by
  rcases h with ⟨-, j, -, -, -, rfl⟩ | ⟨-, -, h0, ⟨-, h⟩ | rfl⟩
  · decide
  · intro e
    subst e
    unfold rn at h
    have hm := bv_max (rv (bs.drop k)).1
    rw [if_neg (by omega)] at h
    rcases (rvGo_bounds (bs.drop k) 0 0#64).2.1 with h1 | h1 | h1 <;> (unfold rv at h; omega)
  · exact hb
theorem nm_ne3 (e : Nat) : nm e ≠ 3 := by unfold nm; split <;> omega
theorem nm_of {e : Nat} (h : e ≠ 3) : nm e = e := by unfold nm; rw [if_neg h]
/-- The document's reader, whole. -/
theorem qat_new {W : World} {q cap : Nat} {gb off : Nat} {bs : List (BitVec 8)} {n : Nat} {T : TypeId} (hn : bs.length = n) (h : W.heap[q]? = some (.cells #[.slice (some ⟨gb, off, none⟩) n cap, .int .i64 4, .int .i64 0] T (0, 0))) (h4 : 4 ≤ n) (hb : BytesAt W (some ⟨gb, off, none⟩) bs) (hc : n ≤ cap) (hm : cap ≤ 9223372036854775807) (hq : gb ≠ q) : QAt W q (some ⟨gb, off, none⟩) cap bs 4 0 := by
  subst hn
  exact ⟨cell_of_row _ _ 0 _ _ _ h, cell_of_row _ _ 1 _ _ _ h, cell_of_row _ _ 2 _ _ _ h, frozen_of_row _ _ 1 _ _ h, frozen_of_row _ _ 2 _ _ h, h4, hb, (fun e => by cases e), hc, hm, fun g o e _ => by injection e with e; injection e with e; rw [← e]; exact hq⟩
set_option maxRecDepth 100000 in
set_option maxHeartbeats 8000000 in
theorem ref_cat_long (gb off p ca : Nat) (bs : List (BitVec 8)) (w : World) (hb : BytesAt w (some ⟨gb, off, none⟩) bs) (hn : bs.length = p + 8) (hc : p + 8 ≤ ca) (hcm : ca ≤ 9223372036854775807) (hm : p + 8 ≤ 140737488351232) (r : CatV) (er : Int) (hr : catR bs = (r, er)) :
    Calls Try.prog 33 #[.slice (some ⟨gb, off, none⟩) (p + 8) ca] w (BodyB w r er) := by
  have b1 := below_alloc w (.cells #[.int .i64 0, .int .i64 0, .slice none 0 0] 29)
  have hn1 := heap_alloc_new w (.cells #[.int .i64 0, .int .i64 0, .slice none 0 0] 29)
  obtain ⟨w1, hw1⟩ : ∃ w1, w.alloc (.cells #[.int .i64 0, .int .i64 0, .slice none 0 0] 29) = w1 := ⟨_, rfl⟩
  rw [hw1] at b1 hn1
  have HZ := Lib.hid hn1
  have HB := Lib.hid b1
  have HP := Lib.hid (hb.below b1)
  have HN := Lib.hid hn
  have HR := Lib.hid hr
  have GB := Lib.hid (show gb < w1.heap.size by
    obtain ⟨g', o', e, hcell⟩ := (hb.below b1) 0 (by omega)
    injection e with e; injection e with e; rw [e]
    exact block_lt_of_cell hcell)
  clear b1 hn1 hb hn hr
  have n1 : ¬ (ca = 4) := by omega
  have n2 : ¬ (ca = p + 4) := by omega
  have n3 : ¬ ((p : Int) + 8 < 8) := by omega
  have FIN := Lib.hid (show ∀ (W : World) (er' : Int), Below w1.heap.size w1 W → BodyB w catZ er' (.returned (.tuple #[.agg #[.int .i64 0, .int .i64 0, .slice none 0 0], .int .i64 er'])) (((W.setCell ⟨w.heap.size, 0, none⟩ (.int .i64 0)).setCell ⟨w.heap.size, 1, none⟩ (.int .i64 0)).setCell ⟨w.heap.size, 2, none⟩ (.slice none 0 0)) from fun W er' hW => ⟨_, rfl, CatOwn.z _ _, put3_below (below_trans HB.out hW) (Nat.le_refl _) _ _ _⟩)
  have HZW := Lib.hid (show ∀ (W : World), Below w1.heap.size w1 W → W.heap[w.heap.size]? = some (.cells #[.int .i64 0, .int .i64 0, .slice none 0 0] 29 (0, 0)) from fun W hW => (hW.block _ (heap_lt HZ.out)).trans HZ.out)
  have kcs := conv_string w1 gb off ca 4 (bs.take 4) (HP.out.take 4) (by have := HN.out; simp; omega)
  have r0 := cell_of_row _ _ 0 _ _ _ HZ.out
  have f0 := frozen_of_row _ _ 0 _ _ HZ.out
  have r1 := cell_of_row _ _ 1 _ _ _ HZ.out
  have f1 := frozen_of_row _ _ 1 _ _ HZ.out
  have r2 := cell_of_row _ _ 2 _ _ _ HZ.out
  have f2 := frozen_of_row _ _ 2 _ _ HZ.out
  have L8 : ¬ bs.length < 8 := by have := HN.out; omega
  have HL8 := Lib.hid L8
  clear L8
  go_enter Try.func33, Try.ntmps33
  by_cases hmg : bs.take 4 = fcatL
  · rw [hmg, strB_fcat] at kcs
    have HMG := Lib.hid hmg
    clear hmg
    have D4 : Hid ((bs.drop (p + 4)).length = 4) := Lib.hid (by rw [List.length_drop, HN.out]; omega)
    obtain ⟨sm, hsm⟩ : ∃ sm, Crc.sum (bs.take (p + 4)) = sm := ⟨_, rfl⟩
    have SM := Lib.hid hsm
    obtain ⟨lv, hlv⟩ : ∃ lv, leB (bs.drop (p + 4)) = lv := ⟨_, rfl⟩
    have LV := Lib.hid hlv
    clear hsm hlv
    have CR : Hid (catR bs = if ¬ lv = sm.setWidth 64 then (catZ, 5) else bodyR ((bs.take (p + 4)).drop 4)) := Lib.hid (by
      have e4 : bs.length - 4 = p + 4 := by rw [HN.out]; omega
      have e5 := sum_same D4.out sm
      rw [LV.out] at e5
      unfold catR
      rw [if_neg HL8.out, if_neg (by rw [HMG.out]; simp), e4, SM.out, LV.out]
      by_cases h : lv = sm.setWidth 64
      · rw [if_neg (by simp [e5.1 h]), if_neg (by simp [h])]
      · rw [if_pos (fun h2 => h (e5.2 h2)), if_pos h])
    go_wp2_with fail
    refine wp_region_mixed [0, 1, 2, 4, 5, 6, 3, 7, 8, 9] (fun _ => True) (by kernel_rfl) (by kernel_rfl) (by intro c a d v w h; cases d <;> exact h) trivial ?_
    intro hne
    simp only [pick, List.map_cons, List.map_nil, List.getD_cons_zero, List.getD_cons_succ]
    refine wpMix_reads 6 _ (by kernel_rfl) ?_
    simp only [List.take_succ_cons, List.take_zero, List.drop_succ_cons, List.drop_zero]
    repeat (go_big_quiet_step (fail))
    refine wpQuiet_nil ?_
    refine wpMix_act rfl ?_ rfl
    go_wp2_with fail
    refine (ref_number_to (some ⟨gb, off + (p + 4), none⟩) (bs.drop (p + 4)) 4 _ _ ((HP.out.drop (p + 4)).below (below_drew w1)) D4.out (by rw [D4.out]; decide)).mono ?_
    rintro e w2 ⟨rfl, rfl⟩
    rw [LV.out]
    go_wp2_with fail
    refine ⟨⟨⟨_, trivial⟩, rfl⟩, ?_⟩
    refine wpMix_act rfl ?_ rfl
    go_wp2_with fail
    refine (ref_sum_n (some ⟨gb, off, none⟩) (bs.take (p + 4)) (p + 4) ca _ ((HP.out.take (p + 4)).below (below_drew w1)) (by rw [List.length_take, HN.out]; omega) (by omega)).mono ?_
    rintro e w3 ⟨rfl, rfl⟩
    rw [SM.out]
    clear kcs r0 r1 r2 f0 f1 f2
    have hz1 := HZW.out w1.drew (below_drew w1)
    have HZ1 := Lib.hid hz1
    have r0 := cell_of_row _ _ 0 _ _ _ HZ.out
    have f0 := frozen_of_row _ _ 0 _ _ HZ.out
    have r1 := cell_of_row _ _ 1 _ _ _ HZ.out
    have f1 := frozen_of_row _ _ 1 _ _ HZ.out
    have r2 := cell_of_row _ _ 2 _ _ _ HZ.out
    have f2 := frozen_of_row _ _ 2 _ _ HZ.out
    clear hz1
    by_cases hq : lv = sm.setWidth 64
    · have t5 : (lv != sm.setWidth 64) = false := by simp [hq]
      have EB : Hid (bodyR ((bs.take (p + 4)).drop 4) = (r, er)) := Lib.hid (by rw [← HR.out, CR.out, if_neg (by simp [hq])])
      clear hq
      obtain ⟨bsR, hbsR⟩ : ∃ bsR, bs.take (p + 4) = bsR := ⟨_, rfl⟩
      have SR : Hid (BytesAt w1.drew (some ⟨gb, off, none⟩) bsR) := Lib.hid (by rw [← hbsR]; exact (HP.out.take (p + 4)).below (below_drew w1))
      have LR : Hid (bsR.length = p + 4) := Lib.hid (by rw [← hbsR, List.length_take, HN.out]; omega)
      rw [hbsR] at EB
      have SR1 : Hid (BytesAt w1 (some ⟨gb, off, none⟩) bsR) := Lib.hid (by rw [← hbsR]; exact HP.out.take (p + 4))
      clear hbsR
      have bq := below_alloc w1.drew (.cells #[.slice (some ⟨gb, off, none⟩) (p + 4) ca, .int .i64 4, .int .i64 0] 110)
      have hq := heap_alloc_new w1.drew (.cells #[.slice (some ⟨gb, off, none⟩) (p + 4) ca, .int .i64 4, .int .i64 0] 110)
      obtain ⟨w4, hw4⟩ : ∃ w4, w1.drew.alloc (.cells #[.slice (some ⟨gb, off, none⟩) (p + 4) ca, .int .i64 4, .int .i64 0] 110) = w4 := ⟨_, rfl⟩
      rw [hw4] at bq hq
      have bC := below_alloc w4 (.cells #[.int .i64 0, .int .i64 0, .slice none 0 0] 29)
      have hC := heap_alloc_new w4 (.cells #[.int .i64 0, .int .i64 0, .slice none 0 0] 29)
      obtain ⟨w5, hw5⟩ : ∃ w5, w4.alloc (.cells #[.int .i64 0, .int .i64 0, .slice none 0 0] 29) = w5 := ⟨_, rfl⟩
      rw [hw5] at bC hC
      have B5 := Lib.hid (show Below w1.heap.size w1 w5 from below_trans (below_drew w1) (below_trans bq bC))
      have hq' : w1.drew.heap.size = w1.heap.size := rfl
      have Q5 := Lib.hid (show QAt w5 w1.heap.size (some ⟨gb, off, none⟩) ca bsR 4 0 from (qat_new LR.out hq (by omega) (SR.out.below bq) (by omega) hcm (by have := GB.out; rw [hq']; omega)).on bC)
      have I5 := Lib.hid (show QI w1 w1.heap.size w4.heap.size (some ⟨gb, off, none⟩) ca bsR 4 0 0 0 (.slice none 0 0) [] w5 from ⟨Q5.out, SR1.out, hC, OwnS.nil _ _, B5.out, Nat.le_refl _, heap_lt hq⟩)
      have HW5 := Lib.hid hw5
      clear bq hq bC hC hq'
      go_wp2_with fail
      refine ⟨⟨⟨_, trivial⟩, rfl⟩, ?_⟩
      refine wpMix_reads 2 _ (by kernel_rfl) ?_
      simp only [List.take_succ_cons, List.take_zero, List.drop_succ_cons, List.drop_zero]
      repeat (go_big_quiet_step (fail))
      refine wpQuiet_nil ?_
      refine wpMix_nil ?_
      clear hne
      have HM2 : Hid (bsR.length ≤ 140737488355328) := Lib.hid (by have := LR.out; omega)
      have T0 : Hid (Twin bsR 4 0 ((bsR.drop 4), 0)) := Lib.hid ⟨rfl, rfl⟩
      clear r0 r1 r2 f0 f1 f2
      obtain ⟨a1, p1, c1, hH⟩ := varH_some bsR 4 0 topN
      have Va1 := Lib.hid hH
      clear hH
      go_wp2_with fail
      refine (rq_number w1.heap.size (some ⟨gb, off, none⟩) ca bsR 4 0 w5 I5.out.rd HM2.out a1 p1 c1 Va1.out).mono ?_
      rintro e w6 ⟨rfl, hN⟩
      have I6 := Lib.hid (I5.out.now hN)
      clear hN hw5
      have T1 := Lib.hid (T0.out.stp Va1.out)
      obtain ⟨gg, hgg⟩ : ∃ gg, bv a1 = gg := ⟨_, rfl⟩
      rw [hgg]
      have GG := Lib.hid hgg
      have m0 := cell_of_row _ _ 0 _ _ _ I6.out.cat
      have mf0 := frozen_of_row _ _ 0 _ _ I6.out.cat
      obtain ⟨w7, hw7⟩ : ∃ w7, w6.setCell ⟨w4.heap.size, 0, none⟩ (.int .i64 gg) = w7 := ⟨_, rfl⟩
      have I7 := Lib.hid (I6.out.gen gg)
      rw [hw7] at I7
      clear hgg
      obtain ⟨a2, p2, c2, hH⟩ := varH_some bsR p1 (nm c1) topN
      have Va2 := Lib.hid hH
      clear hH
      go_wp2_with fail
      refine (rq_number w1.heap.size (some ⟨gb, off, none⟩) ca bsR p1 (nm c1) w7 I7.out.rd HM2.out a2 p2 c2 Va2.out).mono ?_
      rintro e w8 ⟨rfl, hN⟩
      have I8 := Lib.hid (I7.out.now hN)
      clear hN hw7 m0 mf0
      have T2 := Lib.hid (Twin.stp (s := (stp topN (bsR.drop 4, 0)).2) ⟨T1.out.2.1, T1.out.2.2⟩ Va2.out)
      obtain ⟨ff, hff⟩ : ∃ ff, bv a2 = ff := ⟨_, rfl⟩
      rw [hff]
      have FF := Lib.hid hff
      have m1 := cell_of_row _ _ 1 _ _ _ I8.out.cat
      have mf1 := frozen_of_row _ _ 1 _ _ I8.out.cat
      obtain ⟨w9, hw9⟩ : ∃ w9, w8.setCell ⟨w4.heap.size, 1, none⟩ (.int .i64 ff) = w9 := ⟨_, rfl⟩
      have I9 := Lib.hid (I8.out.first ff)
      rw [hw9] at I9
      clear hff
      obtain ⟨a3, p3, c3, hH⟩ := varH_some bsR p2 (nm c2) 18446744073709551615#64
      have V3 := Lib.hid hH
      clear hH
      go_wp2_with fail
      refine (q_varint w1.heap.size (some ⟨gb, off, none⟩) ca bsR p2 (nm c2) 18446744073709551615#64 w9 I9.out.rd HM2.out a3 p3 c3 V3.out).mono ?_
      rintro e wa ⟨rfl, hN⟩
      have Ia := Lib.hid (I9.out.now hN)
      clear hN hw9 m1 mf1
      obtain ⟨s2, hs2⟩ : ∃ s2, (stp topN (stp topN (bsR.drop 4, 0)).2).2 = s2 := ⟨_, rfl⟩
      have T2s : Hid (Twin bsR p2 (nm c2) s2) := Lib.hid (by rw [← hs2]; exact ⟨T2.out.2.1, T2.out.2.2⟩)
      have T3 := Lib.hid (T2s.out.stp V3.out)
      have C3 : Hid (nm c3 = c3) := Lib.hid (nm_of (varH_ne3 V3.out (nm_ne3 _)))
      have OE2 : Hid (okE s2.2) := Lib.hid (by rw [← hs2]; exact stp_okE (stp_okE (.inl rfl)))
      have RG : Hid (R64 gg ∧ R64 ff) := Lib.hid (by
        rw [← GG.out, ← FF.out]
        exact ⟨top_r64 (varH_stp Va1.out), top_r64 (varH_stp Va2.out)⟩)
      have BR : Hid (bodyR (bsR.drop 4) = endR gg ff (segsR (stp 64#64 s2).1.toNat (stp 64#64 s2).2)) := Lib.hid (by
        unfold bodyR
        simp only [hs2, ← T1.out.1, ← T2.out.1, GG.out, FF.out])
      clear hs2
      have q2 := Ia.out.rd.at2
      have hz := HZW.out wa Ia.out.low
      have HZa := Lib.hid hz
      have r0 := cell_of_row _ _ 0 _ _ _ hz
      have f0 := frozen_of_row _ _ 0 _ _ hz
      have r1 := cell_of_row _ _ 1 _ _ _ hz
      have f1 := frozen_of_row _ _ 1 _ _ hz
      have r2 := cell_of_row _ _ 2 _ _ _ hz
      have f2 := frozen_of_row _ _ 2 _ _ hz
      clear hz
      by_cases hbig : c3 = 0 ∧ 64 < bv a3
      · obtain ⟨hc3, h64⟩ := hbig
        have t1 : ((c3 : Int) == 0) = true := by simp [hc3]
        have t2 : decide (64 < bv a3) = true := decide_eq_true h64
        have E : Hid (r = catZ ∧ er = 4) := Lib.hid (by
          have e2 : (stp 18446744073709551615#64 s2).2.2 = 0 := by
            have h := T3.out.2.2
            rw [C3.out, hc3] at h
            exact nm_zero.1 h.symm
          have e3 := cnt_big e2 (by rw [← T3.out.1]; exact h64)
          have h := EB.out.symm.trans BR.out
          rw [e3, endR_bad (by exact (show (3 : Nat) ≠ 2 by decide)) (.inl (by exact (show (3 : Nat) ≠ 0 by decide)))] at h
          injection h with h3 h4
          exact ⟨h3, h4⟩)
        clear hc3 h64
        go_wp2_with fail
        refine bodyPost_ret (results_cat2 rfl _ _ w.heap.size _ _ _ rfl (cell_of_row _ _ 0 _ _ _ (put3 HZa.out _ _ _)) (cell_of_row _ _ 1 _ _ _ (put3 HZa.out _ _ _)) (cell_of_row _ _ 2 _ _ _ (put3 HZa.out _ _ _))) rfl ?_
        rw [E.out.1, E.out.2]
        exact FIN.out _ _ Ia.out.low
      · have e3 : stp 64#64 s2 = stp 18446744073709551615#64 s2 := cnt_small fun h => hbig ⟨by
          have h1 := T3.out.2.2
          rw [h.1, C3.out] at h1
          exact h1, by rw [T3.out.1]; exact h.2⟩
        obtain ⟨N, hN⟩ : ∃ N : Nat, a3.toNat = N := ⟨_, rfl⟩
        have hbv : bv a3 = (N : Int) := by rw [← hN]; rfl
        obtain ⟨s3, hs3⟩ : ∃ s3, (stp 64#64 s2).2 = s3 := ⟨_, rfl⟩
        have T3s : Hid (Twin bsR p3 c3 s3) := Lib.hid (by rw [← hs3, e3]; exact ⟨T3.out.2.1, C3.out.symm.trans T3.out.2.2⟩)
        have BR3 : Hid (bodyR (bsR.drop 4) = endR gg ff (segsR N s3)) := Lib.hid (by rw [BR.out, hs3, e3, ← T3.out.1, hN])
        have OE3 : Hid (okE s3.2) := Lib.hid (by rw [← hs3]; exact stp_okE OE2.out)
        have t9 : ((c3 : Int) == 0 && decide (64 < bv a3)) = false := by
          by_cases h : c3 = 0
          · have : ¬ 64 < bv a3 := fun h2 => hbig ⟨h, h2⟩
            simp [this]
          · simp [h]
        have hN64 : N ≤ 64 := by
          by_cases h : c3 = 0
          · have : ¬ 64 < bv a3 := fun h2 => hbig ⟨h, h2⟩
            omega
          · have h9 : a3 = 0#64 := by
              rcases V3.out with ⟨-, j, -, -, -, h1⟩ | ⟨h1, -⟩
              · exact absurd h1 h
              · exact h1
            rw [← hN, h9]; decide
        rw [hbv]
        clear hs3 hN e3 hbig
        by_cases hc3 : c3 = 0
        · subst hc3
          have t1 : (((0 : Nat) : Int) == 0) = true := by decide
          have t2 : decide (64 < (N : Int)) = false := decide_eq_false (by omega)
          clear t9 r0 r1 r2 f0 f1 f2
          simp only [Int.natCast_zero] at q2
          go_wp2_with fail
          go_loopw [8, 9] (fun i _ wr => ∃ (i' k bad : Nat) (lv : Value), i' ≤ N ∧ i = .int .u64 i' ∧ Hid (QI w1 w1.heap.size w4.heap.size (some ⟨gb, off, none⟩) ca bsR k bad gg ff lv (segsR i' s3).1 wr) ∧ Hid (Twin bsR k bad (segsR i' s3).2)) (fun i _ _ => N - (intOf i).toNat)
          case atStart => exact ⟨0, p3, _, _, Nat.zero_le _, rfl, Ia, T3s⟩
          case round =>
            obtain ⟨i', k, bad, lv, hi, rfl, HI, HT⟩ := hrel
            by_cases hb0 : bad = 0
            · subst hb0
              have q2 := HI.out.rd.at2
              by_cases hlt : i' < N
              · have kz : (i' : Int) < (N : Int) := by omega
                have bz := below_alloc wr (.cells #[.int .i64 0, .int .i64 0, .int .u32 0, .int .i64 0, .int .i64 0] 53)
                have nz := heap_alloc_new wr (.cells #[.int .i64 0, .int .i64 0, .int .u32 0, .int .i64 0, .int .i64 0] 53)
                obtain ⟨x1, hx1⟩ : ∃ x1, wr.alloc (.cells #[.int .i64 0, .int .i64 0, .int .u32 0, .int .i64 0, .int .i64 0] 53) = x1 := ⟨_, rfl⟩
                rw [hx1] at bz nz
                have Q1 := Lib.hid (show QRow x1 wr.heap.size (.int .i64 0) (.int .i64 0) (.int .u32 0) (.int .i64 0) (.int .i64 0) from ⟨nz⟩)
                have I1 := Lib.hid (HI.out.on bz)
                have ZC := Lib.hid (show w4.heap.size < wr.heap.size from heap_lt HI.out.cat)
                have ZQ := Lib.hid (show wr.heap.size ≠ w1.heap.size by have := ZC.out; have := HI.out.qC; omega)
                have ZL := Lib.hid (show lv.ownBlock ≠ some wr.heap.size from fun e => by obtain ⟨-, cur, hh⟩ := rows_blk HI.out.own e; have := heap_lt hh; omega)
                clear bz nz
                obtain ⟨b1, k1, d1, hH⟩ := varH_some bsR k 0 topN
                have Vb1 := Lib.hid hH
                clear hH
                go_wp2_with fail
                refine (rq_number w1.heap.size (some ⟨gb, off, none⟩) ca bsR k 0 x1 I1.out.rd HM2.out b1 k1 d1 Vb1.out).mono ?_
                rintro e x2 ⟨rfl, hN⟩
                have I2 := Lib.hid (I1.out.now hN)
                have Q2 := Lib.hid (Q1.out.but hN.but ZQ.out)
                clear hN
                clear hx1
                obtain ⟨z1, hz1⟩ : ∃ z, bv b1 = z := ⟨_, rfl⟩
                rw [hz1]
                have Hz1 := Lib.hid hz1
                clear hz1
                have g0 := cell_of_row _ _ 0 _ _ _ Q2.out.row
                have j0 := frozen_of_row _ _ 0 _ _ Q2.out.row
                obtain ⟨x3, hx3⟩ : ∃ x3, x2.setCell ⟨wr.heap.size, 0, none⟩ (.int .i64 z1) = x3 := ⟨_, rfl⟩
                have I3 := Lib.hid (I2.out.set (o := 0) ZC.out ZL.out (.int .i64 z1))
                have Q3 := Lib.hid (show QRow (x2.setCell ⟨wr.heap.size, 0, none⟩ (.int .i64 z1)) wr.heap.size (.int .i64 z1) (.int .i64 0) (.int .u32 0) (.int .i64 0) (.int .i64 0) from ⟨Go.Joins.block_setCell Q2.out.row _ (i := 0)⟩)
                rw [hx3] at I3 Q3
                obtain ⟨b2, k2, d2, hH⟩ := varH_some bsR k1 (nm d1) topN
                have Vb2 := Lib.hid hH
                clear hH
                go_wp2_with fail
                refine (rq_number w1.heap.size (some ⟨gb, off, none⟩) ca bsR k1 (nm d1) x3 I3.out.rd HM2.out b2 k2 d2 Vb2.out).mono ?_
                rintro e x4 ⟨rfl, hN⟩
                have I4 := Lib.hid (I3.out.now hN)
                have Q4 := Lib.hid (Q3.out.but hN.but ZQ.out)
                clear hN
                clear hx3 g0 j0
                obtain ⟨z2, hz2⟩ : ∃ z, bv b2 = z := ⟨_, rfl⟩
                rw [hz2]
                have Hz2 := Lib.hid hz2
                clear hz2
                have g1 := cell_of_row _ _ 1 _ _ _ Q4.out.row
                have j1 := frozen_of_row _ _ 1 _ _ Q4.out.row
                obtain ⟨x5, hx5⟩ : ∃ x5, x4.setCell ⟨wr.heap.size, 1, none⟩ (.int .i64 z2) = x5 := ⟨_, rfl⟩
                have I5x := Lib.hid (I4.out.set (o := 1) ZC.out ZL.out (.int .i64 z2))
                have Q5 := Lib.hid (show QRow (x4.setCell ⟨wr.heap.size, 1, none⟩ (.int .i64 z2)) wr.heap.size (.int .i64 z1) (.int .i64 z2) (.int .u32 0) (.int .i64 0) (.int .i64 0) from ⟨Go.Joins.block_setCell Q4.out.row _ (i := 1)⟩)
                rw [hx5] at I5x Q5
                obtain ⟨b3, k3, d3, hH⟩ := fixH_some bsR k2 (nm d2) 4 I4.out.rd.le
                have Vb3 := Lib.hid hH
                clear hH
                go_wp2_with fail
                refine (q_fixed w1.heap.size (some ⟨gb, off, none⟩) ca bsR k2 (nm d2) 4 x5 I5x.out.rd HM2.out (by decide) (by decide) b3 k3 d3 Vb3.out).mono ?_
                rintro e x6 ⟨rfl, hN⟩
                have I6x := Lib.hid (I5x.out.now hN)
                have Q6 := Lib.hid (Q5.out.but hN.but ZQ.out)
                clear hN hx5 g1 j1
                have g2 := cell_of_row _ _ 2 _ _ _ Q6.out.row
                have j2 := frozen_of_row _ _ 2 _ _ Q6.out.row
                obtain ⟨x7, hx7⟩ : ∃ x7, x6.setCell ⟨wr.heap.size, 2, none⟩ (.int .u32 (bv (b3.setWidth 32))) = x7 := ⟨_, rfl⟩
                have I7x := Lib.hid (I6x.out.set (o := 2) ZC.out ZL.out (.int .u32 (bv (b3.setWidth 32))))
                have Q7 := Lib.hid (show QRow (x6.setCell ⟨wr.heap.size, 2, none⟩ (.int .u32 (bv (b3.setWidth 32)))) wr.heap.size (.int .i64 z1) (.int .i64 z2) (.int .u32 (bv (b3.setWidth 32))) (.int .i64 0) (.int .i64 0) from ⟨Go.Joins.block_setCell Q6.out.row _ (i := 2)⟩)
                rw [hx7] at I7x Q7
                obtain ⟨b4, k4, d4, hH⟩ := varH_some bsR k3 d3 topN
                have Vb4 := Lib.hid hH
                clear hH
                go_wp2_with fail
                refine (rq_number w1.heap.size (some ⟨gb, off, none⟩) ca bsR k3 d3 x7 I7x.out.rd HM2.out b4 k4 d4 Vb4.out).mono ?_
                rintro e x8 ⟨rfl, hN⟩
                have I8x := Lib.hid (I7x.out.now hN)
                have Q8 := Lib.hid (Q7.out.but hN.but ZQ.out)
                clear hN
                clear hx7 g2 j2
                obtain ⟨z4, hz4⟩ : ∃ z, bv b4 = z := ⟨_, rfl⟩
                rw [hz4]
                have Hz4 := Lib.hid hz4
                clear hz4
                have g3 := cell_of_row _ _ 3 _ _ _ Q8.out.row
                have j3 := frozen_of_row _ _ 3 _ _ Q8.out.row
                obtain ⟨x9, hx9⟩ : ∃ x9, x8.setCell ⟨wr.heap.size, 3, none⟩ (.int .i64 z4) = x9 := ⟨_, rfl⟩
                have I9x := Lib.hid (I8x.out.set (o := 3) ZC.out ZL.out (.int .i64 z4))
                have Q9 := Lib.hid (show QRow (x8.setCell ⟨wr.heap.size, 3, none⟩ (.int .i64 z4)) wr.heap.size (.int .i64 z1) (.int .i64 z2) (.int .u32 (bv (b3.setWidth 32))) (.int .i64 z4) (.int .i64 0) from ⟨Go.Joins.block_setCell Q8.out.row _ (i := 3)⟩)
                rw [hx9] at I9x Q9
                obtain ⟨b5, k5, d5, hH⟩ := varH_some bsR k4 (nm d4) topN
                have Vb5 := Lib.hid hH
                clear hH
                go_wp2_with fail
                refine (rq_number w1.heap.size (some ⟨gb, off, none⟩) ca bsR k4 (nm d4) x9 I9x.out.rd HM2.out b5 k5 d5 Vb5.out).mono ?_
                rintro e y1 ⟨rfl, hN⟩
                have J1 := Lib.hid (I9x.out.now hN)
                have R1 := Lib.hid (Q9.out.but hN.but ZQ.out)
                clear hN
                clear hx9 g3 j3
                obtain ⟨z5, hz5⟩ : ∃ z, bv b5 = z := ⟨_, rfl⟩
                rw [hz5]
                have Hz5 := Lib.hid hz5
                clear hz5
                have g4 := cell_of_row _ _ 4 _ _ _ R1.out.row
                have j4 := frozen_of_row _ _ 4 _ _ R1.out.row
                obtain ⟨y2, hy2⟩ : ∃ y2, y1.setCell ⟨wr.heap.size, 4, none⟩ (.int .i64 z5) = y2 := ⟨_, rfl⟩
                have J2 := Lib.hid (J1.out.set (o := 4) ZC.out ZL.out (.int .i64 z5))
                have R2 := Lib.hid (show QRow (y1.setCell ⟨wr.heap.size, 4, none⟩ (.int .i64 z5)) wr.heap.size (.int .i64 z1) (.int .i64 z2) (.int .u32 (bv (b3.setWidth 32))) (.int .i64 z4) (.int .i64 z5) from ⟨Go.Joins.block_setCell R1.out.row _ (i := 4)⟩)
                rw [hy2] at J2 R2
                have m2 := cell_of_row _ _ 2 _ _ _ J2.out.cat
                have u0 := cell_of_row _ _ 0 _ _ _ R2.out.row
                have u1 := cell_of_row _ _ 1 _ _ _ R2.out.row
                have u2 := cell_of_row _ _ 2 _ _ _ R2.out.row
                have u3 := cell_of_row _ _ 3 _ _ _ R2.out.row
                have u4 := cell_of_row _ _ 4 _ _ _ R2.out.row
                have bN := below_alloc y2 (.cells #[.int .i64 z1, .int .i64 z2, .int .u32 (bv (b3.setWidth 32)), .int .i64 z4, .int .i64 z5] 53)
                have SEG : Hid ((segR (segsR i' s3).2).1 = ⟨z1, z2, b3.setWidth 32, z4, z5⟩ ∧ bsR.drop k5 = (segR (segsR i' s3).2).2.1 ∧ nm d5 = nm (segR (segsR i' s3).2).2.2) := Lib.hid (by
                  obtain ⟨e1, r1, s1⟩ := HT.out.stp Vb1.out
                  obtain ⟨e2, r2, s2'⟩ := Twin.stp (s := (stp topN (segsR i' s3).2).2) ⟨r1, s1⟩ Vb2.out
                  obtain ⟨e3, r3, s3'⟩ := Twin.fx4 (s := (stp topN (stp topN (segsR i' s3).2).2).2) ⟨r2, s2'⟩ Vb3.out
                  have d33 : nm d3 = d3 := nm_of (by
                    rcases Vb3.out with ⟨-, -, -, -, h⟩ | ⟨-, -, -, ⟨-, -, h⟩ | h⟩
                    · omega
                    · omega
                    · rw [← h]; exact nm_ne3 _)
                  obtain ⟨e4, r4, s4⟩ := Twin.stp (s := (fx4 (stp topN (stp topN (segsR i' s3).2).2).2).2) ⟨r3, d33.symm.trans s3'⟩ Vb4.out
                  obtain ⟨e5, r5, s5⟩ := Twin.stp (s := (stp topN (fx4 (stp topN (stp topN (segsR i' s3).2).2).2).2).2) ⟨r4, s4⟩ Vb5.out
                  refine ⟨?_, r5, s5⟩
                  unfold segR
                  simp only [← e1, ← e2, ← e3, ← e4, ← e5, Hz1.out, Hz2.out, Hz4.out, Hz5.out])
                have IN := Lib.hid (J2.out.on bN)
                have SG : Hid (SegsAt (y2.alloc (.cells #[.int .i64 z1, .int .i64 z2, .int .u32 (bv (b3.setWidth 32)), .int .i64 z4, .int .i64 z5] 53)) (some ⟨y2.heap.size, 0, none⟩) [⟨z1, z2, b3.setWidth 32, z4, z5⟩]) := Lib.hid fun i hi => by
                  obtain rfl : i = 0 := by simp at hi; exact hi
                  have h := segR_ok (segsR i' s3).2
                  rw [SEG.out.1] at h
                  exact ⟨h, y2.heap.size, 0, rfl, seg_new y2 ⟨z1, z2, b3.setWidth 32, z4, z5⟩ _⟩
                have SZ := Lib.hid (show w4.heap.size + 1 ≤ (y2.alloc (.cells #[.int .i64 z1, .int .i64 z2, .int .u32 (bv (b3.setWidth 32)), .int .i64 z4, .int .i64 z5] 53)).heap.size from heap_lt IN.out.cat)
                have LEN : Hid ((segsR i' s3).1.length + [(⟨z1, z2, b3.setWidth 32, z4, z5⟩ : SegV)].length ≤ 3518437208883) := Lib.hid (by rw [segsR_len]; simp; omega)
                clear bN
                go_wp2_with (refine wpList_append_segs (o := ⟨some 88, _, _, _, _, _⟩) rfl _ _ rfl (w4.heap.size + 1) lv (segsR i' s3).1 rfl IN.out.own (some ⟨y2.heap.size, 0, none⟩) 1 1 [⟨z1, z2, b3.setWidth 32, z4, z5⟩] rfl rfl SG.out (fun e => by cases e) LEN.out SZ.out ?_)
                intro lv' xa hoa hga
                have SN : (segsR (i' + 1) s3).1 = (segsR i' s3).1 ++ [⟨z1, z2, b3.setWidth 32, z4, z5⟩] ∧ (segsR (i' + 1) s3).2 = (segR (segsR i' s3).2).2 := by
                  rw [segsR_snoc, SEG.out.1]; exact ⟨rfl, rfl⟩
                have HN1 := Lib.hid SN
                have IP := Lib.hid (show QI w1 w1.heap.size w4.heap.size (some ⟨gb, off, none⟩) ca bsR k5 (nm d5) gg ff lv' (segsR (i' + 1) s3).1 (xa.setCell ⟨w4.heap.size, 2, none⟩ lv') by rw [HN1.out.1]; exact IN.out.push hoa hga)
                have TP : Hid (Twin bsR k5 (nm d5) (segsR (i' + 1) s3).2) := Lib.hid (by rw [HN1.out.2]; exact SEG.out.2)
                have hC2 := (hga.block w4.heap.size (heap_lt IN.out.cat) (fun e => by have := (rows_blk IN.out.own e.symm).1; omega)).trans IN.out.cat
                have n2 := cell_of_row _ _ 2 _ _ _ hC2
                have nf2 := frozen_of_row _ _ 2 _ _ hC2
                obtain ⟨alv, clv, hlv, -⟩ := hoa.there (ok_append (segsR_ok i' s3) (ok_of_at SG.out)) (by have := LEN.out; rw [List.length_append]; omega)
                generalize hLN : ((segsR i' s3).1 ++ [(⟨z1, z2, b3.setWidth 32, z4, z5⟩ : SegV)]).length = LN at hlv
                subst hlv
                clear SN hoa hga hC2 hLN m2 u0 u1 u2 u3 u4 g4 j4
                go_wp2_with fail
                go_roundw
                case rel => exact ⟨i' + 1, k5, nm d5, _, by omega, by go_num, IP.out, TP.out⟩
                case measure => simp [intOf]; omega
              · have kz : ¬ (i' : Int) < (N : Int) := by omega
                have t4 : ((0 : Int) != 0) = false := by decide
                obtain rfl : i' = N := by omega
                have q1 := HI.out.rd.at1
                have q2 := HI.out.rd.at2
                have le := HI.out.rd.le
                have ER : Hid ((r, er) = endR gg ff (segsR i' s3)) := Lib.hid (EB.out.symm.trans BR3.out)
                have ZE : Hid ((segsR i' s3).2.2 = 0) := Lib.hid (nm_zero.1 HT.out.2.symm)
                have m0 := cell_of_row _ _ 0 _ _ _ HI.out.cat
                have m1 := cell_of_row _ _ 1 _ _ _ HI.out.cat
                have m2 := cell_of_row _ _ 2 _ _ _ HI.out.cat
                have hz := HZW.out wr HI.out.low
                have HX := Lib.hid hz
                have r0 := cell_of_row _ _ 0 _ _ _ hz
                have f0 := frozen_of_row _ _ 0 _ _ hz
                have r1 := cell_of_row _ _ 1 _ _ _ hz
                have f1 := frozen_of_row _ _ 1 _ _ hz
                have r2 := cell_of_row _ _ 2 _ _ _ hz
                have f2 := frozen_of_row _ _ 2 _ _ hz
                clear hz
                by_cases hk : k < p + 4
                · have t6 : decide ((k : Int) < (p : Int) + 4) = true := decide_eq_true (by omega)
                  have t7 : (k : Int) < (p : Int) + 8 - 4 := by omega
                  have E : Hid (r = catZ ∧ er = 4) := Lib.hid (by
                    have h := ER.out
                    rw [endR_bad (by rw [ZE.out]; decide) (.inr (.inl (by rw [← HT.out.1]; intro h9; have h8 := congrArg List.length h9; rw [List.length_drop, LR.out] at h8; simp at h8; omega)))] at h
                    injection h with h3 h4
                    exact ⟨h3, h4⟩)
                  go_wp2_with fail
                  refine bodyPost_ret (results_cat2 rfl _ _ w.heap.size _ _ _ rfl (cell_of_row _ _ 0 _ _ _ (put3 HX.out _ _ _)) (cell_of_row _ _ 1 _ _ _ (put3 HX.out _ _ _)) (cell_of_row _ _ 2 _ _ _ (put3 HX.out _ _ _))) rfl ?_
                  rw [E.out.1, E.out.2]
                  exact FIN.out _ _ HI.out.low
                · have t6 : decide ((k : Int) < (p : Int) + 4) = false := decide_eq_false (by omega)
                  have t7 : ¬ (k : Int) < (p : Int) + 8 - 4 := by omega
                  have DR : Hid (bsR.drop k = []) := Lib.hid (List.drop_eq_nil_of_le (by have := LR.out; omega))
                  obtain ⟨t, ht⟩ : ∃ t : Bool, t = true ↔ MayC ⟨gg, ff, (segsR i' s3).1⟩ := by
                    by_cases h : MayC ⟨gg, ff, (segsR i' s3).1⟩
                    · exact ⟨true, by simp [h]⟩
                    · exact ⟨false, by simp [h]⟩
                  have HTT := Lib.hid ht
                  have FEW : Hid ((segsR i' s3).1.length ≤ 140737488355328) := Lib.hid (by rw [segsR_len]; omega)
                  have CA := Lib.hid (CatAt.of_own HI.out.own (segsR_ok _ _) FEW.out RG.out.1 RG.out.2)
                  clear ht
                  obtain ⟨alv, clv, hlv, -⟩ := HI.out.own.there (segsR_ok _ _) FEW.out
                  generalize (segsR i' s3).1.length = LN at hlv
                  subst hlv
                  go_wp2_with fail
                  refine (ref_may _ _ _ CA.out t HTT.out).mono ?_
                  rintro e xz ⟨rfl, hbz⟩
                  have I11 := Lib.hid (HI.out.on hbz)
                  have hz := HZW.out xz I11.out.low
                  have HXZ := Lib.hid hz
                  clear hbz r0 r1 r2 f0 f1 f2 m0 m1 m2 q1 q2
                  have r0 := cell_of_row _ _ 0 _ _ _ hz
                  have f0 := frozen_of_row _ _ 0 _ _ hz
                  have r1 := cell_of_row _ _ 1 _ _ _ hz
                  have f1 := frozen_of_row _ _ 1 _ _ hz
                  have r2 := cell_of_row _ _ 2 _ _ _ hz
                  have f2 := frozen_of_row _ _ 2 _ _ hz
                  have m0 := cell_of_row _ _ 0 _ _ _ I11.out.cat
                  have m1 := cell_of_row _ _ 1 _ _ _ I11.out.cat
                  have m2 := cell_of_row _ _ 2 _ _ _ I11.out.cat
                  clear hz
                  cases t
                  · have E : Hid (r = catZ ∧ er = 4) := Lib.hid (by
                      have h := ER.out
                      rw [endR_bad (by rw [ZE.out]; decide) (.inr (.inr fun h => absurd (HTT.out.2 h) (by simp)))] at h
                      injection h with h3 h4
                      exact ⟨h3, h4⟩)
                    go_wp2_with fail
                    refine bodyPost_ret (results_cat2 rfl _ _ w.heap.size _ _ _ rfl (cell_of_row _ _ 0 _ _ _ (put3 HXZ.out _ _ _)) (cell_of_row _ _ 1 _ _ _ (put3 HXZ.out _ _ _)) (cell_of_row _ _ 2 _ _ _ (put3 HXZ.out _ _ _))) rfl ?_
                    rw [E.out.1, E.out.2]
                    exact FIN.out _ _ I11.out.low
                  · have E : Hid (r = ⟨gg, ff, (segsR i' s3).1⟩ ∧ er = 0) := Lib.hid (by
                      have h := ER.out
                      rw [endR_ok ZE.out (by rw [← HT.out.1]; exact DR.out) (HTT.out.1 rfl)] at h
                      injection h with h3 h4
                      exact ⟨h3, h4⟩)
                    have LB := Lib.hid (show w.heap.size < w4.heap.size by have := heap_lt HZ.out; have := I11.out.qC; have := I11.out.lb; omega)
                    go_wp2_with fail
                    refine bodyPost_ret (results_cat2 rfl _ _ w.heap.size _ _ _ rfl (cell_of_row _ _ 0 _ _ _ (put3 HXZ.out _ _ _)) (cell_of_row _ _ 1 _ _ _ (put3 HXZ.out _ _ _)) (cell_of_row _ _ 2 _ _ _ (put3 HXZ.out _ _ _))) rfl ?_
                    rw [E.out.1, E.out.2]
                    refine ⟨_, rfl, ⟨⟨_, rfl, OwnS.base (base := w4.heap.size + 1) ?_ (by have := LB.out; omega)⟩, ⟨RG.out.1, RG.out.2, segsR_ok _ _⟩, FEW.out⟩, put3_below (below_trans HB.out I11.out.low) (Nat.le_refl _) _ _ _⟩
                    exact rows_congr I11.out.own fun z hz => put3_off (by have := (rows_blk I11.out.own hz).1; have := LB.out; omega) _ _ _
            · have q2 := HI.out.rd.at2
              have tb : ((bad : Int) == 0) = false := by simp [hb0]
              by_cases hlt : i' < N
              · have kz : (i' : Int) < (N : Int) := by omega
                have t4 : ((bad : Int) != 0) = true := by simp [hb0]
                have E : Hid (r = catZ ∧ er = bad) := Lib.hid (by
                  have h := EB.out.symm.trans BR3.out
                  have hs : (segsR N s3).2 = (segsR i' s3).2 := segsR_stuck hi (fun h2 => hb0 (by rw [HT.out.2, h2]; rfl))
                  have hn : bad = nm (segsR N s3).2.2 := by rw [hs]; exact HT.out.2
                  rcases segsR_okE N OE3.out with h1 | h1 | h1 | h1
                  · exact absurd (by rw [hn, h1]; rfl) hb0
                  · rw [endR_short h1] at h
                    injection h with h3 h4
                    exact ⟨h3, by rw [h4, hn, h1]; rfl⟩
                  · rw [endR_bad (by omega) (.inl (by omega))] at h
                    injection h with h3 h4
                    exact ⟨h3, by rw [h4, hn, h1]; rfl⟩
                  · rw [endR_bad (by omega) (.inl (by omega))] at h
                    injection h with h3 h4
                    exact ⟨h3, by rw [h4, hn, h1]; rfl⟩)
                have q2 := HI.out.rd.at2
                have QB := Lib.hid (show w1.heap.size ≠ w.heap.size by have := heap_lt HZ.out; omega)
                have hz := HZW.out wr HI.out.low
                have HX := Lib.hid hz
                have q2s := (show ((((wr.drew.setCell ⟨w.heap.size, 0, none⟩ (.int .i64 0)).setCell ⟨w.heap.size, 1, none⟩ (.int .i64 0)).setCell ⟨w.heap.size, 2, none⟩ (.slice none 0 0)).cell? ⟨w1.heap.size, 2, none⟩ = some (.int .i64 bad)) from (World.cell?_of_block (a := ⟨w1.heap.size, 2, none⟩) (put3_off (W := wr.drew) (n := w1.heap.size) (fun e => QB.out e.symm) _ _ _)).trans q2)
                have Q2 := Lib.hid q2
                have Q2S := Lib.hid q2s
                have qs : ∀ p : In (fun w' => w'.cell? ⟨w1.heap.size, 2, none⟩ = some (.int .i64 bad)), p.w.cell? ⟨w1.heap.size, 2, none⟩ = some (.int .i64 bad) := fun p => p.h
                clear hb0 q2s
                have r0 := cell_of_row _ _ 0 _ _ _ hz
                have f0 := frozen_of_row _ _ 0 _ _ hz
                have r1 := cell_of_row _ _ 1 _ _ _ hz
                have f1 := frozen_of_row _ _ 1 _ _ hz
                have r2 := cell_of_row _ _ 2 _ _ _ hz
                have f2 := frozen_of_row _ _ 2 _ _ hz
                clear hz
                go_wp2_with fail
                refine wp_region_mixed [1, 2, 3, 4, 0, 5, 6] (fun w' => w'.cell? ⟨w1.heap.size, 2, none⟩ = some (.int .i64 bad)) (by kernel_rfl) (by kernel_rfl) (by intro c a d v w h; cases d <;> exact h) Q2.out ?_
                intro hne
                simp only [pick, List.map_cons, List.map_nil, List.getD_cons_zero, List.getD_cons_succ]
                refine wpMix_reads 4 _ (by kernel_rfl) ?_
                simp only [List.take_succ_cons, List.take_zero, List.drop_succ_cons, List.drop_zero]
                repeat (go_big_quiet_step (fail))
                refine wpQuiet_nil ?_
                refine wpMix_act rfl ?_ rfl
                go_wp2_with fail
                refine ⟨⟨⟨wr.drew, Q2.out⟩, rfl⟩, ?_⟩
                refine wpMix_act rfl ?_ rfl
                go_wp2_with fail
                refine ⟨⟨⟨_, Q2S.out⟩, rfl⟩, ?_⟩
                refine wpMix_reads 1 _ (by kernel_rfl) ?_
                simp only [List.take_succ_cons, List.take_zero, List.drop_succ_cons, List.drop_zero]
                repeat (go_big_quiet_step (fail))
                refine wpQuiet_nil ?_
                refine wpMix_nil ?_
                clear hne qs
                go_wp2_with fail
                have HXD := Lib.hid (show wr.drew.heap[w.heap.size]? = some (.cells #[.int .i64 0, .int .i64 0, .slice none 0 0] 29 (0, 0)) from HX.out)
                refine bodyPost_ret (results_cat2 rfl _ _ w.heap.size _ _ _ rfl (cell_of_row _ _ 0 _ _ _ (put3 HXD.out _ _ _)) (cell_of_row _ _ 1 _ _ _ (put3 HXD.out _ _ _)) (cell_of_row _ _ 2 _ _ _ (put3 HXD.out _ _ _))) rfl ?_
                rw [E.out.1, E.out.2]
                exact FIN.out _ _ (below_trans HI.out.low (below_drew _))
              · have kz : ¬ (i' : Int) < (N : Int) := by omega
                have t4 : ((bad : Int) != 0) = true := by simp [hb0]
                have E : Hid (r = catZ ∧ er = bad) := Lib.hid (by
                  have h := EB.out.symm.trans BR3.out
                  have hs : (segsR N s3).2 = (segsR i' s3).2 := segsR_stuck hi (fun h2 => hb0 (by rw [HT.out.2, h2]; rfl))
                  have hn : bad = nm (segsR N s3).2.2 := by rw [hs]; exact HT.out.2
                  rcases segsR_okE N OE3.out with h1 | h1 | h1 | h1
                  · exact absurd (by rw [hn, h1]; rfl) hb0
                  · rw [endR_short h1] at h
                    injection h with h3 h4
                    exact ⟨h3, by rw [h4, hn, h1]; rfl⟩
                  · rw [endR_bad (by omega) (.inl (by omega))] at h
                    injection h with h3 h4
                    exact ⟨h3, by rw [h4, hn, h1]; rfl⟩
                  · rw [endR_bad (by omega) (.inl (by omega))] at h
                    injection h with h3 h4
                    exact ⟨h3, by rw [h4, hn, h1]; rfl⟩)
                have q2 := HI.out.rd.at2
                have QB := Lib.hid (show w1.heap.size ≠ w.heap.size by have := heap_lt HZ.out; omega)
                have hz := HZW.out wr HI.out.low
                have HX := Lib.hid hz
                have q2s := (show ((((wr.drew.setCell ⟨w.heap.size, 0, none⟩ (.int .i64 0)).setCell ⟨w.heap.size, 1, none⟩ (.int .i64 0)).setCell ⟨w.heap.size, 2, none⟩ (.slice none 0 0)).cell? ⟨w1.heap.size, 2, none⟩ = some (.int .i64 bad)) from (World.cell?_of_block (a := ⟨w1.heap.size, 2, none⟩) (put3_off (W := wr.drew) (n := w1.heap.size) (fun e => QB.out e.symm) _ _ _)).trans q2)
                have Q2 := Lib.hid q2
                have Q2S := Lib.hid q2s
                have qs : ∀ p : In (fun w' => w'.cell? ⟨w1.heap.size, 2, none⟩ = some (.int .i64 bad)), p.w.cell? ⟨w1.heap.size, 2, none⟩ = some (.int .i64 bad) := fun p => p.h
                clear hb0 q2s
                have r0 := cell_of_row _ _ 0 _ _ _ hz
                have f0 := frozen_of_row _ _ 0 _ _ hz
                have r1 := cell_of_row _ _ 1 _ _ _ hz
                have f1 := frozen_of_row _ _ 1 _ _ hz
                have r2 := cell_of_row _ _ 2 _ _ _ hz
                have f2 := frozen_of_row _ _ 2 _ _ hz
                clear hz
                go_wp2_with fail
                refine wp_region_mixed [1, 2, 3, 4, 0, 5, 6] (fun w' => w'.cell? ⟨w1.heap.size, 2, none⟩ = some (.int .i64 bad)) (by kernel_rfl) (by kernel_rfl) (by intro c a d v w h; cases d <;> exact h) Q2.out ?_
                intro hne
                simp only [pick, List.map_cons, List.map_nil, List.getD_cons_zero, List.getD_cons_succ]
                refine wpMix_reads 4 _ (by kernel_rfl) ?_
                simp only [List.take_succ_cons, List.take_zero, List.drop_succ_cons, List.drop_zero]
                repeat (go_big_quiet_step (fail))
                refine wpQuiet_nil ?_
                refine wpMix_act rfl ?_ rfl
                go_wp2_with fail
                refine ⟨⟨⟨wr.drew, Q2.out⟩, rfl⟩, ?_⟩
                refine wpMix_act rfl ?_ rfl
                go_wp2_with fail
                refine ⟨⟨⟨_, Q2S.out⟩, rfl⟩, ?_⟩
                refine wpMix_reads 1 _ (by kernel_rfl) ?_
                simp only [List.take_succ_cons, List.take_zero, List.drop_succ_cons, List.drop_zero]
                repeat (go_big_quiet_step (fail))
                refine wpQuiet_nil ?_
                refine wpMix_nil ?_
                clear hne qs
                go_wp2_with fail
                have HXD := Lib.hid (show wr.drew.heap[w.heap.size]? = some (.cells #[.int .i64 0, .int .i64 0, .slice none 0 0] 29 (0, 0)) from HX.out)
                refine bodyPost_ret (results_cat2 rfl _ _ w.heap.size _ _ _ rfl (cell_of_row _ _ 0 _ _ _ (put3 HXD.out _ _ _)) (cell_of_row _ _ 1 _ _ _ (put3 HXD.out _ _ _)) (cell_of_row _ _ 2 _ _ _ (put3 HXD.out _ _ _))) rfl ?_
                rw [E.out.1, E.out.2]
                exact FIN.out _ _ (below_trans HI.out.low (below_drew _))
        · have t1 : ((c3 : Int) == 0) = false := by simp [hc3]
          have hN0 : N = 0 := by
            rcases V3.out with ⟨-, j, -, -, -, h1⟩ | ⟨h1, -⟩
            · exact absurd h1 hc3
            · rw [h1] at hbv; have : bv (0#64) = 0 := rfl; omega
          clear t9 r0 r1 r2 f0 f1 f2
          go_wp2_with fail
          go_loopw [8, 9] (fun i _ wr => ∃ (i' k bad : Nat) (lv : Value), i' ≤ N ∧ i = .int .u64 i' ∧ Hid (QI w1 w1.heap.size w4.heap.size (some ⟨gb, off, none⟩) ca bsR k bad gg ff lv (segsR i' s3).1 wr) ∧ Hid (Twin bsR k bad (segsR i' s3).2)) (fun i _ _ => N - (intOf i).toNat)
          case atStart => exact ⟨0, p3, _, _, Nat.zero_le _, rfl, Ia, T3s⟩
          case round =>
            obtain ⟨i', k, bad, lv, hi, rfl, HI, HT⟩ := hrel
            have hb0 : ¬ bad = 0 := fun h => by
              have h1 := HT.out.2
              rw [h] at h1
              have h2 := nm_zero.1 h1.symm
              have h3 : (segsR i' s3).2 = s3 := segsR_bad i' (fun h4 => hc3 (by rw [T3s.out.2, h4]; rfl))
              rw [h3] at h2
              exact hc3 (by rw [T3s.out.2, h2]; rfl)
            have q2 := HI.out.rd.at2
            have tb : ((bad : Int) == 0) = false := by simp [hb0]
            have hlt : ¬ i' < N := by omega
            have t4 : ((bad : Int) != 0) = true := by simp [hb0]
            have E : Hid (r = catZ ∧ er = bad) := Lib.hid (by
              have h := EB.out.symm.trans BR3.out
              have hs : (segsR N s3).2 = (segsR i' s3).2 := segsR_stuck hi (fun h2 => hb0 (by rw [HT.out.2, h2]; rfl))
              have hn : bad = nm (segsR N s3).2.2 := by rw [hs]; exact HT.out.2
              rcases segsR_okE N OE3.out with h1 | h1 | h1 | h1
              · exact absurd (by rw [hn, h1]; rfl) hb0
              · rw [endR_short h1] at h
                injection h with h3 h4
                exact ⟨h3, by rw [h4, hn, h1]; rfl⟩
              · rw [endR_bad (by omega) (.inl (by omega))] at h
                injection h with h3 h4
                exact ⟨h3, by rw [h4, hn, h1]; rfl⟩
              · rw [endR_bad (by omega) (.inl (by omega))] at h
                injection h with h3 h4
                exact ⟨h3, by rw [h4, hn, h1]; rfl⟩)
            have q2 := HI.out.rd.at2
            have QB := Lib.hid (show w1.heap.size ≠ w.heap.size by have := heap_lt HZ.out; omega)
            have hz := HZW.out wr HI.out.low
            have HX := Lib.hid hz
            have q2s := (show ((((wr.drew.setCell ⟨w.heap.size, 0, none⟩ (.int .i64 0)).setCell ⟨w.heap.size, 1, none⟩ (.int .i64 0)).setCell ⟨w.heap.size, 2, none⟩ (.slice none 0 0)).cell? ⟨w1.heap.size, 2, none⟩ = some (.int .i64 bad)) from (World.cell?_of_block (a := ⟨w1.heap.size, 2, none⟩) (put3_off (W := wr.drew) (n := w1.heap.size) (fun e => QB.out e.symm) _ _ _)).trans q2)
            have Q2 := Lib.hid q2
            have Q2S := Lib.hid q2s
            have qs : ∀ p : In (fun w' => w'.cell? ⟨w1.heap.size, 2, none⟩ = some (.int .i64 bad)), p.w.cell? ⟨w1.heap.size, 2, none⟩ = some (.int .i64 bad) := fun p => p.h
            clear hb0 q2s
            have r0 := cell_of_row _ _ 0 _ _ _ hz
            have f0 := frozen_of_row _ _ 0 _ _ hz
            have r1 := cell_of_row _ _ 1 _ _ _ hz
            have f1 := frozen_of_row _ _ 1 _ _ hz
            have r2 := cell_of_row _ _ 2 _ _ _ hz
            have f2 := frozen_of_row _ _ 2 _ _ hz
            clear hz
            go_wp2_with fail
            refine wp_region_mixed [1, 2, 3, 4, 0, 5, 6] (fun w' => w'.cell? ⟨w1.heap.size, 2, none⟩ = some (.int .i64 bad)) (by kernel_rfl) (by kernel_rfl) (by intro c a d v w h; cases d <;> exact h) Q2.out ?_
            intro hne
            simp only [pick, List.map_cons, List.map_nil, List.getD_cons_zero, List.getD_cons_succ]
            refine wpMix_reads 4 _ (by kernel_rfl) ?_
            simp only [List.take_succ_cons, List.take_zero, List.drop_succ_cons, List.drop_zero]
            repeat (go_big_quiet_step (fail))
            refine wpQuiet_nil ?_
            refine wpMix_act rfl ?_ rfl
            go_wp2_with fail
            refine ⟨⟨⟨wr.drew, Q2.out⟩, rfl⟩, ?_⟩
            refine wpMix_act rfl ?_ rfl
            go_wp2_with fail
            refine ⟨⟨⟨_, Q2S.out⟩, rfl⟩, ?_⟩
            refine wpMix_reads 1 _ (by kernel_rfl) ?_
            simp only [List.take_succ_cons, List.take_zero, List.drop_succ_cons, List.drop_zero]
            repeat (go_big_quiet_step (fail))
            refine wpQuiet_nil ?_
            refine wpMix_nil ?_
            clear hne qs
            go_wp2_with fail
            have HXD := Lib.hid (show wr.drew.heap[w.heap.size]? = some (.cells #[.int .i64 0, .int .i64 0, .slice none 0 0] 29 (0, 0)) from HX.out)
            refine bodyPost_ret (results_cat2 rfl _ _ w.heap.size _ _ _ rfl (cell_of_row _ _ 0 _ _ _ (put3 HXD.out _ _ _)) (cell_of_row _ _ 1 _ _ _ (put3 HXD.out _ _ _)) (cell_of_row _ _ 2 _ _ _ (put3 HXD.out _ _ _))) rfl ?_
            rw [E.out.1, E.out.2]
            exact FIN.out _ _ (below_trans HI.out.low (below_drew _))
    · have t5 : (lv != sm.setWidth 64) = true := by simp [hq]
      have E : Hid (r = catZ ∧ er = 5) := Lib.hid (by
        have h := HR.out.symm.trans CR.out
        rw [if_pos hq] at h
        injection h with h3 h4
        exact ⟨h3, h4⟩)
      clear hq
      go_wp2_with fail
      refine ⟨⟨⟨_, trivial⟩, rfl⟩, ?_⟩
      refine wpMix_reads 2 _ (by kernel_rfl) ?_
      simp only [List.take_succ_cons, List.take_zero, List.drop_succ_cons, List.drop_zero]
      repeat (go_big_quiet_step (fail))
      refine wpQuiet_nil ?_
      refine wpMix_nil ?_
      clear hne
      go_wp2_with fail
      refine bodyPost_ret (results_cat2 rfl _ _ w.heap.size _ _ _ rfl (cell_of_row _ _ 0 _ _ _ (put3 HZ1.out _ _ _)) (cell_of_row _ _ 1 _ _ _ (put3 HZ1.out _ _ _)) (cell_of_row _ _ 2 _ _ _ (put3 HZ1.out _ _ _))) rfl ?_
      rw [E.out.1, E.out.2]
      exact FIN.out _ _ (below_drew w1)
  · obtain ⟨S, hS⟩ : ∃ S, strB (bs.take 4) = S := ⟨_, rfl⟩
    have hne : ¬ S = ⟨#[70, 67, 65, 84]⟩ := fun h => hmg (strB_inj (by rw [hS, h, strB_fcat]))
    have E : Hid (r = catZ ∧ er = 4) := Lib.hid (by
      have h := HR.out
      unfold catR at h
      rw [if_neg HL8.out, if_pos hmg] at h
      injection h with h3 h4
      exact ⟨h3.symm, h4.symm⟩)
    have tS : (S.toList == [70, 67, 65, 84]) = false := beq_false_of_ne fun h => by
      rw [ByteArray.toList_eq] at h
      exact hne (fcat_data h)
    rw [hS] at kcs
    clear hS hne hmg
    go_wp2_with fail
    refine bodyPost_ret (results_cat2 rfl _ _ w.heap.size _ _ _ rfl (cell_of_row _ _ 0 _ _ _ (put3 HZ.out _ _ _)) (cell_of_row _ _ 1 _ _ _ (put3 HZ.out _ _ _)) (cell_of_row _ _ 2 _ _ _ (put3 HZ.out _ _ _))) rfl ?_
    rw [E.out.1, E.out.2]
    exact FIN.out _ _ (Below.refl _ _)
theorem ref_cat_read (ao : Option Addr) (bs : List (BitVec 8)) (n ca : Nat) (w : World) (hb : BytesAt w ao bs) (hn : bs.length = n) (hc : n ≤ ca) (hcm : ca ≤ 9223372036854775807) (hm : n ≤ 140737488351232) (r : CatV) (er : Int) (hr : catR bs = (r, er)) :
    Calls Try.prog 33 #[.slice ao n ca] w (BodyB w r er) := by
  by_cases h : n < 8
  · have e : catR bs = (catZ, 2) := by unfold catR; rw [if_pos (by omega)]
    rw [e] at hr
    injection hr with h1 h2
    subst h1 h2
    exact ref_cat_short ao n ca w h
  · obtain ⟨p, rfl⟩ : ∃ p, n = p + 8 := ⟨n - 8, by omega⟩
    obtain ⟨gb, off, rfl, -⟩ := hb 0 (by omega)
    exact ref_cat_long gb off p ca bs w hb hn hc hcm hm r er hr
end Go.Proofs.Ytmkljmljbbijeaa

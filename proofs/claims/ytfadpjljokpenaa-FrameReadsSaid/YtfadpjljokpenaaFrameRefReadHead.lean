/- The walk of the document's reading of heads. -/
import Derived.Test.YtfadpjljokpenaaFrameReadHead
import Derived.Test.YtfadpjljokpenaaMixed
namespace Go.Proofs.Ytfadpjljokpenaa
open Go.RowKit

theorem ref_sum_n (ao : Option Addr) (bs : List (BitVec 8)) (n cap : Nat) (w : World) (hb : BytesAt w ao bs) (hn : bs.length = n) (hm : n ≤ 140737488351232) :
    Calls Try.prog 72 #[.slice ao n cap] w fun e w' => e = .returned (.int .u32 (bv (Crc.sum bs))) ∧ w = w' := by
  subst hn; exact ref_sum ao bs cap w hb hm

set_option maxHeartbeats 4000000 in
set_option maxRecDepth 100000 in
theorem ref_read_head (ao : Option Addr) (bs : List (BitVec 8)) (cap : Nat) (w : World) (hb : BytesAt w ao bs) (hc : bs.length ≤ cap) (hm : cap ≤ 9223372036854775807) :
    Calls Try.prog 31 #[.slice ao bs.length cap] w (ReadHeadB w (rH bs)) := by
  by_cases h0 : bs.length < 32
  · have E : Hid (rH bs = Hd.bad 2) := Lib.hid (by unfold rH; rw [if_pos h0])
    have X := Lib.hid (hbox_new w)
    clear hb
    go_enter Try.func31, Try.ntmps31
    go_wp2_with fail
    refine bodyPost_ret (results_head2 rfl _ _ w.heap.size _ _ _ rfl X.out.a0 X.out.a1 X.out.a2) rfl ?_
    rw [E.out]
    exact ⟨rfl, X.out.below⟩
  · obtain ⟨gb, off, rfl, -⟩ := hb 0 (by omega)
    have HB := Lib.hid hb
    obtain ⟨wa, hwa⟩ : ∃ wa, w.alloc (.cells #[.int .i64 0, .int .i64 0, .int .u32 0] 50) = wa := ⟨_, rfl⟩
    have X := Lib.hid (hwa ▸ hbox_new w)
    have Y := Lib.hid ((hbox_new wa).on (below_drew _))
    have RB := Lib.hid ((hb.below X.out.below).below (below_trans (below_alloc wa (.cells #[.int .i64 0, .int .i64 0, .int .u32 0] 50)) (below_drew _)))
    obtain ⟨x, hx⟩ : ∃ x : BitVec 64, leB ((bs.drop 8).take 8) = x := ⟨_, rfl⟩
    obtain ⟨y, hy⟩ : ∃ y : BitVec 64, leB ((bs.drop 16).take 8) = y := ⟨_, rfl⟩
    obtain ⟨q, hq⟩ : ∃ q : BitVec 64, leB ((bs.drop 24).take 4) = q := ⟨_, rfl⟩
    obtain ⟨M, hM⟩ : ∃ M : Nat, leN ((bs.drop 28).take 4) = M := ⟨_, rfl⟩
    obtain ⟨s, hs⟩ : ∃ s : BitVec 32, q.setWidth 32 = s := ⟨_, rfl⟩
    obtain ⟨z1, hz1⟩ : ∃ z, IntKind.i64.wrap (bv x) = z := ⟨_, rfl⟩
    obtain ⟨z2, hz2⟩ : ∃ z, IntKind.i64.wrap (bv y) = z := ⟨_, rfl⟩
    have HX := Lib.hid hx
    have HY := Lib.hid hy
    have HQ := Lib.hid hq
    have HSS := Lib.hid hs
    have HMm := Lib.hid hM
    have RX := Lib.hid (show 0 ≤ bv x ∧ bv x < 18446744073709551616 from bv_range x)
    have RY := Lib.hid (show 0 ≤ bv y ∧ bv y < 18446744073709551616 from bv_range y)
    have OX : Hid (okN ((bs.drop 8).take 8) ↔ 1 ≤ bv x ∧ bv x ≤ 9223372036854775807) := Lib.hid (by unfold okN bv; rw [← hx, leB_lt (by simp; omega)]; omega)
    have OY : Hid (okN ((bs.drop 16).take 8) ↔ 1 ≤ bv y ∧ bv y ≤ 9223372036854775807) := Lib.hid (by unfold okN bv; rw [← hy, leB_lt (by simp; omega)]; omega)
    have Z1 : Hid (z1 = if bv x ≤ 9223372036854775807 then bv x else bv x - 18446744073709551616) := Lib.hid (by have := RX.out; rw [← hz1, IntKind.wrap_i64]; split <;> omega)
    have Z2 : Hid (z2 = if bv y ≤ 9223372036854775807 then bv y else bv y - 18446744073709551616) := Lib.hid (by have := RY.out; rw [← hz2, IntKind.wrap_i64]; split <;> omega)
    have k8 : ¬ cap = 8 := by omega
    have k16 : ¬ cap = 16 := by omega
    have k24 : ¬ cap = 24 := by omega
    have k28 : ¬ cap = 28 := by omega
    clear hb hx hy hq hM
    go_enter Try.func31, Try.ntmps31
    go_wp2_with fail
    refine wp_region_mixed_still [13, 17, 21, 23] [0, 1, 2, 3, 4, 5, 6, 7, 8, 9, 10, 11, 12, 13, 14] (fun w' => BytesAt w' (some ⟨gb, off, none⟩) bs) (by kernel_rfl) (by kernel_rfl) (by intro c a d v w h; cases d <;> exact h) ((HB.out.below X.out.below).below (below_drew _)) ?_
    intro hne
    simp only [pick, List.map_cons, List.map_nil, List.getD_cons_zero, List.getD_cons_succ]
    refine wpMixS_reads 2 _ (by kernel_rfl) ?_
    simp only [List.take_succ_cons, List.take_zero, List.drop_succ_cons, List.drop_zero]
    repeat (go_big_quiet_step (fail))
    refine wpQuiet_nil ?_
    refine wpMixS_call rfl rfl (.int .u64 (bv x)) 69 #[.slice (some ⟨gb, off + 8, none⟩) 8 (cap - 8)] (by intro w; simp [go_sem]) (fun w1 hw1 => by
      obtain ⟨p, rfl⟩ := hw1
      exact ref_number_bv _ ((bs.drop 8).take 8) _ _ _ (p.h.sub 8 8) (by simp; omega) (by omega) x HX.out) ?_
    simp only [Act.put, List.setIfInBounds_toArray, List.set_cons_succ, List.set_cons_zero]
    refine wpMixS_reads 3 _ (by kernel_rfl) ?_
    simp only [List.take_succ_cons, List.take_zero, List.drop_succ_cons, List.drop_zero]
    repeat (go_big_quiet_step (fail))
    refine wpQuiet_nil ?_
    refine wpMixS_call rfl rfl (.int .u64 (bv y)) 69 #[.slice (some ⟨gb, off + 16, none⟩) 8 (cap - 16)] (by intro w; simp [go_sem]) (fun w1 hw1 => by
      obtain ⟨p, rfl⟩ := hw1
      exact ref_number_bv _ ((bs.drop 16).take 8) _ _ _ (p.h.sub 16 8) (by simp; omega) (by omega) y HY.out) ?_
    simp only [Act.put, List.setIfInBounds_toArray, List.set_cons_succ, List.set_cons_zero]
    refine wpMixS_reads 3 _ (by kernel_rfl) ?_
    simp only [List.take_succ_cons, List.take_zero, List.drop_succ_cons, List.drop_zero]
    repeat (go_big_quiet_step (fail))
    refine wpQuiet_nil ?_
    refine wpMixS_call rfl rfl (.int .u64 (bv q)) 69 #[.slice (some ⟨gb, off + 24, none⟩) 4 (cap - 24)] (by intro w; simp [go_sem]) (fun w1 hw1 => by
      obtain ⟨p, rfl⟩ := hw1
      exact ref_number_bv _ ((bs.drop 24).take 4) _ _ _ (p.h.sub 24 4) (by simp; omega) (by omega) q HQ.out) ?_
    simp only [Act.put, List.setIfInBounds_toArray, List.set_cons_succ, List.set_cons_zero]
    refine wpMixS_reads 1 _ (by kernel_rfl) ?_
    simp only [List.take_succ_cons, List.take_zero, List.drop_succ_cons, List.drop_zero]
    repeat (go_big_quiet_step (fail))
    refine wpQuiet_nil ?_
    refine wpMixS_value rfl rfl (.agg #[.int .i64 z1, .int .i64 z2, .int .u32 (bv s)]) (by intro w; simp [go_sem]) ?_
    simp only [Act.put, List.setIfInBounds_toArray, List.set_cons_succ, List.set_cons_zero]
    refine wpMixS_act rfl ?_ rfl
    go_wp2_with fail
    refine ⟨⟨⟨_, RB.out⟩, rfl⟩, ?_⟩
    have a0 := Y.out.a0
    have a1 := Y.out.a1
    have a2 := Y.out.a2
    have fa0 := Y.out.fa 0
    have fa1 := Y.out.fa 1
    have fa2 := Y.out.fa 2
    refine wpMixS_act rfl ?_ rfl
    go_wp2_with fail
    clear a0 a1 a2 fa0 fa1 fa2
    have XC := Lib.hid (X.out.on (below_trans (below_alloc wa (.cells #[.int .i64 z1, .int .i64 z2, .int .u32 (bv s)] 50)) (below_drew _)))
    have HH := Lib.hid ((headBox_new wa z1 z2 s).on (below_drew _))
    obtain ⟨wc, hwc⟩ : ∃ wc, (wa.alloc (.cells #[.int .i64 z1, .int .i64 z2, .int .u32 (bv s)] 50)).drew = wc := ⟨_, rfl⟩
    rw [hwc] at XC HH
    have d0 := HH.out.c0
    have d1 := HH.out.c1
    have d2 := HH.out.c2
    clear hne Y
    refine ⟨⟨⟨wc, HB.out.below XC.out.below⟩, hwc⟩, ?_⟩
    rw [hwc]
    clear hwc
    refine wpMixS_nil ?_
    have kcs := conv_string wc gb off cap 8 (bs.take 8) ((HB.out.take 8).below XC.out.below) (by simp; omega)
    by_cases hmg : bs.take 8 = magicL
    · rw [hmg, strB_magic] at kcs
      by_cases h1 : z1 < 1
      · have E : Hid (rH bs = Hd.bad 4) := Lib.hid (by
          unfold rH; rw [if_neg h0, if_pos]
          exact .inr (.inl (fun h => by have h := OX.out.1 h; have hz := Z1.out; rw [if_pos h.2] at hz; omega)))
        have a0 := XC.out.a0
        have a1 := XC.out.a1
        have a2 := XC.out.a2
        have fa0 := XC.out.fa 0
        have fa1 := XC.out.fa 1
        have fa2 := XC.out.fa 2
        go_wp2_with fail
        refine bodyPost_ret (results_head2 rfl _ _ w.heap.size (.int .i64 0) (.int .i64 0) (.int .u32 0) rfl (XC.out.put _ _ _).1 (XC.out.put _ _ _).2.1 (XC.out.put _ _ _).2.2.1) rfl ?_
        rw [E.out]
        exact ⟨rfl, (XC.out.put _ _ _).2.2.2⟩
      by_cases h2 : z2 < 1
      · have E : Hid (rH bs = Hd.bad 4) := Lib.hid (by
          unfold rH; rw [if_neg h0, if_pos]
          exact .inr (.inr (fun h => by have h := OY.out.1 h; have hz := Z2.out; rw [if_pos h.2] at hz; omega)))
        have a0 := XC.out.a0
        have a1 := XC.out.a1
        have a2 := XC.out.a2
        have fa0 := XC.out.fa 0
        have fa1 := XC.out.fa 1
        have fa2 := XC.out.fa 2
        go_wp2_with fail
        refine bodyPost_ret (results_head2 rfl _ _ w.heap.size (.int .i64 0) (.int .i64 0) (.int .u32 0) rfl (XC.out.put _ _ _).1 (XC.out.put _ _ _).2.1 (XC.out.put _ _ _).2.2.1) rfl ?_
        rw [E.out]
        exact ⟨rfl, (XC.out.put _ _ _).2.2.2⟩
      · have NB : Hid (¬ (bs.take 8 ≠ magicL ∨ ¬ okN ((bs.drop 8).take 8) ∨ ¬ okN ((bs.drop 16).take 8))) := Lib.hid (by
          have hz := Z1.out
          have hy := Z2.out
          have := RX.out
          have := RY.out
          intro h
          rcases h with h | h | h
          · exact h hmg
          · refine h (OX.out.2 ?_)
            split at hz <;> omega
          · refine h (OY.out.2 ?_)
            split at hy <;> omega)
        have e1 : z1 = bv x := by
          have hz := Z1.out
          have := RX.out
          split at hz <;> omega
        have e2 : z2 = bv y := by
          have hz := Z2.out
          have := RY.out
          split at hz <;> omega
        clear hmg Z1 Z2 OX OY hz1 hz2
        subst e1 e2
        go_wp2_with fail
        refine (ref_sum_n (some ⟨gb, off, none⟩) (bs.take 28) 28 cap _ ((HB.out.take 28).below XC.out.below) (by simp; omega) (by omega)).mono ?_
        rintro e w5 ⟨rfl, rfl⟩
        clear kcs
        go_wp2_with fail
        have HC := Lib.hid (HB.out.below XC.out.below)
        have L28 : Hid (((bs.drop 28).take 4).length = 4) := Lib.hid (by simp; omega)
        by_cases hQ : M = (Crc.mask (Crc.sum (bs.take 28))).toNat
        · have E : Hid (rH bs = ⟨x, y, s, Crc.sum (bs.take 28), 0⟩) := Lib.hid (by
            unfold rH; rw [if_neg h0, if_neg NB.out, HMm.out, HX.out, HY.out, HQ.out, HSS.out, if_neg (fun h => h hQ)])
          have t : (bv ((Crc.mask (Crc.sum (bs.take 28))).setWidth 64) != (M : Int)) = false := by rw [hQ]; unfold bv; simp [BitVec.toNat_setWidth]; omega
          clear hQ
          go_quiet (first
            | (go_at_call 66; exact (ref_mask _ _).mono fun _ _ ⟨he, hw⟩ => ⟨he, _, hw.symm⟩)
            | (go_at_call 69; exact (ref_number_nat _ ((bs.drop 28).take 4) _ _ _ ((HC.out.drewN _).sub 28 4) L28.out (by omega) M HMm.out).mono fun _ _ ⟨he, hw⟩ => ⟨he, _, hw.symm⟩))
          have XD := Lib.hid (XC.out.on (below_drewN wc nq))
          have HD := Lib.hid (HH.out.on (below_drewN wc nq))
          clear d0 d1 d2
          obtain ⟨wd, hwd⟩ : ∃ wd, wc.drewN nq = wd := ⟨_, rfl⟩
          rw [hwd] at XD HD
          rw [hwd]
          clear hwd
          have d0 := HD.out.c0
          have d1 := HD.out.c1
          have d2 := HD.out.c2
          have a0 := XD.out.a0
          have a1 := XD.out.a1
          have a2 := XD.out.a2
          have fa0 := XD.out.fa 0
          have fa1 := XD.out.fa 1
          have fa2 := XD.out.fa 2
          go_wp2_with fail
          refine bodyPost_ret (results_head2 rfl _ _ w.heap.size (.int .i64 (bv x)) (.int .i64 (bv y)) (.int .u32 (bv s)) rfl (XD.out.put _ _ _).1 (XD.out.put _ _ _).2.1 (XD.out.put _ _ _).2.2.1) rfl ?_
          rw [E.out]
          exact ⟨rfl, (XD.out.put _ _ _).2.2.2⟩
        · have E : Hid (rH bs = Hd.bad 5) := Lib.hid (by
            unfold rH; rw [if_neg h0, if_neg NB.out, HMm.out, if_pos hQ])
          have t : (bv ((Crc.mask (Crc.sum (bs.take 28))).setWidth 64) != (M : Int)) = true := by unfold bv; have := (Crc.mask (Crc.sum (bs.take 28))).isLt; simp [BitVec.toNat_setWidth]; omega
          clear hQ
          go_quiet (first
            | (go_at_call 66; exact (ref_mask _ _).mono fun _ _ ⟨he, hw⟩ => ⟨he, _, hw.symm⟩)
            | (go_at_call 69; exact (ref_number_nat _ ((bs.drop 28).take 4) _ _ _ ((HC.out.drewN _).sub 28 4) L28.out (by omega) M HMm.out).mono fun _ _ ⟨he, hw⟩ => ⟨he, _, hw.symm⟩))
          have XD := Lib.hid (XC.out.on (below_drewN wc nq))
          have HD := Lib.hid (HH.out.on (below_drewN wc nq))
          clear d0 d1 d2
          obtain ⟨wd, hwd⟩ : ∃ wd, wc.drewN nq = wd := ⟨_, rfl⟩
          rw [hwd] at XD HD
          rw [hwd]
          clear hwd
          have a0 := XD.out.a0
          have a1 := XD.out.a1
          have a2 := XD.out.a2
          have fa0 := XD.out.fa 0
          have fa1 := XD.out.fa 1
          have fa2 := XD.out.fa 2
          go_wp2_with fail
          refine bodyPost_ret (results_head2 rfl _ _ w.heap.size (.int .i64 0) (.int .i64 0) (.int .u32 0) rfl (XD.out.put _ _ _).1 (XD.out.put _ _ _).2.1 (XD.out.put _ _ _).2.2.1) rfl ?_
          rw [E.out]
          exact ⟨rfl, (XD.out.put _ _ _).2.2.2⟩
    · obtain ⟨S, hS⟩ : ∃ S, strB (bs.take 8) = S := ⟨_, rfl⟩
      have hne : ¬ S = ⟨#[70, 76, 85, 77, 69, 76, 79, 71]⟩ := fun h => hmg (strB_inj (by rw [hS, h, strB_magic]))
      have E : Hid (rH bs = Hd.bad 4) := Lib.hid (by unfold rH; rw [if_neg h0, if_pos (.inl hmg)])
      have hne' : ¬ S.toList = [70, 76, 85, 77, 69, 76, 79, 71] := fun h => by
        rw [ByteArray.toList_eq] at h
        refine hne (bytes_data h)
      rw [hS] at kcs
      clear hS hne
      have a0 := XC.out.a0
      have a1 := XC.out.a1
      have a2 := XC.out.a2
      have fa0 := XC.out.fa 0
      have fa1 := XC.out.fa 1
      have fa2 := XC.out.fa 2
      go_wp2_with fail
      refine bodyPost_ret (results_head2 rfl _ _ w.heap.size (.int .i64 0) (.int .i64 0) (.int .u32 0) rfl (XC.out.put _ _ _).1 (XC.out.put _ _ _).2.1 (XC.out.put _ _ _).2.2.1) rfl ?_
      rw [E.out]
      exact ⟨rfl, (XC.out.put _ _ _).2.2.2⟩
end Go.Proofs.Ytfadpjljokpenaa

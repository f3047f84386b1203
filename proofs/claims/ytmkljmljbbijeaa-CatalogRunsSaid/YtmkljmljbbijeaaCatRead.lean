/- The walk of catalog.Read. -/
import Derived.Test.YtmkljmljbbijeaaCatBody
import Derived.Laws.BytesArg
namespace Go.Proofs.Ytmkljmljbbijeaa
open Go.RowKit

/-- Bytes as a string. -/
def strB (bs : List (BitVec 8)) : ByteArray := strOfNums (bs.map bv)
theorem conv_string (w : World) (gb off cap n : Nat) (xs : List (BitVec 8)) (hb : BytesAt w (some ⟨gb, off, none⟩) xs) (hn : xs.length = n) : (convert 31 9 (.slice (some ⟨gb, off, none⟩) n cap)).run Try.prog w = .ok (.string (strB xs)) w := by
  refine run_convert_bytes_arg w 31 5 Try.underlying31 Try.underlying5 gb off n cap (xs.map bv) (by simpa using hn) (fun i hi => ?_) 9 Try.underlying9
  obtain ⟨b, o, e, hc⟩ := hb i (by omega)
  injection e with e; injection e with e1 e2; subst e1 e2
  rw [hc]
  congr 2
  have hi' : i < xs.length := by omega
  rw [at8_get hi']
  simp [hi']
theorem strB_inj {xs ys : List (BitVec 8)} (h : strB xs = strB ys) : xs = ys := by
  unfold strB at h
  have h2 := congrArg (fun s => s.data.toList) h
  rw [strOfNums_data, strOfNums_data, List.map_map, List.map_map] at h2
  have inj : ∀ a b : BitVec 8, (UInt8.ofNat (bv a).toNat) = (UInt8.ofNat (bv b).toNat) → a = b := fun a b e => by
    have e2 := congrArg UInt8.toNat e
    have h1 := a.isLt
    have h2 := b.isLt
    have ea : (bv a).toNat = a.toNat := rfl
    have eb : (bv b).toNat = b.toNat := rfl
    rw [UInt8.toNat_ofNat', UInt8.toNat_ofNat', ea, eb] at e2
    apply BitVec.eq_of_toNat_eq
    omega
  clear h
  induction xs generalizing ys with
  | nil => cases ys with
    | nil => rfl
    | cons b ys => simp at h2
  | cons a xs ih => cases ys with
    | nil => simp at h2
    | cons b ys =>
      simp only [List.map_cons, Function.comp] at h2
      injection h2 with h3 h4
      rw [inj a b h3, ih h4]
theorem fcat_data {S : ByteArray} (h : S.data.toList = [70, 67, 65, 84]) : S = ⟨#[70, 67, 65, 84]⟩ := by
  obtain ⟨a⟩ := S
  congr 1
  exact Array.toList_inj.1 h
theorem strB_fcat : strB fcatL = ⟨#[70, 67, 65, 84]⟩ := by decide
theorem new_reader_n (ao : Option Addr) (bs : List (BitVec 8)) (n ca : Nat) (w : World) (hb : BytesAt w ao bs) (hl : bs.length = n) (hn : ao = none → ca = 0) (hm : n ≤ 140737488351232) :
    Calls Try.prog 66 #[.slice ao n ca] w fun e w' => ∃ b, e = .returned (.pointer (some ⟨b, 0, none⟩)) ∧ w.heap.size ≤ b ∧ RdAt w' b bs 0 0 ∧ Below w.heap.size w w' := by
  subst hl; exact new_reader_far ao bs ca w hb hn hm
theorem crc_sum_n (ao : Option Addr) (bs : List (BitVec 8)) (n cap : Nat) (w : World) (hb : BytesAt w ao bs) (hn : bs.length = n) (hm : n ≤ 140737488351232) :
    Calls Try.prog 73 #[.slice ao n cap] w fun e w' => e = .returned (.int .u32 (bv (Crc.sum bs))) ∧ Below w.heap.size w w' := by
  subst hn; exact crc_sum ao bs cap w hb hm
theorem upd_low {n : Nat} {w0 w w' : World} {b k : Nat} {v : Value} (h0 : Below n w0 w) (h : Upd b k v w w') (hb : n ≤ b) (hs : n ≤ w.heap.size) : Below n w0 w' := h.but.below h0 hb hs
theorem cat_read_short (ao : Option Addr) (n ca : Nat) (w : World) (hn : n < 8) : Calls Try.prog 32 #[.slice ao n ca] w (BodyB w catZ 2) := by
  have b1 := below_alloc w (.cells #[.int .i64 0, .int .i64 0, .slice none 0 0] 29)
  have hn1 := heap_alloc_new w (.cells #[.int .i64 0, .int .i64 0, .slice none 0 0] 29)
  obtain ⟨w1, hw1⟩ : ∃ w1, w.alloc (.cells #[.int .i64 0, .int .i64 0, .slice none 0 0] 29) = w1 := ⟨_, rfl⟩
  rw [hw1] at b1 hn1
  have HZ := Lib.hid hn1
  have HB := Lib.hid b1
  clear b1 hn1
  have r0 := cell_of_row _ _ 0 _ _ _ HZ.out
  have f0 := frozen_of_row _ _ 0 _ _ HZ.out
  have r1 := cell_of_row _ _ 1 _ _ _ HZ.out
  have f1 := frozen_of_row _ _ 1 _ _ HZ.out
  have r2 := cell_of_row _ _ 2 _ _ _ HZ.out
  have f2 := frozen_of_row _ _ 2 _ _ HZ.out
  have hz : (n : Int) - 4 < 4 := by omega
  go_enter Try.func32, Try.ntmps32
  go_wp2_with fail
  refine bodyPost_ret (results_cat2 rfl _ _ w.heap.size _ _ _ rfl (cell_of_row _ _ 0 _ _ _ (put3 HZ.out _ _ _)) (cell_of_row _ _ 1 _ _ _ (put3 HZ.out _ _ _)) (cell_of_row _ _ 2 _ _ _ (put3 HZ.out _ _ _))) rfl ?_
  exact ⟨_, rfl, CatOwn.z _ _, put3_below HB.out (Nat.le_refl _) _ _ _⟩
set_option maxRecDepth 100000 in
set_option maxHeartbeats 4000000 in
theorem cat_read_long (gb off p ca : Nat) (bs : List (BitVec 8)) (w : World) (hb : BytesAt w (some ⟨gb, off, none⟩) bs) (hn : bs.length = p + 8) (hc : p + 8 ≤ ca) (hm : p + 8 ≤ 140737488351232) (r : CatV) (er : Int) (hr : catR bs = (r, er)) :
    Calls Try.prog 32 #[.slice (some ⟨gb, off, none⟩) (p + 8) ca] w (BodyB w r er) := by
  have b1 := below_alloc w (.cells #[.int .i64 0, .int .i64 0, .slice none 0 0] 29)
  have hn1 := heap_alloc_new w (.cells #[.int .i64 0, .int .i64 0, .slice none 0 0] 29)
  obtain ⟨w1, hw1⟩ : ∃ w1, w.alloc (.cells #[.int .i64 0, .int .i64 0, .slice none 0 0] 29) = w1 := ⟨_, rfl⟩
  rw [hw1] at b1 hn1
  have HZ := Lib.hid hn1
  have HB := Lib.hid b1
  have HP := Lib.hid (hb.below b1)
  have HN := Lib.hid hn
  have HR := Lib.hid hr
  clear b1 hn1 hb hn hr
  have n1 : ¬ (ca = 4) := by omega
  have n2 : ¬ (ca = p + 4) := by omega
  have n3 : ¬ ((p : Int) + 4 < 4) := by omega
  have FIN := Lib.hid (show ∀ (W : World) (er' : Int), Below w1.heap.size w1 W → BodyB w catZ er' (.returned (.tuple #[.agg #[.int .i64 0, .int .i64 0, .slice none 0 0], .int .i64 er'])) (((W.setCell ⟨w.heap.size, 0, none⟩ (.int .i64 0)).setCell ⟨w.heap.size, 1, none⟩ (.int .i64 0)).setCell ⟨w.heap.size, 2, none⟩ (.slice none 0 0)) from fun W er' hW => ⟨_, rfl, CatOwn.z _ _, put3_below (below_trans HB.out hW) (Nat.le_refl _) _ _ _⟩)
  have kcs := conv_string w1 gb off ca 4 (bs.take 4) (HP.out.take 4) (by have := HN.out; simp; omega)
  have r0 := cell_of_row _ _ 0 _ _ _ HZ.out
  have f0 := frozen_of_row _ _ 0 _ _ HZ.out
  have r1 := cell_of_row _ _ 1 _ _ _ HZ.out
  have f1 := frozen_of_row _ _ 1 _ _ HZ.out
  have r2 := cell_of_row _ _ 2 _ _ _ HZ.out
  have f2 := frozen_of_row _ _ 2 _ _ HZ.out
  have L8 : ¬ bs.length < 8 := by have := HN.out; omega
  have HL8 := Lib.hid L8
  clear L8
  go_enter Try.func32, Try.ntmps32
  by_cases hmg : bs.take 4 = fcatL
  · rw [hmg, strB_fcat] at kcs
    have HMG := Lib.hid hmg
    clear hmg
    obtain ⟨s, hs⟩ : ∃ s : BitVec 32, (leB ((bs.drop (p + 4)).take 4)).setWidth 32 = s := ⟨_, rfl⟩
    have HSS := Lib.hid hs
    have D4 : Hid ((bs.drop (p + 4)).length = 4) := Lib.hid (by rw [List.length_drop, HN.out]; omega)
    clear hs
    go_wp2_with fail
    refine wp_region_mixed [0, 1, 2, 5, 6, 7, 3, 4, 8, 9, 10] (fun _ => True) (by kernel_rfl) (by kernel_rfl) (by intro c a d v w h; cases d <;> exact h) trivial ?_
    intro hne
    simp only [pick, List.map_cons, List.map_nil, List.getD_cons_zero, List.getD_cons_succ]
    refine wpMix_reads 6 _ (by kernel_rfl) ?_
    simp only [List.take_succ_cons, List.take_zero, List.drop_succ_cons, List.drop_zero]
    repeat (go_big_quiet_step (fail))
    refine wpQuiet_nil ?_
    refine wpMix_act rfl ?_ rfl
    go_wp2_with fail
    refine (new_reader_n (some ⟨gb, off + (p + 4), none⟩) (bs.drop (p + 4)) 4 _ _ ((HP.out.drop (p + 4)).below (below_drew w1)) D4.out (fun h => nomatch h) (by decide)).mono ?_
    rintro e w2 ⟨b, rfl, hbb, hR, hb2⟩
    have RD := Lib.hid hR
    have LB := Lib.hid (show w1.heap.size ≤ b from hbb)
    have B2 := Lib.hid (show Below w1.heap.size w1 w2 from below_trans (below_drew w1) hb2)
    clear hR hbb hb2
    go_wp2_with fail
    refine ⟨⟨⟨_, trivial⟩, rfl⟩, ?_⟩
    refine wpMix_act rfl ?_ rfl
    go_wp2_with fail
    refine (fixed32_ok b (bs.drop (p + 4)) 0 w2 RD.out (by rw [D4.out]; decide) (by rw [D4.out]; decide)).mono ?_
    rintro e w3 ⟨rfl, hu⟩
    have B3 := Lib.hid (upd_low B2.out hu LB.out B2.out.size)
    clear hu
    rw [List.drop_zero, HSS.out]
    go_wp2_with fail
    refine ⟨⟨⟨_, trivial⟩, rfl⟩, ?_⟩
    refine wpMix_act rfl ?_ rfl
    go_wp2_with fail
    refine (crc_sum_n (some ⟨gb, off, none⟩) (bs.take (p + 4)) (p + 4) ca w3 ((HP.out.take (p + 4)).below B3.out) (by rw [List.length_take, HN.out]; omega) (by omega)).mono ?_
    rintro e w4 ⟨rfl, hb4⟩
    have B4 := Lib.hid (below_trans B3.out hb4)
    obtain ⟨sm, hsm⟩ : ∃ sm, Crc.sum (bs.take (p + 4)) = sm := ⟨_, rfl⟩
    rw [hsm]
    have SM := Lib.hid hsm
    clear hb4 hsm
    have CR : Hid (catR bs = if s ≠ sm then (catZ, 5) else bodyR ((bs.take (p + 4)).drop 4)) := Lib.hid (by
      have e4 : bs.length - 4 = p + 4 := by rw [HN.out]; omega
      have e5 : (bs.drop (p + 4)).take 4 = bs.drop (p + 4) := List.take_of_length_le (by rw [D4.out]; exact Nat.le_refl _)
      unfold catR
      rw [if_neg HL8.out, if_neg (by rw [HMG.out]; simp), e4, SM.out, ← e5, HSS.out])
    have hz4 := (B4.out.block _ (heap_lt HZ.out)).trans HZ.out
    have HZ4 := Lib.hid hz4
    clear r0 r1 r2 f0 f1 f2 kcs
    have r0 := cell_of_row _ _ 0 _ _ _ hz4
    have f0 := frozen_of_row _ _ 0 _ _ hz4
    have r1 := cell_of_row _ _ 1 _ _ _ hz4
    have f1 := frozen_of_row _ _ 1 _ _ hz4
    have r2 := cell_of_row _ _ 2 _ _ _ hz4
    have f2 := frozen_of_row _ _ 2 _ _ hz4
    clear hz4
    by_cases hq : s = sm
    · have t5 : (s != sm) = false := by simp [hq]
      have EB : Hid (bodyR ((bs.take (p + 4)).drop 4) = (r, er)) := Lib.hid (by rw [← HR.out, CR.out, if_neg (by simp [hq])])
      have PB : Hid (BytesAt w4 (some ⟨gb, off + 4, none⟩) ((bs.take (p + 4)).drop 4)) := Lib.hid (((HP.out.take (p + 4)).drop 4).below B4.out)
      have PL : Hid (((bs.take (p + 4)).drop 4).length = p) := Lib.hid (by rw [List.length_drop, List.length_take, HN.out]; omega)
      clear hq
      go_wp2_with fail
      refine ⟨⟨⟨_, trivial⟩, rfl⟩, ?_⟩
      refine wpMix_reads 2 _ (by kernel_rfl) ?_
      simp only [List.take_succ_cons, List.take_zero, List.drop_succ_cons, List.drop_zero]
      repeat (go_big_quiet_step (fail))
      refine wpQuiet_nil ?_
      refine wpMix_nil ?_
      clear hne
      go_wp2_with fail
      refine (cat_body (some ⟨gb, off + 4, none⟩) _ p (ca - 4) w4 PB.out PL.out (fun h => nomatch h) (by rw [PL.out]; omega) r er EB.out).mono ?_
      rintro e w5 ⟨v, rfl, hO, hb5⟩
      obtain ⟨vs, rfl, ho⟩ := hO.own
      have OK := Lib.hid (And.intro hO.ok hO.few)
      have OW := Lib.hid ho
      have B5 := Lib.hid (below_trans B4.out hb5)
      have hz5 := (B5.out.block _ (heap_lt HZ.out)).trans HZ.out
      have HZ5 := Lib.hid hz5
      have LZ := Lib.hid (Nat.lt_of_lt_of_le (heap_lt HZ.out) B4.out.size)
      clear hO hb5 r0 r1 r2 f0 f1 f2
      have r0 := cell_of_row _ _ 0 _ _ _ hz5
      have f0 := frozen_of_row _ _ 0 _ _ hz5
      have r1 := cell_of_row _ _ 1 _ _ _ hz5
      have f1 := frozen_of_row _ _ 1 _ _ hz5
      have r2 := cell_of_row _ _ 2 _ _ _ hz5
      have f2 := frozen_of_row _ _ 2 _ _ hz5
      clear hz5
      obtain ⟨av, cv, hvs, -⟩ := ho.there OK.out.1.segs OK.out.2
      clear ho
      generalize r.segs.length = LN at hvs
      subst hvs
      go_wp2_with fail
      refine bodyPost_ret (results_cat2 rfl _ _ w.heap.size _ _ _ rfl (cell_of_row _ _ 0 _ _ _ (put3 HZ5.out _ _ _)) (cell_of_row _ _ 1 _ _ _ (put3 HZ5.out _ _ _)) (cell_of_row _ _ 2 _ _ _ (put3 HZ5.out _ _ _))) rfl ?_
      refine ⟨_, rfl, ⟨⟨_, rfl, OwnS.base (base := w4.heap.size) ?_ (by have := LZ.out; omega)⟩, OK.out.1, OK.out.2⟩, put3_below (below_trans HB.out B5.out) (Nat.le_refl _) _ _ _⟩
      exact rows_congr OW.out fun z hz => put3_off (by have := (rows_blk OW.out hz).1; have := LZ.out; omega) _ _ _
    · have t5 : (s != sm) = true := by simp [hq]
      have E : Hid (r = catZ ∧ er = 5) := Lib.hid (by
        have h := HR.out.symm.trans CR.out
        rw [if_pos hq] at h
        injection h with h3 h4
        exact ⟨h3, h4⟩)
      clear hq
      go_wp2_with fail
      refine ⟨⟨⟨_, trivial⟩, rfl⟩, ?_⟩
      refine wpMix_reads 2 _ (by kernel_rfl) ?_
      simp only [List.take_succ_cons, List.take_zero, List.drop_succ_cons, List.drop_zero]
      repeat (go_big_quiet_step (fail))
      refine wpQuiet_nil ?_
      refine wpMix_nil ?_
      clear hne
      go_wp2_with fail
      refine bodyPost_ret (results_cat2 rfl _ _ w.heap.size _ _ _ rfl (cell_of_row _ _ 0 _ _ _ (put3 HZ4.out _ _ _)) (cell_of_row _ _ 1 _ _ _ (put3 HZ4.out _ _ _)) (cell_of_row _ _ 2 _ _ _ (put3 HZ4.out _ _ _))) rfl ?_
      rw [E.out.1, E.out.2]
      exact FIN.out _ _ B4.out
  · obtain ⟨S, hS⟩ : ∃ S, strB (bs.take 4) = S := ⟨_, rfl⟩
    have hne : ¬ S = ⟨#[70, 67, 65, 84]⟩ := fun h => hmg (strB_inj (by rw [hS, h, strB_fcat]))
    have E : Hid (r = catZ ∧ er = 4) := Lib.hid (by
      have h := HR.out
      unfold catR at h
      rw [if_neg HL8.out, if_pos hmg] at h
      injection h with h3 h4
      exact ⟨h3.symm, h4.symm⟩)
    have tS : (S.toList == [70, 67, 65, 84]) = false := beq_false_of_ne fun h => by
      rw [ByteArray.toList_eq] at h
      exact hne (fcat_data h)
    rw [hS] at kcs
    clear hS hne hmg
    go_wp2_with fail
    refine bodyPost_ret (results_cat2 rfl _ _ w.heap.size _ _ _ rfl (cell_of_row _ _ 0 _ _ _ (put3 HZ.out _ _ _)) (cell_of_row _ _ 1 _ _ _ (put3 HZ.out _ _ _)) (cell_of_row _ _ 2 _ _ _ (put3 HZ.out _ _ _))) rfl ?_
    rw [E.out.1, E.out.2]
    exact FIN.out _ _ (Below.refl _ _)
theorem cat_read (ao : Option Addr) (bs : List (BitVec 8)) (n ca : Nat) (w : World) (hb : BytesAt w ao bs) (hn : bs.length = n) (_hz : ao = none → ca = 0) (hc : n ≤ ca) (hm : n ≤ 140737488351232) (r : CatV) (er : Int) (hr : catR bs = (r, er)) :
    Calls Try.prog 32 #[.slice ao n ca] w (BodyB w r er) := by
  by_cases h : n < 8
  · have e : catR bs = (catZ, 2) := by unfold catR; rw [if_pos (by omega)]
    rw [e] at hr
    injection hr with h1 h2
    subst h1 h2
    exact cat_read_short ao n ca w h
  · obtain ⟨p, rfl⟩ : ∃ p, n = p + 8 := ⟨n - 8, by omega⟩
    obtain ⟨gb, off, rfl, -⟩ := hb 0 (by omega)
    exact cat_read_long gb off p ca bs w hb hn hc hm r er hr
end Go.Proofs.Ytmkljmljbbijeaa

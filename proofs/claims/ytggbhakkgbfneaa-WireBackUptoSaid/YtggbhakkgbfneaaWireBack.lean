/- The walk of flumelaw1's WireBack. -/
import Derived.Test.YtggbhakkgbfneaaWireReads
import Derived.Test.YtggbhakkgbfneaaWireForm
import Derived.Test.YtggbhakkgbfneaaPlainForth
import Derived.Test.YtggbhakkgbfneaaMixed
namespace Go.Proofs.Ytggbhakkgbfneaa
open Go.RowKit

set_option maxHeartbeats 2000000 in
set_option maxRecDepth 100000 in
theorem wire_back (n : BitVec 64) (s r : Option Addr) (S R : List (BitVec 8)) (cs cr : Nat) (w : World) (hs : BytesAt w s S) (hr : BytesAt w r R) (ns : s = none → cs = 0) (nr : r = none → cr = 0)
    (ls : S.length ≤ 1048576) (lr : R.length ≤ 1048576) (lcr : R.length ≤ cr) :
    Calls Try.prog 4 #[.int .u64 (bv n), .slice s S.length cs, .slice r R.length cr] w (TrueBelow w) := by
  have HS := Lib.hid hs
  have HR := Lib.hid hr
  have NS := Lib.hid ns
  have NR := Lib.hid nr
  clear hs hr ns nr
  obtain ⟨j, hj⟩ : ∃ j, (varint n).length = j := ⟨_, rfl⟩
  obtain ⟨t, ht⟩ : ∃ t, (varint n ++ R).length = t := ⟨_, rfl⟩
  have HV : Hid (rvVal (rv (varint n ++ R)) = .tuple #[.int .u64 (bv n), .int .i64 j, .int .i64 0]) := by rw [rv_back, hj]; rfl
  have HJ := Lib.hid hj
  have HT := Lib.hid ht
  have hjt : j ≤ t := by rw [← hj, ← ht, List.length_append]; omega
  have htm : t ≤ 1048586 := by have := varint_len n; rw [← ht, List.length_append]; omega
  have hj1 : j ≤ 10 := by rw [← hj]; exact (varint_len n).2
  have HE : Hid (decide (varint n = (varint n ++ R).take j) = true) := decide_eq_true (by rw [← hj]; simp)
  obtain ⟨k2, hk2⟩ : ∃ k, (varint (BitVec.ofNat 64 S.length)).length + S.length = k := ⟨_, rfl⟩
  obtain ⟨t2, ht2⟩ : ∃ t, (wstr S ++ R).length = t := ⟨_, rfl⟩
  have HT2 := Lib.hid ht2
  have HB2 : Hid (rs (wstr S ++ R) S.length = (S, k2, 0)) := by rw [rs_back S R (by omega), hk2]; exact rfl
  have hkt1 : (k2 : Int) ≤ (t2 : Int) - (R.length : Int) := by rw [← hk2, ← ht2]; unfold wstr; simp; try omega
  have hkt2 : (t2 : Int) - (R.length : Int) ≤ (k2 : Int) := by rw [← hk2, ← ht2]; unfold wstr; simp; try omega
  have hw2 : (wstr S).length ≤ 1048586 := by have := varint_len (BitVec.ofNat 64 S.length); unfold wstr; rw [List.length_append]; omega
  have ht2m : t2 ≤ 2097172 := by rw [← ht2, List.length_append]; omega
  have HW2 := Lib.hid hw2
  clear hj ht hk2 ht2 hw2
  go_enter Try.func4, Try.ntmps4
  go_wp2_with fail
  refine (wire_begun _).mono ?_
  rintro e w1 ⟨rfl, hb⟩
  have B1 := Lib.hid hb
  clear hb
  go_wp2_with fail
  refine (wire_varint n _).mono ?_
  rintro e w2 ⟨v2, rfl, hO, hb⟩
  have O2 := Lib.hid hO
  have Z2 := Lib.hid hb.size
  have B2 := Lib.hid (below_trans B1.out hb)
  clear hO hb
  go_wp2_with (refine wpList_append_bytes (o := ⟨some 19, _, _, _, _, _⟩) rfl _ _ rfl w1.heap.size _ (varint n) rfl O2.out r R.length cr R rfl rfl (HR.out.below B2.out) NR.out (by have := HT.out; rw [List.length_append] at this; omega) Z2.out ?_)
  intro v3 w3 hv3 hg3 hi3
  have B3 : Hid (Below w.heap.size w w3) := B2.out.trans (O2.out.below hg3 B1.out.size B2.out.size)
  obtain ⟨a3, c3, hv, x3, -, l3, m3, -⟩ := hv3.slice
  rw [HT.out] at hv l3
  subst hv
  have X3 := Lib.hid x3
  clear hi3 hg3 hv3 x3 O2
  go_wp2_with fail
  refine (read_varint_to a3 (varint n ++ R) _ c3 _ _ X3.out HT.out HV.out).mono ?_
  rintro x w' ⟨rfl, rfl⟩
  go_wp2_with fail
  refine wp_region_mixed [0, 1, 2, 3, 4, 5, 6, 7, 8, 10, 11, 12, 9, 13, 14, 15] (fun _ => True) (by kernel_rfl) (by kernel_rfl) (by intro c a d v w h; cases d <;> exact h) trivial ?_
  intro hne
  simp only [pick, List.map_cons, List.map_nil, List.getD_cons_zero, List.getD_cons_succ]
  refine wpMix_reads 12 _ (by kernel_rfl) ?_
  simp only [List.take_succ_cons, List.take_zero, List.drop_succ_cons, List.drop_zero]
  repeat (go_big_quiet_step (fail))
  refine wpQuiet_nil ?_
  refine wpMix_act rfl ?_ rfl
  go_wp2_with fail
  refine (wire_varint n _).mono ?_
  rintro e w4 ⟨v4, rfl, hO, hb⟩
  obtain ⟨a4, c4, rfl, x4, -, -, -, -⟩ := hO.slice
  have X4 := Lib.hid x4
  have Y4 := Lib.hid (X3.out.below (below_trans (below_drew _) hb))
  have B4 := Lib.hid (below_trans B3.out (below_trans (below_drew _) hb))
  clear hO hb x4 X3
  go_wp2_with fail
  refine ⟨⟨⟨_, trivial⟩, rfl⟩, ?_⟩
  refine wpMix_act rfl ?_ rfl
  go_wp2_with fail
  refine (eq_bytes_of _ _ (varint n) ((varint n ++ R).take j) _ j _ _ true _ X4.out (Y4.out.take j) rfl (by rw [List.length_take, HT.out]; omega) (by have := HJ.out; omega) HE.out).mono ?_
  rintro x w5 ⟨rfl, n5, hw5⟩
  have B5 : Hid (Below w.heap.size w w5) := below_trans B4.out (by rw [hw5]; exact below_drewN _ _)
  clear hw5 X4 Y4
  go_wp2_with fail
  refine ⟨⟨⟨_, trivial⟩, rfl⟩, ?_⟩
  refine wpMix_reads 2 _ (by kernel_rfl) ?_
  simp only [List.take_succ_cons, List.take_zero, List.drop_succ_cons, List.drop_zero]
  repeat (go_big_quiet_step (fail))
  refine wpQuiet_nil ?_
  refine wpMix_nil ?_
  clear hne
  go_wp2_with fail
  refine (wire_string s S cs _ (HS.out.below B5.out) NS.out (by omega)).mono ?_
  rintro e w6 ⟨v6, rfl, hO, hb⟩
  have O6 := Lib.hid hO
  have Z6 := Lib.hid hb.size
  have B6 := Lib.hid (below_trans B5.out hb)
  clear hO hb
  go_wp2_with (refine wpList_append_bytes (o := ⟨some 45, _, _, _, _, _⟩) rfl _ _ rfl w5.heap.size _ (wstr S) rfl O6.out r R.length cr R rfl rfl (HR.out.below B6.out) NR.out (by have := HW2.out; omega) Z6.out ?_)
  intro v7 w7 hv7 hg7 hi7
  have B7 : Hid (Below w.heap.size w w7) := B6.out.trans (O6.out.below hg7 B5.out.size B6.out.size)
  obtain ⟨a7, c7, hv, x7, n7, l7, m7, -⟩ := hv7.slice
  rw [HT2.out] at hv l7
  subst hv
  have X7 := Lib.hid x7
  have N7 := Lib.hid n7
  clear hi7 hg7 hv7 x7 n7 O6
  go_wp2_with fail
  refine (read_string_to a7 (wstr S ++ R) _ c7 _ _ _ X7.out HT2.out l7 N7.out m7 (by omega) (by omega) HB2.out).mono ?_
  rintro x w8 ⟨v8, rfl, hO8, hb8⟩
  obtain ⟨a8, c8, rfl, x8, -, -, -, -⟩ := hO8.slice
  have X8 := Lib.hid x8
  have B8 := Lib.hid (below_trans B7.out hb8)
  clear hO8 hb8 x8 X7
  go_wp2_with fail
  refine (eq_bytes_of a8 s _ _ _ _ c8 cs true _ X8.out (HS.out.below B8.out) rfl rfl (by omega) (decide_eq_true rfl)).mono ?_
  rintro x w9 ⟨rfl, n9, hw9⟩
  have B9 : Hid (Below w.heap.size w w9) := below_trans B8.out (by rw [hw9]; exact below_drewN _ _)
  clear hw9 X8
  go_wp2_with fail
  obtain ⟨x, k, e, hr⟩ : ∃ x k e, rv R = (x, k, e) := ⟨_, _, _, rfl⟩
  by_cases he : e = 0
  · subst he
    have HVR : Hid (rvVal (rv R) = .tuple #[.int .u64 (bv x), .int .i64 k, .int .i64 0]) := by rw [hr]; rfl
    obtain ⟨h1, h2, h3, h4⟩ := rv_forth hr
    have HE2 : Hid (decide (varint x = R.take k) = true) := decide_eq_true h4
    have h1' : (1 : Int) ≤ (k : Int) := by omega
    have h2' : (k : Int) ≤ 10 := by omega
    clear hr h4
    refine (read_varint_to r R _ cr _ _ (HR.out.below B9.out) rfl HVR.out).mono ?_
    rintro x' w' ⟨rfl, rfl⟩
    go_wp2_with fail
    refine wp_region_mixed [0, 1, 2, 3, 4, 5, 6, 7, 8, 9, 10, 11, 12, 13, 14, 15, 16, 17, 18, 19, 20, 21, 22, 24, 25, 26, 23, 27, 28, 29, 30] (fun _ => True) (by kernel_rfl) (by kernel_rfl) (by intro c a d v w h; cases d <;> exact h) trivial ?_
    intro hne
    simp only [pick, List.map_cons, List.map_nil, List.getD_cons_zero, List.getD_cons_succ]
    refine wpMix_reads 26 _ (by kernel_rfl) ?_
    simp only [List.take_succ_cons, List.take_zero, List.drop_succ_cons, List.drop_zero]
    repeat (go_big_quiet_step (fail))
    refine wpQuiet_nil ?_
    refine wpMix_act rfl ?_ rfl
    go_wp2_with fail
    refine (wire_varint x _).mono ?_
    rintro e w10 ⟨v10, rfl, hO, hb⟩
    obtain ⟨a10, c10, rfl, x10, -, -, -, -⟩ := hO.slice
    have X10 := Lib.hid x10
    have B10 := Lib.hid (below_trans B9.out (below_trans (below_drew _) hb))
    clear hO hb x10
    have VL := Lib.hid (varint_len x)
    go_wp2_with fail
    refine ⟨⟨⟨_, trivial⟩, rfl⟩, ?_⟩
    refine wpMix_act rfl ?_ rfl
    go_wp2_with fail
    refine (eq_bytes_of _ _ (varint x) (R.take k) _ k _ _ true _ X10.out ((HR.out.below B10.out).take k) rfl (by rw [List.length_take]; omega) (by have := VL.out; omega) HE2.out).mono ?_
    rintro x' w11 ⟨rfl, n11, hw11⟩
    have B11 : Hid (Below w.heap.size w w11) := below_trans B10.out (by rw [hw11]; exact below_drewN _ _)
    clear hw11 X10
    go_wp2_with fail
    refine ⟨⟨⟨_, trivial⟩, rfl⟩, ?_⟩
    refine wpMix_reads 3 _ (by kernel_rfl) ?_
    simp only [List.take_succ_cons, List.take_zero, List.drop_succ_cons, List.drop_zero]
    repeat (go_big_quiet_step (fail))
    refine wpQuiet_nil ?_
    refine wpMix_nil ?_
    clear hne
    go_wp2_with fail
    go_ret
    exact ⟨rfl, B11.out⟩
  · obtain ⟨-, he', hz⟩ := rvGo_bounds R 0 0#64
    rw [show rvGo R 0 0#64 = rv R from rfl, hr] at he' hz
    obtain ⟨hx, hk⟩ := hz he
    simp only at hx hk he'
    subst hx hk
    have HVR : Hid (rvVal (rv R) = .tuple #[.int .u64 0, .int .i64 0, .int .i64 e]) := by rw [hr]; rfl
    have hd : decide ((e : Int) = 0) = false := by simp; omega
    have hd2 : ((e : Int) != 0) = true := by simp; omega
    clear hr he' hz
    refine (read_varint_to r R _ cr _ _ (HR.out.below B9.out) rfl HVR.out).mono ?_
    rintro x' w' ⟨rfl, rfl⟩
    go_wp2_with fail
    refine wp_region_mixed [0, 1, 2, 3, 4, 5, 6, 7, 8, 9, 10, 11, 12, 13, 14, 15, 16, 17, 18, 19, 20, 21, 22, 24, 25, 26, 23, 27, 28, 29, 30] (fun _ => True) (by kernel_rfl) (by kernel_rfl) (by intro c a d v w h; cases d <;> exact h) trivial ?_
    intro hne
    simp only [pick, List.map_cons, List.map_nil, List.getD_cons_zero, List.getD_cons_succ]
    refine wpMix_reads 26 _ (by kernel_rfl) ?_
    simp only [List.take_succ_cons, List.take_zero, List.drop_succ_cons, List.drop_zero]
    repeat (go_big_quiet_step (fail))
    refine wpQuiet_nil ?_
    refine wpMix_skip rfl ?_
    refine wpMix_skip rfl ?_
    simp only [Act.put, List.setIfInBounds_toArray, List.set_cons_zero, List.set_cons_succ]
    refine wpMix_reads 3 _ (by kernel_rfl) ?_
    simp only [List.take_succ_cons, List.take_zero, List.drop_succ_cons, List.drop_zero]
    repeat (go_big_quiet_step (fail))
    refine wpQuiet_nil ?_
    refine wpMix_nil ?_
    clear hne
    go_wp2_with fail
    go_ret
    exact ⟨rfl, below_trans B9.out (below_drew _)⟩
end Go.Proofs.Ytggbhakkgbfneaa

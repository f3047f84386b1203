/- The walks of the writing of frames, the program's and the document's. -/
import Derived.Test.YtfadpjljokpenaaFixedOwn
namespace Go.Proofs.Ytfadpjljokpenaa
open Go.RowKit

/-- What writing a frame answers: bytes, sum, error. -/
def wF (seed : BitVec 32) (lsn : Int) (data : List (BitVec 8)) : List (BitVec 8) × BitVec 32 × Nat :=
  if lsn < 1 ∨ 9223372036854775806 < lsn then ([], 0#32, 1) else if 4096 < data.length then ([], 0#32, 3) else (frameF seed (BitVec.ofInt 64 lsn) data, sumF seed (BitVec.ofInt 64 lsn) data, 0)
/-- Bytes of the call's own, a sum, an error. -/
def WriteB (w : World) (bytes : List (BitVec 8)) (sum : BitVec 32) (err : Nat) (e : Ending) (w' : World) : Prop :=
  ∃ v, e = .returned (.tuple #[v, .int .u32 (bv sum), .int .i64 err]) ∧ OwnB w' w.heap.size v bytes ∧ Below w.heap.size w w'
theorem lsn_bv {lsn : Int} (h1 : 0 ≤ lsn) (h2 : lsn ≤ 9223372036854775807) : bv (BitVec.ofInt 64 lsn) = lsn := by
  unfold bv
  rw [BitVec.toNat_ofInt]
  have : ((2 ^ 64 : Nat) : Int) = 18446744073709551616 := rfl
  omega
theorem bv_lsn (x : BitVec 64) : BitVec.ofInt 64 (bv x) = x := by
  unfold bv
  simp

set_option maxHeartbeats 2000000 in
set_option maxRecDepth 100000 in
theorem frame_write_ok (seed : BitVec 32) (lsn : BitVec 64) (ao : Option Addr) (data : List (BitVec 8)) (cap : Nat) (w : World) (hb : BytesAt w ao data) (hn : ao = none → cap = 0) (hd : data.length ≤ 4096) (h1 : ¬ bv lsn < 1) (h2 : ¬ 9223372036854775806 < bv lsn) :
    Calls Try.prog 19 #[.int .u32 (bv seed), .int .i64 (bv lsn), .slice ao data.length cap] w (WriteB w (frameF seed lsn data) (sumF seed lsn data) 0) := by
  have HB := Lib.hid hb
  have HN := Lib.hid hn
  have f4 : ∀ n, (fixedL n 4).length = 4 := fun n => fixedL_len n 4
  have f8 : ∀ n, (fixedL n 8).length = 8 := fun n => fixedL_len n 8
  have F4 := Lib.hid f4
  have F8 := Lib.hid f8
  have hd' : ¬ 4096 < (data.length : Int) := by omega
  clear hb hn f4 f8
  go_enter Try.func19, Try.ntmps19
  go_wp2_with fail
  refine (frame_sums seed lsn ao data cap _ HB.out HN.out hd).mono ?_
  rintro e w1 ⟨rfl, hb⟩
  have B1 := Lib.hid hb
  clear hb
  go_wp2_with fail
  refine (fixed32_len _ data.length _ (by omega) (by first | rfl | simp)).mono ?_
  rintro e w2 ⟨v2, rfl, hO, hb⟩
  have B2 := Lib.hid (below_trans B1.out hb)
  have O2 := Lib.hid (hO.base B1.out.size)
  clear hO hb
  go_wp2_with fail
  refine (fixed64_to _ lsn _ (by first | rfl | simp)).mono ?_
  rintro e w4 ⟨v4, rfl, hO, hb⟩
  obtain ⟨a4, c4, rfl, x4, n4, -, -, -⟩ := hO.slice
  have X4 := Lib.hid x4
  have N4 := Lib.hid n4
  have O4 := Lib.hid (O2.out.keep hb)
  have B4 := Lib.hid (below_trans B2.out hb)
  clear hO hb x4 n4 O2
  go_wp2_with (refine wpList_append_bytes (o := ⟨some 33, _, _, _, _, _⟩) rfl _ _ rfl w.heap.size _ (fixedL (BitVec.ofNat 64 data.length) 4) rfl O4.out a4 _ c4 (fixedL lsn 8) rfl rfl X4.out N4.out (by rw [F4.out, F8.out]; omega) B4.out.size ?_)
  intro v5 w5 hv hg hi
  have B5 := Lib.hid (B4.out.trans (O4.out.below hg (Nat.le_refl _) B4.out.size))
  have O5 := Lib.hid hv
  clear hv hg hi O4 X4 N4
  go_wp2_with fail
  refine (crc_mask (sumF seed lsn data) _).mono ?_
  rintro e w6 ⟨rfl, rfl⟩
  go_wp2_with fail
  refine (fixed32_bytes (Crc.mask (sumF seed lsn data)) _).mono ?_
  rintro e w7 ⟨v7, rfl, hO, hb⟩
  obtain ⟨a7, c7, rfl, x7, n7, -, -, -⟩ := hO.slice
  have X7 := Lib.hid x7
  have N7 := Lib.hid n7
  have O7 := Lib.hid (O5.out.keep hb)
  have B7 := Lib.hid (below_trans B5.out hb)
  clear hO hb x7 n7 O5
  go_wp2_with (refine wpList_append_bytes (o := ⟨some 38, _, _, _, _, _⟩) rfl _ _ rfl w.heap.size _ (fixedL (BitVec.ofNat 64 data.length) 4 ++ fixedL lsn 8) rfl O7.out a7 _ c7 (fixedL ((Crc.mask (sumF seed lsn data)).setWidth 64) 4) rfl rfl X7.out N7.out (by rw [List.length_append, F4.out, F8.out, F4.out]; omega) B7.out.size ?_)
  intro v8 w8 hv hg hi
  have B8 := Lib.hid (B7.out.trans (O7.out.below hg (Nat.le_refl _) B7.out.size))
  have O8 := Lib.hid (show OwnB w8 w.heap.size v8 (fixedL (BitVec.ofNat 64 data.length) 4 ++ fixedL lsn 8 ++ fixedL ((Crc.mask (sumF seed lsn data)).setWidth 64) 4) from by simpa only [List.append_assoc] using hv)
  clear hv hg hi O7 X7 N7
  go_wp2_with (refine wpList_append_bytes (o := ⟨some 41, _, _, _, _, _⟩) rfl _ _ rfl w.heap.size _ (fixedL (BitVec.ofNat 64 data.length) 4 ++ fixedL lsn 8 ++ fixedL ((Crc.mask (sumF seed lsn data)).setWidth 64) 4) rfl O8.out ao _ cap data rfl rfl (HB.out.below B8.out) HN.out (by rw [List.length_append, List.length_append, F4.out, F8.out, F4.out]; omega) B8.out.size ?_)
  intro v9 w9 hv hg hi
  have B9 := Lib.hid (B8.out.trans (O8.out.below hg (Nat.le_refl _) B8.out.size))
  have O9 := Lib.hid (show OwnB w9 w.heap.size v9 (frameF seed lsn data) from by unfold frameF; simpa only [List.append_assoc] using hv)
  clear hv hg hi O8
  go_wp2_with fail
  go_ret3
  exact ⟨_, rfl, O9.out, B9.out⟩

set_option maxHeartbeats 1000000 in
set_option maxRecDepth 100000 in
theorem frame_write (seed : BitVec 32) (lsn : Int) (ao : Option Addr) (data : List (BitVec 8)) (cap : Nat) (w : World) (hb : BytesAt w ao data) (hn : ao = none → cap = 0) (hl : -9223372036854775808 ≤ lsn ∧ lsn ≤ 9223372036854775807) (hm : data.length ≤ 140737488355328)
    (bytes : List (BitVec 8)) (sum : BitVec 32) (err : Nat) (h : wF seed lsn data = (bytes, sum, err)) :
    Calls Try.prog 19 #[.int .u32 (bv seed), .int .i64 lsn, .slice ao data.length cap] w (WriteB w bytes sum err) := by
  by_cases h1 : lsn < 1
  · unfold wF at h
    rw [if_pos (.inl h1)] at h
    injection h with h0 h; injection h with h3 h4
    subst h0 h3 h4
    clear hb hn hm
    go_enter Try.func19, Try.ntmps19
    go_wp2_with fail
    go_ret3
    exact ⟨_, rfl, OwnB.nil _ _, Below.refl _ _⟩
  by_cases h2 : 9223372036854775806 < lsn
  · unfold wF at h
    rw [if_pos (.inr h2)] at h
    injection h with h0 h; injection h with h3 h4
    subst h0 h3 h4
    clear hb hn hm
    go_enter Try.func19, Try.ntmps19
    go_wp2_with fail
    go_ret3
    exact ⟨_, rfl, OwnB.nil _ _, Below.refl _ _⟩
  by_cases h3 : 4096 < data.length
  · unfold wF at h
    rw [if_neg (by omega), if_pos h3] at h
    injection h with h0 h; injection h with h5 h4
    subst h0 h5 h4
    have h3' : 4096 < (data.length : Int) := by omega
    clear hb hn hm
    go_enter Try.func19, Try.ntmps19
    go_wp2_with fail
    go_ret3
    exact ⟨_, rfl, OwnB.nil _ _, Below.refl _ _⟩
  · unfold wF at h
    rw [if_neg (by omega), if_neg h3] at h
    injection h with h0 h; injection h with h5 h4
    subst h0 h5 h4
    have e := lsn_bv (lsn := lsn) (by omega) (by omega)
    have := frame_write_ok seed (BitVec.ofInt 64 lsn) ao data cap w hb hn (by omega) (by rw [e]; exact h1) (by rw [e]; exact h2)
    rwa [e] at this

set_option maxHeartbeats 2000000 in
set_option maxRecDepth 100000 in
theorem ref_write_ok (seed : BitVec 32) (lsn : BitVec 64) (ao : Option Addr) (data : List (BitVec 8)) (cap : Nat) (w : World) (hb : BytesAt w ao data) (hn : ao = none → cap = 0) (hd : data.length ≤ 4096) (h1 : ¬ bv lsn < 1) (h2 : ¬ 9223372036854775806 < bv lsn) :
    Calls Try.prog 20 #[.int .u32 (bv seed), .int .i64 (bv lsn), .slice ao data.length cap] w (WriteB w (frameF seed lsn data) (sumF seed lsn data) 0) := by
  have HB := Lib.hid hb
  have HN := Lib.hid hn
  have f4 : ∀ n, (fixedL n 4).length = 4 := fun n => fixedL_len n 4
  have f8 : ∀ n, (fixedL n 8).length = 8 := fun n => fixedL_len n 8
  have F4 := Lib.hid f4
  have F8 := Lib.hid f8
  have hd' : ¬ 4096 < (data.length : Int) := by omega
  clear hb hn f4 f8
  go_enter Try.func20, Try.ntmps20
  go_wp2_with fail
  refine (ref_sumF_to seed _ lsn ao data cap _ (by first | rfl | simp) HB.out HN.out hd).mono ?_
  rintro e w1 ⟨rfl, hb⟩
  have B1 := Lib.hid hb
  clear hb
  go_wp2_with fail
  refine (ref_fixed_len _ data.length 4 _ (by omega) (by first | rfl | simp) (by omega)).mono ?_
  rintro e w2 ⟨v2, rfl, hO, hb⟩
  have B2 := Lib.hid (below_trans B1.out hb)
  have O2 := Lib.hid (hO.base B1.out.size)
  clear hO hb
  go_wp2_with fail
  refine (ref_fixed_to _ lsn 8 _ (by first | rfl | simp) (by omega)).mono ?_
  rintro e w4 ⟨v4, rfl, hO, hb⟩
  obtain ⟨a4, c4, rfl, x4, n4, -, -, -⟩ := hO.slice
  have X4 := Lib.hid x4
  have N4 := Lib.hid n4
  have O4 := Lib.hid (O2.out.keep hb)
  have B4 := Lib.hid (below_trans B2.out hb)
  clear hO hb x4 n4 O2
  go_wp2_with (refine wpList_append_bytes (o := ⟨some 33, _, _, _, _, _⟩) rfl _ _ rfl w.heap.size _ (fixedL (BitVec.ofNat 64 data.length) 4) rfl O4.out a4 _ c4 (fixedL lsn 8) rfl rfl X4.out N4.out (by rw [F4.out, F8.out]; omega) B4.out.size ?_)
  intro v5 w5 hv hg hi
  have B5 := Lib.hid (B4.out.trans (O4.out.below hg (Nat.le_refl _) B4.out.size))
  have O5 := Lib.hid hv
  clear hv hg hi O4 X4 N4
  go_wp2_with fail
  refine (ref_mask (sumF seed lsn data) _).mono ?_
  rintro e w6 ⟨rfl, rfl⟩
  go_wp2_with fail
  refine (ref_fixed_to _ ((Crc.mask (sumF seed lsn data)).setWidth 64) 4 _ (by first | rfl | simp) (by omega)).mono ?_
  rintro e w7 ⟨v7, rfl, hO, hb⟩
  obtain ⟨a7, c7, rfl, x7, n7, -, -, -⟩ := hO.slice
  have X7 := Lib.hid x7
  have N7 := Lib.hid n7
  have O7 := Lib.hid (O5.out.keep hb)
  have B7 := Lib.hid (below_trans B5.out hb)
  clear hO hb x7 n7 O5
  go_wp2_with (refine wpList_append_bytes (o := ⟨some 39, _, _, _, _, _⟩) rfl _ _ rfl w.heap.size _ (fixedL (BitVec.ofNat 64 data.length) 4 ++ fixedL lsn 8) rfl O7.out a7 _ c7 (fixedL ((Crc.mask (sumF seed lsn data)).setWidth 64) 4) rfl rfl X7.out N7.out (by rw [List.length_append, F4.out, F8.out, F4.out]; omega) B7.out.size ?_)
  intro v8 w8 hv hg hi
  have B8 := Lib.hid (B7.out.trans (O7.out.below hg (Nat.le_refl _) B7.out.size))
  have O8 := Lib.hid (show OwnB w8 w.heap.size v8 (fixedL (BitVec.ofNat 64 data.length) 4 ++ fixedL lsn 8 ++ fixedL ((Crc.mask (sumF seed lsn data)).setWidth 64) 4) from by simpa only [List.append_assoc] using hv)
  clear hv hg hi O7 X7 N7
  go_wp2_with (refine wpList_append_bytes (o := ⟨some 42, _, _, _, _, _⟩) rfl _ _ rfl w.heap.size _ (fixedL (BitVec.ofNat 64 data.length) 4 ++ fixedL lsn 8 ++ fixedL ((Crc.mask (sumF seed lsn data)).setWidth 64) 4) rfl O8.out ao _ cap data rfl rfl (HB.out.below B8.out) HN.out (by rw [List.length_append, List.length_append, F4.out, F8.out, F4.out]; omega) B8.out.size ?_)
  intro v9 w9 hv hg hi
  have B9 := Lib.hid (B8.out.trans (O8.out.below hg (Nat.le_refl _) B8.out.size))
  have O9 := Lib.hid (show OwnB w9 w.heap.size v9 (frameF seed lsn data) from by unfold frameF; simpa only [List.append_assoc] using hv)
  clear hv hg hi O8
  go_wp2_with fail
  go_ret3
  exact ⟨_, rfl, O9.out, B9.out⟩

set_option maxHeartbeats 1000000 in
set_option maxRecDepth 100000 in
theorem ref_write (seed : BitVec 32) (lsn : Int) (ao : Option Addr) (data : List (BitVec 8)) (cap : Nat) (w : World) (hb : BytesAt w ao data) (hn : ao = none → cap = 0) (hl : -9223372036854775808 ≤ lsn ∧ lsn ≤ 9223372036854775807) (hm : data.length ≤ 140737488355328)
    (bytes : List (BitVec 8)) (sum : BitVec 32) (err : Nat) (h : wF seed lsn data = (bytes, sum, err)) :
    Calls Try.prog 20 #[.int .u32 (bv seed), .int .i64 lsn, .slice ao data.length cap] w (WriteB w bytes sum err) := by
  by_cases h1 : lsn < 1
  · unfold wF at h
    rw [if_pos (.inl h1)] at h
    injection h with h0 h; injection h with h3 h4
    subst h0 h3 h4
    clear hb hn hm
    go_enter Try.func20, Try.ntmps20
    go_wp2_with fail
    go_ret3
    exact ⟨_, rfl, OwnB.nil _ _, Below.refl _ _⟩
  by_cases h2 : 9223372036854775806 < lsn
  · unfold wF at h
    rw [if_pos (.inr h2)] at h
    injection h with h0 h; injection h with h3 h4
    subst h0 h3 h4
    clear hb hn hm
    go_enter Try.func20, Try.ntmps20
    go_wp2_with fail
    go_ret3
    exact ⟨_, rfl, OwnB.nil _ _, Below.refl _ _⟩
  by_cases h3 : 4096 < data.length
  · unfold wF at h
    rw [if_neg (by omega), if_pos h3] at h
    injection h with h0 h; injection h with h5 h4
    subst h0 h5 h4
    have h3' : 4096 < (data.length : Int) := by omega
    clear hb hn hm
    go_enter Try.func20, Try.ntmps20
    go_wp2_with fail
    go_ret3
    exact ⟨_, rfl, OwnB.nil _ _, Below.refl _ _⟩
  · unfold wF at h
    rw [if_neg (by omega), if_neg h3] at h
    injection h with h0 h; injection h with h5 h4
    subst h0 h5 h4
    have e := lsn_bv (lsn := lsn) (by omega) (by omega)
    have := ref_write_ok seed (BitVec.ofInt 64 lsn) ao data cap w hb hn (by omega) (by rw [e]; exact h1) (by rw [e]; exact h2)
    rwa [e] at this
end Go.Proofs.Ytfadpjljokpenaa

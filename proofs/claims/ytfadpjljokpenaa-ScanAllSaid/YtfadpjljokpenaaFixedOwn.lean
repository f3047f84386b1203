/- The walks of fixed, Fixed32, Fixed64 once more: what they make is of the call's own and may be appended to; the bytes by name. -/
import Derived.Test.YtfadpjljokpenaaFresh
import Derived.Test.YtfadpjljokpenaaWireForm
import Derived.Test.YtfadpjljokpenaaPlainFrame
import Derived.Test.YtfadpjljokpenaaWireForms
namespace Go.Proofs.Ytfadpjljokpenaa
open Go.RowKit

set_option maxRecDepth 100000 in
theorem fixed_bytes (n : BitVec 64) (size : Nat) (w : World) (hs : size ≤ 8) :
    Calls Try.prog 77 #[.int .u64 (bv n), .int .i64 size] w fun e w' => ∃ v, e = .returned v ∧ OwnB w' w.heap.size v (fixedL n size) ∧ Below w.heap.size w w' := by
  obtain ⟨i0, hi, hz0, hz1, hz2⟩ := info_parts Try.infoByte
  have hmk : ∀ u : World, (Instr.makeSlice 31 (.int .i64 (size : Int)) (.int .i64 (size : Int))).run Try.prog u =
      .ok (.slice (some ⟨u.heap.size, 0, none⟩) size size) (u.alloc (.cells (madeCells #[.int .u8 0] size) 5)) := fun u => by
    have h := run_make (P := Try.prog) u 31 5 i0 (.int .u8 0) Try.underlying31 hi hz0 .i64 .i64 (size : Int) (size : Int) (by omega) (Int.le_refl _) (by rw [hz2]; omega) (by omega)
    simpa [hz1, Value.cells] using h
  have H0 : Hid (OwnB (w.alloc (.cells (madeCells #[.int .u8 0] size) 5)) w.heap.size (.slice (some ⟨w.heap.size, 0, none⟩) size size) (List.replicate size 0#8)) := Lib.hid (by
    have h := World.ownsRow_lit (base := w.heap.size) (e := 5) (size := 1) w (madeCells #[.int .u8 0] size) size (Nat.le_refl _) (by simp only [maxLen]; omega) (by simp [madeCells])
    rw [toList_madeCells_one] at h
    unfold OwnB
    rw [List.length_replicate, show bvals (List.replicate size 0#8) = List.replicate size (.int .u8 0) from by simp [bvals, bval, bv]]
    exact h)
  clear hi hz0 hz1 hz2
  go_enter Try.func77, Try.ntmps77
  go_wp2_with fail
  go_loopw [11] (fun i wr => ∃ (k : Nat) (bs : List (BitVec 8)), k ≤ size ∧ i = .int .i64 k ∧ Hid (OwnB wr w.heap.size (.slice (some ⟨w.heap.size, 0, none⟩) size size) bs) ∧ Hid (bs.length = size ∧ ∀ j, j < k → at8 bs j = le8 n j) ∧ Below w.heap.size w wr) (fun i _ => size - (intOf i).toNat)
  case atStart => exact ⟨0, _, by omega, rfl, H0, Lib.hid ⟨by simp, fun j hj => by omega⟩, below_alloc _ _⟩
  case round =>
    obtain ⟨k, bs, hk, rfl, hO, hL, hB⟩ := hrel
    have HB := Lib.hid hB
    clear hB
    by_cases hlt : k < size
    · obtain ⟨hc, hf⟩ := own_cell hO.out hL.out.1 hlt
      have T : ∀ b8 : BitVec 8, OwnB (wr.setCell ⟨w.heap.size, k, none⟩ (.int .u8 (bv b8))) w.heap.size (.slice (some ⟨w.heap.size, 0, none⟩) size size) (bs.set k b8) := fun b8 => by
        have h := (World.ownsRow.stored (show wr.ownsRow w.heap.size 5 1 (.slice (some ⟨w.heap.size, 0, none⟩) size size) size (bvals bs) by have := hO.out; unfold OwnB at this; rwa [hL.out.1] at this) k (.int .u8 (bv b8))).1
        unfold OwnB
        rw [List.length_set, hL.out.1, show bvals (bs.set k b8) = (bvals bs).set k (.int .u8 (bv b8)) from List.map_set (f := bval)]
        exact h
      have HL : Hid ((bs.set k (le8 n k)).length = size ∧ ∀ j, j < k + 1 → at8 (bs.set k (le8 n k)) j = le8 n j) := Lib.hid (by
        refine ⟨by rw [List.length_set]; exact hL.out.1, fun j hj => ?_⟩
        by_cases e : k = j
        · subst e
          unfold at8
          rw [List.getD_eq_getElem?_getD, List.getElem?_set_self (by rw [hL.out.1]; exact hlt)]; rfl
        · have := hL.out.2 j (by omega)
          unfold at8 at this ⊢
          rw [List.getD_eq_getElem?_getD, List.getElem?_set_ne e, ← List.getD_eq_getElem?_getD]; exact this)
      go_wp2_with fail
      go_roundw
      case rel => exact ⟨k + 1, _, by omega, by go_num, Lib.hid (T _), HL, HB.out.setCell (p := ⟨w.heap.size, k, none⟩) (Nat.le_refl _) _⟩
      case measure => simp [intOf]; omega
    · obtain rfl : k = size := by omega
      have HE : Hid (bs = fixedL n k) := Lib.hid (eq_take_all hL.out.1 (fixedL_len _ _) fun j hj => by rw [hL.out.2 j hj, fixedL_at _ _ _ hj])
      go_wp2_with fail
      go_ret
      exact ⟨_, rfl, HE.out ▸ hO.out, HB.out⟩
set_option maxRecDepth 100000 in
theorem fixed64_bytes (n : BitVec 64) (w : World) :
    Calls Try.prog 42 #[.int .u64 (bv n)] w fun e w' => ∃ v, e = .returned v ∧ OwnB w' w.heap.size v (fixedL n 8) ∧ Below w.heap.size w w' := by
  go_enter Try.func42, Try.ntmps42
  go_wp2_with fail
  refine (fixed_bytes n 8 _ (by omega)).mono ?_
  rintro e w1 ⟨v, rfl, hO, hb⟩
  have HH := Lib.hid (show OwnB w1 w.heap.size v (fixedL n 8) ∧ Below w.heap.size w w1 from ⟨hO, hb⟩)
  clear hO hb
  go_wp2_with fail
  go_ret
  exact ⟨_, rfl, HH.out⟩
set_option maxRecDepth 100000 in
theorem fixed32_bytes (n : BitVec 32) (w : World) :
    Calls Try.prog 41 #[.int .u32 (bv n)] w fun e w' => ∃ v, e = .returned v ∧ OwnB w' w.heap.size v (fixedL (n.setWidth 64) 4) ∧ Below w.heap.size w w' := by
  go_enter Try.func41, Try.ntmps41
  go_wp2_with fail
  refine (fixed_bytes (n.setWidth 64) 4 _ (by omega)).mono ?_
  rintro e w1 ⟨v, rfl, hO, hb⟩
  have HH := Lib.hid (show OwnB w1 w.heap.size v (fixedL (n.setWidth 64) 4) ∧ Below w.heap.size w w1 from ⟨hO, hb⟩)
  clear hO hb
  go_wp2_with fail
  go_ret
  exact ⟨_, rfl, HH.out⟩
end Go.Proofs.Ytfadpjljokpenaa

/-! The walks of a frame's sum, the program's and the document's. -/
namespace Go.Proofs.Ytfadpjljokpenaa
open Go.RowKit

theorem len32 (n : Nat) (h : n < 4294967296) : (n : Int) = bv (BitVec.ofNat 32 n) := (bv_ofNat (n := 32) h).symm
theorem len32_64 (n : Nat) (h : n < 4294967296) : (BitVec.ofNat 32 n).setWidth 64 = BitVec.ofNat 64 n := by
  apply BitVec.eq_of_toNat_eq
  rw [BitVec.toNat_setWidth, BitVec.toNat_ofNat, BitVec.toNat_ofNat]
  omega
theorem fixed32_len (x : Int) (n : Nat) (w : World) (hn : n < 4294967296) (hx : x = n) :
    Calls Try.prog 41 #[.int .u32 x] w fun e w' => ∃ v, e = .returned v ∧ OwnB w' w.heap.size v (fixedL (BitVec.ofNat 64 n) 4) ∧ Below w.heap.size w w' := by
  subst hx
  rw [len32 n hn, ← len32_64 n hn]
  exact fixed32_bytes _ _
theorem ref_fixed_len (x : Int) (n size : Nat) (w : World) (hn : n < 4294967296) (hx : x = n) (hs : size ≤ 8) :
    Calls Try.prog 48 #[.int .u64 x, .int .i64 size] w fun e w' => ∃ v, e = .returned v ∧ OwnB w' w.heap.size v (fixedL (BitVec.ofNat 64 n) size) ∧ Below w.heap.size w w' := by
  subst hx
  rw [bv_len n (by omega)]
  exact ref_fixed _ _ _ hs
theorem fixed64_to (x : Int) (n : BitVec 64) (w : World) (hx : x = bv n) :
    Calls Try.prog 42 #[.int .u64 x] w fun e w' => ∃ v, e = .returned v ∧ OwnB w' w.heap.size v (fixedL n 8) ∧ Below w.heap.size w w' := by
  subst hx; exact fixed64_bytes n w
theorem crc_sum_to (v : Value) (base : Nat) (bs : List (BitVec 8)) (w : World) (ho : OwnB w base v bs) (hm : bs.length ≤ 140737488351232) :
    Calls Try.prog 70 #[v] w fun e w' => e = .returned (.int .u32 (bv (Crc.sum bs))) ∧ Below w.heap.size w w' := by
  obtain ⟨ao, cap, rfl, hb, -, -, -, -⟩ := ho.slice
  exact crc_sum ao bs cap w hb hm
theorem ref_sum_to (v : Value) (base : Nat) (bs : List (BitVec 8)) (w : World) (ho : OwnB w base v bs) (hm : bs.length ≤ 140737488351232) :
    Calls Try.prog 72 #[v] w fun e w' => e = .returned (.int .u32 (bv (Crc.sum bs))) ∧ Below w.heap.size w w' := by
  obtain ⟨ao, cap, rfl, hb, -, -, -, -⟩ := ho.slice
  exact (ref_sum ao bs cap w hb hm).mono fun _ _ ⟨he, hw⟩ => ⟨he, hw ▸ Below.refl _ _⟩
theorem wrap_lsn (lsn : BitVec 64) (hl : lsn.toNat ≤ 9223372036854775807) : IntKind.u64.wrap (bv lsn) = bv lsn := by
  unfold bv; rw [IntKind.wrap_u64]; omega

set_option maxHeartbeats 1000000 in
set_option maxRecDepth 100000 in
theorem frame_sums (seed : BitVec 32) (lsn : BitVec 64) (ao : Option Addr) (data : List (BitVec 8)) (cap : Nat) (w : World) (hb : BytesAt w ao data) (hn : ao = none → cap = 0) (hd : data.length ≤ 4096) :
    Calls Try.prog 63 #[.int .u32 (bv seed), .int .i64 (bv lsn), .slice ao data.length cap] w fun e w' => e = .returned (.int .u32 (bv (sumF seed lsn data))) ∧ Below w.heap.size w w' := by
  have HB := Lib.hid hb
  have HN := Lib.hid hn
  have f4 : ∀ n, (fixedL n 4).length = 4 := fun n => fixedL_len n 4
  have f8 : ∀ n, (fixedL n 8).length = 8 := fun n => fixedL_len n 8
  have F4 := Lib.hid f4
  have F8 := Lib.hid f8
  clear hb hn f4 f8
  go_enter Try.func63, Try.ntmps63
  go_wp2_with fail
  refine (fixed32_bytes seed _).mono ?_
  rintro e w1 ⟨v1, rfl, hO, hb⟩
  have O1 := Lib.hid hO
  have B1 := Lib.hid hb
  clear hO hb
  go_wp2_with fail
  refine (fixed32_len _ data.length _ (by omega) (by first | rfl | simp)).mono ?_
  rintro e w2 ⟨v2, rfl, hO, hb⟩
  obtain ⟨a2, c2, rfl, x2, n2, -, -, -⟩ := hO.slice
  have X2 := Lib.hid x2
  have N2 := Lib.hid n2
  have O2 := Lib.hid (O1.out.keep hb)
  have B2 := Lib.hid (below_trans B1.out hb)
  clear hO hb x2 n2 O1
  go_wp2_with (refine wpList_append_bytes (o := ⟨some 14, _, _, _, _, _⟩) rfl _ _ rfl w.heap.size _ (fixedL (seed.setWidth 64) 4) rfl O2.out a2 _ c2 (fixedL (BitVec.ofNat 64 data.length) 4) rfl rfl X2.out N2.out (by rw [F4.out, F4.out]; omega) B2.out.size ?_)
  intro v3 w3 hv hg hi
  have B3 := Lib.hid (B2.out.trans (O2.out.below hg (Nat.le_refl _) B2.out.size))
  have O3 := Lib.hid hv
  clear hv hg hi O2 X2 N2
  go_wp2_with fail
  refine (fixed64_to _ lsn _ (by first | rfl | simp)).mono ?_
  rintro e w4 ⟨v4, rfl, hO, hb⟩
  obtain ⟨a4, c4, rfl, x4, n4, -, -, -⟩ := hO.slice
  have X4 := Lib.hid x4
  have N4 := Lib.hid n4
  have O4 := Lib.hid (O3.out.keep hb)
  have B4 := Lib.hid (below_trans B3.out hb)
  clear hO hb x4 n4 O3
  go_wp2_with (refine wpList_append_bytes (o := ⟨some 19, _, _, _, _, _⟩) rfl _ _ rfl w.heap.size _ (fixedL (seed.setWidth 64) 4 ++ fixedL (BitVec.ofNat 64 data.length) 4) rfl O4.out a4 _ c4 (fixedL lsn 8) rfl rfl X4.out N4.out (by rw [List.length_append, F4.out, F4.out, F8.out]; omega) B4.out.size ?_)
  intro v5 w5 hv hg hi
  have B5 := Lib.hid (B4.out.trans (O4.out.below hg (Nat.le_refl _) B4.out.size))
  have O5 := Lib.hid (show OwnB w5 w.heap.size v5 (fixedL (seed.setWidth 64) 4 ++ fixedL (BitVec.ofNat 64 data.length) 4 ++ fixedL lsn 8) from by simpa only [List.append_assoc] using hv)
  clear hv hg hi O4 X4 N4
  go_wp2_with (refine wpList_append_bytes (o := ⟨some 22, _, _, _, _, _⟩) rfl _ _ rfl w.heap.size _ (fixedL (seed.setWidth 64) 4 ++ fixedL (BitVec.ofNat 64 data.length) 4 ++ fixedL lsn 8) rfl O5.out ao _ cap data rfl rfl (HB.out.below B5.out) HN.out (by rw [List.length_append, List.length_append, F4.out, F4.out, F8.out]; omega) B5.out.size ?_)
  intro v6 w6 hv hg hi
  have B6 := Lib.hid (B5.out.trans (O5.out.below hg (Nat.le_refl _) B5.out.size))
  have O6 := Lib.hid (show OwnB w6 w.heap.size v6 (fixedL (seed.setWidth 64) 4 ++ fixedL (BitVec.ofNat 64 data.length) 4 ++ fixedL lsn 8 ++ data) from by simpa only [List.append_assoc] using hv)
  clear hv hg hi O5
  go_wp2_with fail
  refine (crc_sum_to _ _ _ _ O6.out (by rw [List.length_append, List.length_append, List.length_append, F4.out, F4.out, F8.out]; omega)).mono ?_
  rintro e w7 ⟨rfl, hb⟩
  have B7 := Lib.hid (below_trans B6.out hb)
  clear hb
  go_wp2_with fail
  go_ret
  exact ⟨rfl, B7.out⟩

set_option maxHeartbeats 1000000 in
set_option maxRecDepth 100000 in
theorem ref_sumF (seed : BitVec 32) (lsn : BitVec 64) (ao : Option Addr) (data : List (BitVec 8)) (cap : Nat) (w : World) (hb : BytesAt w ao data) (hn : ao = none → cap = 0) (hd : data.length ≤ 4096) :
    Calls Try.prog 65 #[.int .u32 (bv seed), .int .u64 (bv lsn), .slice ao data.length cap] w fun e w' => e = .returned (.int .u32 (bv (sumF seed lsn data))) ∧ Below w.heap.size w w' := by
  have HB := Lib.hid hb
  have HN := Lib.hid hn
  have f4 : ∀ n, (fixedL n 4).length = 4 := fun n => fixedL_len n 4
  have f8 : ∀ n, (fixedL n 8).length = 8 := fun n => fixedL_len n 8
  have F4 := Lib.hid f4
  have F8 := Lib.hid f8
  clear hb hn f4 f8
  go_enter Try.func65, Try.ntmps65
  go_wp2_with fail
  refine (ref_fixed_to _ (seed.setWidth 64) 4 _ (by first | rfl | simp) (by omega)).mono ?_
  rintro e w1 ⟨v1, rfl, hO, hb⟩
  have O1 := Lib.hid hO
  have B1 := Lib.hid hb
  clear hO hb
  go_wp2_with fail
  refine (ref_fixed_len _ data.length 4 _ (by omega) (by first | rfl | simp) (by omega)).mono ?_
  rintro e w2 ⟨v2, rfl, hO, hb⟩
  obtain ⟨a2, c2, rfl, x2, n2, -, -, -⟩ := hO.slice
  have X2 := Lib.hid x2
  have N2 := Lib.hid n2
  have O2 := Lib.hid (O1.out.keep hb)
  have B2 := Lib.hid (below_trans B1.out hb)
  clear hO hb x2 n2 O1
  go_wp2_with (refine wpList_append_bytes (o := ⟨some 16, _, _, _, _, _⟩) rfl _ _ rfl w.heap.size _ (fixedL (seed.setWidth 64) 4) rfl O2.out a2 _ c2 (fixedL (BitVec.ofNat 64 data.length) 4) rfl rfl X2.out N2.out (by rw [F4.out, F4.out]; omega) B2.out.size ?_)
  intro v3 w3 hv hg hi
  have B3 := Lib.hid (B2.out.trans (O2.out.below hg (Nat.le_refl _) B2.out.size))
  have O3 := Lib.hid hv
  clear hv hg hi O2 X2 N2
  go_wp2_with fail
  refine (ref_fixed_to _ lsn 8 _ (by first | rfl | simp) (by omega)).mono ?_
  rintro e w4 ⟨v4, rfl, hO, hb⟩
  obtain ⟨a4, c4, rfl, x4, n4, -, -, -⟩ := hO.slice
  have X4 := Lib.hid x4
  have N4 := Lib.hid n4
  have O4 := Lib.hid (O3.out.keep hb)
  have B4 := Lib.hid (below_trans B3.out hb)
  clear hO hb x4 n4 O3
  go_wp2_with (refine wpList_append_bytes (o := ⟨some 20, _, _, _, _, _⟩) rfl _ _ rfl w.heap.size _ (fixedL (seed.setWidth 64) 4 ++ fixedL (BitVec.ofNat 64 data.length) 4) rfl O4.out a4 _ c4 (fixedL lsn 8) rfl rfl X4.out N4.out (by rw [List.length_append, F4.out, F4.out, F8.out]; omega) B4.out.size ?_)
  intro v5 w5 hv hg hi
  have B5 := Lib.hid (B4.out.trans (O4.out.below hg (Nat.le_refl _) B4.out.size))
  have O5 := Lib.hid (show OwnB w5 w.heap.size v5 (fixedL (seed.setWidth 64) 4 ++ fixedL (BitVec.ofNat 64 data.length) 4 ++ fixedL lsn 8) from by simpa only [List.append_assoc] using hv)
  clear hv hg hi O4 X4 N4
  go_wp2_with (refine wpList_append_bytes (o := ⟨some 23, _, _, _, _, _⟩) rfl _ _ rfl w.heap.size _ (fixedL (seed.setWidth 64) 4 ++ fixedL (BitVec.ofNat 64 data.length) 4 ++ fixedL lsn 8) rfl O5.out ao _ cap data rfl rfl (HB.out.below B5.out) HN.out (by rw [List.length_append, List.length_append, F4.out, F4.out, F8.out]; omega) B5.out.size ?_)
  intro v6 w6 hv hg hi
  have B6 := Lib.hid (B5.out.trans (O5.out.below hg (Nat.le_refl _) B5.out.size))
  have O6 := Lib.hid (show OwnB w6 w.heap.size v6 (fixedL (seed.setWidth 64) 4 ++ fixedL (BitVec.ofNat 64 data.length) 4 ++ fixedL lsn 8 ++ data) from by simpa only [List.append_assoc] using hv)
  clear hv hg hi O5
  go_wp2_with fail
  refine (ref_sum_to _ _ _ _ O6.out (by rw [List.length_append, List.length_append, List.length_append, F4.out, F4.out, F8.out]; omega)).mono ?_
  rintro e w7 ⟨rfl, hb⟩
  have B7 := Lib.hid (below_trans B6.out hb)
  clear hb
  go_wp2_with fail
  go_ret
  exact ⟨rfl, B7.out⟩
theorem ref_sumF_to (seed : BitVec 32) (x : Int) (lsn : BitVec 64) (ao : Option Addr) (data : List (BitVec 8)) (cap : Nat) (w : World) (hx : x = bv lsn) (hb : BytesAt w ao data) (hn : ao = none → cap = 0) (hd : data.length ≤ 4096) :
    Calls Try.prog 65 #[.int .u32 (bv seed), .int .u64 x, .slice ao data.length cap] w fun e w' => e = .returned (.int .u32 (bv (sumF seed lsn data))) ∧ Below w.heap.size w w' := by
  subst hx; exact ref_sumF seed lsn ao data cap w hb hn hd
end Go.Proofs.Ytfadpjljokpenaa

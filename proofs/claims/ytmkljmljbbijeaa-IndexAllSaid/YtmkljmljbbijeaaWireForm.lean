/- The walks of String, front, Zig and Zag. -/
import Derived.Test.YtmkljmljbbijeaaWireBegun
import Derived.Test.YtmkljmljbbijeaaPlainWire
import Derived.Lib.Zigzag
import Derived.BigQuiet
import Derived.Laws.MakeOwn
namespace Go.Proofs.Ytmkljmljbbijeaa
open Go.RowKit

theorem bv_len (n : Nat) (h : n < 18446744073709551616) : (n : Int) = bv (BitVec.ofNat 64 n) := (bv_ofNat (n := 64) h).symm
set_option maxRecDepth 100000 in
theorem wire_string (ao : Option Addr) (bs : List (BitVec 8)) (cap : Nat) (w : World) (hb : BytesAt w ao bs) (hn : ao = none → cap = 0) (hm : bs.length ≤ 140737488355318) :
    Calls Try.prog 57 #[.slice ao bs.length cap] w fun e w' => ∃ v, e = .returned v ∧ OwnB w' w.heap.size v (wstr bs) ∧ Below w.heap.size w w' := by
  have HB := Lib.hid hb
  have HN := Lib.hid hn
  clear hb hn
  go_enter Try.func57, Try.ntmps57
  go_wp2_with fail
  rw [bv_len bs.length (by omega)]
  refine (wire_varint _ _).mono ?_
  rintro x w1 ⟨v1, rfl, hO, hb⟩
  have O1 := Lib.hid hO
  have B1 := Lib.hid hb
  have V1 := Lib.hid (varint_len (BitVec.ofNat 64 bs.length))
  clear hO hb
  rw [← bv_len bs.length (by omega)]
  go_wp2_with (refine wpList_append_bytes (o := ⟨some 8, _, _, _, _, _⟩) rfl _ _ rfl w.heap.size _ (varint (BitVec.ofNat 64 bs.length)) rfl O1.out ao bs.length cap bs rfl rfl (HB.out.below B1.out) HN.out (by have := V1.out; omega) B1.out.size ?_)
  intro v3 w3 hv3 hg3 hi3
  have H3 : Hid (Below w.heap.size w w3) := B1.out.trans (O1.out.below hg3 (Nat.le_refl _) B1.out.size)
  have O3 : Hid (OwnB w3 w.heap.size v3 (wstr bs)) := hv3
  clear hi3 hg3 hv3
  go_wp2_with fail
  go_ret
  exact ⟨_, rfl, O3.out, H3.out⟩

theorem BytesAt.take {w : World} {ao : Option Addr} {bs : List (BitVec 8)} (h : BytesAt w ao bs) (m : Nat) : BytesAt w ao (bs.take m) := fun i hi => by
  have hi' : i < m ∧ i < bs.length := by simp at hi; omega
  obtain ⟨b, off, e, hc⟩ := h i hi'.2
  refine ⟨b, off, e, hc.trans ?_⟩
  congr 3
  unfold at8
  simp [List.getD_eq_getElem?_getD, hi'.1]
theorem eq_take (a b : Option Addr) (xs ys : List (BitVec 8)) (m ca cb : Nat) (t : Bool) (w : World) (ha : BytesAt w a xs) (hb : BytesAt w b ys) (hx : m ≤ xs.length) (hy : m ≤ ys.length) (hm : m ≤ 140737488355328) (ht : decide (xs.take m = ys.take m) = t) :
    Calls Try.prog 23 #[.slice a m ca, .slice b m cb] w fun e w' => e = .returned (.bool t) ∧ Below w.heap.size w w' :=
  (eq_bytes_of a b _ _ m m ca cb t w (ha.take m) (hb.take m) (by simp; omega) (by simp; omega) (by simp; omega) ht).mono fun _ _ ⟨he, n, hw⟩ => ⟨he, hw ▸ below_drewN _ _⟩


theorem xor_none64 (x : Int) (h0 : 0 ≤ x) (h1 : x < 18446744073709551616) : bits .xor .u64 x 0 = x := by
  obtain ⟨n, rfl⟩ := Int.eq_ofNat_of_zero_le h0
  have h := u64_xor_nat n 0 (by omega) (by decide)
  rw [Nat.xor_zero] at h
  exact h
theorem xor_ones (z : Int) (hz : -9223372036854775808 ≤ z) (h : z < 0) : bits .xor .u64 (IntKind.u64.wrap (IntKind.u64.wrap z * 2)) (IntKind.u64.wrap (z / 9223372036854775808)) = -2 * z - 1 := by
  have e1 : IntKind.u64.wrap (IntKind.u64.wrap z * 2) = (((2 * z + 18446744073709551616).toNat : Nat) : Int) := by
    rw [IntKind.wrap_u64, IntKind.wrap_u64]; omega
  have e2 : IntKind.u64.wrap (z / 9223372036854775808) = ((2 ^ 64 - 1 : Nat) : Int) := by
    rw [IntKind.wrap_u64, show z / 9223372036854775808 = -1 by omega]; rfl
  rw [e1, e2, u64_xor_nat _ _ (by omega) (by decide), Nat.xor_comm, Lib.xor_ones64 _ (by omega)]
  omega
theorem i64_xor_none (x : Nat) (hx : x < 9223372036854775808) : bits .xor .i64 (x : Int) 0 = x := by
  show IntKind.i64.wrap ((BitVec.ofInt 64 (x : Int) ^^^ BitVec.ofInt 64 0).toNat : Int) = _
  have h1 : (BitVec.ofInt 64 0).toNat = 0 := by decide
  have h2 : (BitVec.ofInt 64 (x : Int)).toNat = x := by
    rw [BitVec.ofInt_natCast, BitVec.toNat_ofNat]; exact Nat.mod_eq_of_lt (by omega)
  rw [BitVec.toNat_xor, h1, h2, Nat.xor_zero, IntKind.wrap_i64]
  omega
theorem i64_xor_ones (x : Nat) (hx : x < 9223372036854775808) : bits .xor .i64 (x : Int) (-1) = -(x : Int) - 1 := by
  show IntKind.i64.wrap ((BitVec.ofInt 64 (x : Int) ^^^ BitVec.ofInt 64 (-1)).toNat : Int) = _
  have h1 : (BitVec.ofInt 64 (-1)).toNat = 2 ^ 64 - 1 := by decide
  have h2 : (BitVec.ofInt 64 (x : Int)).toNat = x := by
    rw [BitVec.ofInt_natCast, BitVec.toNat_ofNat]; exact Nat.mod_eq_of_lt (by omega)
  rw [BitVec.toNat_xor, h1, h2, Nat.xor_comm, Lib.xor_ones64 x (by omega), IntKind.wrap_i64]
  omega

/-- A signed number as an unsigned one, and back. -/
def zig (z : Int) : Int := if 0 ≤ z then 2 * z else -2 * z - 1
def zag (u : Int) : Int := if u % 2 = 0 then u / 2 else -(u / 2) - 1
theorem zag_zig (z : Int) : zag (zig z) = z := by
  unfold zag zig
  split <;> split <;> omega
theorem zig_range {z : Int} (hz : -9223372036854775808 ≤ z ∧ z ≤ 9223372036854775807) : 0 ≤ zig z ∧ zig z < 18446744073709551616 := by
  unfold zig; split <;> omega
set_option maxRecDepth 100000 in
theorem wire_zig (z : Int) (w : World) (hz : -9223372036854775808 ≤ z ∧ z ≤ 9223372036854775807) :
    Calls Try.prog 63 #[.int .i64 z] w fun e w' => e = .returned (.int .u64 (zig z)) ∧ w = w' := by
  by_cases h : 0 ≤ z
  · go_enter Try.func63, Try.ntmps63
    go_wp2_with fail
    go_ret
    refine ⟨congrArg (fun x => Ending.returned (.int .u64 x)) ?_, rfl⟩
    rw [show z / 9223372036854775808 = 0 by omega]
    exact (xor_none64 _ (by omega) (by omega)).trans (by unfold zig; rw [if_pos h]; omega)
  · have hn : z < 0 := by omega
    go_enter Try.func63, Try.ntmps63
    go_wp2_with fail
    go_ret
    refine ⟨congrArg (fun x => Ending.returned (.int .u64 x)) ?_, rfl⟩
    exact (xor_ones z hz.1 hn).trans (by unfold zig; rw [if_neg (by omega)])
theorem zag_bits (u : Nat) (hu : u < 18446744073709551616) : bits .xor .i64 ((u : Int) / 2) (wrap64 (-wrap64 (bits .and .u64 (u : Int) 1))) = zag u := by
  have h1 := Lib.u64_and1 (u : Int) (by omega) (by omega)
  rw [h1, show ((u : Int) / 2) = ((u / 2 : Nat) : Int) by omega]
  by_cases h : (u : Int) % 2 = 0
  · rw [h, show wrap64 (-wrap64 0) = 0 by decide +kernel, i64_xor_none _ (by omega)]
    unfold zag; rw [if_pos h]; omega
  · have h' : (u : Int) % 2 = 1 := by omega
    rw [h', show wrap64 (-wrap64 1) = -1 by decide +kernel, i64_xor_ones _ (by omega)]
    unfold zag; rw [if_neg h]; omega
set_option maxRecDepth 100000 in
theorem wire_zag (u : Nat) (w : World) (hu : u < 18446744073709551616) :
    Calls Try.prog 60 #[.int .u64 u] w fun e w' => e = .returned (.int .i64 (zag u)) ∧ w = w' := by
  have H := Lib.hid (zag_bits u hu)
  go_enter Try.func60, Try.ntmps60
  go_wp2_with fail
  go_ret
  exact ⟨congrArg (fun x => Ending.returned (.int .i64 x)) H.out, rfl⟩
theorem wire_zag_int (u : Int) (w : World) (h0 : 0 ≤ u) (h1 : u < 18446744073709551616) :
    Calls Try.prog 60 #[.int .u64 u] w fun e w' => e = .returned (.int .i64 (zag u)) ∧ w = w' := by
  obtain ⟨n, rfl⟩ := Int.eq_ofNat_of_zero_le h0
  exact wire_zag n w (by omega)
end Go.Proofs.Ytmkljmljbbijeaa

/-! The walks of fixed, Fixed32, Fixed64, and of the document's Varint, String, Fixed, Zig, Zag. -/
namespace Go.Proofs.Ytmkljmljbbijeaa
open Go.RowKit

/-- The lowest so many bytes of a number, the lowest first. -/
def le8 (n : BitVec 64) (i : Nat) : BitVec 8 := (n >>> (8 * i)).setWidth 8
def fixedL (n : BitVec 64) (size : Nat) : List (BitVec 8) := (List.range size).map (le8 n)
theorem fixedL_len (n : BitVec 64) (size : Nat) : (fixedL n size).length = size := by simp [fixedL]
theorem fixedL_at (n : BitVec 64) (size i : Nat) (h : i < size) : at8 (fixedL n size) i = le8 n i := by
  unfold fixedL at8; simp [h]
theorem fixedL_next (n : BitVec 64) (k : Nat) : fixedL n k ++ [le8 n k] = fixedL n (k + 1) := by
  simp [fixedL, List.range_succ]
theorem le8_add (n : BitVec 64) (k : Nat) : (n >>> (8 * k)).setWidth 8 = le8 n k := rfl

theorem or_128 (x : BitVec 8) : (x &&& 127#8) + 128#8 = x ||| 128#8 := by revert x; decide
theorem and_255 (x : BitVec 8) : x &&& 255#8 = x := by revert x; decide
theorem wrap_add_u8_128 (x : BitVec 8) : IntKind.u8.wrap (bv x + 128) = bv (x + 128#8) := by
  unfold bv
  rw [IntKind.wrap_u8', BitVec.toNat_add, Int.natCast_emod, Int.natCast_add]
  rfl
attribute [go_sem] wrap_add_u8_128

set_option maxRecDepth 100000 in
theorem ref_varint (n : BitVec 64) (w : World) :
    Calls Try.prog 59 #[.int .u64 (bv n)] w fun e w' => ∃ v, e = .returned v ∧ OwnB w' w.heap.size v (varint n) ∧ Below w.heap.size w w' := by
  go_enter Try.func59, Try.ntmps59
  go_wp2_with fail
  go_loopw [0, 3] (fun z v wr => ∃ (m : BitVec 64) (xs : List (BitVec 8)), z = .int .u64 (bv m) ∧ Hid (OwnB wr w.heap.size v xs) ∧ Hid (WrAt n xs m) ∧ Hid (Below w.heap.size w wr)) (fun z _ _ => (intOf z).toNat)
  case atStart => exact ⟨n, [], rfl, OwnB.nil _ _, WrAt.start n, Below.refl _ _⟩
  case round =>
    obtain ⟨m, xs, rfl, hO, hW, hB⟩ := hrel
    by_cases h1 : 128 ≤ bv m
    · have HN := Lib.hid (hW.out.next h1)
      have HM8 := Lib.hid (or_128 (m.setWidth 8))
      have V3 := Lib.hid (hO.out.keep (below_alloc wr (.cells (bvals [(m.setWidth 8 &&& 127#8) + 128#8]).toArray 5 (0, 0))))
      have HM := Lib.hid (bytes_new wr [(m.setWidth 8 &&& 127#8) + 128#8] 5 (0, 0))
      have HS : Hid (w.heap.size ≤ (wr.alloc (.cells (bvals [(m.setWidth 8 &&& 127#8) + 128#8]).toArray 5 (0, 0))).heap.size) := Nat.le_trans hB.out.size (below_alloc wr _).size
      go_wp2_with (refine wpList_append_bytes (o := ⟨some 12, _, _, _, _, _⟩) rfl _ _ rfl w.heap.size _ xs rfl V3.out (some ⟨wr.heap.size, 0, none⟩) 1 1 [(m.setWidth 8 &&& 127#8) + 128#8] rfl rfl HM.out (fun h => nomatch h) (by have := hW.out.1; simp; omega) HS.out ?_)
      intro v3 w3 hv3 hg3 hi3
      have H3 : Hid (Below w.heap.size w w3) := (hB.out.trans ((below_alloc wr _).mono hB.out.size)).trans (V3.out.below hg3 (Nat.le_refl _) HS.out)
      have O3 : Hid (OwnB w3 w.heap.size v3 (xs ++ [m.setWidth 8 ||| 128#8])) := HM8.out ▸ hv3
      clear hi3 hg3 hv3
      go_wp2_with fail
      go_roundw
      case rel => exact ⟨m >>> 7, _, rfl, O3, HN, H3⟩
      case measure => exact shr_lt h1
    · have HD := Lib.hid (hW.out.done (by omega))
      have V3 := Lib.hid (hO.out.keep (below_alloc wr (.cells (bvals [m.setWidth 8]).toArray 5 (0, 0))))
      have HM := Lib.hid (bytes_new wr [m.setWidth 8] 5 (0, 0))
      have HS : Hid (w.heap.size ≤ (wr.alloc (.cells (bvals [m.setWidth 8]).toArray 5 (0, 0))).heap.size) := Nat.le_trans hB.out.size (below_alloc wr _).size
      go_wp2_with (refine wpList_append_bytes (o := ⟨some 19, _, _, _, _, _⟩) rfl _ _ rfl w.heap.size _ xs rfl V3.out (some ⟨wr.heap.size, 0, none⟩) 1 1 [m.setWidth 8] rfl rfl HM.out (fun h => nomatch h) (by have := hW.out.1; simp; omega) HS.out ?_)
      intro v3 w3 hv3 hg3 hi3
      have H3 : Hid (Below w.heap.size w w3) := (hB.out.trans ((below_alloc wr _).mono hB.out.size)).trans (V3.out.below hg3 (Nat.le_refl _) HS.out)
      have O3 := Lib.hid hv3
      clear hi3 hg3 hv3
      go_wp2_with fail
      go_ret
      exact ⟨_, rfl, HD.out ▸ O3.out, H3.out⟩

set_option maxRecDepth 100000 in
theorem ref_fixed (n : BitVec 64) (size : Nat) (w : World) (hs : size ≤ 8) :
    Calls Try.prog 62 #[.int .u64 (bv n), .int .i64 size] w fun e w' => ∃ v, e = .returned v ∧ OwnB w' w.heap.size v (fixedL n size) ∧ Below w.heap.size w w' := by
  go_enter Try.func62, Try.ntmps62
  go_wp2_with fail
  go_loopw [0, 5, 6] (fun z v i wr => ∃ k : Nat, k ≤ size ∧ i = .int .i64 k ∧ z = .int .u64 (bv (n >>> (8 * k))) ∧ Hid (OwnB wr w.heap.size v (fixedL n k)) ∧ Hid (Below w.heap.size w wr)) (fun _ _ i _ => size - (intOf i).toNat)
  case atStart => exact ⟨0, by omega, rfl, rfl, OwnB.nil _ _, Below.refl _ _⟩
  case round =>
    obtain ⟨k, hk, rfl, rfl, hO, hB⟩ := hrel
    by_cases hlt : k < size
    · generalize hm : n >>> (8 * k) = m
      have HM0 := Lib.hid hm
      clear hm
      have HM8 := Lib.hid (and_255 (m.setWidth 8))
      have V3 := Lib.hid (hO.out.keep (below_alloc wr (.cells (bvals [m.setWidth 8 &&& 255#8]).toArray 5 (0, 0))))
      have HM := Lib.hid (bytes_new wr [m.setWidth 8 &&& 255#8] 5 (0, 0))
      have HS : Hid (w.heap.size ≤ (wr.alloc (.cells (bvals [m.setWidth 8 &&& 255#8]).toArray 5 (0, 0))).heap.size) := Nat.le_trans hB.out.size (below_alloc wr _).size
      go_wp2_with (refine wpList_append_bytes (o := ⟨some 17, _, _, _, _, _⟩) rfl _ _ rfl w.heap.size _ (fixedL n k) rfl V3.out (some ⟨wr.heap.size, 0, none⟩) 1 1 [m.setWidth 8 &&& 255#8] rfl rfl HM.out (fun h => nomatch h) (by rw [fixedL_len]; simp; omega) HS.out ?_)
      intro v3 w3 hv3 hg3 hi3
      have H3 : Hid (Below w.heap.size w w3) := (hB.out.trans ((below_alloc wr _).mono hB.out.size)).trans (V3.out.below hg3 (Nat.le_refl _) HS.out)
      have O3 : Hid (OwnB w3 w.heap.size v3 (fixedL n (k + 1))) := by
        rw [HM8.out, ← HM0.out, le8_add, fixedL_next] at hv3; exact hv3
      have HM1 : Hid (m >>> 8 = n >>> (8 * (k + 1))) := by
        rw [← HM0.out, ← BitVec.shiftRight_add, show 8 * (k + 1) = 8 * k + 8 by omega]
        exact rfl
      clear hi3 hg3 hv3
      go_wp2_with fail
      go_roundw
      case rel => exact ⟨k + 1, by omega, by go_num, by rw [HM1.out], O3, H3⟩
      case measure => simp [intOf]; omega
    · obtain rfl : k = size := by omega
      go_wp2_with fail
      go_ret
      exact ⟨_, rfl, hO.out, hB.out⟩

theorem bv_div_pow (x : BitVec 64) (j : Nat) : bv x / 2 ^ j = bv (x >>> j) := by
  unfold bv
  rw [BitVec.toNat_ushiftRight, Nat.shiftRight_eq_div_pow, Int.natCast_ediv, Int.natCast_pow]
  rfl
attribute [go_sem] bv_div_pow
theorem mine_fill {w wr : World} {g size : Nat} {n : BitVec 64} (h : Fill w wr g size (fun i => bval (le8 n i)) size) : Mine w wr g (fixedL n size) :=
  ⟨h.below, h.own, by rw [fixedL_len]; exact h.there, fun i hi => by
    rw [fixedL_len] at hi
    rw [h.cells i hi, fixedL_at n size i hi]; rfl⟩

set_option maxRecDepth 100000 in
theorem wire_fixed (n : BitVec 64) (size : Nat) (w : World) (hs : size ≤ 8) :
    Calls Try.prog 93 #[.int .u64 (bv n), .int .i64 size] w fun e w' => ∃ g, e = .returned (.slice (some ⟨g, 0, none⟩) size size) ∧ Mine w w' g (fixedL n size) := by
  obtain ⟨i0, hi, hz0, hz1, hz2⟩ := info_parts Try.infoByte
  have hmk : ∀ u : World, (Instr.makeSlice 31 (.int .i64 (size : Int)) (.int .i64 (size : Int))).run Try.prog u =
      .ok (.slice (some ⟨u.heap.size, 0, none⟩) size size) (u.alloc (.cells (madeCells #[.int .u8 0] size) 5)) := fun u => by
    have h := run_make (P := Try.prog) u 31 5 i0 (.int .u8 0) Try.underlying31 hi hz0 .i64 .i64 (size : Int) (size : Int) (by omega) (Int.le_refl _) (by rw [hz2]; omega) (by omega)
    simpa [hz1, Value.cells] using h
  have HF : Hid (Fill w (w.alloc (.cells (madeCells #[.int .u8 0] size) 5)) w.heap.size size (fun i => bval (le8 n i)) 0) := Fill.start _ _ size (by simp [madeCells]) _
  clear hi hz0 hz1 hz2
  go_enter Try.func93, Try.ntmps93
  go_wp2_with fail
  go_loopw [11] (fun i wr => ∃ k : Nat, k ≤ size ∧ i = .int .i64 k ∧ Hid (Fill w wr w.heap.size size (fun i => bval (le8 n i)) k)) (fun i _ => size - (intOf i).toNat)
  case atStart => exact ⟨0, by omega, rfl, HF⟩
  case round =>
    obtain ⟨k, hk, rfl, hR⟩ := hrel
    by_cases hlt : k < size
    · obtain ⟨u, hu, huf⟩ := hR.out.at hlt
      have HN : Hid (Fill w (wr.setCell ⟨w.heap.size, k, none⟩ (.int .u8 (bv ((n >>> (8 * k)).setWidth 8)))) w.heap.size size (fun i => bval (le8 n i)) (k + 1)) := hR.out.next hlt
      go_wp2_with fail
      go_roundw
      case rel => exact ⟨k + 1, by omega, by go_num, HN⟩
      case measure => simp [intOf]; omega
    · obtain rfl : k = size := by omega
      go_wp2_with fail
      go_ret
      exact ⟨_, rfl, mine_fill hR.out⟩

set_option maxRecDepth 100000 in
theorem wire_fixed64 (n : BitVec 64) (w : World) :
    Calls Try.prog 55 #[.int .u64 (bv n)] w fun e w' => ∃ g, e = .returned (.slice (some ⟨g, 0, none⟩) 8 8) ∧ Mine w w' g (fixedL n 8) := by
  go_enter Try.func55, Try.ntmps55
  go_wp2_with fail
  refine (wire_fixed n 8 _ (by omega)).mono ?_
  rintro e w1 ⟨g, rfl, hM⟩
  have HM := Lib.hid hM
  clear hM
  go_wp2_with fail
  go_ret
  exact ⟨g, rfl, HM.out⟩
set_option maxRecDepth 100000 in
theorem wire_fixed32 (n : BitVec 32) (w : World) :
    Calls Try.prog 54 #[.int .u32 (bv n)] w fun e w' => ∃ g, e = .returned (.slice (some ⟨g, 0, none⟩) 4 4) ∧ Mine w w' g (fixedL (n.setWidth 64) 4) := by
  go_enter Try.func54, Try.ntmps54
  go_wp2_with fail
  refine (wire_fixed (n.setWidth 64) 4 _ (by omega)).mono ?_
  rintro e w1 ⟨g, rfl, hM⟩
  have HM := Lib.hid hM
  clear hM
  go_wp2_with fail
  go_ret
  exact ⟨g, rfl, HM.out⟩

set_option maxRecDepth 100000 in
theorem ref_string (ao : Option Addr) (bs : List (BitVec 8)) (cap : Nat) (w : World) (hb : BytesAt w ao bs) (hn : ao = none → cap = 0) (hm : bs.length ≤ 140737488355318) :
    Calls Try.prog 65 #[.slice ao bs.length cap] w fun e w' => ∃ v, e = .returned v ∧ OwnB w' w.heap.size v (wstr bs) ∧ Below w.heap.size w w' := by
  have HB := Lib.hid hb
  have HN := Lib.hid hn
  clear hb hn
  go_enter Try.func65, Try.ntmps65
  go_wp2_with fail
  rw [bv_len bs.length (by omega)]
  refine (ref_varint _ _).mono ?_
  rintro x w1 ⟨v1, rfl, hO, hb⟩
  have O1 := Lib.hid hO
  have B1 := Lib.hid hb
  have V1 := Lib.hid (varint_len (BitVec.ofNat 64 bs.length))
  clear hO hb
  rw [← bv_len bs.length (by omega)]
  go_wp2_with (refine wpList_append_bytes (o := ⟨some 8, _, _, _, _, _⟩) rfl _ _ rfl w.heap.size _ (varint (BitVec.ofNat 64 bs.length)) rfl O1.out ao bs.length cap bs rfl rfl (HB.out.below B1.out) HN.out (by have := V1.out; omega) B1.out.size ?_)
  intro v3 w3 hv3 hg3 hi3
  have H3 : Hid (Below w.heap.size w w3) := B1.out.trans (O1.out.below hg3 (Nat.le_refl _) B1.out.size)
  have O3 : Hid (OwnB w3 w.heap.size v3 (wstr bs)) := hv3
  clear hi3 hg3 hv3
  go_wp2_with fail
  go_ret
  exact ⟨_, rfl, O3.out, H3.out⟩

set_option maxRecDepth 100000 in
theorem ref_zig (z : Int) (w : World) (hz : -9223372036854775808 ≤ z ∧ z ≤ 9223372036854775807) :
    Calls Try.prog 64 #[.int .i64 z] w fun e w' => e = .returned (.int .u64 (zig z)) ∧ w = w' := by
  by_cases h : z < 0
  · have e : zig z = -(z + 1) * 2 + 1 := by unfold zig; rw [if_neg (by omega)]; omega
    rw [e]
    go_enter Try.func64, Try.ntmps64
    go_wp2_with fail
    go_ret
    exact ⟨rfl, rfl⟩
  · have e : zig z = z * 2 := by unfold zig; rw [if_pos (by omega)]; omega
    rw [e]
    go_enter Try.func64, Try.ntmps64
    go_wp2_with fail
    go_ret
    exact ⟨rfl, rfl⟩
set_option maxRecDepth 100000 in
theorem ref_zag (u : Int) (w : World) (h0 : 0 ≤ u) (h1 : u < 18446744073709551616) :
    Calls Try.prog 61 #[.int .u64 u] w fun e w' => e = .returned (.int .i64 (zag u)) ∧ w = w' := by
  by_cases h : u % 2 = 1
  · have e : zag u = -(u / 2) - 1 := by unfold zag; rw [if_neg (by omega)]
    rw [e]
    go_enter Try.func61, Try.ntmps61
    go_wp2_with fail
    go_ret
    exact ⟨rfl, rfl⟩
  · have e : zag u = u / 2 := by unfold zag; rw [if_pos (by omega)]
    rw [e]
    go_enter Try.func61, Try.ntmps61
    go_wp2_with fail
    go_ret
    exact ⟨rfl, rfl⟩
end Go.Proofs.Ytmkljmljbbijeaa

/-! The plain law of fixed numbers: so many bytes, the lowest first. -/
namespace Go.Proofs.Ytmkljmljbbijeaa

/-- The number that bytes are, the lowest first. -/
def leN : List (BitVec 8) → Nat
  | [] => 0
  | c :: r => c.toNat + 256 * leN r
def leB (bs : List (BitVec 8)) : BitVec 64 := BitVec.ofNat 64 (leN bs)
theorem leN_append (xs ys : List (BitVec 8)) : leN (xs ++ ys) = leN xs + 256 ^ xs.length * leN ys := by
  induction xs with
  | nil => simp [leN]
  | cons c r ih => rw [List.cons_append, leN, leN, ih, List.length_cons, Nat.pow_succ, Nat.mul_add, Nat.mul_comm (256 ^ r.length) 256, Nat.mul_assoc]; omega
theorem leN_lt (xs : List (BitVec 8)) : leN xs < 256 ^ xs.length := by
  induction xs with
  | nil => simp [leN]
  | cons c r ih =>
    have := c.isLt
    rw [leN, List.length_cons, Nat.pow_succ]
    omega
theorem leB_lt {xs : List (BitVec 8)} (h : xs.length ≤ 8) : (leB xs).toNat = leN xs := by
  unfold leB
  rw [BitVec.toNat_ofNat]
  have h1 := leN_lt xs
  have h2 : 256 ^ xs.length ≤ 256 ^ 8 := Nat.pow_le_pow_right (by decide) h
  exact Nat.mod_eq_of_lt (by omega)
/-- The program's step. -/
theorem leB_snoc (xs : List (BitVec 8)) (c : BitVec 8) (h : xs.length < 8) : leB xs ||| (c.setWidth 64 <<< (8 * xs.length)) = leB (xs ++ [c]) := by
  apply BitVec.eq_of_toNat_eq
  rw [leB_lt (by simp; omega), BitVec.toNat_or, leB_lt (by omega), BitVec.toNat_shiftLeft, Nat.shiftLeft_eq, BitVec.toNat_setWidth, leN_append]
  have hc := c.isLt
  have hp : (256 : Nat) ^ xs.length = 2 ^ (8 * xs.length) := by rw [Nat.pow_mul]
  have h1 := leN_lt xs
  rw [hp] at h1
  have h2 : (2 : Nat) ^ (8 * xs.length) ≤ 2 ^ 56 := Nat.pow_le_pow_right (by decide) (by omega)
  have h3 : c.toNat * 2 ^ (8 * xs.length) ≤ 255 * 2 ^ 56 := Nat.mul_le_mul (by omega) h2
  rw [Nat.mod_eq_of_lt (a := c.toNat) (by omega), Nat.mod_eq_of_lt (by omega), hp]
  have := Nat.two_pow_add_eq_or_of_lt h1 c.toNat
  rw [Nat.mul_comm, Nat.or_comm, ← this]
  simp [leN]
  omega
/-- The document's step. -/
theorem leB_cons (c : BitVec 8) (r : List (BitVec 8)) : leB r * 256#64 + c.setWidth 64 = leB (c :: r) := by
  apply BitVec.eq_of_toNat_eq
  unfold leB
  rw [BitVec.toNat_add, BitVec.toNat_mul, BitVec.toNat_ofNat, BitVec.toNat_ofNat, BitVec.toNat_setWidth, leN]
  have := c.isLt
  simp
  omega
/-- A number written is read back. -/
theorem leN_fixed (n : BitVec 64) (size : Nat) : leN (fixedL n size) = n.toNat % 256 ^ size := by
  induction size with
  | zero => simp [fixedL, leN, Nat.mod_one]
  | succ k ih =>
    rw [← fixedL_next, leN_append, ih, fixedL_len]
    simp only [leN, le8, BitVec.toNat_setWidth, BitVec.toNat_ushiftRight, Nat.shiftRight_eq_div_pow, Nat.mul_zero, Nat.add_zero]
    have hp : (2 : Nat) ^ (8 * k) = 256 ^ k := by rw [Nat.pow_mul]
    rw [hp]
    exact (Nat.mod_mul (x := n.toNat) (a := 256 ^ k) (b := 256)).symm
theorem leB_fixed64 (n : BitVec 64) : leB (fixedL n 8) = n := by
  apply BitVec.eq_of_toNat_eq
  rw [leB_lt (by rw [fixedL_len]; omega), leN_fixed]
  exact Nat.mod_eq_of_lt n.isLt
theorem leB_fixed32 (n : BitVec 32) : (leB (fixedL (n.setWidth 64) 4)).setWidth 32 = n := by
  apply BitVec.eq_of_toNat_eq
  have := n.isLt
  rw [BitVec.toNat_setWidth, leB_lt (by rw [fixedL_len]; omega), leN_fixed, BitVec.toNat_setWidth]
  omega
end Go.Proofs.Ytmkljmljbbijeaa

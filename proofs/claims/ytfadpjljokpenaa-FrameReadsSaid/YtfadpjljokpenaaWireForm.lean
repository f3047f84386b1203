/- The walks of String, front, Zig and Zag. -/
import Derived.Test.YtfadpjljokpenaaWireBegun
import Derived.Test.YtfadpjljokpenaaPlainBack
import Derived.Lib.Zigzag
import Derived.BigQuiet
namespace Go.Proofs.Ytfadpjljokpenaa
open Go.RowKit

theorem bv_len (n : Nat) (h : n < 18446744073709551616) : (n : Int) = bv (BitVec.ofNat 64 n) := (bv_ofNat (n := 64) h).symm
set_option maxRecDepth 100000 in
theorem wire_string (ao : Option Addr) (bs : List (BitVec 8)) (cap : Nat) (w : World) (hb : BytesAt w ao bs) (hn : ao = none → cap = 0) (hm : bs.length ≤ 140737488355318) :
    Calls Try.prog 44 #[.slice ao bs.length cap] w fun e w' => ∃ v, e = .returned v ∧ OwnB w' w.heap.size v (wstr bs) ∧ Below w.heap.size w w' := by
  have HB := Lib.hid hb
  have HN := Lib.hid hn
  clear hb hn
  go_enter Try.func44, Try.ntmps44
  go_wp2_with fail
  rw [bv_len bs.length (by omega)]
  refine (wire_varint _ _).mono ?_
  rintro x w1 ⟨v1, rfl, hO, hb⟩
  have O1 := Lib.hid hO
  have B1 := Lib.hid hb
  have V1 := Lib.hid (varint_len (BitVec.ofNat 64 bs.length))
  clear hO hb
  rw [← bv_len bs.length (by omega)]
  go_wp2_with (refine wpList_append_bytes (o := ⟨some 8, _, _, _, _, _⟩) rfl _ _ rfl w.heap.size _ (varint (BitVec.ofNat 64 bs.length)) rfl O1.out ao bs.length cap bs rfl rfl (HB.out.below B1.out) HN.out (by have := V1.out; omega) B1.out.size ?_)
  intro v3 w3 hv3 hg3 hi3
  have H3 : Hid (Below w.heap.size w w3) := B1.out.trans (O1.out.below hg3 (Nat.le_refl _) B1.out.size)
  have O3 : Hid (OwnB w3 w.heap.size v3 (wstr bs)) := hv3
  clear hi3 hg3 hv3
  go_wp2_with fail
  go_ret
  exact ⟨_, rfl, O3.out, H3.out⟩

theorem BytesAt.take {w : World} {ao : Option Addr} {bs : List (BitVec 8)} (h : BytesAt w ao bs) (m : Nat) : BytesAt w ao (bs.take m) := fun i hi => by
  have hi' : i < m ∧ i < bs.length := by simp at hi; omega
  obtain ⟨b, off, e, hc⟩ := h i hi'.2
  refine ⟨b, off, e, hc.trans ?_⟩
  congr 3
  unfold at8
  simp [List.getD_eq_getElem?_getD, hi'.1]
theorem eq_take (a b : Option Addr) (xs ys : List (BitVec 8)) (m ca cb : Nat) (t : Bool) (w : World) (ha : BytesAt w a xs) (hb : BytesAt w b ys) (hx : m ≤ xs.length) (hy : m ≤ ys.length) (hm : m ≤ 140737488355328) (ht : decide (xs.take m = ys.take m) = t) :
    Calls Try.prog 21 #[.slice a m ca, .slice b m cb] w fun e w' => e = .returned (.bool t) ∧ Below w.heap.size w w' :=
  (eq_bytes_of a b _ _ m m ca cb t w (ha.take m) (hb.take m) (by simp; omega) (by simp; omega) (by simp; omega) ht).mono fun _ _ ⟨he, n, hw⟩ => ⟨he, hw ▸ below_drewN _ _⟩


theorem xor_none64 (x : Int) (h0 : 0 ≤ x) (h1 : x < 18446744073709551616) : bits .xor .u64 x 0 = x := by
  obtain ⟨n, rfl⟩ := Int.eq_ofNat_of_zero_le h0
  have h := u64_xor_nat n 0 (by omega) (by decide)
  rw [Nat.xor_zero] at h
  exact h
theorem xor_ones (z : Int) (hz : -9223372036854775808 ≤ z) (h : z < 0) : bits .xor .u64 (IntKind.u64.wrap (IntKind.u64.wrap z * 2)) (IntKind.u64.wrap (z / 9223372036854775808)) = -2 * z - 1 := by
  have e1 : IntKind.u64.wrap (IntKind.u64.wrap z * 2) = (((2 * z + 18446744073709551616).toNat : Nat) : Int) := by
    rw [IntKind.wrap_u64, IntKind.wrap_u64]; omega
  have e2 : IntKind.u64.wrap (z / 9223372036854775808) = ((2 ^ 64 - 1 : Nat) : Int) := by
    rw [IntKind.wrap_u64, show z / 9223372036854775808 = -1 by omega]; rfl
  rw [e1, e2, u64_xor_nat _ _ (by omega) (by decide), Nat.xor_comm, Lib.xor_ones64 _ (by omega)]
  omega
theorem i64_xor_none (x : Nat) (hx : x < 9223372036854775808) : bits .xor .i64 (x : Int) 0 = x := by
  show IntKind.i64.wrap ((BitVec.ofInt 64 (x : Int) ^^^ BitVec.ofInt 64 0).toNat : Int) = _
  have h1 : (BitVec.ofInt 64 0).toNat = 0 := by decide
  have h2 : (BitVec.ofInt 64 (x : Int)).toNat = x := by
    rw [BitVec.ofInt_natCast, BitVec.toNat_ofNat]; exact Nat.mod_eq_of_lt (by omega)
  rw [BitVec.toNat_xor, h1, h2, Nat.xor_zero, IntKind.wrap_i64]
  omega
theorem i64_xor_ones (x : Nat) (hx : x < 9223372036854775808) : bits .xor .i64 (x : Int) (-1) = -(x : Int) - 1 := by
  show IntKind.i64.wrap ((BitVec.ofInt 64 (x : Int) ^^^ BitVec.ofInt 64 (-1)).toNat : Int) = _
  have h1 : (BitVec.ofInt 64 (-1)).toNat = 2 ^ 64 - 1 := by decide
  have h2 : (BitVec.ofInt 64 (x : Int)).toNat = x := by
    rw [BitVec.ofInt_natCast, BitVec.toNat_ofNat]; exact Nat.mod_eq_of_lt (by omega)
  rw [BitVec.toNat_xor, h1, h2, Nat.xor_comm, Lib.xor_ones64 x (by omega), IntKind.wrap_i64]
  omega

/-- A signed number as an unsigned one, and back. -/
def zig (z : Int) : Int := if 0 ≤ z then 2 * z else -2 * z - 1
def zag (u : Int) : Int := if u % 2 = 0 then u / 2 else -(u / 2) - 1
theorem zag_zig (z : Int) : zag (zig z) = z := by
  unfold zag zig
  split <;> split <;> omega
theorem zig_range {z : Int} (hz : -9223372036854775808 ≤ z ∧ z ≤ 9223372036854775807) : 0 ≤ zig z ∧ zig z < 18446744073709551616 := by
  unfold zig; split <;> omega
set_option maxRecDepth 100000 in
theorem wire_zig (z : Int) (w : World) (hz : -9223372036854775808 ≤ z ∧ z ≤ 9223372036854775807) :
    Calls Try.prog 49 #[.int .i64 z] w fun e w' => e = .returned (.int .u64 (zig z)) ∧ w = w' := by
  by_cases h : 0 ≤ z
  · go_enter Try.func49, Try.ntmps49
    go_wp2_with fail
    go_ret
    refine ⟨congrArg (fun x => Ending.returned (.int .u64 x)) ?_, rfl⟩
    rw [show z / 9223372036854775808 = 0 by omega]
    exact (xor_none64 _ (by omega) (by omega)).trans (by unfold zig; rw [if_pos h]; omega)
  · have hn : z < 0 := by omega
    go_enter Try.func49, Try.ntmps49
    go_wp2_with fail
    go_ret
    refine ⟨congrArg (fun x => Ending.returned (.int .u64 x)) ?_, rfl⟩
    exact (xor_ones z hz.1 hn).trans (by unfold zig; rw [if_neg (by omega)])
theorem zag_bits (u : Nat) (hu : u < 18446744073709551616) : bits .xor .i64 ((u : Int) / 2) (wrap64 (-wrap64 (bits .and .u64 (u : Int) 1))) = zag u := by
  have h1 := Lib.u64_and1 (u : Int) (by omega) (by omega)
  rw [h1, show ((u : Int) / 2) = ((u / 2 : Nat) : Int) by omega]
  by_cases h : (u : Int) % 2 = 0
  · rw [h, show wrap64 (-wrap64 0) = 0 by decide +kernel, i64_xor_none _ (by omega)]
    unfold zag; rw [if_pos h]; omega
  · have h' : (u : Int) % 2 = 1 := by omega
    rw [h', show wrap64 (-wrap64 1) = -1 by decide +kernel, i64_xor_ones _ (by omega)]
    unfold zag; rw [if_neg h]; omega
set_option maxRecDepth 100000 in
theorem wire_zag (u : Nat) (w : World) (hu : u < 18446744073709551616) :
    Calls Try.prog 46 #[.int .u64 u] w fun e w' => e = .returned (.int .i64 (zag u)) ∧ w = w' := by
  have H := Lib.hid (zag_bits u hu)
  go_enter Try.func46, Try.ntmps46
  go_wp2_with fail
  go_ret
  exact ⟨congrArg (fun x => Ending.returned (.int .i64 x)) H.out, rfl⟩
theorem wire_zag_int (u : Int) (w : World) (h0 : 0 ≤ u) (h1 : u < 18446744073709551616) :
    Calls Try.prog 46 #[.int .u64 u] w fun e w' => e = .returned (.int .i64 (zag u)) ∧ w = w' := by
  obtain ⟨n, rfl⟩ := Int.eq_ofNat_of_zero_le h0
  exact wire_zag n w (by omega)
end Go.Proofs.Ytfadpjljokpenaa

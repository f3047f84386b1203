/- The walk of flumelaw1's WireUnlike. -/
import Derived.Test.YtggbhakkgbfneaaWireForm
import Derived.Test.YtggbhakkgbfneaaOpen
namespace Go.Proofs.Ytggbhakkgbfneaa
open Go.RowKit

theorem wrap64_range (x : Int) : -9223372036854775808 ≤ wrap64 x ∧ wrap64 x ≤ 9223372036854775807 := by
  unfold wrap64; omega
set_option maxHeartbeats 2000000 in
set_option maxRecDepth 100000 in
theorem wire_unlike (a b : BitVec 64) (s t : Option Addr) (ss ts : List (BitVec 8)) (cs ct : Nat) (w : World) (hs : BytesAt w s ss) (ht : BytesAt w t ts) (ns : s = none → cs = 0) (nt : t = none → ct = 0)
    (ls : ss.length ≤ 140737488351232) (lt : ts.length ≤ 140737488351232) :
    Calls Try.prog 5 #[.int .u64 (bv a), .int .u64 (bv b), .slice s ss.length cs, .slice t ts.length ct] w (TrueBelow w) := by
  have HS := Lib.hid hs
  have HT := Lib.hid ht
  have NS := Lib.hid ns
  have NT := Lib.hid nt
  have LS := Lib.hid ls
  have LT := Lib.hid lt
  have VA := varint_len a
  have FV := Lib.hid (varint_front a b)
  have FS := Lib.hid (wstr_front ss ts (by omega) (by omega))
  clear hs ht ns nt ls lt
  go_enter Try.func5, Try.ntmps5
  go_wp2_with fail
  refine (wire_begun _).mono ?_
  rintro e w1 ⟨rfl, hb⟩
  have B1 := Lib.hid hb
  clear hb
  go_wp2_with fail
  refine (wire_varint a _).mono ?_
  rintro e w2 ⟨v2, rfl, hO, hb⟩
  have O2 := Lib.hid hO
  have B2 := Lib.hid (below_trans B1.out hb)
  clear hO hb
  go_wp2_with fail
  refine (wire_varint b _).mono ?_
  rintro e w3 ⟨v3, rfl, hO, hb⟩
  have O3 := Lib.hid hO
  have P3 := Lib.hid (O2.out.keep hb)
  have B3 := Lib.hid (below_trans B2.out hb)
  clear hO hb O2
  go_wp2_with fail
  refine (wire_string s ss cs _ (HS.out.below B3.out) NS.out (by have := LS.out; omega)).mono ?_
  rintro e w4 ⟨v4, rfl, hO, hb⟩
  have O4 := Lib.hid hO
  have P4 := Lib.hid (P3.out.keep hb)
  have Q4 := Lib.hid (O3.out.keep hb)
  have B4 := Lib.hid (below_trans B3.out hb)
  clear hO hb P3 O3
  go_wp2_with fail
  refine (wire_string t ts ct _ (HT.out.below B4.out) NT.out (by have := LT.out; omega)).mono ?_
  rintro e w5 ⟨v5, rfl, hO, hb⟩
  obtain ⟨a5, c5, rfl, x5, -, y5, -, -⟩ := hO.slice
  obtain ⟨a4, c4, rfl, x4, -, y4, -, -⟩ := (O4.out.keep hb).slice
  obtain ⟨a3, c3, rfl, x3, -, y3, -, -⟩ := (Q4.out.keep hb).slice
  obtain ⟨a2, c2, rfl, x2, -, y2, -, -⟩ := (P4.out.keep hb).slice
  have X5 := Lib.hid x5
  have X4 := Lib.hid x4
  have X3 := Lib.hid x3
  have X2 := Lib.hid x2
  have B5 := Lib.hid (below_trans B4.out hb)
  clear hO hb x5 x4 x3 x2 P4 Q4 O4
  have VB := Lib.hid (varint_len b)
  have LW : Hid ((wstr ss).length ≤ 140737488355328 ∧ (wstr ts).length ≤ 140737488355328) := by
    have h1 := varint_len (BitVec.ofNat 64 ss.length)
    have h2 := varint_len (BitVec.ofNat 64 ts.length)
    have h3 := LS.out
    have h4 := LT.out
    constructor <;> (unfold wstr; rw [List.length_append]; omega)
  go_wp2_with fail
  refine (wire_front a2 a3 _ _ c2 c3 _ X2.out X3.out y2 y3 (by omega) (by have := VB.out; omega)).mono ?_
  rintro e w6 ⟨rfl, hb⟩
  rw [FV.out]
  have X5 := Lib.hid (X5.out.below hb)
  have X4 := Lib.hid (X4.out.below hb)
  have B6 := Lib.hid (below_trans B5.out hb)
  clear hb
  go_wp2_with fail
  refine (wire_front a4 a5 _ _ c4 c5 _ X4.out X5.out y4 y5 LW.out.1 LW.out.2).mono ?_
  rintro e w7 ⟨rfl, hb⟩
  rw [FS.out]
  have B7 := Lib.hid (below_trans B6.out hb)
  clear hb
  go_wp2_with fail
  refine (eq_bytes s t ss ts cs ct _ (HS.out.below B7.out) (HT.out.below B7.out) (by have := LS.out; omega)).mono ?_
  rintro e w8 ⟨rfl, n8, hw8⟩
  have B8 := Lib.hid (below_trans B7.out (show Below w7.heap.size w7 w8 by rw [hw8]; exact below_drewN _ _))
  clear hw8
  go_wp2_with fail
  refine (wire_zig _ _ (wrap64_range _)).mono ?_
  rintro e w9 ⟨rfl, rfl⟩
  go_wp2_with fail
  refine (wire_zag_int _ _ (zig_range (wrap64_range _)).1 (zig_range (wrap64_range _)).2).mono ?_
  rintro e w9 ⟨rfl, rfl⟩
  rw [zag_zig]
  go_wp2_with fail
  go_ret
  exact ⟨rfl, B8.out⟩
end Go.Proofs.Ytggbhakkgbfneaa

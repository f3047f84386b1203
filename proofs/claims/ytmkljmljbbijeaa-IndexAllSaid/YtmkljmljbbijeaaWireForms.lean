/- The walk of flumelaw1's WireForms. -/
import Derived.Test.YtmkljmljbbijeaaWireForm
import Derived.Test.YtmkljmljbbijeaaWireReads
import Derived.Test.YtmkljmljbbijeaaOpenU64s
namespace Go.Proofs.Ytmkljmljbbijeaa
open Go.RowKit

theorem low32 (u : BitVec 64) : (u.setWidth 32).setWidth 64 = u &&& 4294967295#64 := by
  apply BitVec.eq_of_toNat_eq
  rw [BitVec.toNat_and, BitVec.toNat_setWidth, BitVec.toNat_setWidth]
  have e : (4294967295#64).toNat = 2 ^ 32 - 1 := rfl
  rw [e, Nat.and_two_pow_sub_one_eq_mod]
  omega
theorem bv_range (u : BitVec 64) : 0 ≤ bv u ∧ bv u < 18446744073709551616 := by
  have := u.isLt
  unfold bv
  omega
theorem and_low32 (u : BitVec 64) : bits .and .u64 (bv u) 4294967295 = bv (u &&& 4294967295#64) := by
  rw [← bits_and_u64]; exact congrArg _ rfl
theorem ref_fixed_to (x : Int) (n : BitVec 64) (size : Nat) (w : World) (hx : x = bv n) (hs : size ≤ 8) :
    Calls Try.prog 62 #[.int .u64 x, .int .i64 size] w fun e w' => ∃ v, e = .returned v ∧ OwnB w' w.heap.size v (fixedL n size) ∧ Below w.heap.size w w' := by
  subst hx; exact ref_fixed n size w hs
theorem Calls.same_of {f : FuncId} {args : Array Value} {w : World} {d : Nat} {os : Array Obj} {v : Value}
    (h : Calls Try.prog f args (Sort.grow (redrawn w d) os) fun e w' => e = .returned v ∧ Sort.grow (redrawn w d) os = w') : Calls Try.prog f args (Sort.grow (redrawn w d) os) fun e w'' => e = .returned v ∧ ∃ p : Regrown, w'' = Sort.grow (redrawn w p.d) p.os :=
  Calls.regrown_of (h.mono fun _ _ ⟨he, hw⟩ => ⟨he, hw ▸ Below.refl _ _⟩)

set_option maxHeartbeats 2000000 in
set_option maxRecDepth 100000 in
theorem wire_forms (a : Option Addr) (U : List (BitVec 64)) (ca : Nat) (m : Option Addr) (I : List Int) (cm : Nat) (s : Option Addr) (L : List (List (BitVec 8))) (cs : Nat) (w : World)
    (hU : U64sAt w a U) (hI : IntsAt w m I) (hL : ListsAt w s L) (lU : U.length ≤ 17592186043904) (lI : I.length ≤ 17592186043904) (lL : L.length ≤ 5864062014806) :
    Calls Try.prog 13 #[.slice a U.length ca, .slice m I.length cm, .slice s L.length cs] w (TrueBelow w) := by
  have HU := Lib.hid hU
  have HI := Lib.hid hI
  have HL := Lib.hid hL
  clear hU hI hL
  go_enter Try.func13, Try.ntmps13
  go_wp2_with fail
  refine (wire_begun _).mono ?_
  rintro e w1 ⟨rfl, hb⟩
  have H1 := Lib.hid hb
  clear hb
  go_wp2_with fail
  go_loopw [7, 8] (fun i u wr => ∃ k : Nat, k ≤ U.length ∧ i = .int .i64 k ∧ Below w.heap.size w wr) (fun i _ _ => U.length - (intOf i).toNat)
  case atStart => exact ⟨0, by omega, rfl, H1.out⟩
  case round =>
    obtain ⟨k, hk, rfl, hb⟩ := hrel
    have HK := Lib.hid hb
    clear hb
    by_cases hlt : k < U.length
    · obtain ⟨b, off, rfl, hc⟩ := (HU.out.below HK.out) k hlt
      obtain ⟨u, hu⟩ : ∃ u, at64 U k = u := ⟨_, rfl⟩
      rw [hu] at hc
      clear hu
      have VL := Lib.hid (varint_len u)
      have VR := Lib.hid (bv_range u)
      have VE := Lib.hid (low32 u)
      have VA := Lib.hid (and_low32 u)
      go_wp2_with fail
      refine (wire_varint u _).mono ?_
      rintro e w2 ⟨v2, rfl, hO, hb⟩
      have O2 := Lib.hid hO
      have B2 := Lib.hid (below_trans HK.out hb)
      clear hO hb
      go_wp2_with fail
      refine (ref_varint u _).mono ?_
      rintro e w3 ⟨v3, rfl, hO, hb⟩
      obtain ⟨a3, c3, rfl, x3, -, -, -, -⟩ := hO.slice
      obtain ⟨a2, c2, rfl, x2, -, -, -, -⟩ := (O2.out.keep hb).slice
      have X3 := Lib.hid x3
      have X2 := Lib.hid x2
      have B3 := Lib.hid (below_trans B2.out hb)
      clear hO hb x3 x2 O2
      go_wp2_with fail
      refine (eq_bytes_of a2 a3 _ _ _ _ c2 c3 true _ X2.out X3.out rfl rfl (by have := VL.out; omega) (decide_eq_true rfl)).mono ?_
      rintro x w4 ⟨rfl, n4, hw4⟩
      have B4 : Hid (Below w.heap.size w w4) := below_trans B3.out (by rw [hw4]; exact below_drewN _ _)
      clear hw4 X2 X3
      go_wp2_with fail
      refine (wire_zag_int _ _ VR.out.1 VR.out.2).mono ?_
      rintro e w5 ⟨rfl, rfl⟩
      go_wp2_with fail
      refine (ref_zag _ _ VR.out.1 VR.out.2).mono ?_
      rintro e w5 ⟨rfl, rfl⟩
      go_wp2_with fail
      refine (wire_fixed64 u _).mono ?_
      rintro e w6 ⟨g6, rfl, hM⟩
      have M6 := Lib.hid hM
      have B6 := Lib.hid (below_trans B4.out hM.below)
      clear hM
      go_wp2_with fail
      refine (ref_fixed u 8 _ (by omega)).mono ?_
      rintro e w7 ⟨v7, rfl, hO, hb⟩
      obtain ⟨a7, c7, rfl, x7, -, -, -, -⟩ := hO.slice
      have X7 := Lib.hid x7
      have X6 := Lib.hid (M6.out.at.below hb)
      have B7 := Lib.hid (below_trans B6.out hb)
      have FL := Lib.hid (fixedL_len u 8)
      clear hO hb x7 M6
      go_wp2_with fail
      refine (eq_bytes_of _ a7 _ _ _ _ _ c7 true _ X6.out X7.out FL.out rfl (by have := FL.out; omega) (decide_eq_true rfl)).mono ?_
      rintro x w8 ⟨rfl, n8, hw8⟩
      have B8 : Hid (Below w.heap.size w w8) := below_trans B7.out (by rw [hw8]; exact below_drewN _ _)
      clear hw8 X6 X7 FL
      go_wp2_with fail
      refine (wire_fixed32 _ _).mono ?_
      rintro e w9 ⟨g9, rfl, hM⟩
      have M9 := Lib.hid hM
      have B9 := Lib.hid (below_trans B8.out hM.below)
      clear hM
      go_wp2_with fail
      refine (ref_fixed_to _ (u &&& 4294967295#64) 4 _ VA.out (by omega)).mono ?_
      rintro e w10 ⟨v10, rfl, hO, hb⟩
      obtain ⟨a10, c10, rfl, x10, -, -, -, -⟩ := hO.slice
      have X10 := Lib.hid x10
      have X9 := Lib.hid (M9.out.at.below hb)
      have B10 := Lib.hid (below_trans B9.out hb)
      have FL := Lib.hid (fixedL_len ((u.setWidth 32).setWidth 64) 4)
      clear hO hb x10 M9
      go_wp2_with fail
      refine (eq_bytes_of _ a10 _ _ _ _ _ c10 true _ X9.out X10.out FL.out rfl (by have := FL.out; omega) (decide_eq_true (by rw [VE.out]))).mono ?_
      rintro x w11 ⟨rfl, n11, hw11⟩
      have B11 : Hid (Below w.heap.size w w11) := below_trans B10.out (by rw [hw11]; exact below_drewN _ _)
      clear hw11 X9 X10 FL
      go_wp2_with fail
      go_roundw
      case rel => exact ⟨k + 1, by omega, by go_num, B11.out⟩
      case measure => simp [intOf]; omega
    · have hge : (U.length : Int) ≤ (k : Int) := by omega
      obtain rfl : k = U.length := by omega
      go_wp2_with fail
      obtain ⟨wo, rfl⟩ : ∃ wo : World, wo = wr := ⟨_, rfl⟩
      go_loopw [9] (fun i wr => ∃ k : Nat, k ≤ I.length ∧ i = .int .i64 k ∧ Below w.heap.size w wr) (fun i _ => I.length - (intOf i).toNat)
      case atStart => exact ⟨0, by omega, rfl, HK.out⟩
      case round =>
        obtain ⟨k, hk, rfl, hb⟩ := hrel
        have HK := Lib.hid hb
        clear hb
        by_cases hlt : k < I.length
        · obtain ⟨hr, b, off, rfl, hc⟩ := (HI.out.below HK.out) k hlt
          obtain ⟨z, hz⟩ : ∃ z, atI I k = z := ⟨_, rfl⟩
          rw [hz] at hc hr
          have HR := Lib.hid hr
          have HZ := Lib.hid (zig_range hr)
          have HE := Lib.hid (zag_zig z)
          clear hz hr
          have k1 := cell_regrown hc
          go_wp2_with fail
          refine wp_region_quiet_below (by kernel_rfl) (by kernel_rfl) ?_
          repeat (go_big_quiet_step (first
            | (go_at_call 63; exact Calls.same_of (wire_zig _ _ HR.out))
            | (go_at_call 64; exact Calls.same_of (ref_zig _ _ HR.out))
            | (go_at_call 60; exact Calls.same_of ((wire_zag_int _ _ HZ.out.1 HZ.out.2).mono fun _ _ h => HE.out ▸ h))))
          refine wpQuiet_nil ?_
          intro w5 hw5
          obtain ⟨⟨nq, osq⟩, hw5'⟩ := hw5
          have H5 : Hid (Below w.heap.size w w5) := by rw [hw5']; exact below_trans HK.out (below_regrown _ _ _)
          clear hw5' k1
          go_wp2_with fail
          go_roundw
          case rel => exact ⟨k + 1, by omega, by go_num, H5.out⟩
          case measure => simp [intOf]; omega
        · have hge : (I.length : Int) ≤ (k : Int) := by omega
          obtain rfl : k = I.length := by omega
          go_wp2_with fail
          obtain ⟨wo, rfl⟩ : ∃ wo : World, wo = wr := ⟨_, rfl⟩
          go_loopw [10, 11, 12] (fun i l t wr => ∃ k : Nat, k ≤ L.length ∧ i = .int .i64 k ∧ Below w.heap.size w wr) (fun i _ _ _ => L.length - (intOf i).toNat)
          case atStart => exact ⟨0, by omega, rfl, HK.out⟩
          case round =>
            obtain ⟨k, hk, rfl, hb⟩ := hrel
            have HK := Lib.hid hb
            clear hb
            by_cases hlt : k < L.length
            · obtain ⟨b, off, ai, ci, rfl, hc, hbs, hnil, hle, hci⟩ := (HL.out.below HK.out) k hlt
              have HB := Lib.hid hbs
              have HNil := Lib.hid hnil
              have HBK : Hid (b < wr.heap.size) := block_lt_of_cell hc
              clear hbs hnil
              have HW := Lib.hid (show (wstr (nth L k)).length ≤ 140737488355328 by
                have h1 := varint_len (BitVec.ofNat 64 (nth L k).length)
                unfold wstr; rw [List.length_append]; omega)
              go_wp2_with fail
              refine (lent ai (nth L k) ci _ HB.out HNil.out (by omega)).mono ?_
              rintro x w2 ⟨g, cap, rfl, hc2, hcm, hM⟩
              have HM := Lib.hid hM
              have HC2 := Lib.hid hc2
              have HCM := Lib.hid hcm
              have hc2' := cell_keep HM.out.below hc
              clear hM hcm hc
              go_wp2_with fail
              refine (wire_string _ (nth L k) cap _ HM.out.front (fun h => by cases h) (by omega)).mono ?_
              rintro x w3 ⟨v1, rfl, hO1, hb3⟩
              have B3 := Lib.hid hb3
              have O1 := Lib.hid hO1
              clear hO1 hb3
              have hc3 := cell_keep B3.out hc2'
              go_wp2_with fail
              refine (ref_string ai (nth L k) ci _ ((HB.out.below HM.out.below).below B3.out) HNil.out (by omega)).mono ?_
              rintro x w4 ⟨v2, rfl, hO2, hb4⟩
              obtain ⟨s1, d1, rfl, hd1, -, -, -, hg1⟩ := (O1.out.keep hb4).slice
              obtain ⟨s2, d2, rfl, hd2, -, -, -, hg2⟩ := hO2.slice
              have B4 := Lib.hid hb4
              have D1 := Lib.hid hd1
              have D2 := Lib.hid hd2
              have G1 := Lib.hid (O1.out.slice)
              have hc4 := cell_keep B4.out hc3
              clear hO2 hb4 hd1 hd2 hg1 hg2 G1 hc3 hc2'
              go_wp2_with fail
              refine (eq_bytes_of s1 s2 _ _ _ _ d1 d2 true _ D1.out D2.out rfl rfl HW.out (decide_eq_true rfl)).mono ?_
              rintro x w5 ⟨rfl, n5, hw5⟩
              have B5 := Lib.hid (show Below w4.heap.size w4 w5 by rw [hw5]; exact below_drewN _ _)
              have hc5 := cell_keep B5.out hc4
              have M5 := Lib.hid (((HM.out.on B3.out).on B4.out).on B5.out)
              have GL : Hid (g < w2.heap.size) := block_lt_of_cell (HM.out.bytes 0 (by simp))
              have O5 := Lib.hid ((O1.out.keep B4.out).keep B5.out)
              clear hw5 hc4 O1
              go_wp2_with fail
              refine (back_but wr g cap ai (nth L k) ci _ M5.out HC2.out HCM.out (fun w' hw' => HB.out.but M5.out.below hw' M5.out.own)).mono ?_
              rintro x w6 ⟨rfl, hb6⟩
              obtain ⟨s1', d1', hv1, hx1, -, -, -, hg1⟩ := O5.out.slice
              injection hv1 with e1 e2 e3
              subst e1 e3
              have E1 : Hid (BytesAt w6 s1 (wstr (nth L k))) := hb6.bytes hx1 (fun g' off e h => by have := (hg1 g' off e).1; have := GL.out; omega)
              have B6 : Hid (Below w.heap.size w w6) := hb6.below (below_trans HK.out M5.out.below) (by have := M5.out.own; have := HK.out.size; omega) (by have := M5.out.below.size; have := HK.out.size; omega)
              have HB6 : Hid (BytesAt w6 ai (nth L k)) := HB.out.but M5.out.below hb6 M5.out.own
              have hc6 := hb6.cell hc5 (show b ≠ g by have := HBK.out; have := HM.out.own; omega)
              clear hb6 D1 D2 M5 hc5 e2 hx1 hg1 O5
              go_wp2_with fail
              refine (ref_string ai (nth L k) ci _ HB6.out HNil.out (by omega)).mono ?_
              rintro x w7 ⟨v3, rfl, hO3, hb7⟩
              obtain ⟨s3, d3, rfl, hd3, -, -, -, -⟩ := hO3.slice
              have D3 := Lib.hid hd3
              have E7 := Lib.hid (E1.out.below hb7)
              have B7 := Lib.hid (below_trans B6.out hb7)
              clear hO3 hb7 hd3 E1
              go_wp2_with fail
              refine (eq_bytes_of s1 s3 _ _ _ _ d1 d3 true _ E7.out D3.out rfl rfl HW.out (decide_eq_true rfl)).mono ?_
              rintro x w8 ⟨rfl, n8, hw8⟩
              have B8 : Hid (Below w.heap.size w w8) := below_trans B7.out (by rw [hw8]; exact below_drewN _ _)
              clear hw8
              go_wp2_with fail
              go_roundw
              case rel => exact ⟨k + 1, by omega, by go_num, B8.out⟩
              case measure => simp [intOf]; omega
            · have hge : (L.length : Int) ≤ (k : Int) := by omega
              obtain rfl : k = L.length := by omega
              go_wp2_with fail
              go_ret
              exact ⟨rfl, HK.out⟩
end Go.Proofs.Ytmkljmljbbijeaa

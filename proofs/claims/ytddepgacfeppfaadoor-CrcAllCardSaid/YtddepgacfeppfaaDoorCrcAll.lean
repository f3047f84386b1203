/- The walk of flumelaw2's CrcAll. -/
import Derived.Test.YtddepgacfeppfaaDoorCrcBegun
import Derived.Test.YtddepgacfeppfaaDoorLent
import Derived.Test.YtddepgacfeppfaaDoorOpenLists
import Derived.Test.YtddepgacfeppfaaDoorOpenU32s
import Derived.Test.YtddepgacfeppfaaDoorOpenInts
import Derived.Deep.CutBlock
import Derived.Deep.DeepCutAuto
namespace Go.Proofs.YtddepgacfeppfaaDoor
open Go.RowKit

theorem Mine.front {w wr : World} {g : Nat} {bs x : List (BitVec 8)} (h : Mine w wr g (bs ++ x)) : BytesAt wr (some ⟨g, 0, none⟩) bs := fun i hi => by
  refine ⟨g, 0, rfl, ?_⟩
  rw [Nat.zero_add, h.bytes i (by simp; omega), at8_left hi]

/-- Join and Zeros at whatever number. -/
def joinI (a b : BitVec 32) (n : Int) : BitVec 32 := if n < 0 then 0#32 else Crc.join a b n.toNat
def zerosI (s : BitVec 32) (n : Int) : BitVec 32 := if n < 0 then 0#32 else Crc.zeros s n.toNat
theorem crc_join_any (a b : BitVec 32) (n : Int) (w : World) (hn : -9223372036854775808 ≤ n ∧ n ≤ 9223372036854775807) (hD : DeB w) :
    Calls Tryd.prog 9 #[.int .u32 (bv a), .int .u32 (bv b), .int .i64 n] w fun e w' => e = .returned (.int .u32 (bv (joinI a b n))) ∧ Below w.heap.size w w' := by
  unfold joinI
  by_cases h : n < 0
  · rw [if_pos h]; exact crc_join_neg a b n w h
  · rw [if_neg h]
    obtain ⟨m, rfl⟩ := Int.eq_ofNat_of_zero_le (show 0 ≤ n by omega)
    rw [Int.toNat_natCast]; exact crc_join a b m w (by omega) hD
theorem ref_join_any (a b : BitVec 32) (n : Int) (w : World) (hn : -9223372036854775808 ≤ n ∧ n ≤ 9223372036854775807) :
    Calls Tryd.prog 20 #[.int .u32 (bv a), .int .u32 (bv b), .int .i64 n] w fun e w' => e = .returned (.int .u32 (bv (joinI a b n))) ∧ Below w.heap.size w w' := by
  unfold joinI
  by_cases h : n < 0
  · rw [if_pos h]; exact ref_join_neg a b n w h
  · rw [if_neg h]
    obtain ⟨m, rfl⟩ := Int.eq_ofNat_of_zero_le (show 0 ≤ n by omega)
    rw [Int.toNat_natCast]; exact ref_join a b m w (by omega)
theorem crc_zeros_any (s : BitVec 32) (n : Int) (w : World) (hn : -9223372036854775808 ≤ n ∧ n ≤ 9223372036854775807) (hD : DeB w) :
    Calls Tryd.prog 11 #[.int .u32 (bv s), .int .i64 n] w fun e w' => e = .returned (.int .u32 (bv (zerosI s n))) ∧ Below w.heap.size w w' := by
  unfold zerosI
  by_cases h : n < 0
  · rw [if_pos h]; exact crc_zeros_neg s n w h
  · rw [if_neg h]
    obtain ⟨m, rfl⟩ := Int.eq_ofNat_of_zero_le (show 0 ≤ n by omega)
    rw [Int.toNat_natCast]; exact crc_zeros s m w (by omega) hD
theorem ref_zeros_any (s : BitVec 32) (n : Int) (w : World) (hn : -9223372036854775808 ≤ n ∧ n ≤ 9223372036854775807) :
    Calls Tryd.prog 21 #[.int .u32 (bv s), .int .i64 n] w fun e w' => e = .returned (.int .u32 (bv (zerosI s n))) ∧ Below w.heap.size w w' := by
  unfold zerosI
  by_cases h : n < 0
  · rw [if_pos h]; exact ref_zeros_neg s n w h
  · rw [if_neg h]
    obtain ⟨m, rfl⟩ := Int.eq_ofNat_of_zero_le (show 0 ≤ n by omega)
    rw [Int.toNat_natCast]; exact ref_zeros s m w (by omega)

set_option maxHeartbeats 1000000 in
set_option maxRecDepth 100000 in
theorem crc_all (a : Option Addr) (L : List (List (BitVec 8))) (ca : Nat) (s : Option Addr) (S : List (BitVec 32)) (cs : Nat) (n : Option Addr) (N : List Int) (cn : Nat) (w : World)
    (hD : DeB w) (hL : ListsAt w a L) (hS : U32sAt w s S) (hN : IntsAt w n N) (lL : L.length ≤ 5864062014806) (lS : S.length ≤ 35184372087808) (lN : N.length ≤ 17592186043904) :
    Calls Tryd.prog 6 #[.slice a L.length ca, .slice s S.length cs, .slice n N.length cn] w (TrueBelow w) := by
  have HD := Lib.hid hD
  have HL := Lib.hid hL
  have HS := Lib.hid hS
  have HN := Lib.hid hN
  clear hD hL hS hN
  go_enter Tryd.func6, Tryd.ntmps6
  go_wp2_with fail
  refine (crc_begun _ HD.out).mono ?_
  rintro e w1 ⟨rfl, hb⟩
  have H1 := Lib.hid hb
  clear hb
  go_upto_block 0 with (fail)
  go_cut [] (fun wc => Below w.heap.size w wc)
  case first =>
    go_wp2_with fail
    go_loopw [7, 8] (fun z i wr => ∃ k : Nat, k ≤ L.length ∧ i = .int .i64 k ∧ (∃ m : Nat, m ≤ 65536 ∧ z = .int .i64 m) ∧ Below w.heap.size w wr) (fun _ i _ => L.length - (intOf i).toNat)
    case atStart => exact ⟨0, by omega, rfl, ⟨0, by omega, rfl⟩, H1.out⟩
    case round =>
      obtain ⟨k, hk, rfl, ⟨m, hm, rfl⟩, hb⟩ := hrel
      have HK := Lib.hid hb
      clear hb
      by_cases hlt : k < L.length
      · obtain ⟨b, off, ai, ci, rfl, hc, hbs, hnil, hle, hci⟩ := (HL.out.below HK.out) k hlt
        have HB := Lib.hid hbs
        have HNil := Lib.hid hnil
        clear hbs hnil
        by_cases hz : 65536 < m + (nth L k).length
        · go_wp2_with fail
          go_meet
          exact HK.out
        · go_wp2_with fail
          refine (lent ai (nth L k) ci _ HB.out HNil.out (by omega)).mono ?_
          rintro e w2 ⟨g, cap, rfl, hc2, hcm, hM⟩
          have HM := Lib.hid hM
          have HC2 := Lib.hid hc2
          have HCM := Lib.hid hcm
          clear hM hc2 hcm
          go_wp2_with fail
          refine (crc_sum (some ⟨g, 0, none⟩) (nth L k) cap _ HM.out.front (by omega)).mono ?_
          rintro e w3 ⟨rfl, hb3⟩
          have HM3 := Lib.hid (HM.out.on hb3)
          clear hb3 HM
          have hc3 := cell_keep HM3.out.below hc
          go_wp2_with fail
          refine (ref_sum ai (nth L k) ci _ (HB.out.below HM3.out.below) (by omega)).mono ?_
          rintro e w3' ⟨rfl, rfl⟩
          go_wp2_with fail
          refine (back _ g cap ai (nth L k) ci _ HM3.out HC2.out HCM.out HB.out).mono ?_
          rintro e w4 ⟨rfl, hb4⟩
          have H4 := Lib.hid (below_trans HK.out hb4)
          have hc4 := cell_keep hb4 hc
          have HB4 := Lib.hid (HB.out.below hb4)
          clear hc hc3 HM3 hb4
          by_cases hs : k < S.length
          · obtain ⟨bS, oS, rfl, hcs⟩ := (HS.out.below H4.out) k hs
            have d1 : decide ((k : Int) < (S.length : Int)) = true := by simpa using hs
            have k1 := cell_regrown hc4
            have k2 := cell_regrown hcs
            go_wp2_with fail
            refine wp_region_quiet_below (by kernel_rfl) (by kernel_rfl) ?_
            repeat (go_big_quiet_step (first
              | (go_at_call 10; exact Calls.regrown_of (crc_more _ ai (nth L k) ci _ (HB4.out.below (below_regrown _ _ _)) (by omega)))
              | (go_at_call 15; exact Calls.regrown_of ((ref_more _ ai (nth L k) ci _ (HB4.out.below (below_regrown _ _ _)) (by omega)).mono fun _ _ ⟨he, hw⟩ => ⟨he, hw ▸ Below.refl _ _⟩))))
            refine wpQuiet_nil ?_
            intro w5 hw5
            obtain ⟨⟨nq, osq⟩, hw5'⟩ := hw5
            have H5 : Hid (Below w.heap.size w w5) := by rw [hw5']; exact below_trans H4.out (below_regrown _ _ _)
            clear hw5' k1 k2 hcs hc4
            go_wp2_with fail
            go_roundw
            case rel => exact ⟨k + 1, by omega, by go_num, ⟨m + (nth L k).length, by omega, by go_num⟩, H5.out⟩
            case measure => simp [intOf]; omega
          · have d1 : decide ((k : Int) < (S.length : Int)) = false := by simp; omega
            go_wp2_with fail
            go_quiet (fail)
            go_wp2_with fail
            go_roundw
            case rel => exact ⟨k + 1, by omega, by go_num, ⟨m + (nth L k).length, by omega, by go_num⟩, below_trans H4.out (below_drewN _ _)⟩
            case measure => simp [intOf]; omega
      · have hge : (L.length : Int) ≤ (k : Int) := by omega
        go_wp2_with fail
        go_meet
        exact HK.out
  case rest =>
    have HW := Lib.hid hcut
    clear hcut
    go_wp2_with fail
    obtain ⟨wq, rfl⟩ : ∃ wq : World, wq = wc := ⟨_, rfl⟩
    go_loopw [11] (fun i wr => ∃ k : Nat, k ≤ S.length ∧ i = .int .i64 k ∧ Below w.heap.size w wr) (fun i _ => S.length - (intOf i).toNat)
    case atStart => exact ⟨0, by omega, rfl, HW.out⟩
    case round =>
      obtain ⟨k, hk, rfl, hb⟩ := hrel
      have HK := Lib.hid hb
      clear hb
      by_cases hlt : k < S.length
      · obtain ⟨bS, oS, rfl, hcs⟩ := (HS.out.below HK.out) k hlt
        have HC0 : Hid (∀ w', Below w.heap.size w w' → w'.cell? ⟨bS, oS, none⟩ = some (.int .u32 (bv (at32 S 0)))) := fun w' hw' => by
          obtain ⟨b', o', e, hc⟩ := (HS.out.below hw') 0 (by omega)
          injection e with e; injection e with e1 e2; subst e1 e2
          exact hc
        have t1 : (Crc.bare (Crc.mask (at32 S k)) != at32 S k) = false := by rw [Crc.bare_mask]; simp
        have t2 : (Crc.mask (Crc.bare (at32 S k)) != at32 S k) = false := by rw [Crc.mask_bare]; simp
        go_wp2_with fail
        refine (crc_mask _ _).mono ?_
        rintro e w' ⟨rfl, rfl⟩
        go_wp2_with fail
        refine (ref_mask _ _).mono ?_
        rintro e w' ⟨rfl, rfl⟩
        go_wp2_with fail
        refine (crc_bare _ _).mono ?_
        rintro e w' ⟨rfl, rfl⟩
        go_wp2_with fail
        refine (ref_bare _ _).mono ?_
        rintro e w' ⟨rfl, rfl⟩
        go_wp2_with fail
        refine (crc_mask _ _).mono ?_
        rintro e w' ⟨rfl, rfl⟩
        go_wp2_with fail
        refine (crc_bare _ _).mono ?_
        rintro e w' ⟨rfl, rfl⟩
        go_wp2_with fail
        refine (crc_bare _ _).mono ?_
        rintro e w' ⟨rfl, rfl⟩
        go_wp2_with fail
        refine (crc_mask _ _).mono ?_
        rintro e w' ⟨rfl, rfl⟩
        go_wp2_with fail
        clear hcs t1 t2
        obtain ⟨wp, rfl⟩ : ∃ wp : World, wp = wr := ⟨_, rfl⟩
        go_loopw [13] (fun i wr => ∃ k : Nat, k ≤ N.length ∧ k ≤ 8 ∧ i = .int .i64 k ∧ Below w.heap.size w wr) (fun i _ => 8 - (intOf i).toNat)
        case atStart => exact ⟨0, by omega, by omega, rfl, HK.out⟩
        case round =>
          obtain ⟨j, hj, hj8, rfl, hb⟩ := hrel
          have HJ := Lib.hid hb
          clear hb
          by_cases hjn : j < N.length
          · by_cases hj7 : j < 8
            · obtain ⟨hr, bN, oN, rfl, hcn⟩ := (HN.out.below HJ.out) j hjn
              have HR := Lib.hid hr
              clear hr
              have k1 := cell_regrown hcn
              have k2 := cell_regrown (HC0.out _ HJ.out)
              go_wp2_with fail
              refine wp_region_quiet_below (by kernel_rfl) (by kernel_rfl) ?_
              repeat (go_big_quiet_step (first
                | (go_at_call 9; exact Calls.regrown_of (crc_join_any _ _ _ _ HR.out ((HD.out.below HJ.out).below (below_regrown _ _ _))))
                | (go_at_call 20; exact Calls.regrown_of (ref_join_any _ _ _ _ HR.out))
                | (go_at_call 11; exact Calls.regrown_of (crc_zeros_any _ _ _ HR.out ((HD.out.below HJ.out).below (below_regrown _ _ _))))
                | (go_at_call 21; exact Calls.regrown_of (ref_zeros_any _ _ _ HR.out))))
              refine wpQuiet_nil ?_
              intro w5 hw5
              obtain ⟨⟨nq, osq⟩, hw5'⟩ := hw5
              have H5 : Hid (Below w.heap.size w w5) := by rw [hw5']; exact below_trans HJ.out (below_regrown _ _ _)
              clear hw5' k1 k2 hcn
              go_wp2_with fail
              go_roundw
              case rel => exact ⟨j + 1, by omega, by omega, by go_num, H5.out⟩
              case measure => simp [intOf]; omega
            · have hge : (8 : Int) ≤ (j : Int) := by omega
              go_wp2_with fail
              go_roundw
              case rel => exact ⟨k + 1, by omega, by go_num, HJ.out⟩
              case measure => simp [intOf]; omega
          · have hge : (N.length : Int) ≤ (j : Int) := by omega
            go_wp2_with fail
            go_roundw
            case rel => exact ⟨k + 1, by omega, by go_num, HJ.out⟩
            case measure => simp [intOf]; omega
      · have hge : (S.length : Int) ≤ (k : Int) := by omega
        go_wp2_with fail
        go_ret
        exact ⟨rfl, HK.out⟩
end Go.Proofs.YtddepgacfeppfaaDoor

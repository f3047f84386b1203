/- The walks of the reference's step, More, Sum; crc.More and crc.Sum at whatever length. -/
import Derived.Test.YtfadpjljokpenaaCrcMore
namespace Go.Proofs.Ytfadpjljokpenaa
open Go.RowKit

theorem ref_step (c : BitVec 32) (w : World) :
    Calls Try.prog 104 #[.int .u32 (bv c)] w fun e w' => e = .returned (.int .u32 (bv (Crc.step c))) ∧ w = w' := by
  go_enter Try.func104, Try.ntmps104
  go_wp2
  go_loop [0, 3] (fun c' k => ∃ j : Nat, j ≤ 8 ∧ k = .int .i64 j ∧ c' = .int .u32 (bv (Crc.bitsN j c))) (fun _ k => 8 - (intOf k).toNat)
  case atStart => exact ⟨0, by omega, rfl, rfl⟩
  case round =>
    obtain ⟨j, hj, rfl, rfl⟩ := hrel
    have hs := Lib.hid (Crc.bitsN_succ j c)
    go_wp2
    · go_round
      case rel =>
        refine ⟨j + 1, by omega, by go_num, ?_⟩
        rw [hs.out, bit_yes (by assumption)]
      case measure => simp [intOf]; omega
    · go_round
      case rel =>
        refine ⟨j + 1, by omega, by go_num, ?_⟩
        rw [hs.out, bit_no (by assumption)]
      case measure => simp [intOf]; omega
    · go_ret
      obtain rfl : j = 8 := by omega
      exact ⟨rfl, rfl⟩

set_option maxRecDepth 100000 in
theorem ref_more (s : BitVec 32) (ao : Option Addr) (bs : List (BitVec 8)) (cap : Nat) (w : World) (hb : BytesAt w ao bs) (hm : bs.length ≤ 140737488351232) :
    Calls Try.prog 95 #[.int .u32 (bv s), .slice ao bs.length cap] w fun e w' => e = .returned (.int .u32 (bv (Crc.more s bs))) ∧ w = w' := by
  go_enter Try.func95, Try.ntmps95
  go_wp2_with fail
  go_loop [5, 6] (fun c i => ∃ k : Nat, k ≤ bs.length ∧ i = .int .i64 k ∧ c = .int .u32 (bv (Crc.reg (s ^^^ 4294967295#32) (bs.take k)))) (fun _ i => bs.length - (intOf i).toNat)
  case atStart => exact ⟨0, by omega, rfl, rfl⟩
  case round =>
    obtain ⟨k, hk, rfl, rfl⟩ := hrel
    by_cases hlt : k < bs.length
    · obtain ⟨b, off, rfl, hc⟩ := hb k hlt
      have hn := Lib.hid (reg_next (s ^^^ 4294967295#32) bs k hlt)
      go_wp2_with fail
      refine (ref_step _ _).mono ?_
      rintro e w' ⟨rfl, rfl⟩
      go_wp2_with fail
      go_round
      case rel => exact ⟨k + 1, by omega, by go_num, by rw [hn.out]⟩
      case measure => simp [intOf]; omega
    · obtain rfl : k = bs.length := by omega
      go_wp2_with fail
      go_ret
      exact ⟨rfl, rfl⟩

theorem ref_sum (ao : Option Addr) (bs : List (BitVec 8)) (cap : Nat) (w : World) (hb : BytesAt w ao bs) (hm : bs.length ≤ 140737488351232) :
    Calls Try.prog 72 #[.slice ao bs.length cap] w fun e w' => e = .returned (.int .u32 (bv (Crc.sum bs))) ∧ w = w' := by
  go_enter Try.func72, Try.ntmps72
  go_wp2_with fail
  refine (ref_more 0#32 _ _ _ _ hb hm).mono ?_
  rintro e w' ⟨rfl, rfl⟩
  go_wp2_with fail
  go_ret
  exact ⟨rfl, rfl⟩

theorem crc_more (s : BitVec 32) (ao : Option Addr) (bs : List (BitVec 8)) (cap : Nat) (w : World) (hb : BytesAt w ao bs) (hm : bs.length ≤ 140737488351232) :
    Calls Try.prog 94 #[.int .u32 (bv s), .slice ao bs.length cap] w fun e w' => e = .returned (.int .u32 (bv (Crc.more s bs))) ∧ Below w.heap.size w w' := by
  by_cases h : bs.length < 32
  · exact (crc_more_few s ao bs cap w hb h).mono fun e w' ⟨he, hw⟩ => ⟨he, hw ▸ Below.refl _ _⟩
  · exact crc_more_many s ao bs cap w hb (by omega) hm
theorem crc_more_of (s : BitVec 32) (ao : Option Addr) (n : Nat) (bs : List (BitVec 8)) (cap : Nat) (w : World) (hn : bs.length = n) (hb : BytesAt w ao bs) (hm : bs.length ≤ 140737488351232) :
    Calls Try.prog 94 #[.int .u32 (bv s), .slice ao n cap] w fun e w' => e = .returned (.int .u32 (bv (Crc.more s bs))) ∧ Below w.heap.size w w' := by
  subst hn; exact crc_more s ao bs cap w hb hm
theorem crc_sum (ao : Option Addr) (bs : List (BitVec 8)) (cap : Nat) (w : World) (hb : BytesAt w ao bs) (hm : bs.length ≤ 140737488351232) :
    Calls Try.prog 70 #[.slice ao bs.length cap] w fun e w' => e = .returned (.int .u32 (bv (Crc.sum bs))) ∧ Below w.heap.size w w' := by
  go_enter Try.func70, Try.ntmps70
  go_wp2_with fail
  refine (crc_more 0#32 _ _ _ _ hb hm).mono ?_
  rintro e w' ⟨rfl, hw⟩
  go_wp2_with fail
  go_ret
  exact ⟨rfl, hw⟩
end Go.Proofs.Ytfadpjljokpenaa

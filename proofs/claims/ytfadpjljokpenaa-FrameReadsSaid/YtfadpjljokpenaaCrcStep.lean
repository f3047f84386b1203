/- The walks of crc.step and of the reference's step: eight steps of the register. -/
import Derived.Test.YtfadpjljokpenaaChecked
import Derived.Test.YtfadpjljokpenaaBits
import Derived.Test.YtfadpjljokpenaaPlainCrc
import Derived.WalkKit
import Derived.WalkSpells
import Derived.WalkLawsBesides
import Derived.Lib.Hide
namespace Go.Proofs.Ytfadpjljokpenaa
open Go.RowKit

theorem ret_u32 {a b : BitVec 32} (h : a = b) : Ending.returned (.int .u32 (bv a)) = .returned (.int .u32 (bv b)) := by rw [h]
theorem bit_yes {x : BitVec 32} (h : (x &&& 1#32 == 1#32) = true) : (x >>> 1) ^^^ 2197175160#32 = Crc.bit x := by unfold Crc.bit; rw [if_pos h]
theorem bit_no {x : BitVec 32} (h : (x &&& 1#32 == 1#32) = false) : x >>> 1 = Crc.bit x := by unfold Crc.bit; rw [if_neg (by simp [h])]

theorem crc_step (c : BitVec 32) (w : World) :
    Calls Try.prog 102 #[.int .u32 (bv c)] w fun e w' => e = .returned (.int .u32 (bv (Crc.step c))) ∧ w = w' := by
  go_enter Try.func102, Try.ntmps102
  go_wp2
  go_loop [0, 3, 4] (fun c' _ k => ∃ j : Nat, j ≤ 8 ∧ k = .int .i64 j ∧ c' = .int .u32 (bv (Crc.bitsN j c))) (fun _ _ k => 8 - (intOf k).toNat)
  case atStart => exact ⟨0, by omega, rfl, rfl⟩
  case round =>
    obtain ⟨j, hj, rfl, rfl⟩ := hrel
    have hs := Lib.hid (Crc.bitsN_succ j c)
    go_wp2
    · go_round
      case rel =>
        refine ⟨j + 1, by omega, by go_num, ?_⟩
        rw [hs.out, bit_yes (by assumption)]
      case measure => simp [intOf]; omega
    · go_round
      case rel =>
        refine ⟨j + 1, by omega, by go_num, ?_⟩
        rw [hs.out, bit_no (by assumption)]
      case measure => simp [intOf]; omega
    · go_ret
      obtain rfl : j = 8 := by omega
      exact ⟨rfl, rfl⟩
theorem crc_step_of (n : Int) (c : BitVec 32) (w : World) (h : n = bv c) :
    Calls Try.prog 102 #[.int .u32 n] w fun e w' => e = .returned (.int .u32 (bv (Crc.step c))) ∧ w = w' := by
  subst h; exact crc_step c w
end Go.Proofs.Ytfadpjljokpenaa

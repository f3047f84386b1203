/- The walks of Mask and Bare, the code's and the reference's, and of Join and Zeros of the code. -/
import Derived.Test.YtfadpjljokpenaaCrcStep
namespace Go.Proofs.Ytfadpjljokpenaa
namespace Crc
def mask (s : R) : R := (s >>> 15 ||| s <<< 17) + 2726488792#32
def bare (m : R) : R := (m - 2726488792#32) <<< 15 ||| (m - 2726488792#32) >>> 17
theorem turn_back (s : R) : (s >>> 15 ||| s <<< 17) <<< 15 ||| (s >>> 15 ||| s <<< 17) >>> 17 = s := by
  apply BitVec.eq_of_getLsbD_eq
  intro i hi
  simp only [BitVec.getLsbD_or, BitVec.getLsbD_shiftLeft, BitVec.getLsbD_ushiftRight]
  by_cases h : i < 15
  · have h1 : 17 + i < 32 := by omega
    have h2 : s.getLsbD (15 + (17 + i)) = false := BitVec.getLsbD_of_ge _ _ (by omega)
    have h3 : ¬ 17 + i < 17 := by omega
    have h4 : 17 + i - 17 = i := by omega
    simp only [hi, h, h1, h2, h3, h4, decide_true, decide_false, Bool.not_true, Bool.not_false, Bool.and_false, Bool.false_and, Bool.false_or, Bool.true_and]
  · have h1 : i - 15 < 17 := by omega
    have h2 : 15 + (i - 15) = i := by omega
    have h3 : s.getLsbD (15 + (17 + i)) = false := BitVec.getLsbD_of_ge _ _ (by omega)
    have h4 : ¬ 17 + i < 32 := by omega
    have h5 : i - 15 < 32 := by omega
    simp only [hi, h, h1, h2, h3, h4, h5, decide_true, decide_false, Bool.not_true, Bool.not_false, Bool.and_false, Bool.false_and, Bool.or_false, Bool.true_and]
theorem back_turn (x : R) : (x <<< 15 ||| x >>> 17) >>> 15 ||| (x <<< 15 ||| x >>> 17) <<< 17 = x := by
  apply BitVec.eq_of_getLsbD_eq
  intro i hi
  simp only [BitVec.getLsbD_or, BitVec.getLsbD_shiftLeft, BitVec.getLsbD_ushiftRight]
  by_cases h : i < 17
  · have h1 : 15 + i < 32 := by omega
    have h2 : x.getLsbD (17 + (15 + i)) = false := BitVec.getLsbD_of_ge _ _ (by omega)
    have h3 : ¬ 15 + i < 15 := by omega
    have h4 : 15 + i - 15 = i := by omega
    simp only [hi, h, h1, h2, h3, h4, decide_true, decide_false, Bool.not_true, Bool.not_false, Bool.and_false, Bool.false_and, Bool.or_false, Bool.true_and]
  · have h1 : i - 17 < 15 := by omega
    have h2 : 17 + (i - 17) = i := by omega
    have h3 : x.getLsbD (17 + (15 + i)) = false := BitVec.getLsbD_of_ge _ _ (by omega)
    have h4 : ¬ 15 + i < 32 := by omega
    have h5 : i - 17 < 32 := by omega
    simp only [hi, h, h1, h2, h3, h4, h5, decide_true, decide_false, Bool.not_true, Bool.not_false, Bool.and_false, Bool.false_and, Bool.or_false, Bool.false_or, Bool.true_and]
theorem bare_mask (s : R) : bare (mask s) = s := by
  unfold bare mask; rw [BitVec.add_sub_cancel]; exact turn_back s
theorem mask_bare (m : R) : mask (bare m) = m := by
  unfold bare mask; rw [back_turn, BitVec.sub_add_cancel]
end Crc
open Go.RowKit

theorem bv_div_p15 {n : Nat} (a : BitVec n) : bv a / (32768 : Int) = bv (a >>> 15) := bv_div a 15 32768 rfl
theorem bv_div_p17 {n : Nat} (a : BitVec n) : bv a / (131072 : Int) = bv (a >>> 17) := bv_div a 17 131072 rfl
theorem bv_shl_15 (a : BitVec 32) : bv a * (32768 : Int) % (4294967296 : Int) = bv (a <<< 15) := by
  unfold bv; rw [BitVec.toNat_shiftLeft, Nat.shiftLeft_eq]; show ((a.toNat : Int) * 32768) % 4294967296 = ((a.toNat * 32768 % 4294967296 : Nat) : Int); omega
theorem bv_shl_17 (a : BitVec 32) : bv a * (131072 : Int) % (4294967296 : Int) = bv (a <<< 17) := by
  unfold bv; rw [BitVec.toNat_shiftLeft, Nat.shiftLeft_eq]; show ((a.toNat : Int) * 131072) % 4294967296 = ((a.toNat * 131072 % 4294967296 : Nat) : Int); omega
theorem bv_shl_15' (a : BitVec 32) : IntKind.u32.wrap (bv a * (32768 : Int)) = bv (a <<< 15) := by rw [IntKind.wrap_u32', bv_shl_15]
theorem bv_shl_17' (a : BitVec 32) : IntKind.u32.wrap (bv a * (131072 : Int)) = bv (a <<< 17) := by rw [IntKind.wrap_u32', bv_shl_17]
theorem bv_add_delta (a : BitVec 32) : (bv a + 2726488792) % 4294967296 = bv (a + 2726488792#32) := by
  unfold bv; rw [BitVec.toNat_add]; show ((a.toNat : Int) + 2726488792) % 4294967296 = (((a.toNat + 2726488792) % 4294967296 : Nat) : Int); omega
theorem bv_sub_delta (a : BitVec 32) : (bv a - 2726488792) % 4294967296 = bv (a - 2726488792#32) := by
  unfold bv; rw [BitVec.toNat_sub]; have := a.isLt
  show ((a.toNat : Int) - 2726488792) % 4294967296 = (((4294967296 - 2726488792 + a.toNat) % 4294967296 : Nat) : Int); omega
theorem bv_add_delta' (a : BitVec 32) : IntKind.u32.wrap (bv a + 2726488792) = bv (a + 2726488792#32) := by rw [IntKind.wrap_u32', bv_add_delta]
theorem bv_sub_delta' (a : BitVec 32) : IntKind.u32.wrap (bv a - 2726488792) = bv (a - 2726488792#32) := by rw [IntKind.wrap_u32', bv_sub_delta]
attribute [local go_sem] bv_div_p15 bv_div_p17 bv_shl_15 bv_shl_17 bv_shl_15' bv_shl_17' bv_add_delta bv_sub_delta bv_add_delta' bv_sub_delta'

theorem seventeen : bits .and .u64 (IntKind.u64.wrap (-15)) 31 = 17 := by decide
theorem fifteen : bits .and .u64 (IntKind.u64.wrap 15) 31 = 15 := by decide
theorem fifteen' : bits .and .u64 15 31 = 15 := by decide

theorem crc_mask (c : BitVec 32) (w : World) :
    Calls Try.prog 64 #[.int .u32 (bv c)] w fun e w' => e = .returned (.int .u32 (bv (Crc.mask c))) ∧ w = w' := by
  have h := seventeen
  have e : Crc.mask c = (c <<< 17 ||| c >>> 15) + 2726488792#32 := by unfold Crc.mask; rw [BitVec.or_comm]
  rw [e]; clear e
  go_enter Try.func64, Try.ntmps64
  go_wp2
  go_ret
  exact ⟨rfl, rfl⟩
theorem ref_mask (c : BitVec 32) (w : World) :
    Calls Try.prog 66 #[.int .u32 (bv c)] w fun e w' => e = .returned (.int .u32 (bv (Crc.mask c))) ∧ w = w' := by
  go_enter Try.func66, Try.ntmps66
  go_wp2
  go_ret
  exact ⟨rfl, rfl⟩

end Go.Proofs.Ytfadpjljokpenaa

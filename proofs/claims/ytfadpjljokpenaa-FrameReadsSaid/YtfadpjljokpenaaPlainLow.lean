/- The plain law of fixed numbers: so many bytes, the lowest first. -/
import Derived.Test.YtfadpjljokpenaaWireFixed
namespace Go.Proofs.Ytfadpjljokpenaa

/-- The number that bytes are, the lowest first. -/
def leN : List (BitVec 8) → Nat
  | [] => 0
  | c :: r => c.toNat + 256 * leN r
def leB (bs : List (BitVec 8)) : BitVec 64 := BitVec.ofNat 64 (leN bs)
theorem leN_append (xs ys : List (BitVec 8)) : leN (xs ++ ys) = leN xs + 256 ^ xs.length * leN ys := by
  induction xs with
  | nil => simp [leN]
  | cons c r ih => rw [List.cons_append, leN, leN, ih, List.length_cons, Nat.pow_succ, Nat.mul_add, Nat.mul_comm (256 ^ r.length) 256, Nat.mul_assoc]; omega
theorem leN_lt (xs : List (BitVec 8)) : leN xs < 256 ^ xs.length := by
  induction xs with
  | nil => simp [leN]
  | cons c r ih =>
    have := c.isLt
    rw [leN, List.length_cons, Nat.pow_succ]
    omega
theorem leB_lt {xs : List (BitVec 8)} (h : xs.length ≤ 8) : (leB xs).toNat = leN xs := by
  unfold leB
  rw [BitVec.toNat_ofNat]
  have h1 := leN_lt xs
  have h2 : 256 ^ xs.length ≤ 256 ^ 8 := Nat.pow_le_pow_right (by decide) h
  exact Nat.mod_eq_of_lt (by omega)
/-- The program's step. -/
theorem leB_snoc (xs : List (BitVec 8)) (c : BitVec 8) (h : xs.length < 8) : leB xs ||| (c.setWidth 64 <<< (8 * xs.length)) = leB (xs ++ [c]) := by
  apply BitVec.eq_of_toNat_eq
  rw [leB_lt (by simp; omega), BitVec.toNat_or, leB_lt (by omega), BitVec.toNat_shiftLeft, Nat.shiftLeft_eq, BitVec.toNat_setWidth, leN_append]
  have hc := c.isLt
  have hp : (256 : Nat) ^ xs.length = 2 ^ (8 * xs.length) := by rw [Nat.pow_mul]
  have h1 := leN_lt xs
  rw [hp] at h1
  have h2 : (2 : Nat) ^ (8 * xs.length) ≤ 2 ^ 56 := Nat.pow_le_pow_right (by decide) (by omega)
  have h3 : c.toNat * 2 ^ (8 * xs.length) ≤ 255 * 2 ^ 56 := Nat.mul_le_mul (by omega) h2
  rw [Nat.mod_eq_of_lt (a := c.toNat) (by omega), Nat.mod_eq_of_lt (by omega), hp]
  have := Nat.two_pow_add_eq_or_of_lt h1 c.toNat
  rw [Nat.mul_comm, Nat.or_comm, ← this]
  simp [leN]
  omega
/-- The document's step. -/
theorem leB_cons (c : BitVec 8) (r : List (BitVec 8)) : leB r * 256#64 + c.setWidth 64 = leB (c :: r) := by
  apply BitVec.eq_of_toNat_eq
  unfold leB
  rw [BitVec.toNat_add, BitVec.toNat_mul, BitVec.toNat_ofNat, BitVec.toNat_ofNat, BitVec.toNat_setWidth, leN]
  have := c.isLt
  simp
  omega
/-- A number written is read back. -/
theorem leN_fixed (n : BitVec 64) (size : Nat) : leN (fixedL n size) = n.toNat % 256 ^ size := by
  induction size with
  | zero => simp [fixedL, leN, Nat.mod_one]
  | succ k ih =>
    rw [← fixedL_next, leN_append, ih, fixedL_len]
    simp only [leN, le8, BitVec.toNat_setWidth, BitVec.toNat_ushiftRight, Nat.shiftRight_eq_div_pow, Nat.mul_zero, Nat.add_zero]
    have hp : (2 : Nat) ^ (8 * k) = 256 ^ k := by rw [Nat.pow_mul]
    rw [hp]
    exact (Nat.mod_mul (x := n.toNat) (a := 256 ^ k) (b := 256)).symm
theorem leB_fixed64 (n : BitVec 64) : leB (fixedL n 8) = n := by
  apply BitVec.eq_of_toNat_eq
  rw [leB_lt (by rw [fixedL_len]; omega), leN_fixed]
  exact Nat.mod_eq_of_lt n.isLt
theorem leB_fixed32 (n : BitVec 32) : (leB (fixedL (n.setWidth 64) 4)).setWidth 32 = n := by
  apply BitVec.eq_of_toNat_eq
  have := n.isLt
  rw [BitVec.toNat_setWidth, leB_lt (by rw [fixedL_len]; omega), leN_fixed, BitVec.toNat_setWidth]
  omega
end Go.Proofs.Ytfadpjljokpenaa

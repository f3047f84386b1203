/- Numbers of fixed width as bit vectors: how the walk's integer operations read on them. -/
import Derived.WalkKit
import Derived.Deep.MidRow
import Derived.Lib.QuietBelow
import Derived.Lib.Hide
namespace Go.Proofs.Ytmkljmljbbijeaa

/-- A bit vector as the integer that a slot of an unsigned kind holds. -/
def bv {n : Nat} (x : BitVec n) : Int := (x.toNat : Int)

theorem bv_inj {n : Nat} {a b : BitVec n} : bv a = bv b ↔ a = b := by
  unfold bv; constructor
  · intro h; exact BitVec.eq_of_toNat_eq (by omega)
  · rintro rfl; rfl
theorem bv_nonneg {n : Nat} (a : BitVec n) : 0 ≤ bv a := by unfold bv; omega
theorem bv_lt {n : Nat} (a : BitVec n) : bv a < 2 ^ n := by
  unfold bv; have := a.isLt; have h : ((a.toNat : Nat) : Int) < ((2 ^ n : Nat) : Int) := by omega
  simpa using h
/-- A bit vector as an index (a name of its own: simp would take 'toNat' of a sum apart). -/
def ix {n : Nat} (x : BitVec n) : Nat := x.toNat
theorem bv_toNat {n : Nat} (a : BitVec n) : (bv a).toNat = ix a := by unfold bv ix; omega
theorem ix_lt {n : Nat} (a : BitVec n) : ix a < 2 ^ n := a.isLt
theorem bv_ofNat {n k : Nat} (h : k < 2 ^ n) : bv (BitVec.ofNat n k) = (k : Int) := by
  unfold bv; rw [BitVec.toNat_ofNat, Nat.mod_eq_of_lt h]
theorem bv_lit {n : Nat} (k : Nat) (h : k < 2 ^ n) : (OfNat.ofNat k : Int) = bv (BitVec.ofNat n k) := (bv_ofNat h).symm

/-! ### bit by bit -/
theorem bits_xor_u32 (a b : BitVec 32) : bits .xor .u32 (bv a) (bv b) = bv (a ^^^ b) := by
  unfold bv; rw [u32_xor_nat _ _ a.isLt b.isLt, BitVec.toNat_xor]
theorem bits_and_u32 (a b : BitVec 32) : bits .and .u32 (bv a) (bv b) = bv (a &&& b) := by
  unfold bv; rw [u32_and_nat _ _ a.isLt b.isLt, BitVec.toNat_and]
theorem bits_or_u32 (a b : BitVec 32) : bits .or .u32 (bv a) (bv b) = bv (a ||| b) := by
  unfold bv; rw [u32_or_nat _ _ a.isLt b.isLt, BitVec.toNat_or]
theorem bits_xor_u8 (a b : BitVec 8) : bits .xor .u8 (bv a) (bv b) = bv (a ^^^ b) := by
  unfold bv; rw [u8_xor_nat _ _ a.isLt b.isLt, BitVec.toNat_xor]
theorem bits_and_u8 (a b : BitVec 8) : bits .and .u8 (bv a) (bv b) = bv (a &&& b) := by
  unfold bv; rw [u8_and_nat _ _ a.isLt b.isLt, BitVec.toNat_and]
theorem bits_or_u8 (a b : BitVec 8) : bits .or .u8 (bv a) (bv b) = bv (a ||| b) := by
  unfold bv; rw [u8_or_nat _ _ a.isLt b.isLt, BitVec.toNat_or]
theorem bits_xor_u64 (a b : BitVec 64) : bits .xor .u64 (bv a) (bv b) = bv (a ^^^ b) := by
  unfold bv; rw [u64_xor_nat _ _ a.isLt b.isLt, BitVec.toNat_xor]
theorem bits_and_u64 (a b : BitVec 64) : bits .and .u64 (bv a) (bv b) = bv (a &&& b) := by
  unfold bv; rw [u64_and_nat _ _ a.isLt b.isLt, BitVec.toNat_and]
theorem bits_or_u64 (a b : BitVec 64) : bits .or .u64 (bv a) (bv b) = bv (a ||| b) := by
  unfold bv; rw [u64_or_nat _ _ a.isLt b.isLt, BitVec.toNat_or]

theorem bits_xor_u32_lit (a : BitVec 32) (k : Nat) (h : (OfNat.ofNat k : Nat) < 4294967296) : bits .xor .u32 (bv a) (OfNat.ofNat k : Int) = bv (a ^^^ BitVec.ofNat 32 (OfNat.ofNat k)) := by
  rw [← bits_xor_u32]; exact congrArg _ (bv_lit (n := 32) k (show k < 2 ^ _ from h))
theorem bits_and_u32_lit (a : BitVec 32) (k : Nat) (h : (OfNat.ofNat k : Nat) < 4294967296) : bits .and .u32 (bv a) (OfNat.ofNat k : Int) = bv (a &&& BitVec.ofNat 32 (OfNat.ofNat k)) := by
  rw [← bits_and_u32]; exact congrArg _ (bv_lit (n := 32) k (show k < 2 ^ _ from h))
theorem bits_and_u8_lit (a : BitVec 8) (k : Nat) (h : (OfNat.ofNat k : Nat) < 256) : bits .and .u8 (bv a) (OfNat.ofNat k : Int) = bv (a &&& BitVec.ofNat 8 (OfNat.ofNat k)) := by
  rw [← bits_and_u8]; exact congrArg _ (bv_lit (n := 8) k (show k < 2 ^ _ from h))
theorem bits_or_u8_lit (a : BitVec 8) (k : Nat) (h : (OfNat.ofNat k : Nat) < 256) : bits .or .u8 (bv a) (OfNat.ofNat k : Int) = bv (a ||| BitVec.ofNat 8 (OfNat.ofNat k)) := by
  rw [← bits_or_u8]; exact congrArg _ (bv_lit (n := 8) k (show k < 2 ^ _ from h))
theorem bits_xor_u8_lit (a : BitVec 8) (k : Nat) (h : (OfNat.ofNat k : Nat) < 256) : bits .xor .u8 (bv a) (OfNat.ofNat k : Int) = bv (a ^^^ BitVec.ofNat 8 (OfNat.ofNat k)) := by
  rw [← bits_xor_u8]; exact congrArg _ (bv_lit (n := 8) k (show k < 2 ^ _ from h))
theorem bits_and_u64_lit (a : BitVec 64) (k : Nat) (h : (OfNat.ofNat k : Nat) < 18446744073709551616) : bits .and .u64 (bv a) (OfNat.ofNat k : Int) = bv (a &&& BitVec.ofNat 64 (OfNat.ofNat k)) := by
  rw [← bits_and_u64]; exact congrArg _ (bv_lit (n := 64) k (show k < 2 ^ _ from h))

/-! ### tests -/
theorem beq_bv {n : Nat} (a b : BitVec n) : (bv a == bv b) = (a == b) := by
  rw [Bool.eq_iff_iff]; simp [bv_inj]
theorem bne_bv {n : Nat} (a b : BitVec n) : (bv a != bv b) = (a != b) := by
  unfold bne; rw [beq_bv]
theorem beq_bv_lit {n : Nat} (a : BitVec n) (k : Nat) (h : (OfNat.ofNat k : Nat) < 2 ^ n) : (bv a == (OfNat.ofNat k : Int)) = (a == BitVec.ofNat n (OfNat.ofNat k)) := by
  rw [← beq_bv]; exact congrArg _ (bv_lit (n := n) k h)
theorem bne_bv_lit {n : Nat} (a : BitVec n) (k : Nat) (h : (OfNat.ofNat k : Nat) < 2 ^ n) : (bv a != (OfNat.ofNat k : Int)) = (a != BitVec.ofNat n (OfNat.ofNat k)) := by
  unfold bne; rw [beq_bv_lit _ _ h]

/-! ### shifts to the right, by a number that is known -/
theorem bv_div {n : Nat} (a : BitVec n) (j k : Nat) (h : (OfNat.ofNat k : Nat) = 2 ^ j) : bv a / (OfNat.ofNat k : Int) = bv (a >>> j) := by
  unfold bv; rw [BitVec.toNat_ushiftRight, Nat.shiftRight_eq_div_pow, ← h]; rfl
theorem bv_div_2 {n : Nat} (a : BitVec n) : bv a / (2 : Int) = bv (a >>> 1) := bv_div a 1 2 rfl
theorem bv_div_128 {n : Nat} (a : BitVec n) : bv a / (128 : Int) = bv (a >>> 7) := bv_div a 7 128 rfl
theorem bv_div_256 {n : Nat} (a : BitVec n) : bv a / (256 : Int) = bv (a >>> 8) := bv_div a 8 256 rfl
theorem bv_div_p27 {n : Nat} (a : BitVec n) : bv a / (134217728 : Int) = bv (a >>> 27) := bv_div a 27 134217728 rfl

theorem bv_tdiv_2 {n : Nat} (a : BitVec n) : (bv a).tdiv (2 : Int) = bv (a >>> 1) := by rw [Int.tdiv_eq_ediv_of_nonneg (bv_nonneg a)]; exact bv_div_2 a
theorem bv_tdiv_128 {n : Nat} (a : BitVec n) : (bv a).tdiv (128 : Int) = bv (a >>> 7) := by rw [Int.tdiv_eq_ediv_of_nonneg (bv_nonneg a)]; exact bv_div_128 a
theorem bv_tdiv_256 {n : Nat} (a : BitVec n) : (bv a).tdiv (256 : Int) = bv (a >>> 8) := by rw [Int.tdiv_eq_ediv_of_nonneg (bv_nonneg a)]; exact bv_div_256 a
theorem bv_mod {n : Nat} (a : BitVec n) (j k : Nat) (hk : (OfNat.ofNat k : Nat) = 2 ^ j) (hm : 2 ^ j - 1 < 2 ^ n) : bv a % (OfNat.ofNat k : Int) = bv (a &&& BitVec.ofNat n (2 ^ j - 1)) := by
  have e : ((a.toNat : Int) % ((2 ^ j : Nat) : Int)) = bv (a &&& BitVec.ofNat n (2 ^ j - 1)) := by
    unfold bv
    rw [BitVec.toNat_and, BitVec.toNat_ofNat, Nat.mod_eq_of_lt hm, Nat.and_two_pow_sub_one_eq_mod]; rfl
  rw [← e, ← hk]; rfl
theorem bv_mod_2 (a : BitVec 32) : bv a % (2 : Int) = bv (a &&& 1#32) := bv_mod a 1 2 rfl (by decide)
theorem bv_tmod_2 (a : BitVec 32) : (bv a).tmod (2 : Int) = bv (a &&& 1#32) := by rw [Int.tmod_eq_emod_of_nonneg (bv_nonneg a)]; exact bv_mod_2 a
theorem bv_mod_2' (a : BitVec 64) : bv a % (2 : Int) = bv (a &&& 1#64) := bv_mod a 1 2 rfl (by decide)
theorem bv_tmod_2' (a : BitVec 64) : (bv a).tmod (2 : Int) = bv (a &&& 1#64) := by rw [Int.tmod_eq_emod_of_nonneg (bv_nonneg a)]; exact bv_mod_2' a
theorem bv_mod_128 (a : BitVec 64) : bv a % (128 : Int) = bv (a &&& 127#64) := bv_mod a 7 128 rfl (by decide)
theorem bv_tmod_128 (a : BitVec 64) : (bv a).tmod (128 : Int) = bv (a &&& 127#64) := by rw [Int.tmod_eq_emod_of_nonneg (bv_nonneg a)]; exact bv_mod_128 a
theorem bv_mod_256 (a : BitVec 64) : bv a % (256 : Int) = bv (a &&& 255#64) := bv_mod a 8 256 rfl (by decide)
theorem bv_tmod_256 (a : BitVec 64) : (bv a).tmod (256 : Int) = bv (a &&& 255#64) := by rw [Int.tmod_eq_emod_of_nonneg (bv_nonneg a)]; exact bv_mod_256 a

/-! ### from one width to another -/
theorem wrap_u8_bv {n : Nat} (a : BitVec n) : IntKind.u8.wrap (bv a) = bv (a.setWidth 8) := by
  unfold bv; rw [IntKind.wrap_u8', BitVec.toNat_setWidth]; omega
theorem wrap_u32_bv {n : Nat} (a : BitVec n) : IntKind.u32.wrap (bv a) = bv (a.setWidth 32) := by
  unfold bv; rw [IntKind.wrap_u32', BitVec.toNat_setWidth]; omega
theorem wrap_u64_bv {n : Nat} (a : BitVec n) : IntKind.u64.wrap (bv a) = bv (a.setWidth 64) := by
  unfold bv; rw [IntKind.wrap_u64, BitVec.toNat_setWidth]; omega

/-! ### a number as an index -/
theorem bv_nonneg' {n : Nat} (a : BitVec n) : (0 ≤ bv a) = True := eq_true (bv_nonneg a)
theorem bv_not_neg {n : Nat} (a : BitVec n) : (bv a < 0) = False := eq_false (by have := bv_nonneg a; omega)
theorem bv8_lt (a : BitVec 8) : (bv a < 256) = True := eq_true (bv_lt a)


/-! ### at the numerals that stand in the text (simp looks a numeral up as it stands, so each has a law of its own) -/
theorem bits_xor_u32_2197175160 (a : BitVec 32) : bits .xor .u32 (bv a) (2197175160 : Int) = bv (a ^^^ 2197175160#32) := bits_xor_u32_lit a 2197175160 (by decide)
theorem bits_xor_u32_4294967295 (a : BitVec 32) : bits .xor .u32 (bv a) (4294967295 : Int) = bv (a ^^^ 4294967295#32) := bits_xor_u32_lit a 4294967295 (by decide)
theorem bits_and_u32_1 (a : BitVec 32) : bits .and .u32 (bv a) (1 : Int) = bv (a &&& 1#32) := bits_and_u32_lit a 1 (by decide)
theorem bits_and_u8_127 (a : BitVec 8) : bits .and .u8 (bv a) (127 : Int) = bv (a &&& 127#8) := bits_and_u8_lit a 127 (by decide)
theorem bits_or_u8_128 (a : BitVec 8) : bits .or .u8 (bv a) (128 : Int) = bv (a ||| 128#8) := bits_or_u8_lit a 128 (by decide)
theorem bits_xor_u8_85 (a : BitVec 8) : bits .xor .u8 (bv a) (85 : Int) = bv (a ^^^ 85#8) := bits_xor_u8_lit a 85 (by decide)
theorem bits_and_u64_1 (a : BitVec 64) : bits .and .u64 (bv a) (1 : Int) = bv (a &&& 1#64) := bits_and_u64_lit a 1 (by decide)
theorem beq_bv8_0 (a : BitVec 8) : (bv a == (0 : Int)) = (a == 0#8) := beq_bv_lit a 0 (by decide)
theorem bne_bv8_0 (a : BitVec 8) : (bv a != (0 : Int)) = (a != 0#8) := bne_bv_lit a 0 (by decide)
theorem beq_bv8_1 (a : BitVec 8) : (bv a == (1 : Int)) = (a == 1#8) := beq_bv_lit a 1 (by decide)
theorem bne_bv8_1 (a : BitVec 8) : (bv a != (1 : Int)) = (a != 1#8) := bne_bv_lit a 1 (by decide)
theorem beq_bv8_2 (a : BitVec 8) : (bv a == (2 : Int)) = (a == 2#8) := beq_bv_lit a 2 (by decide)
theorem bne_bv8_2 (a : BitVec 8) : (bv a != (2 : Int)) = (a != 2#8) := bne_bv_lit a 2 (by decide)
theorem beq_bv8_128 (a : BitVec 8) : (bv a == (128 : Int)) = (a == 128#8) := beq_bv_lit a 128 (by decide)
theorem bne_bv8_128 (a : BitVec 8) : (bv a != (128 : Int)) = (a != 128#8) := bne_bv_lit a 128 (by decide)
theorem beq_bv8_171 (a : BitVec 8) : (bv a == (171 : Int)) = (a == 171#8) := beq_bv_lit a 171 (by decide)
theorem bne_bv8_171 (a : BitVec 8) : (bv a != (171 : Int)) = (a != 171#8) := bne_bv_lit a 171 (by decide)
theorem beq_bv8_172 (a : BitVec 8) : (bv a == (172 : Int)) = (a == 172#8) := beq_bv_lit a 172 (by decide)
theorem bne_bv8_172 (a : BitVec 8) : (bv a != (172 : Int)) = (a != 172#8) := bne_bv_lit a 172 (by decide)
theorem beq_bv8_255 (a : BitVec 8) : (bv a == (255 : Int)) = (a == 255#8) := beq_bv_lit a 255 (by decide)
theorem bne_bv8_255 (a : BitVec 8) : (bv a != (255 : Int)) = (a != 255#8) := bne_bv_lit a 255 (by decide)
theorem beq_bv32_0 (a : BitVec 32) : (bv a == (0 : Int)) = (a == 0#32) := beq_bv_lit a 0 (by decide)
theorem bne_bv32_0 (a : BitVec 32) : (bv a != (0 : Int)) = (a != 0#32) := bne_bv_lit a 0 (by decide)
theorem beq_bv32_1 (a : BitVec 32) : (bv a == (1 : Int)) = (a == 1#32) := beq_bv_lit a 1 (by decide)
theorem bne_bv32_1 (a : BitVec 32) : (bv a != (1 : Int)) = (a != 1#32) := bne_bv_lit a 1 (by decide)
theorem beq_bv32_2 (a : BitVec 32) : (bv a == (2 : Int)) = (a == 2#32) := beq_bv_lit a 2 (by decide)
theorem bne_bv32_2 (a : BitVec 32) : (bv a != (2 : Int)) = (a != 2#32) := bne_bv_lit a 2 (by decide)
theorem beq_bv32_128 (a : BitVec 32) : (bv a == (128 : Int)) = (a == 128#32) := beq_bv_lit a 128 (by decide)
theorem bne_bv32_128 (a : BitVec 32) : (bv a != (128 : Int)) = (a != 128#32) := bne_bv_lit a 128 (by decide)
theorem beq_bv32_171 (a : BitVec 32) : (bv a == (171 : Int)) = (a == 171#32) := beq_bv_lit a 171 (by decide)
theorem bne_bv32_171 (a : BitVec 32) : (bv a != (171 : Int)) = (a != 171#32) := bne_bv_lit a 171 (by decide)
theorem beq_bv32_172 (a : BitVec 32) : (bv a == (172 : Int)) = (a == 172#32) := beq_bv_lit a 172 (by decide)
theorem bne_bv32_172 (a : BitVec 32) : (bv a != (172 : Int)) = (a != 172#32) := bne_bv_lit a 172 (by decide)
theorem beq_bv32_255 (a : BitVec 32) : (bv a == (255 : Int)) = (a == 255#32) := beq_bv_lit a 255 (by decide)
theorem bne_bv32_255 (a : BitVec 32) : (bv a != (255 : Int)) = (a != 255#32) := bne_bv_lit a 255 (by decide)
theorem beq_bv64_0 (a : BitVec 64) : (bv a == (0 : Int)) = (a == 0#64) := beq_bv_lit a 0 (by decide)
theorem bne_bv64_0 (a : BitVec 64) : (bv a != (0 : Int)) = (a != 0#64) := bne_bv_lit a 0 (by decide)
theorem beq_bv64_1 (a : BitVec 64) : (bv a == (1 : Int)) = (a == 1#64) := beq_bv_lit a 1 (by decide)
theorem bne_bv64_1 (a : BitVec 64) : (bv a != (1 : Int)) = (a != 1#64) := bne_bv_lit a 1 (by decide)
theorem beq_bv64_2 (a : BitVec 64) : (bv a == (2 : Int)) = (a == 2#64) := beq_bv_lit a 2 (by decide)
theorem bne_bv64_2 (a : BitVec 64) : (bv a != (2 : Int)) = (a != 2#64) := bne_bv_lit a 2 (by decide)
theorem beq_bv64_128 (a : BitVec 64) : (bv a == (128 : Int)) = (a == 128#64) := beq_bv_lit a 128 (by decide)
theorem bne_bv64_128 (a : BitVec 64) : (bv a != (128 : Int)) = (a != 128#64) := bne_bv_lit a 128 (by decide)
theorem beq_bv64_171 (a : BitVec 64) : (bv a == (171 : Int)) = (a == 171#64) := beq_bv_lit a 171 (by decide)
theorem bne_bv64_171 (a : BitVec 64) : (bv a != (171 : Int)) = (a != 171#64) := bne_bv_lit a 171 (by decide)
theorem beq_bv64_172 (a : BitVec 64) : (bv a == (172 : Int)) = (a == 172#64) := beq_bv_lit a 172 (by decide)
theorem bne_bv64_172 (a : BitVec 64) : (bv a != (172 : Int)) = (a != 172#64) := bne_bv_lit a 172 (by decide)
theorem beq_bv64_255 (a : BitVec 64) : (bv a == (255 : Int)) = (a == 255#64) := beq_bv_lit a 255 (by decide)
theorem bne_bv64_255 (a : BitVec 64) : (bv a != (255 : Int)) = (a != 255#64) := bne_bv_lit a 255 (by decide)

attribute [go_sem] bv_tdiv_2 bv_tdiv_128 bv_tdiv_256 bv_mod_2 bv_tmod_2 bv_mod_2' bv_tmod_2' bv_mod_128 bv_tmod_128 bv_mod_256 bv_tmod_256
  bits_xor_u32 bits_and_u32 bits_or_u32 bits_xor_u8 bits_and_u8 bits_or_u8 bits_xor_u64 bits_and_u64 bits_or_u64
  
  beq_bv bne_bv bv_div_2 bv_div_128 bv_div_256 bv_div_p27 wrap_u8_bv wrap_u32_bv wrap_u64_bv bv_toNat bv_nonneg' bv_not_neg bv8_lt
  bits_xor_u32_2197175160 bits_xor_u32_4294967295 bits_and_u32_1 bits_and_u8_127 bits_or_u8_128 bits_xor_u8_85 bits_and_u64_1 beq_bv8_0 bne_bv8_0 beq_bv8_1 bne_bv8_1 beq_bv8_2 bne_bv8_2 beq_bv8_128 bne_bv8_128 beq_bv8_171 bne_bv8_171 beq_bv8_172 bne_bv8_172 beq_bv8_255 bne_bv8_255 beq_bv32_0 bne_bv32_0 beq_bv32_1 bne_bv32_1 beq_bv32_2 bne_bv32_2 beq_bv32_128 bne_bv32_128 beq_bv32_171 bne_bv32_171 beq_bv32_172 bne_bv32_172 beq_bv32_255 bne_bv32_255 beq_bv64_0 bne_bv64_0 beq_bv64_1 bne_bv64_1 beq_bv64_2 bne_bv64_2 beq_bv64_128 bne_bv64_128 beq_bv64_171 bne_bv64_171 beq_bv64_172 bne_bv64_172 beq_bv64_255 bne_bv64_255

end Go.Proofs.Ytmkljmljbbijeaa

/-! Memory in plain words: slices of bytes, rows of registers; what is kept when only new blocks are made and written. -/
namespace Go.Proofs.Ytmkljmljbbijeaa
open Go.RowKit

/-- Byte i of a list (0 behind its end). -/
def at8 (bs : List (BitVec 8)) (i : Nat) : BitVec 8 := bs.getD i 0#8
theorem at8_get {bs : List (BitVec 8)} {i : Nat} (h : i < bs.length) : at8 bs i = bs[i] := by simp [at8, h]

/-- The bytes that stand at an address (none: no bytes are asked of it). -/
def BytesAt (w : World) (ao : Option Addr) (bs : List (BitVec 8)) : Prop :=
  ∀ i, i < bs.length → ∃ b off, ao = some ⟨b, off, none⟩ ∧ w.cell? ⟨b, off + i, none⟩ = some (.int .u8 (bv (at8 bs i)))

theorem BytesAt.below {w w' : World} {ao : Option Addr} {bs : List (BitVec 8)} (h : BytesAt w ao bs) (hb : Below w.heap.size w w') : BytesAt w' ao bs := fun i hi => by
  obtain ⟨b, off, e, hc⟩ := h i hi
  exact ⟨b, off, e, (hb.cell (block_lt_of_cell hc)).trans hc⟩
theorem BytesAt.below' {B : Nat} {w w' : World} {ao : Option Addr} {bs : List (BitVec 8)} (h : BytesAt w ao bs) (hB : w.heap.size ≤ B) (hb : Below B w w') : BytesAt w' ao bs := h.below (hb.mono hB)

theorem BytesAt.drew {w : World} {ao : Option Addr} {bs : List (BitVec 8)} (h : BytesAt w ao bs) : BytesAt w.drew ao bs := h
theorem BytesAt.drewN {w : World} {ao : Option Addr} {bs : List (BitVec 8)} (h : BytesAt w ao bs) (n : Nat) : BytesAt (w.drewN n) ao bs := h
theorem below_drew (w : World) : Below w.heap.size w w.drew := ⟨rfl, rfl, rfl, Nat.le_refl _, fun _ _ => rfl⟩
/-- What holds below the size at the start holds on, over a later start. -/
theorem below_trans {w w1 w2 : World} (h : Below w.heap.size w w1) (k : Below w1.heap.size w1 w2) : Below w.heap.size w w2 := h.trans (k.mono h.size)
theorem below_alloc (w : World) (o : Obj) : Below w.heap.size w (w.alloc o) := (Below.refl _ _).alloc (Nat.le_refl _) _
theorem cell_keep {w w' : World} (hb : Below w.heap.size w w') {a : Addr} {v : Value} (h : w.cell? a = some v) : w'.cell? a = some v := (hb.cell (block_lt_of_cell h)).trans h
theorem below_drewN (w : World) (n : Nat) : Below w.heap.size w (w.drewN n) := ⟨rfl, rfl, rfl, Nat.le_refl _, fun _ _ => rfl⟩

theorem there_keep {w w' : World} (hb : Below w.heap.size w w') {b o n : Nat} (h : w.there b o n) : w'.there b o n := fun j hj => by
  obtain ⟨h1, h2⟩ := h j hj
  obtain ⟨u, hu⟩ := Option.isSome_iff_exists.1 h1
  have := block_lt_of_cell hu
  exact ⟨by rw [hb.cell (p := ⟨b, o + j, none⟩) this]; exact h1, by rw [hb.frozen (p := ⟨b, o + j, none⟩) this]; exact h2⟩
theorem there_setCell {w : World} {b o n : Nat} (h : w.there b o n) (a : Addr) (v : Value) : (w.setCell a v).there b o n := fun j hj => by
  obtain ⟨h1, h2⟩ := h j hj
  obtain ⟨u, hu⟩ := Option.isSome_iff_exists.1 h1
  refine ⟨?_, by rw [World.frozen?_setCell]; exact h2⟩
  by_cases e : a = ⟨b, o + j, none⟩
  · subst e; rw [World.cell?_setCell_same _ _ _ hu]; rfl
  · rw [World.cell?_setCell_other _ _ _ _ e, hu]; rfl
theorem there_new (w : World) (cs : Array Value) (t : TypeId) : (w.alloc (.cells cs t)).there w.heap.size 0 cs.size := fun j hj => by
  have hb := heap_alloc_new w (.cells cs t)
  constructor
  · rw [cell_of_row _ _ _ _ _ _ hb]; simp [hj]
  · exact frozen_of_row _ _ _ _ _ hb

/-- A result that lies in memory, as a whole row. -/
theorem results_cell_mid {P : Program} {fn : Func} {p : Tmp} {ty : TypeId} (h : fn.results = #[.cell p ty]) (tmps : Array Value) (w : World) (b o : Nat) (cs : List Value) (d : TypeDesc)
    (hp : tmps.getD p undef = .pointer (some ⟨b, o, none⟩)) (hc : w.rangeAt b o cs)
    (hu : P.underlying ty = some d) (hd : d.isRow = true) (hi : (P.info? ty).map (·.size) = some cs.length) :
    (results fn tmps).run P w = .ok (.agg cs.toArray) w := by
  have hp' : tmps[p]?.getD undef = .pointer (some ⟨b, o, none⟩) := by simpa using hp
  simp [results, h, hp', asAddr, run_loadVar_mid w b o ty cs d hc hu hd hi]
theorem below_setCells {B : Nat} {w : World} (b : Nat) : ∀ (cs : List Value) (o : Nat) (w1 : World), B ≤ b → Below B w w1 → Below B w (w1.setCells b o cs)
  | [], _, _, _, h => h
  | v :: r, o, _, hB, h => by rw [World.setCells]; exact below_setCells b r (o + 1) _ hB (h.setCell hB v)

/-- A row of n cells of the call's own (block b), of which the first k are filled: cell i with 'val i'. -/
structure Fill (w wr : World) (b n : Nat) (val : Nat → Value) (k : Nat) : Prop where
  below : Below w.heap.size w wr
  own : w.heap.size ≤ b
  there : wr.there b 0 n
  cells : ∀ i, i < k → wr.cell? ⟨b, i, none⟩ = some (val i)
theorem Fill.start {w : World} (cs : Array Value) (t : TypeId) (n : Nat) (hn : cs.size = n) (val : Nat → Value) : Fill w (w.alloc (.cells cs t)) w.heap.size n val 0 :=
  ⟨(Below.refl _ _).alloc (Nat.le_refl _) _, Nat.le_refl _, hn ▸ there_new w cs t, fun i hi => by omega⟩
theorem Fill.next {w wr : World} {b n : Nat} {val : Nat → Value} {k : Nat} (h : Fill w wr b n val k) (hk : k < n) : Fill w (wr.setCell ⟨b, k, none⟩ (val k)) b n val (k + 1) := by
  refine ⟨h.below.setCell h.own _, h.own, there_setCell h.there _ _, fun i hi => ?_⟩
  by_cases e : i = k
  · subst e
    obtain ⟨u, hu⟩ := Option.isSome_iff_exists.1 (h.there i hk).1
    rw [Nat.zero_add] at hu
    exact World.cell?_setCell_same _ _ _ hu
  · rw [World.cell?_setCell_other _ _ _ _ (by intro h; injection h; omega)]
    exact h.cells i (by omega)
theorem Fill.on {w wr w' : World} {b n : Nat} {val : Nat → Value} {k : Nat} (h : Fill w wr b n val k) (hb : Below wr.heap.size wr w') : Fill w w' b n val k :=
  ⟨below_trans h.below hb, h.own, there_keep hb h.there, fun i hi => cell_keep hb (h.cells i hi)⟩
theorem Fill.at {w wr : World} {b n : Nat} {val : Nat → Value} {k i : Nat} (h : Fill w wr b n val k) (hi : i < n) : ∃ u, wr.cell? ⟨b, i, none⟩ = some u ∧ wr.frozen? ⟨b, i, none⟩ = false := by
  obtain ⟨h1, h2⟩ := h.there i hi
  rw [Nat.zero_add] at h1 h2
  obtain ⟨u, hu⟩ := Option.isSome_iff_exists.1 h1
  exact ⟨u, hu, h2⟩

end Go.Proofs.Ytmkljmljbbijeaa

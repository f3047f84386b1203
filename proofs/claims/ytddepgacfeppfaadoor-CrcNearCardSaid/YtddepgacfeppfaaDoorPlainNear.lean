/- Strings that are unlike in at most 32 neighbouring bits have unlike sums: in plain words. -/
import Derived.Test.YtddepgacfeppfaaDoorPlainSquare
import Derived.Test.YtddepgacfeppfaaDoorMem
namespace Go.Proofs.YtddepgacfeppfaaDoor
namespace Crc

/-- Byte j turned by x. -/
def turnAt (bs : List (BitVec 8)) (j : Nat) (x : BitVec 8) : List (BitVec 8) := bs.set j (at8 bs j ^^^ x)
theorem turnAt_length (bs : List (BitVec 8)) (j : Nat) (x : BitVec 8) : (turnAt bs j x).length = bs.length := by simp [turnAt]
theorem turnAt_at (bs : List (BitVec 8)) (j i : Nat) (x : BitVec 8) (hj : j < bs.length) : at8 (turnAt bs j x) i = if i = j then at8 bs j ^^^ x else at8 bs i := by
  unfold at8 turnAt
  by_cases h : i = j
  · subst h; simp [hj, at8]
  · simp [h, List.getElem?_set_ne (Ne.symm h)]

theorem reg_turnAt (c : R) (bs : List (BitVec 8)) (j : Nat) (x : BitVec 8) (hj : j < bs.length) : reg c (turnAt bs j x) = reg c bs ^^^ bitsN (8 * (bs.length - j)) (x.setWidth 32) := by
  have e1 : bs = bs.take j ++ (at8 bs j :: bs.drop (j + 1)) := by
    rw [at8_get hj, List.getElem_cons_drop, List.take_append_drop]
  have e2 : turnAt bs j x = bs.take j ++ ((at8 bs j ^^^ x) :: bs.drop (j + 1)) := by
    unfold turnAt
    rw [List.set_eq_take_append_cons_drop, if_pos hj]
  rw [e2, reg_append, reg_cons]
  conv => rhs; lhs; rw [e1, reg_append, reg_cons]
  generalize reg c (bs.take j) = d
  have hw : (at8 bs j ^^^ x).setWidth 32 = (at8 bs j).setWidth 32 ^^^ x.setWidth 32 := by
    apply BitVec.eq_of_getLsbD_eq
    intro i hi
    simp only [BitVec.getLsbD_setWidth, BitVec.getLsbD_xor, hi, decide_true, Bool.true_and]
  rw [hw, ← BitVec.xor_assoc, step_xor, BitVec.xor_comm, reg_split, BitVec.xor_comm]
  congr 1
  rw [moved_bits]
  unfold step
  rw [← bitsN_add]
  congr 1
  simp; omega

theorem bits_one (k : Nat) (hk : k < 32) : bitsN k (1#32 <<< k) = 1#32 := by
  rw [bitsN_shift]
  · apply BitVec.eq_of_getLsbD_eq
    intro i hi
    rw [BitVec.getLsbD_ushiftRight]
    by_cases h : k + i < 32
    · rw [one_bit k (k + i) hk, BitVec.getLsbD_one]
      by_cases h0 : i = 0
      · subst h0; simp
      · simp [h0]
    · rw [BitVec.getLsbD_of_ge _ _ (by omega), BitVec.getLsbD_one]
      simp; omega
  · intro i hi
    rw [one_bit k i hk]; simp; omega
theorem bits_pos (N k : Nat) (hk : k < 32) (hN : k ≤ N) : bitsN N (1#32 <<< k) = bitsN (N - k) 1#32 := by
  have e : N = k + (N - k) := by omega
  rw [e, bitsN_add, bits_one k hk, show k + (N - k) - k = N - k from by omega]
theorem width_one (k : Nat) (hk : k < 8) : (1#8 <<< k).setWidth 32 = 1#32 <<< k := by
  apply BitVec.eq_of_getLsbD_eq
  intro i hi
  rw [BitVec.getLsbD_setWidth, one_bit k i (by omega), BitVec.getLsbD_shiftLeft, BitVec.getLsbD_one]
  by_cases h : i = k
  · subst h; simp [hk, hi]
  · simp [h]; intros; omega

/-- The first k bits of t, laid over the string from bit 'f' on. -/
def flip (bs : List (BitVec 8)) (t : R) (f : Nat) : Nat → List (BitVec 8)
  | 0 => bs
  | k + 1 => if t.getLsbD k then turnAt (flip bs t f k) ((f + k) / 8) (1#8 <<< ((f + k) % 8)) else flip bs t f k
theorem flip_length (bs : List (BitVec 8)) (t : R) (f k : Nat) : (flip bs t f k).length = bs.length := by
  induction k with
  | zero => rfl
  | succ k ih =>
    rw [flip]; split
    · rw [turnAt_length, ih]
    · exact ih
theorem reg_flip (c : R) (bs : List (BitVec 8)) (t : R) (f : Nat) (hf : f + 32 ≤ 8 * bs.length) : ∀ k, k ≤ 32 → reg c (flip bs t f k) = reg c bs ^^^ bitsN (8 * bs.length - f) (part (fun i => 1#32 <<< i) t k) := by
  intro k
  induction k with
  | zero => intro _; simp only [flip, part]; rw [bitsN_zero, BitVec.xor_zero]
  | succ k ih =>
    intro hk
    have ih := ih (by omega)
    rw [flip, part]
    by_cases h : t.getLsbD k
    · rw [if_pos h, if_pos h, reg_turnAt _ _ _ _ (by rw [flip_length]; omega), ih, bitsN_xor, BitVec.xor_assoc, flip_length]
      congr 2
      rw [width_one _ (by omega), bits_pos _ _ (by omega) (by omega), bits_pos _ k (by omega) (by omega)]
      congr 1
      omega
    · rw [if_neg h, if_neg h, BitVec.xor_zero]; exact ih
theorem near (bs : List (BitVec 8)) (t : R) (f : Nat) (hf : f + 32 ≤ 8 * bs.length) (ht : t ≠ 0#32) : sum bs ≠ sum (flip bs t f 32) := by
  unfold sum more
  intro h
  rw [reg_flip _ _ _ _ hf 32 (Nat.le_refl _), part_self, BitVec.xor_assoc (reg _ bs), BitVec.xor_comm (bitsN _ t), ← BitVec.xor_assoc] at h
  have hn := bitsN_ne (8 * bs.length - f) t ht
  generalize reg (0#32 ^^^ ones) bs ^^^ ones = y at h
  apply hn
  have : y ^^^ y = y ^^^ (y ^^^ bitsN (8 * bs.length - f) t) := by rw [← h]
  rw [BitVec.xor_self, ← BitVec.xor_assoc, BitVec.xor_self, BitVec.zero_xor] at this
  exact this.symm
end Crc
end Go.Proofs.YtddepgacfeppfaaDoor

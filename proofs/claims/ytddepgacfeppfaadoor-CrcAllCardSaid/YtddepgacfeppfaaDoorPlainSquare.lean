/- Maps of registers by what each bit becomes: in plain words. -/
import Derived.Test.YtddepgacfeppfaaDoorPlainCrc
import Derived.Lib.TrailingZeros
namespace Go.Proofs.YtddepgacfeppfaaDoor
namespace Crc

/-- The first n bits of c, each by what it becomes. -/
def part (f : Nat → R) (c : R) : Nat → R
  | 0 => 0#32
  | n + 1 => part f c n ^^^ (if c.getLsbD n then f n else 0#32)
def ap (f : Nat → R) (c : R) : R := part f c 32

theorem part_xor (f : Nat → R) (a b : R) (n : Nat) : part f (a ^^^ b) n = part f a n ^^^ part f b n := by
  induction n with
  | zero => simp [part]
  | succ n ih =>
    simp only [part, ih, BitVec.getLsbD_xor]
    generalize part f a n = x
    generalize part f b n = y
    generalize f n = z
    cases a.getLsbD n <;> cases b.getLsbD n <;> (apply BitVec.eq_of_getLsbD_eq; intro i _; simp) <;> cases x.getLsbD i <;> cases y.getLsbD i <;> cases z.getLsbD i <;> rfl
theorem ap_xor (f : Nat → R) (a b : R) : ap f (a ^^^ b) = ap f a ^^^ ap f b := part_xor f a b 32
theorem part_zero (f : Nat → R) (n : Nat) : part f 0#32 n = 0#32 := by
  induction n with
  | zero => rfl
  | succ n ih => simp [part, ih]
theorem ap_zero (f : Nat → R) : ap f 0#32 = 0#32 := part_zero f 32
theorem one_bit (k i : Nat) (hk : k < 32) : (1#32 <<< k).getLsbD i = decide (i = k) := by
  rw [BitVec.getLsbD_shiftLeft, BitVec.getLsbD_one]
  by_cases h : i = k
  · subst h; simp [hk]
  · simp [h]; omega
theorem part_one (f : Nat → R) (k : Nat) (hk : k < 32) (n : Nat) : part f (1#32 <<< k) n = if k < n then f k else 0#32 := by
  induction n with
  | zero => simp [part]
  | succ n ih =>
    rw [part, ih, one_bit k n hk]
    by_cases h1 : k < n
    · have h2 : ¬ decide (n = k) = true := by simp; omega
      simp only [if_pos h1, if_neg h2, if_pos (show k < n + 1 from by omega), BitVec.xor_zero]
    · by_cases h2 : n = k
      · subst h2; simp
      · have h3 : ¬ decide (n = k) = true := by simpa using h2
        simp only [if_neg h1, if_neg h3, if_neg (show ¬ k < n + 1 from by omega), BitVec.xor_zero]
theorem ap_one (f : Nat → R) (k : Nat) (hk : k < 32) : ap f (1#32 <<< k) = f k := by unfold ap; rw [part_one f k hk, if_pos hk]

theorem part_bits (c : R) (n : Nat) (hn : n ≤ 32) (j : Nat) : (part (fun i => 1#32 <<< i) c n).getLsbD j = (decide (j < n) && c.getLsbD j) := by
  induction n with
  | zero => simp [part]
  | succ n ih =>
    rw [part, BitVec.getLsbD_xor, ih (by omega)]
    by_cases h : c.getLsbD n
    · rw [if_pos h, one_bit n j (by omega)]
      by_cases e : j = n
      · subst e; simp [h]
      · by_cases e2 : j < n
        · simp [e, e2, show j < n + 1 from by omega]
        · simp [e, e2, show ¬ j < n + 1 from by omega]
    · rw [if_neg h]
      by_cases e : j = n
      · subst e; simp [h]
      · by_cases e2 : j < n
        · simp [e2, show j < n + 1 from by omega]
        · simp [e2, show ¬ j < n + 1 from by omega]
theorem part_self (c : R) : part (fun i => 1#32 <<< i) c 32 = c := by
  apply BitVec.eq_of_getLsbD_eq
  intro i hi
  rw [part_bits c 32 (Nat.le_refl _)]; simp [hi]
theorem part_lin (L : R → R) (h0 : L 0#32 = 0#32) (h : ∀ a b, L (a ^^^ b) = L a ^^^ L b) (c : R) (n : Nat) : part (fun i => L (1#32 <<< i)) c n = L (part (fun i => 1#32 <<< i) c n) := by
  induction n with
  | zero => simp [part, h0]
  | succ n ih =>
    simp only [part, ih, h]
    congr 1
    split
    · rfl
    · exact h0.symm
/-- A map that takes sums to sums is what it makes of each bit. -/
theorem ap_lin (L : R → R) (h0 : L 0#32 = 0#32) (h : ∀ a b, L (a ^^^ b) = L a ^^^ L b) (c : R) : ap (fun i => L (1#32 <<< i)) c = L c := by
  unfold ap; rw [part_lin L h0 h, part_self]

theorem ap_ext {f g : Nat → R} (h : ∀ i, i < 32 → f i = g i) (c : R) : ap f c = ap g c := by
  have : ∀ n, n ≤ 32 → part f c n = part g c n := by
    intro n hn
    induction n with
    | zero => rfl
    | succ n ih => rw [part, part, ih (by omega), h n (by omega)]
  exact this 32 (Nat.le_refl _)
/-- The register moved on by so many bytes 0, bit by bit. -/
theorem ap_moved (n : Nat) (c : R) : ap (fun i => moved n (1#32 <<< i)) c = moved n c := ap_lin (moved n) (moved_zero n) (moved_xor n) c

/-! ### the lowest bit -/
def ctz (c : R) : Nat := Lib.ctz 32 c.toNat
theorem odd_part (c : R) (h : c ≠ 0#32) : ∃ m, c.toNat = 2 ^ ctz c * (2 * m + 1) ∧ ctz c < 32 := by
  have hn : c.toNat ≠ 0 := fun e => h (BitVec.eq_of_toNat_eq (by simpa using e))
  obtain ⟨m, hm, hk⟩ := Lib.ctzFrom_spec 32 c.toNat (by omega) c.isLt
  have e : ctz c = Lib.ctzFrom 32 c.toNat := by simp [ctz, Lib.ctz, hn]
  rw [e]; exact ⟨m, hm, hk⟩
theorem ctz_lt (c : R) (h : c ≠ 0#32) : ctz c < 32 := let ⟨_, _, hk⟩ := odd_part c h; hk

theorem clear_nat (k m : Nat) : (2 ^ k * (2 * m + 1)) &&& (2 ^ k * (2 * m + 1) - 1) = 2 ^ k * (2 * m) := by
  have hp : 0 < 2 ^ k := Nat.two_pow_pos k
  have e : 2 ^ k * (2 * m + 1) - 1 = 2 ^ k * (2 * m) + (2 ^ k - 1) := by rw [Nat.mul_add, Nat.mul_one]; omega
  have e1 : 2 ^ k * (2 * m + 1) = 2 ^ k * (2 * m + 1) + 0 := rfl
  have e2 : 2 ^ k * (2 * m) = 2 ^ k * (2 * m) + 0 := rfl
  rw [e]
  apply Nat.eq_of_testBit_eq
  intro i
  rw [Nat.testBit_and, Nat.testBit_two_pow_mul_add _ (by omega)]
  rw [e1, Nat.testBit_two_pow_mul_add _ hp]
  conv => rhs; rw [e2, Nat.testBit_two_pow_mul_add _ hp]
  by_cases h : i < k
  · simp [h]
  · simp only [h, if_false]
    cases hi : i - k with
    | zero => simp [Nat.testBit_zero]
    | succ j =>
      rw [Nat.testBit_succ, Nat.testBit_succ, show (2 * m + 1) / 2 = m from by omega, show 2 * m / 2 = m from by omega, Bool.and_self]
theorem clear_lowest (c : R) (h : c ≠ 0#32) : (c &&& (c - 1#32)) ^^^ (1#32 <<< ctz c) = c ∧ (c &&& (c - 1#32)).toNat < c.toNat := by
  obtain ⟨m, hm, hk⟩ := odd_part c h
  generalize ctz c = k at hm hk
  have hp : 0 < 2 ^ k := Nat.two_pow_pos k
  have hc := c.isLt
  have h1 : 1 ≤ c.toNat := by rw [hm]; exact Nat.mul_pos hp (by omega)
  have es : (c - 1#32).toNat = c.toNat - 1 := by
    rw [BitVec.toNat_sub]; simp; omega
  have ea : (c &&& (c - 1#32)).toNat = 2 ^ k * (2 * m) := by rw [BitVec.toNat_and, es, hm, clear_nat]
  have e1 : (1#32 <<< k).toNat = 2 ^ k := by
    rw [BitVec.toNat_shiftLeft]; simp [Nat.shiftLeft_eq]
    exact Nat.pow_lt_pow_right (by decide) hk
  constructor
  · apply BitVec.eq_of_toNat_eq
    rw [BitVec.toNat_xor, ea, e1, hm]
    apply Nat.eq_of_testBit_eq
    intro i
    have f1 : 2 ^ k = 2 ^ k * 1 + 0 := by omega
    rw [Nat.testBit_xor]
    conv => lhs; lhs; rw [show 2 ^ k * (2 * m) = 2 ^ k * (2 * m) + 0 from rfl, Nat.testBit_two_pow_mul_add _ hp]
    conv => lhs; rhs; rw [f1, Nat.testBit_two_pow_mul_add _ hp]
    conv => rhs; rw [show 2 ^ k * (2 * m + 1) = 2 ^ k * (2 * m + 1) + 0 from rfl, Nat.testBit_two_pow_mul_add _ hp]
    by_cases h : i < k
    · simp [h]
    · simp only [h, if_false]
      cases hi : i - k with
      | zero => simp [Nat.testBit_zero]
      | succ j =>
        rw [Nat.testBit_succ, Nat.testBit_succ, Nat.testBit_succ, show (2 * m + 1) / 2 = m from by omega, show 2 * m / 2 = m from by omega]
        simp
  · rw [ea, hm]; exact Nat.mul_lt_mul_of_pos_left (by omega) hp
theorem ap_clear (f : Nat → R) (c : R) (h : c ≠ 0#32) : ap f c = ap f (c &&& (c - 1#32)) ^^^ f (ctz c) := by
  have e := (clear_lowest c h).1
  have hk := ctz_lt c h
  calc ap f c = ap f ((c &&& (c - 1#32)) ^^^ (1#32 <<< ctz c)) := by rw [e]
    _ = _ := by rw [ap_xor, ap_one f _ hk]

/-- The number of the lowest bit, by the table. -/
theorem lowest (c : R) (h : c ≠ 0#32) : (((c &&& -c) * 125613361#32) >>> 27).toNat < 32 ∧ Lib.deBruijn32tab.getD (((c &&& -c) * 125613361#32) >>> 27).toNat 0 = ctz c := by
  obtain ⟨m, hm, hk⟩ := odd_part c h
  have hn : c.toNat ≠ 0 := fun e => h (BitVec.eq_of_toNat_eq (by simpa using e))
  have hl := Lib.lowest_bit 32 c.toNat hn c.isLt
  have eneg : (-c).toNat = 2 ^ 32 - c.toNat := by
    rw [BitVec.toNat_neg]; have := c.isLt; omega
  have ea : (c &&& -c).toNat = 2 ^ ctz c := by rw [BitVec.toNat_and, eneg]; exact hl.1
  have e : (((c &&& -c) * 125613361#32) >>> 27).toNat = 2 ^ ctz c * 125613361 % 4294967296 / 134217728 := by
    rw [BitVec.toNat_ushiftRight, BitVec.toNat_mul, ea, Nat.shiftRight_eq_div_pow]; rfl
  rw [e]
  exact Lib.deBruijn32_at (ctz c) hk
end Crc
end Go.Proofs.YtddepgacfeppfaaDoor

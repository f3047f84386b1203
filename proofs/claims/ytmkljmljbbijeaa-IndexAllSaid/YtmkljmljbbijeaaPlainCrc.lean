/- CRC-32C in plain words: the register as a bit vector; all of its laws. -/
import Derived.Laws.Small
import Derived.Lib.TrailingZeros
namespace Go.Proofs.Ytmkljmljbbijeaa
namespace Crc

abbrev R := BitVec 32

/-- One step of the register. -/
def bit (c : R) : R := if c &&& 1#32 == 1#32 then (c >>> 1) ^^^ 2197175160#32 else c >>> 1
/-- n steps. -/
def bitsN : Nat → R → R
  | 0, c => c
  | n + 1, c => bitsN n (bit c)
/-- Eight steps. -/
def step (c : R) : R := bitsN 8 c
/-- The register moved on over bytes. -/
def reg (c : R) (b : List (BitVec 8)) : R := b.foldl (fun c x => step (c ^^^ x.setWidth 32)) c
/-- The register moved on by n bytes 0. -/
def moved : Nat → R → R
  | 0, c => c
  | n + 1, c => moved n (step c)

theorem bitsN_succ (n : Nat) : ∀ c, bitsN (n + 1) c = bit (bitsN n c) := by
  induction n with
  | zero => intro c; rfl
  | succ n ih => intro c; rw [bitsN, ih]; rfl
theorem bitsN_add (m n : Nat) : ∀ c, bitsN (m + n) c = bitsN n (bitsN m c) := by
  induction m with
  | zero => intro c; simp [bitsN]
  | succ m ih => intro c; rw [show m + 1 + n = (m + n) + 1 from by omega, bitsN, ih]; rfl

theorem bit_def (c : R) : bit c = (c >>> 1) ^^^ (if c.getLsbD 0 then 2197175160#32 else 0#32) := by
  unfold bit
  have h : (c &&& 1#32 == 1#32) = c.getLsbD 0 := by
    have e : c &&& 1#32 = if c.getLsbD 0 then 1#32 else 0#32 := by
      apply BitVec.eq_of_getLsbD_eq
      intro i hi
      by_cases h0 : i = 0
      · subst h0
        rw [BitVec.getLsbD_and]
        cases h : c.getLsbD 0 <;> rfl
      · have hf : (1#32).getLsbD i = false := by
          rw [BitVec.getLsbD_one]; simp [h0]
        rw [BitVec.getLsbD_and, hf]
        cases h : c.getLsbD 0 <;> simp [h0]
    rw [e]; cases c.getLsbD 0 <;> decide
  rw [h]; cases c.getLsbD 0 <;> simp

theorem bit_xor (a b : R) : bit (a ^^^ b) = bit a ^^^ bit b := by
  simp only [bit_def, BitVec.ushiftRight_xor_distrib, BitVec.getLsbD_xor]
  generalize a >>> 1 = x
  generalize b >>> 1 = y
  generalize (2197175160#32 : R) = p
  cases a.getLsbD 0 <;> cases b.getLsbD 0 <;> (apply BitVec.eq_of_getLsbD_eq; intro i _; simp) <;> cases x.getLsbD i <;> cases y.getLsbD i <;> cases p.getLsbD i <;> rfl
theorem bit_zero : bit 0#32 = 0#32 := by decide
theorem bitsN_xor (n : Nat) : ∀ a b, bitsN n (a ^^^ b) = bitsN n a ^^^ bitsN n b := by
  induction n with
  | zero => intro a b; rfl
  | succ n ih => intro a b; rw [bitsN, bit_xor, ih]; rfl
theorem bitsN_zero (n : Nat) : bitsN n 0#32 = 0#32 := by
  induction n with
  | zero => rfl
  | succ n ih => rw [bitsN, bit_zero, ih]
theorem step_xor (a b : R) : step (a ^^^ b) = step a ^^^ step b := bitsN_xor 8 a b
theorem step_zero : step 0#32 = 0#32 := bitsN_zero 8

theorem moved_xor (n : Nat) : ∀ a b, moved n (a ^^^ b) = moved n a ^^^ moved n b := by
  induction n with
  | zero => intro a b; rfl
  | succ n ih => intro a b; rw [moved, step_xor, ih]; rfl
theorem moved_zero (n : Nat) : moved n 0#32 = 0#32 := by
  induction n with
  | zero => rfl
  | succ n ih => rw [moved, step_zero, ih]
theorem moved_add (m n : Nat) : ∀ c, moved (m + n) c = moved n (moved m c) := by
  induction m with
  | zero => intro c; simp [moved]
  | succ m ih => intro c; rw [show m + 1 + n = (m + n) + 1 from by omega, moved, ih]; rfl
theorem moved_bits (n : Nat) : ∀ c, moved n c = bitsN (8 * n) c := by
  induction n with
  | zero => intro c; rfl
  | succ n ih => intro c; rw [moved, ih, show 8 * (n + 1) = 8 + 8 * n from by omega, bitsN_add]; rfl

theorem reg_nil (c : R) : reg c [] = c := rfl
theorem reg_cons (c : R) (x : BitVec 8) (b : List (BitVec 8)) : reg c (x :: b) = reg (step (c ^^^ x.setWidth 32)) b := rfl
theorem reg_append (c : R) (a b : List (BitVec 8)) : reg c (a ++ b) = reg (reg c a) b := by unfold reg; rw [List.foldl_append]
theorem reg_snoc (c : R) (a : List (BitVec 8)) (x : BitVec 8) : reg c (a ++ [x]) = step (reg c a ^^^ x.setWidth 32) := by rw [reg_append]; rfl
theorem reg_split (b : List (BitVec 8)) : ∀ c d, reg (c ^^^ d) b = moved b.length c ^^^ reg d b := by
  induction b with
  | nil => intro c d; rfl
  | cons x b ih =>
    intro c d
    rw [reg_cons, reg_cons, BitVec.xor_assoc, step_xor, ih]; rfl
theorem reg_zero (b : List (BitVec 8)) (c : R) : reg c b = moved b.length c ^^^ reg 0#32 b := by
  have := reg_split b c 0#32; rwa [BitVec.xor_zero] at this
theorem reg_zeros (n : Nat) : ∀ c, reg c (List.replicate n 0#8) = moved n c := by
  induction n with
  | zero => intro c; rfl
  | succ n ih => intro c; rw [List.replicate_succ, reg_cons, ih]; simp [moved]

/-! ### sums -/
def ones : R := 4294967295#32
def more (s : R) (b : List (BitVec 8)) : R := reg (s ^^^ ones) b ^^^ ones
def sum (b : List (BitVec 8)) : R := more 0#32 b
def join (a b : R) (n : Nat) : R := moved n a ^^^ b
def zeros (s : R) (n : Nat) : R := moved n (s ^^^ ones) ^^^ ones

theorem xor_cancel (a b : R) : (a ^^^ b) ^^^ b = a := by rw [BitVec.xor_assoc, BitVec.xor_self, BitVec.xor_zero]
theorem more_append (s : R) (a b : List (BitVec 8)) : more (more s a) b = more s (a ++ b) := by
  unfold more; rw [xor_cancel, reg_append]
theorem more_join (s : R) (b : List (BitVec 8)) : more s b = join s (sum b) b.length := by
  unfold join sum more
  rw [reg_split b s ones, BitVec.zero_xor, BitVec.xor_assoc]
theorem sum_append (a b : List (BitVec 8)) : sum (a ++ b) = join (sum a) (sum b) b.length := by
  rw [← more_join, sum, sum, more_append]
theorem more_sum (b : List (BitVec 8)) : more 0#32 b = sum b := rfl
theorem join_join (a b c : R) (m n : Nat) : join (join a b m) c n = join a (join b c n) (m + n) := by
  unfold join; rw [moved_xor, moved_add, BitVec.xor_assoc]
theorem zeros_zeros (s : R) (m n : Nat) : zeros (zeros s m) n = zeros s (m + n) := by
  unfold zeros; rw [xor_cancel, moved_add]
theorem zeros_more (s : R) (n : Nat) : zeros s n = more s (List.replicate n 0#8) := by
  unfold zeros more; rw [reg_zeros]

/-! ### by a table: the eight steps of the lowest byte, and the others moved down -/
theorem bit_even (c : R) (h : c.getLsbD 0 = false) : bit c = c >>> 1 := by rw [bit_def, h]; simp
theorem bitsN_shift (n : Nat) : ∀ c : R, (∀ i, i < n → c.getLsbD i = false) → bitsN n c = c >>> n := by
  induction n with
  | zero => intro c _; simp [bitsN]
  | succ n ih =>
    intro c h
    rw [bitsN, bit_even c (h 0 (by omega)), ih]
    · apply BitVec.eq_of_getLsbD_eq
      intro i _
      simp only [BitVec.getLsbD_ushiftRight]
      rw [show 1 + (n + i) = n + 1 + i from by omega]
    · intro i hi; rw [BitVec.getLsbD_ushiftRight]; exact h (1 + i) (by omega)
theorem low_high (c : R) : c = ((c.setWidth 8).setWidth 32) ^^^ ((c >>> 8) <<< 8) := by
  apply BitVec.eq_of_getLsbD_eq
  intro i hi
  simp only [BitVec.getLsbD_xor, BitVec.getLsbD_setWidth, BitVec.getLsbD_shiftLeft, BitVec.getLsbD_ushiftRight]
  by_cases h : i < 8
  · simp [h, hi]
  · have h8 : 8 + (i - 8) = i := by omega
    simp [h, hi, h8]
theorem step_table (c : R) : step c = step ((c.setWidth 8).setWidth 32) ^^^ c >>> 8 := by
  have e : step ((c >>> 8) <<< 8) = c >>> 8 := by
    unfold step
    rw [bitsN_shift]
    · apply BitVec.eq_of_getLsbD_eq
      intro i hi
      simp only [BitVec.getLsbD_shiftLeft, BitVec.getLsbD_ushiftRight]
      by_cases h : i + 8 < 32
      · have h1 : 8 + i - 8 = i := by omega
        simp [h1]; intro; omega
      · have : c.getLsbD (8 + i) = false := BitVec.getLsbD_of_ge _ _ (by omega)
        simp [this]
    · intro i hi
      simp [BitVec.getLsbD_shiftLeft, hi]
  have h := low_high c
  have h2 : step c = step (((c.setWidth 8).setWidth 32) ^^^ ((c >>> 8) <<< 8)) := by rw [← h]
  rw [h2, step_xor, e]
theorem step_byte (c : R) (x : BitVec 8) : step (c ^^^ x.setWidth 32) = step ((c.setWidth 8 ^^^ x).setWidth 32) ^^^ c >>> 8 := by
  rw [step_table]
  have e1 : (c ^^^ x.setWidth 32).setWidth 8 = c.setWidth 8 ^^^ x := by
    apply BitVec.eq_of_getLsbD_eq
    intro i hi
    simp [hi]
  have e2 : (c ^^^ x.setWidth 32) >>> 8 = c >>> 8 := by
    apply BitVec.eq_of_getLsbD_eq
    intro i hi
    simp [BitVec.getLsbD_ushiftRight]
  rw [e1, e2]

/-! ### a step loses nothing: strings that are unlike in few neighbouring bits -/
theorem bit_ne (c : R) (h : c ≠ 0#32) : bit c ≠ 0#32 := by
  intro e
  rw [bit_def] at e
  cases h0 : c.getLsbD 0
  · simp only [h0, Bool.false_eq_true, if_false, BitVec.xor_zero] at e
    apply h
    apply BitVec.eq_of_getLsbD_eq
    intro i hi
    have := congrArg (fun z : R => z.getLsbD (i - 1)) e
    simp only [BitVec.getLsbD_ushiftRight] at this
    by_cases hi0 : i = 0
    · subst hi0; simpa using h0
    · rw [show 1 + (i - 1) = i from by omega] at this; simpa using this
  · simp only [h0, if_true] at e
    have := congrArg (fun z : R => z.getLsbD 31) e
    simp only [BitVec.getLsbD_xor, BitVec.getLsbD_ushiftRight] at this
    rw [BitVec.getLsbD_of_ge c (1 + 31) (by omega)] at this
    revert this; decide
theorem bitsN_ne (n : Nat) : ∀ c : R, c ≠ 0#32 → bitsN n c ≠ 0#32 := by
  induction n with
  | zero => intro c h; exact h
  | succ n ih => intro c h; exact ih _ (bit_ne c h)

end Crc
end Go.Proofs.Ytmkljmljbbijeaa

/-! Maps of registers by what each bit becomes: in plain words. -/
namespace Go.Proofs.Ytmkljmljbbijeaa
namespace Crc

/-- The first n bits of c, each by what it becomes. -/
def part (f : Nat → R) (c : R) : Nat → R
  | 0 => 0#32
  | n + 1 => part f c n ^^^ (if c.getLsbD n then f n else 0#32)
def ap (f : Nat → R) (c : R) : R := part f c 32

theorem part_xor (f : Nat → R) (a b : R) (n : Nat) : part f (a ^^^ b) n = part f a n ^^^ part f b n := by
  induction n with
  | zero => simp [part]
  | succ n ih =>
    simp only [part, ih, BitVec.getLsbD_xor]
    generalize part f a n = x
    generalize part f b n = y
    generalize f n = z
    cases a.getLsbD n <;> cases b.getLsbD n <;> (apply BitVec.eq_of_getLsbD_eq; intro i _; simp) <;> cases x.getLsbD i <;> cases y.getLsbD i <;> cases z.getLsbD i <;> rfl
theorem ap_xor (f : Nat → R) (a b : R) : ap f (a ^^^ b) = ap f a ^^^ ap f b := part_xor f a b 32
theorem part_zero (f : Nat → R) (n : Nat) : part f 0#32 n = 0#32 := by
  induction n with
  | zero => rfl
  | succ n ih => simp [part, ih]
theorem ap_zero (f : Nat → R) : ap f 0#32 = 0#32 := part_zero f 32
theorem one_bit (k i : Nat) (hk : k < 32) : (1#32 <<< k).getLsbD i = decide (i = k) := by
  rw [BitVec.getLsbD_shiftLeft, BitVec.getLsbD_one]
  by_cases h : i = k
  · subst h; simp [hk]
  · simp [h]; omega
theorem part_one (f : Nat → R) (k : Nat) (hk : k < 32) (n : Nat) : part f (1#32 <<< k) n = if k < n then f k else 0#32 := by
  induction n with
  | zero => simp [part]
  | succ n ih =>
    rw [part, ih, one_bit k n hk]
    by_cases h1 : k < n
    · have h2 : ¬ decide (n = k) = true := by simp; omega
      simp only [if_pos h1, if_neg h2, if_pos (show k < n + 1 from by omega), BitVec.xor_zero]
    · by_cases h2 : n = k
      · subst h2; simp
      · have h3 : ¬ decide (n = k) = true := by simpa using h2
        simp only [if_neg h1, if_neg h3, if_neg (show ¬ k < n + 1 from by omega), BitVec.xor_zero]
theorem ap_one (f : Nat → R) (k : Nat) (hk : k < 32) : ap f (1#32 <<< k) = f k := by unfold ap; rw [part_one f k hk, if_pos hk]

theorem part_bits (c : R) (n : Nat) (hn : n ≤ 32) (j : Nat) : (part (fun i => 1#32 <<< i) c n).getLsbD j = (decide (j < n) && c.getLsbD j) := by
  induction n with
  | zero => simp [part]
  | succ n ih =>
    rw [part, BitVec.getLsbD_xor, ih (by omega)]
    by_cases h : c.getLsbD n
    · rw [if_pos h, one_bit n j (by omega)]
      by_cases e : j = n
      · subst e; simp [h]
      · by_cases e2 : j < n
        · simp [e, e2, show j < n + 1 from by omega]
        · simp [e, e2, show ¬ j < n + 1 from by omega]
    · rw [if_neg h]
      by_cases e : j = n
      · subst e; simp [h]
      · by_cases e2 : j < n
        · simp [e2, show j < n + 1 from by omega]
        · simp [e2, show ¬ j < n + 1 from by omega]
theorem part_self (c : R) : part (fun i => 1#32 <<< i) c 32 = c := by
  apply BitVec.eq_of_getLsbD_eq
  intro i hi
  rw [part_bits c 32 (Nat.le_refl _)]; simp [hi]
theorem part_lin (L : R → R) (h0 : L 0#32 = 0#32) (h : ∀ a b, L (a ^^^ b) = L a ^^^ L b) (c : R) (n : Nat) : part (fun i => L (1#32 <<< i)) c n = L (part (fun i => 1#32 <<< i) c n) := by
  induction n with
  | zero => simp [part, h0]
  | succ n ih =>
    simp only [part, ih, h]
    congr 1
    split
    · rfl
    · exact h0.symm
/-- A map that takes sums to sums is what it makes of each bit. -/
theorem ap_lin (L : R → R) (h0 : L 0#32 = 0#32) (h : ∀ a b, L (a ^^^ b) = L a ^^^ L b) (c : R) : ap (fun i => L (1#32 <<< i)) c = L c := by
  unfold ap; rw [part_lin L h0 h, part_self]

theorem ap_ext {f g : Nat → R} (h : ∀ i, i < 32 → f i = g i) (c : R) : ap f c = ap g c := by
  have : ∀ n, n ≤ 32 → part f c n = part g c n := by
    intro n hn
    induction n with
    | zero => rfl
    | succ n ih => rw [part, part, ih (by omega), h n (by omega)]
  exact this 32 (Nat.le_refl _)
/-- The register moved on by so many bytes 0, bit by bit. -/
theorem ap_moved (n : Nat) (c : R) : ap (fun i => moved n (1#32 <<< i)) c = moved n c := ap_lin (moved n) (moved_zero n) (moved_xor n) c

/-! ### the lowest bit -/
def ctz (c : R) : Nat := Lib.ctz 32 c.toNat
theorem odd_part (c : R) (h : c ≠ 0#32) : ∃ m, c.toNat = 2 ^ ctz c * (2 * m + 1) ∧ ctz c < 32 := by
  have hn : c.toNat ≠ 0 := fun e => h (BitVec.eq_of_toNat_eq (by simpa using e))
  obtain ⟨m, hm, hk⟩ := Lib.ctzFrom_spec 32 c.toNat (by omega) c.isLt
  have e : ctz c = Lib.ctzFrom 32 c.toNat := by simp [ctz, Lib.ctz, hn]
  rw [e]; exact ⟨m, hm, hk⟩
theorem ctz_lt (c : R) (h : c ≠ 0#32) : ctz c < 32 := let ⟨_, _, hk⟩ := odd_part c h; hk

theorem clear_nat (k m : Nat) : (2 ^ k * (2 * m + 1)) &&& (2 ^ k * (2 * m + 1) - 1) = 2 ^ k * (2 * m) := by
  have hp : 0 < 2 ^ k := Nat.two_pow_pos k
  have e : 2 ^ k * (2 * m + 1) - 1 = 2 ^ k * (2 * m) + (2 ^ k - 1) := by rw [Nat.mul_add, Nat.mul_one]; omega
  have e1 : 2 ^ k * (2 * m + 1) = 2 ^ k * (2 * m + 1) + 0 := rfl
  have e2 : 2 ^ k * (2 * m) = 2 ^ k * (2 * m) + 0 := rfl
  rw [e]
  apply Nat.eq_of_testBit_eq
  intro i
  rw [Nat.testBit_and, Nat.testBit_two_pow_mul_add _ (by omega)]
  rw [e1, Nat.testBit_two_pow_mul_add _ hp]
  conv => rhs; rw [e2, Nat.testBit_two_pow_mul_add _ hp]
  by_cases h : i < k
  · simp [h]
  · simp only [h, if_false]
    cases hi : i - k with
    | zero => simp [Nat.testBit_zero]
    | succ j =>
      rw [Nat.testBit_succ, Nat.testBit_succ, show (2 * m + 1) / 2 = m from by omega, show 2 * m / 2 = m from by omega, Bool.and_self]
theorem clear_lowest (c : R) (h : c ≠ 0#32) : (c &&& (c - 1#32)) ^^^ (1#32 <<< ctz c) = c ∧ (c &&& (c - 1#32)).toNat < c.toNat := by
  obtain ⟨m, hm, hk⟩ := odd_part c h
  generalize ctz c = k at hm hk
  have hp : 0 < 2 ^ k := Nat.two_pow_pos k
  have hc := c.isLt
  have h1 : 1 ≤ c.toNat := by rw [hm]; exact Nat.mul_pos hp (by omega)
  have es : (c - 1#32).toNat = c.toNat - 1 := by
    rw [BitVec.toNat_sub]; simp; omega
  have ea : (c &&& (c - 1#32)).toNat = 2 ^ k * (2 * m) := by rw [BitVec.toNat_and, es, hm, clear_nat]
  have e1 : (1#32 <<< k).toNat = 2 ^ k := by
    rw [BitVec.toNat_shiftLeft]; simp [Nat.shiftLeft_eq]
    exact Nat.pow_lt_pow_right (by decide) hk
  constructor
  · apply BitVec.eq_of_toNat_eq
    rw [BitVec.toNat_xor, ea, e1, hm]
    apply Nat.eq_of_testBit_eq
    intro i
    have f1 : 2 ^ k = 2 ^ k * 1 + 0 := by omega
    rw [Nat.testBit_xor]
    conv => lhs; lhs; rw [show 2 ^ k * (2 * m) = 2 ^ k * (2 * m) + 0 from rfl, Nat.testBit_two_pow_mul_add _ hp]
    conv => lhs; rhs; rw [f1, Nat.testBit_two_pow_mul_add _ hp]
    conv => rhs; rw [show 2 ^ k * (2 * m + 1) = 2 ^ k * (2 * m + 1) + 0 from rfl, Nat.testBit_two_pow_mul_add _ hp]
    by_cases h : i < k
    · simp [h]
    · simp only [h, if_false]
      cases hi : i - k with
      | zero => simp [Nat.testBit_zero]
      | succ j =>
        rw [Nat.testBit_succ, Nat.testBit_succ, Nat.testBit_succ, show (2 * m + 1) / 2 = m from by omega, show 2 * m / 2 = m from by omega]
        simp
  · rw [ea, hm]; exact Nat.mul_lt_mul_of_pos_left (by omega) hp
theorem ap_clear (f : Nat → R) (c : R) (h : c ≠ 0#32) : ap f c = ap f (c &&& (c - 1#32)) ^^^ f (ctz c) := by
  have e := (clear_lowest c h).1
  have hk := ctz_lt c h
  calc ap f c = ap f ((c &&& (c - 1#32)) ^^^ (1#32 <<< ctz c)) := by rw [e]
    _ = _ := by rw [ap_xor, ap_one f _ hk]

/-- The number of the lowest bit, by the table. -/
theorem lowest (c : R) (h : c ≠ 0#32) : (((c &&& -c) * 125613361#32) >>> 27).toNat < 32 ∧ Lib.deBruijn32tab.getD (((c &&& -c) * 125613361#32) >>> 27).toNat 0 = ctz c := by
  obtain ⟨m, hm, hk⟩ := odd_part c h
  have hn : c.toNat ≠ 0 := fun e => h (BitVec.eq_of_toNat_eq (by simpa using e))
  have hl := Lib.lowest_bit 32 c.toNat hn c.isLt
  have eneg : (-c).toNat = 2 ^ 32 - c.toNat := by
    rw [BitVec.toNat_neg]; have := c.isLt; omega
  have ea : (c &&& -c).toNat = 2 ^ ctz c := by rw [BitVec.toNat_and, eneg]; exact hl.1
  have e : (((c &&& -c) * 125613361#32) >>> 27).toNat = 2 ^ ctz c * 125613361 % 4294967296 / 134217728 := by
    rw [BitVec.toNat_ushiftRight, BitVec.toNat_mul, ea, Nat.shiftRight_eq_div_pow]; rfl
  rw [e]
  exact Lib.deBruijn32_at (ctz c) hk
end Crc
end Go.Proofs.Ytmkljmljbbijeaa

/- The plain law of varints: what is read, in groups of seven bits. -/
import Derived.Test.YtmkljmljbbijeaaBits
namespace Go.Proofs.Ytmkljmljbbijeaa

/-- What a varint's reading answers: the number, its length, the error (2: too short, 4: of no good form). -/
def rvGo : List (BitVec 8) → Nat → BitVec 64 → BitVec 64 × Nat × Nat
  | [], _, _ => (0#64, 0, 2)
  | c :: r, i, n =>
    if i = 9 ∧ 1 < bv c then (0#64, 0, 4)
    else if 128 ≤ bv c then rvGo r (i + 1) (n ||| (c.setWidth 64 &&& 127#64) <<< (7 * i))
    else if 0 < i ∧ c = 0#8 then (0#64, 0, 4)
    else (n ||| (c.setWidth 64 &&& 127#64) <<< (7 * i), i + 1, 0)
def rv (bs : List (BitVec 8)) : BitVec 64 × Nat × Nat := rvGo bs 0 0#64

theorem drop_cons (bs : List (BitVec 8)) (k : Nat) (h : k < bs.length) : bs.drop k = at8 bs k :: bs.drop (k + 1) := by
  rw [at8_get h, List.drop_eq_getElem_cons h]
/-- The state of a reading: at byte k, with n read. -/
def RvAt (bs : List (BitVec 8)) (k : Nat) (n : BitVec 64) : Prop := rvGo (bs.drop k) k n = rv bs ∧ n.toNat < 2 ^ (7 * k)
theorem RvAt.start (bs : List (BitVec 8)) : RvAt bs 0 0#64 := ⟨rfl, by simp⟩
theorem RvAt.short {bs : List (BitVec 8)} {n : BitVec 64} (h : RvAt bs bs.length n) : rv bs = (0#64, 0, 2) := by
  rw [← h.1]; simp [rvGo]
theorem RvAt.form {bs : List (BitVec 8)} {n : BitVec 64} (h : RvAt bs 9 n) (hk : 9 < bs.length) (hc : 1 < bv (at8 bs 9)) : rv bs = (0#64, 0, 4) := by
  rw [← h.1, drop_cons bs 9 hk]; simp [rvGo, hc]
theorem RvAt.zero {bs : List (BitVec 8)} {k : Nat} {n : BitVec 64} (h : RvAt bs k n) (hk : k < bs.length) (h0 : 0 < k) (hc : at8 bs k = 0#8) : rv bs = (0#64, 0, 4) := by
  rw [← h.1, drop_cons bs k hk, hc]; simp [rvGo, h0, bv]
theorem RvAt.done {bs : List (BitVec 8)} {k : Nat} {n : BitVec 64} (h : RvAt bs k n) (hk : k < bs.length) (h9 : ¬ (k = 9 ∧ 1 < bv (at8 bs k))) (hl : bv (at8 bs k) < 128) (hc : ¬ (0 < k ∧ at8 bs k = 0#8)) :
    rv bs = (n ||| ((at8 bs k).setWidth 64 &&& 127#64) <<< (7 * k), k + 1, 0) := by
  rw [← h.1, drop_cons bs k hk, rvGo, if_neg h9, if_neg (by omega), if_neg hc]
theorem low7 (c : BitVec 8) : (c.setWidth 64 &&& 127#64).toNat < 128 := by
  rw [BitVec.toNat_and]; exact Nat.lt_of_le_of_lt Nat.and_le_right (by decide)
theorem low1 (c : BitVec 8) (h : ¬ 1 < bv c) : (c.setWidth 64 &&& 127#64).toNat < 2 := by
  unfold bv at h
  rw [BitVec.toNat_and, BitVec.toNat_setWidth]; exact Nat.lt_of_le_of_lt Nat.and_le_left (by omega)
theorem RvAt.next {bs : List (BitVec 8)} {k : Nat} {n : BitVec 64} (h : RvAt bs k n) (hk : k < bs.length) (h9 : ¬ (k = 9 ∧ 1 < bv (at8 bs k))) (hk9 : k ≤ 9) (hl : 128 ≤ bv (at8 bs k)) :
    RvAt bs (k + 1) (n ||| ((at8 bs k).setWidth 64 &&& 127#64) <<< (7 * k)) ∧ k < 9 := by
  have h1 : k < 9 := by
    rcases Nat.lt_or_ge k 9 with h | h
    · exact h
    · exact absurd ⟨by omega, by omega⟩ h9
  refine ⟨⟨?_, ?_⟩, h1⟩
  · rw [← h.1, drop_cons bs k hk, rvGo, if_neg h9, if_pos hl]
  · rw [BitVec.toNat_or]
    refine Nat.or_lt_two_pow (Nat.lt_of_lt_of_le h.2 (Nat.pow_le_pow_right (by decide) (by omega))) ?_
    rw [BitVec.toNat_shiftLeft, Nat.shiftLeft_eq]
    have h7 := low7 (at8 bs k)
    refine Nat.lt_of_le_of_lt (Nat.mod_le _ _) ?_
    rw [show 7 * (k + 1) = 7 + 7 * k by omega, Nat.pow_add]
    exact Nat.mul_lt_mul_of_pos_right h7 (Nat.two_pow_pos _)

/-- The document's sum is the same: nothing is carried. -/
theorem or_add {n : BitVec 64} {c : BitVec 8} {k : Nat} (hn : n.toNat < 2 ^ (7 * k)) (hk : k ≤ 9) (h9 : ¬ (k = 9 ∧ 1 < bv c)) :
    n + (c.setWidth 64 &&& 127#64) * (1#64 <<< (7 * k)) = n ||| (c.setWidth 64 &&& 127#64) <<< (7 * k) := by
  have h7 := low7 c
  have hb : (c.setWidth 64 &&& 127#64).toNat * 2 ^ (7 * k) < 2 ^ 64 := by
    rcases Nat.lt_or_ge k 9 with h | h
    · have : (2 : Nat) ^ (7 * k) ≤ 2 ^ 56 := Nat.pow_le_pow_right (by decide) (by omega)
      have : (c.setWidth 64 &&& 127#64).toNat * 2 ^ (7 * k) ≤ 127 * 2 ^ 56 := Nat.mul_le_mul (by omega) this
      omega
    · have hk9 : k = 9 := by omega
      subst hk9
      have := low1 c (fun h => h9 ⟨rfl, h⟩)
      omega
  apply BitVec.eq_of_toNat_eq
  rw [BitVec.toNat_or, BitVec.toNat_add, BitVec.toNat_mul, BitVec.toNat_shiftLeft, BitVec.toNat_shiftLeft, Nat.shiftLeft_eq, Nat.shiftLeft_eq]
  have h1 : (1#64).toNat * 2 ^ (7 * k) % 2 ^ 64 = 2 ^ (7 * k) := by
    rw [show (1#64).toNat = 1 from rfl, Nat.one_mul]
    exact Nat.mod_eq_of_lt (Nat.pow_lt_pow_right (by decide) (by omega))
  rw [h1, Nat.mod_eq_of_lt hb]
  have h2 := Nat.two_pow_add_eq_or_of_lt hn (c.setWidth 64 &&& 127#64).toNat
  have h3 : n.toNat + (c.setWidth 64 &&& 127#64).toNat * 2 ^ (7 * k) < 2 ^ 64 := by
    rw [Nat.add_comm, Nat.mul_comm, h2]
    refine Nat.or_lt_two_pow (by rw [Nat.mul_comm]; exact hb) n.isLt
  rw [Nat.mod_eq_of_lt h3, Nat.add_comm, Nat.mul_comm, h2, Nat.or_comm]
theorem scale_next (k : Nat) : (1#64 <<< (7 * k)) * 128#64 = 1#64 <<< (7 * (k + 1)) := by
  rw [show 7 * (k + 1) = 7 * k + 7 by omega, BitVec.shiftLeft_add]
  apply BitVec.eq_of_toNat_eq
  rw [BitVec.toNat_mul, BitVec.toNat_shiftLeft (n := 7), Nat.shiftLeft_eq]
  rfl

/-- What a varint's reading answers, in bounds. -/
theorem rvGo_bounds : ∀ (bs : List (BitVec 8)) (i : Nat) (n : BitVec 64), (rvGo bs i n).2.1 ≤ bs.length + i ∧ ((rvGo bs i n).2.2 = 0 ∨ (rvGo bs i n).2.2 = 2 ∨ (rvGo bs i n).2.2 = 4) ∧ ((rvGo bs i n).2.2 ≠ 0 → (rvGo bs i n).1 = 0#64 ∧ (rvGo bs i n).2.1 = 0)
  | [], i, n => by simp [rvGo]
  | c :: r, i, n => by
    rw [rvGo]
    split
    · simp
    split
    · have h := rvGo_bounds r (i + 1) (n ||| (c.setWidth 64 &&& 127#64) <<< (7 * i))
      refine ⟨by have := h.1; simp only [List.length_cons]; omega, h.2⟩
    split
    · simp
    · simp; omega
theorem rv_le (bs : List (BitVec 8)) : (rv bs).2.1 ≤ bs.length := (rvGo_bounds bs 0 0#64).1
theorem rvGo_pos : ∀ (bs : List (BitVec 8)) (i : Nat) (n : BitVec 64), (rvGo bs i n).2.2 = 0 → 1 ≤ (rvGo bs i n).2.1
  | [], i, n => by simp [rvGo]
  | c :: r, i, n => by
    rw [rvGo]
    split
    · simp
    split
    · exact rvGo_pos r (i + 1) (n ||| (c.setWidth 64 &&& 127#64) <<< (7 * i))
    split
    · simp
    · simp
theorem rv_pos (bs : List (BitVec 8)) (h : (rv bs).2.2 = 0) : 1 ≤ (rv bs).2.1 := rvGo_pos bs 0 0#64 h
theorem BytesAt.sub {w : World} {b off : Nat} {bs : List (BitVec 8)} (h : BytesAt w (some ⟨b, off, none⟩) bs) (k m : Nat) : BytesAt w (some ⟨b, off + k, none⟩) ((bs.drop k).take m) := fun i hi => by
  have hi' : i < m ∧ i < bs.length - k := by simp at hi; omega
  obtain ⟨b', off', e, hc⟩ := h (k + i) (by omega)
  injection e with e; injection e with e1 e2; subst e1 e2
  refine ⟨b, off + k, rfl, ?_⟩
  rw [Nat.add_assoc, hc]
  congr 3
  unfold at8
  simp [List.getD_eq_getElem?_getD, hi'.1]
theorem shr_lt {m : BitVec 64} (h : 128 ≤ bv m) : (bv (m >>> 7)).toNat < (bv m).toNat := by
  unfold bv at *
  rw [BitVec.toNat_ushiftRight, Nat.shiftRight_eq_div_pow]
  omega

/-- A number's varint, with so many groups left behind this one. -/
def varintF : Nat → BitVec 64 → List (BitVec 8)
  | 0, n => [n.setWidth 8]
  | f + 1, n => if 128 ≤ bv n then (n.setWidth 8 ||| 128#8) :: varintF f (n >>> 7) else [n.setWidth 8]
def varint (n : BitVec 64) : List (BitVec 8) := varintF 9 n
theorem varintF_len : ∀ (f : Nat) (n : BitVec 64), 1 ≤ (varintF f n).length ∧ (varintF f n).length ≤ f + 1
  | 0, n => by simp [varintF]
  | f + 1, n => by
    rw [varintF]
    split
    · have h := varintF_len f (n >>> 7); simp only [List.length_cons]; omega
    · simp
theorem varint_len (n : BitVec 64) : 1 ≤ (varint n).length ∧ (varint n).length ≤ 10 := varintF_len 9 n
/-- The state of a writing: xs is written, m is left. -/
def WrAt (n : BitVec 64) (xs : List (BitVec 8)) (m : BitVec 64) : Prop := xs.length ≤ 9 ∧ xs ++ varintF (9 - xs.length) m = varint n ∧ m.toNat < 2 ^ (64 - 7 * xs.length)
theorem WrAt.start (n : BitVec 64) : WrAt n [] n := ⟨by simp, rfl, by simpa using n.isLt⟩
theorem WrAt.next {n m : BitVec 64} {xs : List (BitVec 8)} (h : WrAt n xs m) (h1 : 128 ≤ bv m) : WrAt n (xs ++ [m.setWidth 8 ||| 128#8]) (m >>> 7) := by
  obtain ⟨hl, he, hm⟩ := h
  have h9 : xs.length ≤ 8 := by
    rcases Nat.lt_or_ge xs.length 9 with h | h
    · omega
    · have : xs.length = 9 := by omega
      rw [this] at hm
      unfold bv at h1
      omega
  refine ⟨by simp; omega, ?_, ?_⟩
  · rw [← he, List.append_assoc, List.length_append]
    congr 1
    rw [show 9 - xs.length = (9 - (xs.length + 1)) + 1 by omega, varintF, if_pos h1]; rfl
  · rw [BitVec.toNat_ushiftRight, Nat.shiftRight_eq_div_pow, List.length_append]
    rw [Nat.div_lt_iff_lt_mul (by decide), ← Nat.pow_add]
    refine Nat.lt_of_lt_of_le hm (Nat.pow_le_pow_right (by decide) (by simp; omega))
theorem WrAt.done {n m : BitVec 64} {xs : List (BitVec 8)} (h : WrAt n xs m) (h1 : bv m < 128) : xs ++ [m.setWidth 8] = varint n := by
  rw [← h.2.1]
  congr 1
  cases 9 - xs.length with
  | zero => rfl
  | succ f => rw [varintF, if_neg (by omega)]
/-- A string's form. -/
def wstr (bs : List (BitVec 8)) : List (BitVec 8) := varint (BitVec.ofNat 64 bs.length) ++ bs

/-- What a string's reading answers: the bytes, where they end, the error (1: a most below 0; 3: too long). -/
def rs (bs : List (BitVec 8)) (most : Int) : List (BitVec 8) × Nat × Nat :=
  if most < 0 then ([], 0, 1)
  else if (rv bs).2.2 ≠ 0 then ([], 0, (rv bs).2.2)
  else if most < bv (rv bs).1 then ([], 0, 3)
  else if ((bs.length - (rv bs).2.1 : Nat) : Int) < bv (rv bs).1 then ([], 0, 2)
  else ((bs.drop (rv bs).2.1).take (ix (rv bs).1), (rv bs).2.1 + ix (rv bs).1, 0)
end Go.Proofs.Ytmkljmljbbijeaa

/-! The plain law of varints read back: what is written is read, whatever stands behind; none is the front of another. -/
namespace Go.Proofs.Ytmkljmljbbijeaa

theorem low_group (n : BitVec 64) : (n &&& 127#64) ||| ((n >>> 7) <<< 7) = n := by
  apply BitVec.eq_of_toNat_eq
  have h1 : (n &&& 127#64).toNat = n.toNat % 128 := by
    rw [BitVec.toNat_and, show (127#64).toNat = 2 ^ 7 - 1 from rfl, Nat.and_two_pow_sub_one_eq_mod]
  have h2 : ((n >>> 7) <<< 7).toNat = 2 ^ 7 * (n.toNat / 128) := by
    rw [BitVec.toNat_shiftLeft, BitVec.toNat_ushiftRight, Nat.shiftLeft_eq, Nat.shiftRight_eq_div_pow]
    have := n.isLt
    omega
  rw [BitVec.toNat_or, h1, h2, Nat.or_comm, ← Nat.two_pow_add_eq_or_of_lt (by omega)]
  omega
theorem cont_byte (n : BitVec 64) : ((n.setWidth 8 ||| 128#8).setWidth 64 &&& 127#64) = n &&& 127#64 ∧ 128 ≤ bv (n.setWidth 8 ||| 128#8) := by
  constructor
  · apply BitVec.eq_of_getLsbD_eq
    intro i hi
    simp only [BitVec.getLsbD_and, BitVec.getLsbD_setWidth, BitVec.getLsbD_or]
    rcases Nat.lt_or_ge i 7 with h | h
    · have : (128#8).getLsbD i = false := by
        have : ∀ j : Fin 7, (128#8).getLsbD j.1 = false := by decide
        exact this ⟨i, h⟩
      rw [this]
      simp [hi, show i < 8 by omega]
    · have : (127#64).getLsbD i = false := by
        have : ∀ j : Fin 57, (127#64).getLsbD (j.1 + 7) = false := by decide
        have := this ⟨i - 7, by omega⟩
        rwa [show i - 7 + 7 = i by omega] at this
      rw [this]
      simp
  · unfold bv
    rw [BitVec.toNat_or]
    have : 128 ≤ (n.setWidth 8).toNat ||| (128#8).toNat := Nat.right_le_or
    omega
theorem last_byte (n : BitVec 64) (h : bv n < 128) : (n.setWidth 8).setWidth 64 &&& 127#64 = n ∧ bv (n.setWidth 8) = bv n := by
  unfold bv at *
  have h1 : (n.setWidth 8).toNat = n.toNat := by rw [BitVec.toNat_setWidth]; exact Nat.mod_eq_of_lt (by omega)
  refine ⟨?_, by rw [h1]⟩
  apply BitVec.eq_of_toNat_eq
  rw [BitVec.toNat_and, BitVec.toNat_setWidth, h1, Nat.mod_eq_of_lt (by omega), show (127#64).toNat = 2 ^ 7 - 1 from rfl, Nat.and_two_pow_sub_one_eq_mod]
  exact Nat.mod_eq_of_lt (by omega)

theorem rvGo_back (r : List (BitVec 8)) : ∀ (f i : Nat) (n acc : BitVec 64), f + i = 9 → n.toNat < 2 ^ (64 - 7 * i) → (0 < i → n ≠ 0#64) →
    rvGo (varintF f n ++ r) i acc = (acc ||| n <<< (7 * i), i + (varintF f n).length, 0)
  | 0, i, n, acc, hi, hn, h0 => by
    obtain rfl : i = 9 := by omega
    have hb : bv n < 128 := by unfold bv; omega
    obtain ⟨e1, e2⟩ := last_byte n hb
    have hz : n.setWidth 8 ≠ 0#8 := fun h => h0 (by omega) (by
      have := congrArg bv h; rw [e2] at this
      exact bv_inj.1 (this.trans rfl))
    have h1 : ¬ (1 : Int) < bv (n.setWidth 8) := by rw [e2]; unfold bv; omega
    rw [varintF, List.singleton_append, rvGo, if_neg (fun h => h1 h.2), if_neg (by rw [e2]; omega), if_neg (fun h => hz h.2), e1]
    rfl
  | f + 1, i, n, acc, hi, hn, h0 => by
    rw [varintF]
    by_cases h : 128 ≤ bv n
    · obtain ⟨e1, e2⟩ := cont_byte n
      rw [if_pos h, List.cons_append, rvGo, if_neg (fun h => by omega), if_pos e2, e1]
      have hn7 : (n >>> 7).toNat < 2 ^ (64 - 7 * (i + 1)) := by
        rw [BitVec.toNat_ushiftRight, Nat.shiftRight_eq_div_pow, Nat.div_lt_iff_lt_mul (by decide), ← Nat.pow_add]
        exact Nat.lt_of_lt_of_le hn (Nat.pow_le_pow_right (by decide) (by omega))
      have hz : n >>> 7 ≠ 0#64 := fun hz => by
        have := congrArg BitVec.toNat hz
        rw [BitVec.toNat_ushiftRight, Nat.shiftRight_eq_div_pow] at this
        unfold bv at h
        simp at this
        omega
      rw [rvGo_back r f (i + 1) (n >>> 7) _ (by omega) hn7 (fun _ => hz)]
      have e3 : acc ||| (n &&& 127#64) <<< (7 * i) ||| (n >>> 7) <<< (7 * (i + 1)) = acc ||| n <<< (7 * i) := by
        rw [BitVec.or_assoc, show 7 * (i + 1) = 7 + 7 * i by omega, BitVec.shiftLeft_add, ← BitVec.shiftLeft_or_distrib, low_group]
      rw [e3, List.length_cons]
      congr 2
      omega
    · have hb : bv n < 128 := by omega
      obtain ⟨e1, e2⟩ := last_byte n hb
      have hz : ¬ (0 < i ∧ n.setWidth 8 = 0#8) := fun ⟨hi0, h⟩ => h0 hi0 (by
        have := congrArg bv h; rw [e2] at this
        exact bv_inj.1 (this.trans rfl))
      rw [if_neg h, List.singleton_append, rvGo, if_neg (fun h => by omega), if_neg (by rw [e2]; omega), if_neg hz, e1]
      rfl
/-- What is written is read, whatever stands behind. -/
theorem rv_back (n : BitVec 64) (r : List (BitVec 8)) : rv (varint n ++ r) = (n, (varint n).length, 0) := by
  have h := rvGo_back r 9 0 n 0#64 rfl (by simpa using n.isLt) (fun h => by omega)
  unfold rv varint
  rw [h]; simp

/-- Is one the front of the other? -/
def isFront (x y : List (BitVec 8)) : Bool := decide (x.take (min x.length y.length) = y.take (min x.length y.length))
theorem isFront_prefix {x y : List (BitVec 8)} (h : isFront x y = true) (hl : x.length ≤ y.length) : ∃ r, y = x ++ r := by
  unfold isFront at h
  have h := of_decide_eq_true h
  rw [Nat.min_eq_left hl, List.take_length] at h
  exact ⟨y.drop x.length, by rw [h]; simp [List.take_append_drop, hl]⟩
theorem isFront_comm (x y : List (BitVec 8)) : isFront x y = isFront y x := by
  unfold isFront
  rw [Nat.min_comm]
  simp [eq_comm]
theorem isFront_self (x : List (BitVec 8)) : isFront x x = true := by simp [isFront]
theorem varint_front (a b : BitVec 64) : isFront (varint a) (varint b) = (a == b) := by
  rw [Bool.eq_iff_iff]
  constructor
  · intro h
    have key : ∀ a b : BitVec 64, isFront (varint a) (varint b) = true → (varint a).length ≤ (varint b).length → a = b := fun a b h hl => by
      obtain ⟨r, hr⟩ := isFront_prefix h hl
      have h1 := rv_back a r
      have h2 := rv_back b []
      rw [List.append_nil, hr, h1] at h2
      exact congrArg Prod.fst h2
    rcases Nat.le_total (varint a).length (varint b).length with hl | hl
    · simp [key a b h hl]
    · rw [isFront_comm] at h; simp [key b a h hl]
  · intro h
    obtain rfl : a = b := by simpa using h
    exact isFront_self _
theorem wstr_front (s t : List (BitVec 8)) (hs : s.length < 2 ^ 64) (ht : t.length < 2 ^ 64) : isFront (wstr s) (wstr t) = decide (s = t) := by
  rw [Bool.eq_iff_iff]
  constructor
  · intro h
    have key : ∀ s t : List (BitVec 8), s.length < 2 ^ 64 → t.length < 2 ^ 64 → isFront (wstr s) (wstr t) = true → (wstr s).length ≤ (wstr t).length → s = t := fun s t hs ht h hl => by
      obtain ⟨r, hr⟩ := isFront_prefix h hl
      have h1 := rv_back (BitVec.ofNat 64 s.length) (s ++ r)
      have h2 := rv_back (BitVec.ofNat 64 t.length) t
      have hr' : varint (BitVec.ofNat 64 t.length) ++ t = varint (BitVec.ofNat 64 s.length) ++ (s ++ r) := by
        rw [← List.append_assoc]; exact hr
      rw [hr', h1] at h2
      have e := congrArg (fun x => x.1.toNat) h2
      simp only [BitVec.toNat_ofNat] at e
      rw [Nat.mod_eq_of_lt hs, Nat.mod_eq_of_lt ht] at e
      rw [e] at hr'
      have hr2 := List.append_cancel_left hr'
      have hl2 := congrArg List.length hr2
      rw [List.length_append] at hl2
      have : r = [] := List.eq_nil_of_length_eq_zero (by omega)
      rw [this, List.append_nil] at hr2
      exact hr2.symm
    rcases Nat.le_total (wstr s).length (wstr t).length with hl | hl
    · simp [key s t hs ht h hl]
    · rw [isFront_comm] at h; simp [key t s ht hs h hl]
  · intro h
    obtain rfl : s = t := by simpa using h
    exact isFront_self _
end Go.Proofs.Ytmkljmljbbijeaa

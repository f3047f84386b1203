/- The plain law of varints read back: what is written is read, whatever stands behind; none is the front of another. -/
import Derived.Test.YtfadpjljokpenaaPlainWire
namespace Go.Proofs.Ytfadpjljokpenaa

theorem low_group (n : BitVec 64) : (n &&& 127#64) ||| ((n >>> 7) <<< 7) = n := by
  apply BitVec.eq_of_toNat_eq
  have h1 : (n &&& 127#64).toNat = n.toNat % 128 := by
    rw [BitVec.toNat_and, show (127#64).toNat = 2 ^ 7 - 1 from rfl, Nat.and_two_pow_sub_one_eq_mod]
  have h2 : ((n >>> 7) <<< 7).toNat = 2 ^ 7 * (n.toNat / 128) := by
    rw [BitVec.toNat_shiftLeft, BitVec.toNat_ushiftRight, Nat.shiftLeft_eq, Nat.shiftRight_eq_div_pow]
    have := n.isLt
    omega
  rw [BitVec.toNat_or, h1, h2, Nat.or_comm, ← Nat.two_pow_add_eq_or_of_lt (by omega)]
  omega
theorem cont_byte (n : BitVec 64) : ((n.setWidth 8 ||| 128#8).setWidth 64 &&& 127#64) = n &&& 127#64 ∧ 128 ≤ bv (n.setWidth 8 ||| 128#8) := by
  constructor
  · apply BitVec.eq_of_getLsbD_eq
    intro i hi
    simp only [BitVec.getLsbD_and, BitVec.getLsbD_setWidth, BitVec.getLsbD_or]
    rcases Nat.lt_or_ge i 7 with h | h
    · have : (128#8).getLsbD i = false := by
        have : ∀ j : Fin 7, (128#8).getLsbD j.1 = false := by decide
        exact this ⟨i, h⟩
      rw [this]
      simp [hi, show i < 8 by omega]
    · have : (127#64).getLsbD i = false := by
        have : ∀ j : Fin 57, (127#64).getLsbD (j.1 + 7) = false := by decide
        have := this ⟨i - 7, by omega⟩
        rwa [show i - 7 + 7 = i by omega] at this
      rw [this]
      simp
  · unfold bv
    rw [BitVec.toNat_or]
    have : 128 ≤ (n.setWidth 8).toNat ||| (128#8).toNat := Nat.right_le_or
    omega
theorem last_byte (n : BitVec 64) (h : bv n < 128) : (n.setWidth 8).setWidth 64 &&& 127#64 = n ∧ bv (n.setWidth 8) = bv n := by
  unfold bv at *
  have h1 : (n.setWidth 8).toNat = n.toNat := by rw [BitVec.toNat_setWidth]; exact Nat.mod_eq_of_lt (by omega)
  refine ⟨?_, by rw [h1]⟩
  apply BitVec.eq_of_toNat_eq
  rw [BitVec.toNat_and, BitVec.toNat_setWidth, h1, Nat.mod_eq_of_lt (by omega), show (127#64).toNat = 2 ^ 7 - 1 from rfl, Nat.and_two_pow_sub_one_eq_mod]
  exact Nat.mod_eq_of_lt (by omega)

theorem rvGo_back (r : List (BitVec 8)) : ∀ (f i : Nat) (n acc : BitVec 64), f + i = 9 → n.toNat < 2 ^ (64 - 7 * i) → (0 < i → n ≠ 0#64) →
    rvGo (varintF f n ++ r) i acc = (acc ||| n <<< (7 * i), i + (varintF f n).length, 0)
  | 0, i, n, acc, hi, hn, h0 => by
    obtain rfl : i = 9 := by omega
    have hb : bv n < 128 := by unfold bv; omega
    obtain ⟨e1, e2⟩ := last_byte n hb
    have hz : n.setWidth 8 ≠ 0#8 := fun h => h0 (by omega) (by
      have := congrArg bv h; rw [e2] at this
      exact bv_inj.1 (this.trans rfl))
    have h1 : ¬ (1 : Int) < bv (n.setWidth 8) := by rw [e2]; unfold bv; omega
    rw [varintF, List.singleton_append, rvGo, if_neg (fun h => h1 h.2), if_neg (by rw [e2]; omega), if_neg (fun h => hz h.2), e1]
    rfl
  | f + 1, i, n, acc, hi, hn, h0 => by
    rw [varintF]
    by_cases h : 128 ≤ bv n
    · obtain ⟨e1, e2⟩ := cont_byte n
      rw [if_pos h, List.cons_append, rvGo, if_neg (fun h => by omega), if_pos e2, e1]
      have hn7 : (n >>> 7).toNat < 2 ^ (64 - 7 * (i + 1)) := by
        rw [BitVec.toNat_ushiftRight, Nat.shiftRight_eq_div_pow, Nat.div_lt_iff_lt_mul (by decide), ← Nat.pow_add]
        exact Nat.lt_of_lt_of_le hn (Nat.pow_le_pow_right (by decide) (by omega))
      have hz : n >>> 7 ≠ 0#64 := fun hz => by
        have := congrArg BitVec.toNat hz
        rw [BitVec.toNat_ushiftRight, Nat.shiftRight_eq_div_pow] at this
        unfold bv at h
        simp at this
        omega
      rw [rvGo_back r f (i + 1) (n >>> 7) _ (by omega) hn7 (fun _ => hz)]
      have e3 : acc ||| (n &&& 127#64) <<< (7 * i) ||| (n >>> 7) <<< (7 * (i + 1)) = acc ||| n <<< (7 * i) := by
        rw [BitVec.or_assoc, show 7 * (i + 1) = 7 + 7 * i by omega, BitVec.shiftLeft_add, ← BitVec.shiftLeft_or_distrib, low_group]
      rw [e3, List.length_cons]
      congr 2
      omega
    · have hb : bv n < 128 := by omega
      obtain ⟨e1, e2⟩ := last_byte n hb
      have hz : ¬ (0 < i ∧ n.setWidth 8 = 0#8) := fun ⟨hi0, h⟩ => h0 hi0 (by
        have := congrArg bv h; rw [e2] at this
        exact bv_inj.1 (this.trans rfl))
      rw [if_neg h, List.singleton_append, rvGo, if_neg (fun h => by omega), if_neg (by rw [e2]; omega), if_neg hz, e1]
      rfl
/-- What is written is read, whatever stands behind. -/
theorem rv_back (n : BitVec 64) (r : List (BitVec 8)) : rv (varint n ++ r) = (n, (varint n).length, 0) := by
  have h := rvGo_back r 9 0 n 0#64 rfl (by simpa using n.isLt) (fun h => by omega)
  unfold rv varint
  rw [h]; simp

/-- Is one the front of the other? -/
def isFront (x y : List (BitVec 8)) : Bool := decide (x.take (min x.length y.length) = y.take (min x.length y.length))
theorem isFront_prefix {x y : List (BitVec 8)} (h : isFront x y = true) (hl : x.length ≤ y.length) : ∃ r, y = x ++ r := by
  unfold isFront at h
  have h := of_decide_eq_true h
  rw [Nat.min_eq_left hl, List.take_length] at h
  exact ⟨y.drop x.length, by rw [h]; simp [List.take_append_drop, hl]⟩
theorem isFront_comm (x y : List (BitVec 8)) : isFront x y = isFront y x := by
  unfold isFront
  rw [Nat.min_comm]
  simp [eq_comm]
theorem isFront_self (x : List (BitVec 8)) : isFront x x = true := by simp [isFront]
theorem varint_front (a b : BitVec 64) : isFront (varint a) (varint b) = (a == b) := by
  rw [Bool.eq_iff_iff]
  constructor
  · intro h
    have key : ∀ a b : BitVec 64, isFront (varint a) (varint b) = true → (varint a).length ≤ (varint b).length → a = b := fun a b h hl => by
      obtain ⟨r, hr⟩ := isFront_prefix h hl
      have h1 := rv_back a r
      have h2 := rv_back b []
      rw [List.append_nil, hr, h1] at h2
      exact congrArg Prod.fst h2
    rcases Nat.le_total (varint a).length (varint b).length with hl | hl
    · simp [key a b h hl]
    · rw [isFront_comm] at h; simp [key b a h hl]
  · intro h
    obtain rfl : a = b := by simpa using h
    exact isFront_self _
theorem wstr_front (s t : List (BitVec 8)) (hs : s.length < 2 ^ 64) (ht : t.length < 2 ^ 64) : isFront (wstr s) (wstr t) = decide (s = t) := by
  rw [Bool.eq_iff_iff]
  constructor
  · intro h
    have key : ∀ s t : List (BitVec 8), s.length < 2 ^ 64 → t.length < 2 ^ 64 → isFront (wstr s) (wstr t) = true → (wstr s).length ≤ (wstr t).length → s = t := fun s t hs ht h hl => by
      obtain ⟨r, hr⟩ := isFront_prefix h hl
      have h1 := rv_back (BitVec.ofNat 64 s.length) (s ++ r)
      have h2 := rv_back (BitVec.ofNat 64 t.length) t
      have hr' : varint (BitVec.ofNat 64 t.length) ++ t = varint (BitVec.ofNat 64 s.length) ++ (s ++ r) := by
        rw [← List.append_assoc]; exact hr
      rw [hr', h1] at h2
      have e := congrArg (fun x => x.1.toNat) h2
      simp only [BitVec.toNat_ofNat] at e
      rw [Nat.mod_eq_of_lt hs, Nat.mod_eq_of_lt ht] at e
      rw [e] at hr'
      have hr2 := List.append_cancel_left hr'
      have hl2 := congrArg List.length hr2
      rw [List.length_append] at hl2
      have : r = [] := List.eq_nil_of_length_eq_zero (by omega)
      rw [this, List.append_nil] at hr2
      exact hr2.symm
    rcases Nat.le_total (wstr s).length (wstr t).length with hl | hl
    · simp [key s t hs ht h hl]
    · rw [isFront_comm] at h; simp [key t s ht hs h hl]
  · intro h
    obtain rfl : s = t := by simpa using h
    exact isFront_self _
end Go.Proofs.Ytfadpjljokpenaa

/- The plain law of varints, the other way: what was read, written, is what was read. -/
import Derived.Test.YtmkljmljbbijeaaPlainWire
namespace Go.Proofs.Ytmkljmljbbijeaa

theorem low_byte (c : BitVec 8) (h : 128 ≤ bv c) (m : BitVec 64) : ((c.setWidth 64 &&& 127#64) ||| (m <<< 7)).setWidth 8 ||| 128#8 = c := by
  have e : ((c.setWidth 64 &&& 127#64) ||| (m <<< 7)).setWidth 8 = (c &&& 127#8) ||| ((m.setWidth 8) <<< 7) := by
    apply BitVec.eq_of_getLsbD_eq
    intro i hi
    simp only [BitVec.getLsbD_setWidth, BitVec.getLsbD_or, BitVec.getLsbD_and, BitVec.getLsbD_shiftLeft]
    have h7 : (127#64).getLsbD i = (127#8).getLsbD i := by
      have : ∀ j : Fin 8, (127#64).getLsbD j.1 = (127#8).getLsbD j.1 := by decide
      exact this ⟨i, hi⟩
    rw [h7]
    have h1 : i < 64 := by omega
    have h2 : i - 7 < 8 := by omega
    simp [hi, h1, h2]
  rw [e]
  unfold bv at h
  have hc : ∀ (c : BitVec 8) (m : BitVec 8), 128 ≤ c.toNat → (c &&& 127#8) ||| (m <<< 7) ||| 128#8 = c := by
    intro c m hc
    have h1 : (c &&& 127#8) ||| 128#8 = c := by
      have : ∀ c : BitVec 8, 128 ≤ c.toNat → (c &&& 127#8) ||| 128#8 = c := by decide +kernel
      exact this c hc
    have h2 : (m <<< 7) ||| 128#8 = 128#8 := by revert m; decide +kernel
    rw [BitVec.or_assoc, h2, h1]
  exact hc c _ (by omega)
theorem low_shr (c : BitVec 8) (m : BitVec 64) (hm : m.toNat < 2 ^ 57) : ((c.setWidth 64 &&& 127#64) ||| (m <<< 7)) >>> 7 = m := by
  apply BitVec.eq_of_toNat_eq
  rw [BitVec.toNat_ushiftRight, Nat.shiftRight_eq_div_pow, BitVec.toNat_or, BitVec.toNat_shiftLeft, Nat.shiftLeft_eq]
  have h7 := low7 c
  rw [Nat.mod_eq_of_lt (by omega), Nat.or_comm, Nat.mul_comm, ← Nat.two_pow_add_eq_or_of_lt h7]
  omega
theorem rvGo_forth : ∀ (bs : List (BitVec 8)) (i : Nat) (acc x : BitVec 64) (k : Nat), i ≤ 9 → rvGo bs i acc = (x, k, 0) →
    i < k ∧ k ≤ 10 ∧ ∃ m : BitVec 64, bs.take (k - i) = varintF (9 - i) m ∧ x = acc ||| m <<< (7 * i) ∧ m.toNat < 2 ^ (64 - 7 * i) ∧ (0 < i → m ≠ 0#64)
  | [], i, acc, x, k, hi, h => by simp [rvGo] at h
  | c :: r, i, acc, x, k, hi, h => by
    rw [rvGo] at h
    split at h
    · injection h with _ h; injection h with _ h; cases h
    rename_i h9
    split at h
    · rename_i h1
      have hi9 : i < 9 := by
        rcases Nat.lt_or_ge i 9 with h | h
        · exact h
        · exact absurd ⟨by omega, by omega⟩ h9
      obtain ⟨hk, hk10, m, hm, hx, hb, hz⟩ := rvGo_forth r (i + 1) _ x k (by omega) h
      have hb57 : m.toNat < 2 ^ 57 := Nat.lt_of_lt_of_le hb (Nat.pow_le_pow_right (by decide) (by omega))
      have hm0 := hz (by omega)
      have hge : (128 : Int) ≤ bv ((c.setWidth 64 &&& 127#64) ||| (m <<< 7)) := by
        unfold bv
        rw [BitVec.toNat_or, BitVec.toNat_shiftLeft, Nat.shiftLeft_eq, Nat.mod_eq_of_lt (by omega)]
        have : m.toNat ≠ 0 := fun h => hm0 (BitVec.eq_of_toNat_eq h)
        have h2 : m.toNat * 2 ^ 7 ≤ (c.setWidth 64 &&& 127#64).toNat ||| m.toNat * 2 ^ 7 := Nat.right_le_or
        omega
      refine ⟨by omega, hk10, (c.setWidth 64 &&& 127#64) ||| (m <<< 7), ?_, ?_, ?_, ?_⟩
      · rw [show k - i = (k - (i + 1)) + 1 by omega, List.take_succ_cons, show 9 - i = (9 - (i + 1)) + 1 by omega, varintF, if_pos hge, low_byte c h1, low_shr c m hb57, hm]
      · rw [hx, BitVec.or_assoc, show 7 * (i + 1) = 7 + 7 * i by omega, BitVec.shiftLeft_add, ← BitVec.shiftLeft_or_distrib]
      · rw [BitVec.toNat_or, BitVec.toNat_shiftLeft, Nat.shiftLeft_eq]
        refine Nat.or_lt_two_pow (Nat.lt_of_lt_of_le (low7 c) (show 2 ^ 7 ≤ 2 ^ (64 - 7 * i) from Nat.pow_le_pow_right (by decide) (by omega))) ?_
        refine Nat.lt_of_le_of_lt (Nat.mod_le _ _) ?_
        rw [show 64 - 7 * i = (64 - 7 * (i + 1)) + 7 by omega, Nat.pow_add]
        exact Nat.mul_lt_mul_of_pos_right hb (by decide)
      · intro _ h
        rw [h] at hge
        unfold bv at hge
        simp at hge
    rename_i h1
    split at h
    · injection h with _ h; injection h with _ h; cases h
    rename_i h0
    injection h with hx h
    injection h with hk h
    subst hk hx
    have hcl : bv c < 128 := by omega
    have hcn : c.toNat < 128 := by unfold bv at hcl; omega
    have e8 : (c.setWidth 64).setWidth 8 = c := by
      apply BitVec.eq_of_toNat_eq
      rw [BitVec.toNat_setWidth, BitVec.toNat_setWidth, Nat.mod_eq_of_lt (a := c.toNat) (by omega), Nat.mod_eq_of_lt (by omega)]
    have en : (c.setWidth 64).toNat = c.toNat := by rw [BitVec.toNat_setWidth]; exact Nat.mod_eq_of_lt (by omega)
    have ea : c.setWidth 64 &&& 127#64 = c.setWidth 64 := by
      apply BitVec.eq_of_toNat_eq
      rw [BitVec.toNat_and, en, show (127#64).toNat = 2 ^ 7 - 1 from rfl, Nat.and_two_pow_sub_one_eq_mod]
      exact Nat.mod_eq_of_lt (by omega)
    refine ⟨by omega, by omega, c.setWidth 64, ?_, by rw [ea], ?_, ?_⟩
    · rw [show i + 1 - i = 1 by omega, List.take_succ_cons, List.take_zero]
      cases hf : 9 - i with
      | zero => rw [varintF, e8]
      | succ f => rw [varintF, if_neg (by unfold bv; rw [en]; omega), e8]
    · rw [en]
      rcases Nat.lt_or_ge i 9 with h | h
      · exact Nat.lt_of_lt_of_le hcn (show 2 ^ 7 ≤ 2 ^ (64 - 7 * i) from Nat.pow_le_pow_right (by decide) (by omega))
      · obtain rfl : i = 9 := by omega
        have : ¬ 1 < bv c := fun h => h9 ⟨rfl, h⟩
        unfold bv at this
        omega
    · intro hi0 hz
      apply h0
      refine ⟨hi0, ?_⟩
      rw [← e8, hz]; rfl
/-- What was read, written, is what was read. -/
theorem rv_forth {bs : List (BitVec 8)} {x : BitVec 64} {k : Nat} (h : rv bs = (x, k, 0)) : 1 ≤ k ∧ k ≤ 10 ∧ k ≤ bs.length ∧ varint x = bs.take k := by
  obtain ⟨h1, h2, m, hm, hx, -, -⟩ := rvGo_forth bs 0 0#64 x k (by omega) h
  have hl := rv_le bs
  rw [h] at hl
  refine ⟨h1, h2, hl, ?_⟩
  rw [hx]
  simpa [varint] using hm.symm
/-- A string read back, whatever stands behind. -/
theorem rs_back (s r : List (BitVec 8)) (hs : s.length ≤ 9223372036854775807) : rs (wstr s ++ r) s.length = (s, (varint (BitVec.ofNat 64 s.length)).length + s.length, 0) := by
  have h := rv_back (BitVec.ofNat 64 s.length) (s ++ r)
  have e : wstr s ++ r = varint (BitVec.ofNat 64 s.length) ++ (s ++ r) := by unfold wstr; rw [List.append_assoc]
  have hn : bv (BitVec.ofNat 64 s.length) = (s.length : Int) := bv_ofNat (n := 64) (by omega)
  have hi : ix (BitVec.ofNat 64 s.length) = s.length := by
    unfold ix; rw [BitVec.toNat_ofNat]; exact Nat.mod_eq_of_lt (by omega)
  rw [← e] at h
  unfold rs
  rw [h]
  simp only [hn, hi]
  rw [if_neg (by omega), if_neg (by simp), if_neg (by omega), if_neg (by rw [e]; simp; omega), e]
  simp
end Go.Proofs.Ytmkljmljbbijeaa

/- The plain law of frames and heads: what is written is read back; what is read, written, is what was read. -/
import Derived.Test.YtfadpjljokpenaaWireForm
import Derived.Test.YtfadpjljokpenaaCrcMask
namespace Go.Proofs.Ytfadpjljokpenaa

theorem leN_inj : ∀ {xs ys : List (BitVec 8)}, xs.length = ys.length → leN xs = leN ys → xs = ys
  | [], [], _, _ => rfl
  | [], _ :: _, h, _ => by simp at h
  | _ :: _, [], h, _ => by simp at h
  | a :: xs, b :: ys, h, e => by
    simp only [leN] at e
    have h1 := a.isLt
    have h2 := b.isLt
    have e1 : a.toNat = b.toNat := by omega
    rw [BitVec.eq_of_toNat_eq e1, leN_inj (xs := xs) (ys := ys) (by simpa using h) (by omega)]
theorem fixedL_leB {xs : List (BitVec 8)} {k : Nat} (h : xs.length = k) (hk : k ≤ 8) : fixedL (leB xs) k = xs := by
  refine leN_inj (by rw [fixedL_len, h]) ?_
  rw [leN_fixed, leB_lt (by omega)]
  exact Nat.mod_eq_of_lt (h ▸ leN_lt xs)
theorem leN_fixed32 (n : BitVec 32) : leN (fixedL (n.setWidth 64) 4) = n.toNat := by
  have := n.isLt
  rw [leN_fixed, BitVec.toNat_setWidth]
  omega
theorem leN_fixed64 (n : BitVec 64) : leN (fixedL n 8) = n.toNat := by
  rw [leN_fixed]
  exact Nat.mod_eq_of_lt n.isLt
theorem leN_fixedN (n : Nat) (h : n < 4294967296) : leN (fixedL (BitVec.ofNat 64 n) 4) = n := by
  rw [leN_fixed, BitVec.toNat_ofNat]
  omega
theorem leB_eq {xs : List (BitVec 8)} {n : BitVec 64} (hl : xs.length ≤ 8) (h : leN xs = n.toNat) : leB xs = n := by
  apply BitVec.eq_of_toNat_eq; rw [leB_lt hl, h]
theorem fixed32_leB {xs : List (BitVec 8)} {c : BitVec 32} (hl : xs.length = 4) (h : leN xs = c.toNat) : fixedL (c.setWidth 64) 4 = xs :=
  leN_inj (by rw [fixedL_len, hl]) (by rw [leN_fixed32, h])
theorem fixedN_leB {xs : List (BitVec 8)} {n : Nat} (hl : xs.length = 4) (h : leN xs = n) : fixedL (BitVec.ofNat 64 n) 4 = xs := by
  have := leN_lt xs
  rw [hl] at this
  exact leN_inj (by rw [fixedL_len, hl]) (by rw [leN_fixedN _ (by omega), h])

/-- A frame's sum. -/
def sumF (seed : BitVec 32) (lsn : BitVec 64) (data : List (BitVec 8)) : BitVec 32 :=
  Crc.sum (fixedL (seed.setWidth 64) 4 ++ fixedL (BitVec.ofNat 64 data.length) 4 ++ fixedL lsn 8 ++ data)
/-- A frame. -/
def frameF (seed : BitVec 32) (lsn : BitVec 64) (data : List (BitVec 8)) : List (BitVec 8) :=
  fixedL (BitVec.ofNat 64 data.length) 4 ++ fixedL lsn 8 ++ fixedL ((Crc.mask (sumF seed lsn data)).setWidth 64) 4 ++ data
theorem frameF_len (seed : BitVec 32) (lsn : BitVec 64) (data : List (BitVec 8)) : (frameF seed lsn data).length = 16 + data.length := by
  unfold frameF; simp only [List.length_append, fixedL_len]
/-- What reading a frame answers. -/
structure Rd where
  lsn : BitVec 64
  data : List (BitVec 8)
  n : Nat
  sum : BitVec 32
  err : Nat
def Rd.bad (e : Nat) : Rd := ⟨0#64, [], 0, 0#32, e⟩
def rF (seed : BitVec 32) (bs : List (BitVec 8)) : Rd :=
  if bs.length < 16 then .bad 2
  else if 4096 < leN (bs.take 4) then .bad 3
  else if ¬ (1 ≤ leN ((bs.drop 4).take 8) ∧ leN ((bs.drop 4).take 8) ≤ 9223372036854775806) then .bad 4
  else if bs.length < 16 + leN (bs.take 4) then .bad 2
  else if leN ((bs.drop 12).take 4) ≠ (Crc.mask (sumF seed (leB ((bs.drop 4).take 8)) ((bs.drop 16).take (leN (bs.take 4))))).toNat then .bad 5
  else ⟨leB ((bs.drop 4).take 8), (bs.drop 16).take (leN (bs.take 4)), 16 + leN (bs.take 4), sumF seed (leB ((bs.drop 4).take 8)) ((bs.drop 16).take (leN (bs.take 4))), 0⟩

theorem rF_bad {seed : BitVec 32} {bs : List (BitVec 8)} (h : (rF seed bs).err ≠ 0) : rF seed bs = .bad (rF seed bs).err := by
  revert h
  unfold rF
  repeat' split
  all_goals first | exact fun _ => rfl | exact fun h => absurd rfl h

theorem rF_front (seed : BitVec 32) (lsn : BitVec 64) (data behind : List (BitVec 8)) (hd : data.length ≤ 4096) (h1 : 1 ≤ lsn.toNat) (h2 : lsn.toNat ≤ 9223372036854775806) :
    rF seed (frameF seed lsn data ++ behind) = ⟨lsn, data, 16 + data.length, sumF seed lsn data, 0⟩ := by
  obtain ⟨B, hB⟩ : ∃ B, frameF seed lsn data ++ behind = B := ⟨_, rfl⟩
  have h0 : B = fixedL (BitVec.ofNat 64 data.length) 4 ++ (fixedL lsn 8 ++ (fixedL ((Crc.mask (sumF seed lsn data)).setWidth 64) 4 ++ (data ++ behind))) := by
    rw [← hB]; unfold frameF; simp only [List.append_assoc]
  have hl : B.length = 16 + data.length + behind.length := by rw [← hB, List.length_append, frameF_len]
  have t4 : B.take 4 = fixedL (BitVec.ofNat 64 data.length) 4 := by rw [h0, List.take_left' (fixedL_len _ _)]
  have d4 : B.drop 4 = fixedL lsn 8 ++ (fixedL ((Crc.mask (sumF seed lsn data)).setWidth 64) 4 ++ (data ++ behind)) := by rw [h0, List.drop_left' (fixedL_len _ _)]
  have d12 : B.drop 12 = fixedL ((Crc.mask (sumF seed lsn data)).setWidth 64) 4 ++ (data ++ behind) := by
    rw [show 12 = 4 + 8 from rfl, ← List.drop_drop, d4, List.drop_left' (fixedL_len _ _)]
  have d16 : B.drop 16 = data ++ behind := by
    rw [show 16 = 12 + 4 from rfl, ← List.drop_drop, d12, List.drop_left' (fixedL_len _ _)]
  have e1 : leN (B.take 4) = data.length := by rw [t4, leN_fixedN _ (by omega)]
  have e2 : (B.drop 4).take 8 = fixedL lsn 8 := by rw [d4, List.take_left' (fixedL_len _ _)]
  have e3 : (B.drop 12).take 4 = fixedL ((Crc.mask (sumF seed lsn data)).setWidth 64) 4 := by rw [d12, List.take_left' (fixedL_len _ _)]
  rw [hB]
  unfold rF
  rw [e1, e2, e3, leN_fixed64, leB_fixed64, leN_fixed32, d16, List.take_left]
  rw [if_neg (by omega), if_neg (by omega), if_neg (by omega), if_neg (by omega), if_neg (by simp)]

theorem rF_ok {seed : BitVec 32} {bs : List (BitVec 8)} (h : (rF seed bs).err = 0) :
    1 ≤ (rF seed bs).lsn.toNat ∧ (rF seed bs).lsn.toNat ≤ 9223372036854775806 ∧ (rF seed bs).data.length ≤ 4096 ∧ (rF seed bs).n = 16 + (rF seed bs).data.length ∧ (rF seed bs).n ≤ bs.length ∧
      (rF seed bs).sum = sumF seed (rF seed bs).lsn (rF seed bs).data ∧ frameF seed (rF seed bs).lsn (rF seed bs).data = bs.take (rF seed bs).n := by
  revert h
  unfold rF
  repeat' split
  all_goals first | (intro h; exact absurd h (by decide)) | skip
  rename_i h1 h2 h3 h4 h5
  intro _
  have h3 : 1 ≤ leN ((bs.drop 4).take 8) ∧ leN ((bs.drop 4).take 8) ≤ 9223372036854775806 := Decidable.not_not.1 h3
  have h5 := Decidable.not_not.1 h5
  have l8 : ((bs.drop 4).take 8).length = 8 := by simp; omega
  have l4 : (bs.take 4).length = 4 := by simp; omega
  have l12 : ((bs.drop 12).take 4).length = 4 := by simp; omega
  have ld : ((bs.drop 16).take (leN (bs.take 4))).length = leN (bs.take 4) := by simp; omega
  dsimp only
  refine ⟨by rw [leB_lt (by omega)]; exact h3.1, by rw [leB_lt (by omega)]; exact h3.2, by omega, by omega, by omega, rfl, ?_⟩
  unfold frameF
  rw [ld, fixedN_leB l4 rfl, fixedL_leB l8 (by decide), fixed32_leB l12 h5]
  have e : ∀ a b : Nat, bs.take (a + b) = bs.take a ++ (bs.drop a).take b := fun a b => List.take_add
  rw [e 16, show (16 : Nat) = 12 + 4 from rfl, e 12 4, show (12 : Nat) = 4 + 8 from rfl, e 4 8]

/-- A head without its mark, and a head. -/
def magicL : List (BitVec 8) := [70#8, 76#8, 85#8, 77#8, 69#8, 76#8, 79#8, 71#8]
def bareH (num base : BitVec 64) (seed : BitVec 32) : List (BitVec 8) := magicL ++ fixedL num 8 ++ fixedL base 8 ++ fixedL (seed.setWidth 64) 4
def headH (num base : BitVec 64) (seed : BitVec 32) : List (BitVec 8) := bareH num base seed ++ fixedL ((Crc.mask (Crc.sum (bareH num base seed))).setWidth 64) 4
theorem bareH_len (num base : BitVec 64) (seed : BitVec 32) : (bareH num base seed).length = 28 := by unfold bareH magicL; simp only [List.length_append, fixedL_len]; rfl
theorem headH_len (num base : BitVec 64) (seed : BitVec 32) : (headH num base seed).length = 32 := by unfold headH; simp only [List.length_append, fixedL_len, bareH_len]
structure Hd where
  num : BitVec 64
  base : BitVec 64
  seed : BitVec 32
  sum : BitVec 32
  err : Nat
def Hd.bad (e : Nat) : Hd := ⟨0#64, 0#64, 0#32, 0#32, e⟩
def okN (xs : List (BitVec 8)) : Prop := 1 ≤ leN xs ∧ leN xs ≤ 9223372036854775807
instance (xs : List (BitVec 8)) : Decidable (okN xs) := by unfold okN; exact inferInstance
theorem okN_fixed (n : BitVec 64) (h : 1 ≤ n.toNat ∧ n.toNat ≤ 9223372036854775807) : okN (fixedL n 8) := by
  unfold okN
  rw [leN_fixed64 n]
  exact h
def rH (bs : List (BitVec 8)) : Hd :=
  if bs.length < 32 then .bad 2
  else if bs.take 8 ≠ magicL ∨ ¬ okN ((bs.drop 8).take 8) ∨ ¬ okN ((bs.drop 16).take 8) then .bad 4
  else if leN ((bs.drop 28).take 4) ≠ (Crc.mask (Crc.sum (bs.take 28))).toNat then .bad 5
  else ⟨leB ((bs.drop 8).take 8), leB ((bs.drop 16).take 8), (leB ((bs.drop 24).take 4)).setWidth 32, Crc.sum (bs.take 28), 0⟩
set_option maxRecDepth 100000 in
theorem rH_front (num base : BitVec 64) (seed : BitVec 32) (behind : List (BitVec 8)) (h1 : 1 ≤ num.toNat ∧ num.toNat ≤ 9223372036854775807) (h2 : 1 ≤ base.toNat ∧ base.toNat ≤ 9223372036854775807) :
    rH (headH num base seed ++ behind) = ⟨num, base, seed, Crc.sum (bareH num base seed), 0⟩ := by
  obtain ⟨B, hB⟩ : ∃ B, headH num base seed ++ behind = B := ⟨_, rfl⟩
  have h0 : B = magicL ++ (fixedL num 8 ++ (fixedL base 8 ++ (fixedL (seed.setWidth 64) 4 ++ (fixedL ((Crc.mask (Crc.sum (bareH num base seed))).setWidth 64) 4 ++ behind)))) := by
    rw [← hB]; unfold headH bareH; simp only [List.append_assoc]
  have hl : B.length = 32 + behind.length := by rw [← hB, List.length_append, headH_len]
  have lm : magicL.length = 8 := rfl
  have d8 : B.drop 8 = fixedL num 8 ++ (fixedL base 8 ++ (fixedL (seed.setWidth 64) 4 ++ (fixedL ((Crc.mask (Crc.sum (bareH num base seed))).setWidth 64) 4 ++ behind))) := by rw [h0, List.drop_left' lm]
  have d16 : B.drop 16 = fixedL base 8 ++ (fixedL (seed.setWidth 64) 4 ++ (fixedL ((Crc.mask (Crc.sum (bareH num base seed))).setWidth 64) 4 ++ behind)) := by
    rw [show 16 = 8 + 8 from rfl, ← List.drop_drop, d8, List.drop_left' (fixedL_len _ _)]
  have d24 : B.drop 24 = fixedL (seed.setWidth 64) 4 ++ (fixedL ((Crc.mask (Crc.sum (bareH num base seed))).setWidth 64) 4 ++ behind) := by
    rw [show 24 = 16 + 8 from rfl, ← List.drop_drop, d16, List.drop_left' (fixedL_len _ _)]
  have d28 : B.drop 28 = fixedL ((Crc.mask (Crc.sum (bareH num base seed))).setWidth 64) 4 ++ behind := by
    rw [show 28 = 24 + 4 from rfl, ← List.drop_drop, d24, List.drop_left' (fixedL_len _ _)]
  have t28 : B.take 28 = bareH num base seed := by
    rw [← hB]; unfold headH; rw [List.append_assoc, List.take_left' (bareH_len _ _ _)]
  have t8 : B.take 8 = magicL := by rw [h0, List.take_left' lm]
  rw [hB]
  unfold rH
  rw [t8, t28, d8, d16, d24, d28, List.take_left' (fixedL_len _ _), List.take_left' (fixedL_len _ _), List.take_left' (fixedL_len _ _), List.take_left' (fixedL_len _ _)]
  rw [if_neg (by omega), if_neg (by intro h; rcases h with h | h | h; exact h rfl; exact h (okN_fixed num h1); exact h (okN_fixed base h2)), leN_fixed32 (Crc.mask (Crc.sum (bareH num base seed))), if_neg (fun h => h rfl), leB_fixed64 num, leB_fixed64 base, leB_fixed32 seed]
theorem rH_bad {bs : List (BitVec 8)} (h : (rH bs).err ≠ 0) : rH bs = .bad (rH bs).err := by
  revert h
  unfold rH
  repeat' split
  all_goals first | exact fun _ => rfl | exact fun h => absurd rfl h
end Go.Proofs.Ytfadpjljokpenaa

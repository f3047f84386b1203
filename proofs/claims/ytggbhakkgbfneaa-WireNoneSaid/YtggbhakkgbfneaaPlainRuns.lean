/- The plain law of fields written one behind the other. -/
import Derived.Test.YtggbhakkgbfneaaPlainForth
import Derived.Test.YtggbhakkgbfneaaPlainLow
import Derived.Test.YtggbhakkgbfneaaOpenU64s
import Derived.Test.YtggbhakkgbfneaaOpenLists
import Derived.Test.YtggbhakkgbfneaaWireForm
namespace Go.Proofs.Ytggbhakkgbfneaa

def zigB (z : Int) : BitVec 64 := BitVec.ofInt 64 (zig z)
theorem bv_zigB {z : Int} (hz : -9223372036854775808 ≤ z ∧ z ≤ 9223372036854775807) : bv (zigB z) = zig z := by
  have := zig_range hz
  unfold bv zigB
  rw [BitVec.toNat_ofInt]
  have e : ((2 ^ 64 : Nat) : Int) = 18446744073709551616 := rfl
  omega
/-- A turn's five fields. -/
def fld (u : BitVec 64) (z : Int) (s : List (BitVec 8)) : List (BitVec 8) :=
  varint u ++ (varint (zigB z) ++ (fixedL ((u.setWidth 32).setWidth 64) 4 ++ (fixedL u 8 ++ wstr s)))
def runs (U : List (BitVec 64)) (I : List Int) (L : List (List (BitVec 8))) : Nat → List (BitVec 8)
  | 0 => []
  | k + 1 => runs U I L k ++ fld (at64 U k) (atI I k) (nth L k)
section
variable (U : List (BitVec 64)) (I : List Int) (L : List (List (BitVec 8)))
theorem runs_front {k n : Nat} (h : k ≤ n) : ∃ r, runs U I L n = runs U I L k ++ r := by
  induction n with
  | zero =>
    have : k = 0 := by omega
    subst this
    exact ⟨[], by simp⟩
  | succ n ih =>
    rcases Nat.eq_or_lt_of_le h with rfl | h
    · exact ⟨[], by simp⟩
    · obtain ⟨r, hr⟩ := ih (by omega)
      exact ⟨r ++ fld (at64 U n) (atI I n) (nth L n), by rw [runs, hr, List.append_assoc]⟩
theorem fld_len (u : BitVec 64) (z : Int) (s : List (BitVec 8)) : (fld u z s).length ≤ s.length + 42 := by
  have h1 := varint_len u
  have h2 := varint_len (zigB z)
  have h3 := varint_len (BitVec.ofNat 64 s.length)
  unfold fld wstr
  simp only [List.length_append, fixedL_len]
  omega
theorem runs_len (m : Nat) (h : ∀ i, i < L.length → (nth L i).length ≤ m) : ∀ n, n ≤ L.length → (runs U I L n).length ≤ n * (m + 42)
  | 0, _ => by simp [runs]
  | n + 1, hn => by
    have h1 := runs_len m h n (by omega)
    have h2 := fld_len (at64 U n) (atI I n) (nth L n)
    have h3 := h n (by omega)
    rw [runs, List.length_append, Nat.succ_mul]
    omega
theorem drop_front (a r : List (BitVec 8)) : (a ++ r).drop a.length = r := by simp
theorem drop_more {B a r : List (BitVec 8)} {p : Nat} (h : B.drop p = a ++ r) : B.drop (p + a.length) = r := by
  rw [← List.drop_drop, h, drop_front]
/-- What a reader meets, turn by turn. -/
theorem runs_reads {k n : Nat} (h : k < n) (hs : (nth L k).length ≤ 9223372036854775807) : ∃ p j1 j2 j5 : Nat, (runs U I L k).length = p ∧
    rv ((runs U I L n).drop p) = (at64 U k, j1, 0) ∧
    rv ((runs U I L n).drop (p + j1)) = (zigB (atI I k), j2, 0) ∧
    ((runs U I L n).drop (p + j1 + j2)).take 4 = fixedL (((at64 U k).setWidth 32).setWidth 64) 4 ∧
    ((runs U I L n).drop (p + j1 + j2 + 4)).take 8 = fixedL (at64 U k) 8 ∧
    rs ((runs U I L n).drop (p + j1 + j2 + 4 + 8)) (nth L k).length = (nth L k, j5, 0) ∧
    (runs U I L (k + 1)).length = p + j1 + j2 + 4 + 8 + j5 ∧ p + j1 + j2 + 4 + 8 + j5 ≤ (runs U I L n).length := by
  obtain ⟨r, hr⟩ := runs_front U I L (show k + 1 ≤ n from h)
  obtain ⟨B, hB⟩ : ∃ B, runs U I L n = B := ⟨_, rfl⟩
  rw [hB] at hr ⊢
  have h0 : B.drop (runs U I L k).length = varint (at64 U k) ++ (varint (zigB (atI I k)) ++ (fixedL (((at64 U k).setWidth 32).setWidth 64) 4 ++ (fixedL (at64 U k) 8 ++ (wstr (nth L k) ++ r)))) := by
    rw [hr, runs, List.append_assoc, drop_front]
    unfold fld
    simp only [List.append_assoc]
  have h1 := drop_more h0
  have h2 := drop_more h1
  have h3 := drop_more h2
  have h4 := drop_more h3
  rw [fixedL_len] at h3 h4
  rw [fixedL_len] at h4
  refine ⟨_, (varint (at64 U k)).length, (varint (zigB (atI I k))).length, (varint (BitVec.ofNat 64 (nth L k).length)).length + (nth L k).length, rfl, ?_, ?_, ?_, ?_, ?_, ?_, ?_⟩
  · rw [h0, rv_back]
  · rw [h1, rv_back]
  · rw [h2]; have := fixedL_len (((at64 U k).setWidth 32).setWidth 64) 4; rw [List.take_append_of_le_length (by omega), List.take_of_length_le (by omega)]
  · rw [h3]; have := fixedL_len (at64 U k) 8; rw [List.take_append_of_le_length (by omega), List.take_of_length_le (by omega)]
  · rw [h4, rs_back _ _ hs]
  · rw [runs, List.length_append]; unfold fld wstr; simp only [List.length_append, fixedL_len]; omega
  · rw [hr, List.length_append, runs, List.length_append]; unfold fld wstr; simp only [List.length_append, fixedL_len]; omega
end
end Go.Proofs.Ytggbhakkgbfneaa

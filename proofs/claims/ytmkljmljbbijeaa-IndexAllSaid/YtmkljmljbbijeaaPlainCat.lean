/- Catalogs, in plain words: which may be, where a record is, what rolling and cutting answer. -/
import Derived.Test.YtmkljmljbbijeaaBytes
namespace Go.Proofs.Ytmkljmljbbijeaa
open Go.RowKit

structure SegV where
  num : Int
  base : Int
  seed : BitVec 32
  end_ : Int
  size : Int
structure CatV where
  gen : Int
  first : Int
  segs : List SegV
def segZ : SegV := ⟨0, 0, 0#32, 0, 0⟩
def nthS (L : List SegV) (i : Nat) : SegV := L.getD i segZ
def sealedC (s : SegV) : Prop := 1 ≤ s.num ∧ 1 ≤ s.base ∧ s.base ≤ s.end_ ∧ 32 ≤ s.size ∧ s.size ≤ 2147483647
def openC (s : SegV) : Prop := 1 ≤ s.num ∧ 1 ≤ s.base ∧ s.end_ = 0 ∧ s.size = 0
/-- One segment and the one behind it. -/
def linkC (s t : SegV) : Prop := sealedC s ∧ s.num ≠ 9223372036854775807 ∧ t.num = s.num + 1 ∧ t.base = s.end_
/-- May a catalog be? -/
structure MayC (c : CatV) : Prop where
  gen : 1 ≤ c.gen
  first : 1 ≤ c.first
  some : 1 ≤ c.segs.length
  few : c.segs.length ≤ 64
  last : openC (nthS c.segs (c.segs.length - 1))
  link : ∀ i, i + 1 < c.segs.length → linkC (nthS c.segs i) (nthS c.segs (i + 1))
  low : (nthS c.segs 0).base ≤ c.first
  high : c.segs.length = 1 ∨ c.first ≤ (nthS c.segs 0).end_
/-- Bases rise. -/
theorem MayC.rise {c : CatV} (h : MayC c) : ∀ k i, i + k < c.segs.length → (nthS c.segs i).base ≤ (nthS c.segs (i + k)).base
  | 0, _, _ => Int.le_refl _
  | k + 1, i, hk => by
    have h1 := h.rise k i (by omega)
    obtain ⟨⟨_, _, h2, _⟩, _, _, h3⟩ := h.link (i + k) (by omega)
    rw [show i + (k + 1) = i + k + 1 by omega, h3]
    omega
theorem MayC.base_pos {c : CatV} (h : MayC c) (i : Nat) (hi : i < c.segs.length) : 1 ≤ (nthS c.segs i).base := by
  rcases Nat.lt_or_ge (i + 1) c.segs.length with h1 | h1
  · exact (h.link i h1).1.2.1
  · obtain rfl : i = c.segs.length - 1 := by omega
    exact h.last.2.1
/-- The last segment that begins at or ahead of a record. -/
def AtC (c : CatV) (lsn : Int) (i : Nat) : Prop := i < c.segs.length ∧ (nthS c.segs i).base ≤ lsn ∧ ∀ j, i < j → j < c.segs.length → lsn < (nthS c.segs j).base
theorem AtC.uniq {c : CatV} {lsn : Int} {i j : Nat} (h : AtC c lsn i) (k : AtC c lsn j) : i = j := by
  rcases Nat.lt_trichotomy i j with h1 | h1 | h1
  · have := h.2.2 j h1 k.1; have := k.2.1; omega
  · exact h1
  · have := k.2.2 i h1 h.1; have := h.2.1; omega
theorem MayC.at {c : CatV} (h : MayC c) {lsn : Int} (hl : c.first ≤ lsn) : ∃ i, AtC c lsn i := by
  have key : ∀ n, n ≤ c.segs.length → (∀ j, n ≤ j → j < c.segs.length → lsn < (nthS c.segs j).base) → 1 ≤ n → ∃ i, AtC c lsn i := by
    intro n
    induction n with
    | zero => intro _ _ h0; omega
    | succ n ih =>
      intro hn hj _
      by_cases hb : (nthS c.segs n).base ≤ lsn
      · exact ⟨n, by omega, hb, fun j h1 h2 => hj j (by omega) h2⟩
      · have h1 : 1 ≤ n := by
          rcases Nat.eq_zero_or_pos n with h0 | h0
          · subst h0; have := h.low; omega
          · exact h0
        exact ih (by omega) (fun j h2 h3 => by
          rcases Nat.lt_or_ge n j with h4 | h4
          · exact hj j (by omega) h3
          · obtain rfl : j = n := by omega
            omega) h1
  exact key c.segs.length (Nat.le_refl _) (fun j h1 h2 => by omega) h.some
end Go.Proofs.Ytmkljmljbbijeaa

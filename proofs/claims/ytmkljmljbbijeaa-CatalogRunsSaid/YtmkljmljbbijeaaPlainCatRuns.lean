/- A log that begins, rolls and is cut as it goes, in plain words. -/
import Derived.Test.YtmkljmljbbijeaaCatCut
namespace Go.Proofs.Ytmkljmljbbijeaa
open Go.RowKit

/-- A catalog that may be, its numbers not beyond these. -/
structure RunC (g f nn b : Int) (c : CatV) : Prop where
  may : MayC c
  gen : c.gen ≤ g
  first : c.first ≤ f
  num : (lastS c).num ≤ nn
  base : (lastS c).base ≤ b
theorem RunC.mono {g f nn b g' f' nn' b' : Int} {c : CatV} (h : RunC g f nn b c) (h1 : g ≤ g') (h2 : f ≤ f') (h3 : nn ≤ nn') (h4 : b ≤ b') : RunC g' f' nn' b' c :=
  ⟨h.may, by have := h.gen; omega, by have := h.first; omega, by have := h.num; omega, by have := h.base; omega⟩
theorem run_one {b : Int} (h : 1 ≤ b) : RunC 1 b 1 b ⟨1, b, [⟨1, b, 0#32, 0, 0⟩]⟩ :=
  ⟨⟨by show (1 : Int) ≤ 1; decide, h, by simp, by simp, ⟨by simp [nthS], by simpa [nthS] using h, by simp [nthS], by simp [nthS]⟩, fun i hi => absurd hi (by simp), by simp [nthS], .inl rfl⟩, by simp, by simp, by simp [lastS, nthS], by simp [lastS, nthS]⟩
theorem roll_len (c : CatV) (en size : Int) (seed : BitVec 32) : (rollC c en size seed).segs.length = c.segs.length + 1 := by simp [rollC, sealS]
theorem roll_new (c : CatV) (en size : Int) (seed : BitVec 32) : nthS (rollC c en size seed).segs c.segs.length = ⟨(lastS c).num + 1, en, seed, 0, 0⟩ := by
  have h : (sealS c.segs (c.segs.length - 1) en size).length = c.segs.length := sealS_length _ _ _ _
  unfold rollC nthS
  dsimp only
  rw [List.getD_eq_getElem?_getD, List.getElem?_append_right (by omega), h, Nat.sub_self]
  rfl
theorem roll_old {c : CatV} (h1 : 1 ≤ c.segs.length) (en size : Int) (seed : BitVec 32) : (nthS (rollC c en size seed).segs (c.segs.length - 1)).end_ = en := by
  have h : (sealS c.segs (c.segs.length - 1) en size).length = c.segs.length := sealS_length _ _ _ _
  have e : nthS (rollC c en size seed).segs (c.segs.length - 1) = nthS (sealS c.segs (c.segs.length - 1) en size) (c.segs.length - 1) := by
    unfold rollC nthS
    dsimp only
    rw [List.getD_eq_getElem?_getD, List.getElem?_append_left (by omega), ← List.getD_eq_getElem?_getD]
  rw [e, nthS_seal _ _ _ (by omega), if_pos rfl]
theorem roll_last (c : CatV) (en size : Int) (seed : BitVec 32) : lastS (rollC c en size seed) = ⟨(lastS c).num + 1, en, seed, 0, 0⟩ := by
  show nthS _ ((rollC c en size seed).segs.length - 1) = _
  rw [roll_len, Nat.add_sub_cancel, roll_new]
theorem RunC.roll {g f nn b b' : Int} {c r : CatV} {en size : Int} {seed : BitVec 32} (h : RunC g f nn b c) (hR : RollIs c en size seed r 0) (he : en ≤ b') :
    r = rollC c en size seed ∧ RunC (g + 1) f (nn + 1) b' (rollC c en size seed) := by
  rcases hR with ⟨-, -, h3⟩ | ⟨-, -, -, h4⟩ | ⟨-, -, -, -, h5⟩ | ⟨h1, h2, h3, h4, -⟩
  · exact absurd h3 (by decide)
  · exact absurd h4 (by decide)
  · exact absurd h5 (by decide)
  · refine ⟨h4, h3.2.2, ?_, h.first, ?_, ?_⟩
    · have := h.gen; show c.gen + 1 ≤ _; omega
    · rw [roll_last]; have := h.num; show (lastS c).num + 1 ≤ _; omega
    · rw [roll_last]; exact he
theorem nthS_drop (L : List SegV) (k i : Nat) : nthS (L.drop k) i = nthS L (k + i) := by simp [nthS]
theorem cut_last {c : CatV} {lsn : Int} {k : Nat} (h : k + 1 ≤ c.segs.length) : lastS (cutC c lsn k) = lastS c := by
  show nthS (c.segs.drop k) ((c.segs.drop k).length - 1) = nthS c.segs (c.segs.length - 1)
  rw [nthS_drop, List.length_drop]
  congr 1
  omega
theorem RunC.cut {g f nn b f' : Int} {c r : CatV} {nums : List Int} {lsn : Int} (h : RunC g f nn b c) (hC : CutIs c lsn r nums 0) (hl : lsn ≤ f') :
    ∃ k, CutK c lsn k ∧ r = cutC c lsn k ∧ nums = numsC c.segs k ∧ RunC (g + 1) f' nn b (cutC c lsn k) := by
  rcases hC with ⟨-, -, -, h4⟩ | ⟨k, -, -, -, -, -, h5⟩ | ⟨k, hk, -, h2, h3, h4, -⟩
  · exact absurd h4 (by decide)
  · exact absurd h5 (by decide)
  · refine ⟨k, hk, h3, h4, h2.2.2, ?_, hl, ?_, ?_⟩
    · have := h.gen; show c.gen + 1 ≤ _; omega
    · rw [cut_last hk.1]; exact h.num
    · rw [cut_last hk.1]; exact h.base
/-- Which are below. -/
theorem below_yes {c : CatV} {lsn : Int} {kk k : Nat} (h : MayC c) (hk : CutK c lsn kk) (hlt : k < kk) : (nthS c.segs k).end_ ≠ 0 ∧ (nthS c.segs k).end_ ≤ lsn ∧ 1 ≤ (nthS c.segs k).end_ := by
  have h1 := (h.link k (by have := hk.1; omega)).1
  have h2 := hk.2.1 k hlt
  have h3 := h1.2.1
  have h4 := h1.2.2.1
  omega
theorem below_no {c : CatV} {lsn : Int} {kk k : Nat} (h : MayC c) (hk : CutK c lsn kk) (hge : kk ≤ k) (hl : k < c.segs.length) : (nthS c.segs k).end_ = 0 ∨ lsn < (nthS c.segs k).end_ := by
  rcases Nat.lt_or_ge (k + 1) c.segs.length with h1 | h1
  · right
    have h2 := hk.2.2 (by omega)
    have h3 := (h.link k h1).1.2.2.1
    rcases Nat.lt_or_ge kk k with h4 | h4
    · have h5 := (h.link kk (by omega)).2.2.2
      have h6 := h.rise (k - (kk + 1)) (kk + 1) (by omega)
      rw [show kk + 1 + (k - (kk + 1)) = k by omega] at h6
      omega
    · obtain rfl : k = kk := by omega
      exact h2
  · left
    obtain rfl : k = c.segs.length - 1 := by omega
    exact h.last.2.2.1
theorem numsC_at {L : List SegV} {kk k : Nat} (hk : k < kk) (hl : k < L.length) : (numsC L kk).getD k 0 = (nthS L k).num := by
  simp [numsC, nthS, List.getD_eq_getElem?_getD, hk, hl]
/-- Numbers of the call's own are there. -/
theorem OwnI.there {w : World} {base : Nat} {v : Value} {l : List Int} (h : OwnI w base v l) : ∃ ao ca, v = .slice ao l.length ca ∧ ∀ i, i < l.length → ∃ g, ao = some ⟨g, 0, none⟩ ∧ base ≤ g ∧ g < w.heap.size ∧ w.cell? ⟨g, i, none⟩ = some (.int .i64 (l.getD i 0)) ∧ w.frozen? ⟨g, i, none⟩ = false := by
  rcases h.2 with ⟨rfl, h0⟩ | ⟨g, cap, cur, rfl, hb, hc, hle, -, hsz, htk⟩
  · exact ⟨none, 0, by rw [h0], fun i hi => absurd hi (by omega)⟩
  · refine ⟨some ⟨g, 0, none⟩, cap, rfl, fun i hi => ⟨g, rfl, hb, heap_lt hc, ?_, frozen_of_row _ _ _ _ _ hc⟩⟩
    have h1 : (cur.toList.take l.length)[i]? = (ints l)[i]? := by rw [← htk, Nat.mul_one]
    rw [List.getElem?_take, if_pos hi] at h1
    rw [cell_of_row _ _ _ _ _ _ hc, ← Array.getElem?_toList, h1]
    simp [ints, hi, List.getD_eq_getElem?_getD]
end Go.Proofs.Ytmkljmljbbijeaa

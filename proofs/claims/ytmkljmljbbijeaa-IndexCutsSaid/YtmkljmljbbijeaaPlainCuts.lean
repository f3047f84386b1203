/- An index that is told frames one by one: what is cut back is as if less had been told. -/
import Derived.Test.YtmkljmljbbijeaaIdxRef
import Derived.Test.YtmkljmljbbijeaaIdxArgs
namespace Go.Proofs.Ytmkljmljbbijeaa

open Classical in
noncomputable def addV (X : IdxV) (lsn off : Int) : IdxV := if LaidE X off then ⟨X.step, X.l ++ [⟨lsn, off⟩], true, ⟨lsn, off⟩⟩ else ⟨X.step, X.l, true, ⟨lsn, off⟩⟩
theorem AddIs.addV {X Y : IdxV} {lsn off : Int} (h : AddIs X lsn off Y 0) : Y = Go.Proofs.Ytmkljmljbbijeaa.addV X lsn off := by
  unfold Go.Proofs.Ytmkljmljbbijeaa.addV
  rcases h with ⟨-, -, h⟩ | ⟨-, -, -, h⟩ | ⟨-, -, h, rfl, -⟩ | ⟨-, -, h, rfl, -⟩
  · cases h
  · cases h
  · rw [if_pos h]
  · rw [if_neg h]
/-- An index that was told the first frames, from LSN 1 on. -/
noncomputable def toldV (step : Int) (f : Nat → Int) : Nat → IdxV
  | 0 => idx0 step
  | j + 1 => addV (toldV step f j) (1 + (j : Int)) (f j)
theorem addV_step (X : IdxV) (lsn off : Int) : (addV X lsn off).step = X.step := by unfold addV; split <;> rfl
theorem toldV_step (step : Int) (f : Nat → Int) : ∀ j, (toldV step f j).step = step
  | 0 => rfl
  | j + 1 => by rw [toldV, addV_step, toldV_step step f j]
theorem addV_told (X : IdxV) (lsn off : Int) : (addV X lsn off).told = true := by unfold addV; split <;> rfl
theorem addV_last (X : IdxV) (lsn off : Int) : (addV X lsn off).last = ⟨lsn, off⟩ := by unfold addV; split <;> rfl
theorem toldV_told (step : Int) (f : Nat → Int) (j : Nat) : (toldV step f (j + 1)).told = true := addV_told _ _ _
theorem toldV_last (step : Int) (f : Nat → Int) (j : Nat) : (toldV step f (j + 1)).last = ⟨1 + (j : Int), f j⟩ := addV_last _ _ _
/-- Each entry is a frame that was told. -/
theorem toldV_ent (step : Int) (f : Nat → Int) : ∀ (j t : Nat), t < (toldV step f j).l.length → ∃ i : Nat, i < j ∧ nthE (toldV step f j).l t = ⟨1 + (i : Int), f i⟩
  | 0, t, h => by simp [toldV, idx0] at h
  | j + 1, t, h => by
    rw [toldV] at h ⊢
    unfold addV at h ⊢
    split at h
    · rename_i hl
      rw [if_pos hl]
      dsimp only at h ⊢
      rw [List.length_append, List.length_singleton] at h
      rcases Nat.lt_or_ge t (toldV step f j).l.length with h1 | h1
      · obtain ⟨i, hi, e⟩ := toldV_ent step f j t h1
        exact ⟨i, by omega, by rw [nthE_left h1, e]⟩
      · obtain rfl : t = (toldV step f j).l.length := by omega
        exact ⟨j, by omega, nthE_last _ _⟩
    · rename_i hl
      rw [if_neg hl]
      obtain ⟨i, hi, e⟩ := toldV_ent step f j t h
      exact ⟨i, by omega, e⟩
/-- What was told first stays in front; what comes behind is of later frames. -/
theorem toldV_front (step : Int) (f : Nat → Int) (j : Nat) : ∀ m, (toldV step f j).l.length ≤ (toldV step f (j + m)).l.length ∧ (toldV step f (j + m)).l.take (toldV step f j).l.length = (toldV step f j).l ∧
    ∀ t, (toldV step f j).l.length ≤ t → t < (toldV step f (j + m)).l.length → 1 + (j : Int) ≤ (nthE (toldV step f (j + m)).l t).lsn
  | 0 => ⟨Nat.le_refl _, List.take_of_length_le (Nat.le_refl _), fun t h1 h2 => by rw [Nat.add_zero] at h2; omega⟩
  | m + 1 => by
    obtain ⟨h1, h2, h3⟩ := toldV_front step f j m
    rw [show j + (m + 1) = (j + m) + 1 by omega, toldV]
    unfold addV
    split
    · dsimp only
      refine ⟨by rw [List.length_append]; omega, by rw [List.take_append_of_le_length h1, h2], fun t h4 h5 => ?_⟩
      rw [List.length_append, List.length_singleton] at h5
      rcases Nat.lt_or_ge t (toldV step f (j + m)).l.length with h6 | h6
      · rw [nthE_left h6]; exact h3 t h4 h6
      · obtain rfl : t = (toldV step f (j + m)).l.length := by omega
        rw [nthE_last]
        dsimp only
        omega
    · exact ⟨h1, h2, h3⟩
/-- Cut back to the k first entries: as if told so far as the last of these. -/
theorem toldV_cut (step : Int) (f : Nat → Int) {N k : Nat} (hok : IdxOk (toldV step f N)) (hk : k ≤ (toldV step f N).l.length) : ∃ last : Nat, last ≤ N ∧ (k = 0 → last = 0) ∧ (1 ≤ k → 1 ≤ last ∧ (nthE (toldV step f N).l (k - 1)).lsn = (last : Int)) ∧ cutV (toldV step f N) k = toldV step f last := by
  rcases Nat.eq_zero_or_pos k with h0 | h0
  · subst h0
    refine ⟨0, Nat.zero_le _, fun _ => rfl, fun h => absurd h (by omega), ?_⟩
    unfold cutV
    rw [toldV_step]
    simp [toldV, idx0, lastE, nthE]
  · obtain ⟨i, hi, e⟩ := toldV_ent step f N (k - 1) (by omega)
    refine ⟨i + 1, by omega, fun h => absurd h (by omega), fun _ => ⟨by omega, by rw [e]; dsimp only; omega⟩, ?_⟩
    obtain ⟨m, hm⟩ : ∃ m, N = (i + 1) + m := ⟨N - (i + 1), by omega⟩
    obtain ⟨h1, h2, h3⟩ := toldV_front step f (i + 1) m
    rw [← hm] at h1 h2 h3
    have hlen : (toldV step f (i + 1)).l.length = k := by
      rcases Nat.lt_trichotomy (toldV step f (i + 1)).l.length k with h4 | h4 | h4
      · have := h3 (k - 1) (by omega) (by omega)
        rw [e] at this
        dsimp only at this
        omega
      · exact h4
      · obtain ⟨i2, hi2, e2⟩ := toldV_ent step f (i + 1) k h4
        have h5 : nthE (toldV step f (i + 1)).l k = nthE (toldV step f N).l k := by
          rw [← h2, nthE_take h4]
        have h6 := hok.lt 0 (k - 1) (by omega)
        rw [show k - 1 + 0 + 1 = k by omega, e, ← h5, e2] at h6
        dsimp only at h6
        omega
    rw [hlen] at h2
    have hl : lastE ((toldV step f N).l.take k) = ⟨1 + (i : Int), f i⟩ := by
      unfold lastE
      rw [List.length_take, Nat.min_eq_left hk, nthE_take (by omega), e]
    unfold cutV
    rw [hl, h2, toldV_step, show decide (0 < k) = true from decide_eq_true h0]
    have a := toldV_step step f (i + 1)
    have b := toldV_told step f i
    have c := toldV_last step f i
    generalize toldV step f (i + 1) = Z at a b c ⊢
    obtain ⟨z1, z2, z3, z4⟩ := Z
    dsimp only at a b c ⊢
    rw [a, b, c]
/-- A frame that follows is taken. -/
theorem add_fine {X Y : IdxV} {lsn off er : Int} (hl : X.told = true → X.last.lsn + 1 = lsn ∧ X.last.off < off) (h1 : 1 ≤ lsn) (h4 : lsn ≤ 9223372036854775807) (h2 : 0 ≤ off) (h3 : off ≤ 2147483647) (hA : AddIs X lsn off Y er) : er = 0 ∧ Y = addV X lsn off := by
  have hb : ¬ BadArg lsn off := by unfold BadArg; omega
  have ho : ¬ BadOrder X lsn off := fun hh => by
    have h5 := hl hh.1
    have h6 := hh.2
    omega
  have key : er = 0 := by
    rcases hA with ⟨h, -⟩ | ⟨-, h, -⟩ | ⟨-, -, -, -, h⟩ | ⟨-, -, -, -, h⟩
    · exact absurd h hb
    · exact absurd h ho
    · exact h
    · exact h
  subst key
  exact ⟨rfl, hA.addV⟩
/-- Where frames of these sizes stand, one behind the other. -/
def offC (at0 : Int) (S : List Nat) : Nat → Int
  | 0 => at0
  | i + 1 => offC at0 S i + 1 + (at16 S i : Int)
theorem offC_low (a : Int) (S : List Nat) : ∀ i, a + i ≤ offC a S i
  | 0 => by simp [offC]
  | i + 1 => by have := offC_low a S i; rw [offC]; omega
theorem offC_high (a : Int) (S : List Nat) : ∀ i, i ≤ S.length → (∀ j, j < S.length → at16 S j ≤ 65535) → offC a S i ≤ a + 65536 * i
  | 0, _, _ => by simp [offC]
  | i + 1, h, hs => by have := offC_high a S i (by omega) hs; have := hs i (by omega); rw [offC]; omega
end Go.Proofs.Ytmkljmljbbijeaa

/- What a catalog's reading read, written, is what was read. -/
import Derived.Test.YtmkljmljbbijeaaPlainCatBack
import Derived.Test.YtmkljmljbbijeaaPlainForth
namespace Go.Proofs.Ytmkljmljbbijeaa

theorem leN_one : ∀ {xs ys : List (BitVec 8)}, xs.length = ys.length → leN xs = leN ys → xs = ys
  | [], [], _, _ => rfl
  | [], _ :: _, h, _ => by simp at h
  | _ :: _, [], h, _ => by simp at h
  | a :: xs, b :: ys, h, e => by
    simp only [leN] at e
    have h1 := a.isLt
    have h2 := b.isLt
    have e1 : a.toNat = b.toNat := by omega
    rw [BitVec.eq_of_toNat_eq e1, leN_one (xs := xs) (ys := ys) (by simpa using h) (by omega)]
theorem fixed_forth {xs : List (BitVec 8)} (hl : xs.length = 4) {s : BitVec 32} (h : (leB xs).setWidth 32 = s) : fixedL (s.setWidth 64) 4 = xs := by
  refine leN_one (by rw [fixedL_len, hl]) ?_
  have h1 := leN_lt xs
  rw [hl] at h1
  have h2 := leB_lt (xs := xs) (by omega)
  have e : (256 : Nat) ^ 4 = 4294967296 := rfl
  subst h
  rw [leN_fixed, BitVec.toNat_setWidth, BitVec.toNat_setWidth, h2]
  omega
theorem ofInt_bv (v : BitVec 64) : BitVec.ofInt 64 (bv v) = v := by
  apply BitVec.eq_of_toNat_eq
  unfold bv
  rw [BitVec.toNat_ofInt]
  have := v.isLt
  omega
theorem stp_forth {most : BitVec 64} {s : RS} (h : (stp most s).2.2 = 0) : s.2 = 0 ∧ s.1 = numL (bv (stp most s).1) ++ (stp most s).2.1 := by
  unfold stp at *
  by_cases h1 : s.2 = 0
  · rw [if_pos h1] at h ⊢
    by_cases h2 : (rv s.1).2.2 = 0
    · rw [if_pos h2] at h ⊢
      by_cases h3 : bv (rv s.1).1 ≤ bv most
      · rw [if_pos h3] at h ⊢
        refine ⟨h1, ?_⟩
        obtain ⟨-, -, -, h4⟩ := rv_forth (bs := s.1) (x := (rv s.1).1) (k := (rv s.1).2.1) (by rw [← h2])
        show s.1 = numL (bv (rv s.1).1) ++ s.1.drop (rv s.1).2.1
        unfold numL
        rw [ofInt_bv, h4, List.take_append_drop]
      · rw [if_neg h3] at h; exact absurd h (by show ¬ (3 : Nat) = 0; decide)
    · rw [if_neg h2] at h; exact absurd h h2
  · rw [if_neg h1] at h; exact absurd h h1
theorem fx4_forth {s : RS} (h : (fx4 s).2.2 = 0) : s.2 = 0 ∧ s.1 = fixedL (((fx4 s).1.setWidth 32).setWidth 64) 4 ++ (fx4 s).2.1 := by
  unfold fx4 at *
  by_cases h1 : s.2 = 0
  · rw [if_pos h1] at h ⊢
    by_cases h2 : 4 ≤ s.1.length
    · rw [if_pos h2]
      refine ⟨h1, ?_⟩
      show s.1 = fixedL (((leB (s.1.take 4)).setWidth 32).setWidth 64) 4 ++ s.1.drop 4
      rw [fixed_forth (xs := s.1.take 4) (by rw [List.length_take]; omega) rfl, List.take_append_drop]
    · rw [if_neg h2] at h; exact absurd h (by show ¬ (2 : Nat) = 0; decide)
  · rw [if_neg h1] at h; exact absurd h h1
theorem segR_forth {s : RS} (h : (segR s).2.2 = 0) : s.2 = 0 ∧ s.1 = segB (segR s).1 ++ (segR s).2.1 := by
  obtain ⟨e5, f5⟩ := stp_forth (s := (stp topN (fx4 (stp topN (stp topN s).2).2).2).2) h
  obtain ⟨e4, f4⟩ := stp_forth e5
  obtain ⟨e3, f3⟩ := fx4_forth e4
  obtain ⟨e2, f2⟩ := stp_forth e3
  obtain ⟨e1, f1⟩ := stp_forth e2
  refine ⟨e1, ?_⟩
  show s.1 = (numL _ ++ numL _ ++ fixedL _ 4 ++ numL _ ++ numL _) ++ _
  rw [List.append_assoc, List.append_assoc, List.append_assoc, List.append_assoc]
  refine f1.trans (congrArg _ (f2.trans (congrArg _ (f3.trans (congrArg _ (f4.trans (congrArg _ f5)))))))
theorem segsR_forth : ∀ (n : Nat) {s : RS}, (segsR n s).2.2 = 0 → s.2 = 0 ∧ s.1 = (segsR n s).1.flatMap segB ++ (segsR n s).2.1
  | 0, s, h => ⟨h, rfl⟩
  | n + 1, s, h => by
    rw [segsR] at h ⊢
    obtain ⟨h1, h2⟩ := segsR_forth n (s := (segR s).2) h
    obtain ⟨h3, h4⟩ := segR_forth h1
    refine ⟨h3, ?_⟩
    show s.1 = ((segR s).1 :: (segsR n (segR s).2).1).flatMap segB ++ _
    rw [List.flatMap_cons, List.append_assoc]
    exact h4.trans (congrArg _ h2)
theorem endR_forth {g f : Int} {l : List SegV × RS} {c : CatV} (h : endR g f l = (c, 0)) : l.2.2 = 0 ∧ l.2.1 = [] ∧ MayC ⟨g, f, l.1⟩ ∧ c = ⟨g, f, l.1⟩ := by
  by_cases h1 : l.2.2 = 2
  · rw [endR_short h1] at h; injection h with _ h2; exact absurd h2 (by decide)
  · by_cases h2 : l.2.2 ≠ 0 ∨ l.2.1 ≠ [] ∨ ¬ MayC ⟨g, f, l.1⟩
    · rw [endR_bad h1 h2] at h; injection h with _ h3; exact absurd h3 (by decide)
    · have a : l.2.2 = 0 := Decidable.byContradiction fun h3 => h2 (.inl h3)
      have b : l.2.1 = [] := Decidable.byContradiction fun h3 => h2 (.inr (.inl h3))
      have m : MayC ⟨g, f, l.1⟩ := Classical.byContradiction fun h3 => h2 (.inr (.inr h3))
      rw [endR_ok a b m] at h
      injection h with h3 _
      exact ⟨a, b, m, h3.symm⟩
theorem bodyR_forth {P : List (BitVec 8)} {c : CatV} (h : bodyR P = (c, 0)) : MayC c ∧ OkC c ∧ P = numL c.gen ++ (numL c.first ++ (numL (c.segs.length : Nat) ++ c.segs.flatMap segB)) := by
  unfold bodyR at h
  obtain ⟨h1, h2, h3, rfl⟩ := endR_forth h
  obtain ⟨h4, h5⟩ := segsR_forth _ h1
  rw [h2, List.append_nil] at h5
  obtain ⟨h6, h7⟩ := stp_forth h4
  obtain ⟨h8, h9⟩ := stp_forth h6
  obtain ⟨-, h11⟩ := stp_forth h8
  refine ⟨h3, ⟨top_r64 (s := (P, 0)) rfl, top_r64 (s := (stp topN (P, 0)).2) rfl, segsR_ok _ _⟩, ?_⟩
  have hl : ((segsR (stp 64#64 (stp topN (stp topN (P, 0)).2).2).1.toNat (stp 64#64 (stp topN (stp topN (P, 0)).2).2).2).1.length : Int) = bv (stp 64#64 (stp topN (stp topN (P, 0)).2).2).1 := by
    rw [segsR_len]; rfl
  dsimp only at h11 ⊢
  rw [hl]
  exact h11.trans (congrArg _ (h9.trans (congrArg _ (h7.trans (congrArg _ h5)))))
theorem catR_forth {bs : List (BitVec 8)} {c : CatV} (h : catR bs = (c, 0)) : MayC c ∧ OkC c ∧ catB c = bs := by
  unfold catR at h
  by_cases h1 : bs.length < 8
  · rw [if_pos h1] at h; injection h with _ h2; exact absurd h2 (by decide)
  · rw [if_neg h1] at h
    by_cases h2 : bs.take 4 ≠ fcatL
    · rw [if_pos h2] at h; injection h with _ h3; exact absurd h3 (by decide)
    · rw [if_neg h2] at h
      have h2 : bs.take 4 = fcatL := Decidable.byContradiction h2
      by_cases h3 : (leB ((bs.drop (bs.length - 4)))).setWidth 32 ≠ Crc.sum (bs.take (bs.length - 4))
      · rw [if_pos h3] at h; injection h with _ h4; exact absurd h4 (by decide)
      · rw [if_neg h3] at h
        have h3 : (leB ((bs.drop (bs.length - 4)))).setWidth 32 = Crc.sum (bs.take (bs.length - 4)) := Decidable.byContradiction h3
        obtain ⟨hM, hO, hP⟩ := bodyR_forth h
        refine ⟨hM, hO, ?_⟩
        have hb : bareB c = bs.take (bs.length - 4) := by
          have e1 : bareB c = fcatL ++ (numL c.gen ++ (numL c.first ++ (numL (c.segs.length : Nat) ++ c.segs.flatMap segB))) := by unfold bareB preB; simp only [List.append_assoc]
          rw [e1, ← hP, ← h2, show bs.take 4 = (bs.take (bs.length - 4)).take 4 by rw [List.take_take, Nat.min_eq_left (by omega)], List.take_append_drop]
        unfold catB
        rw [hb, fixed_forth (xs := bs.drop (bs.length - 4)) (by rw [List.length_drop]; omega) h3, List.take_append_drop]
end Go.Proofs.Ytmkljmljbbijeaa

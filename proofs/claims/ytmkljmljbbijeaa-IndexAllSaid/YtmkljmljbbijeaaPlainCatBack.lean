/- What a catalog writes is read back. -/
import Derived.Test.YtmkljmljbbijeaaCatRd
import Derived.Test.YtmkljmljbbijeaaPlainForth
namespace Go.Proofs.Ytmkljmljbbijeaa

theorem bv_ofInt {x : Int} (h0 : 0 ≤ x) (h1 : x ≤ 9223372036854775807) : bv (BitVec.ofInt 64 x) = x := by
  unfold bv
  rw [BitVec.toNat_ofInt]
  have : ((2 ^ 64 : Nat) : Int) = 18446744073709551616 := rfl
  omega
theorem stp_num {x : Int} (h0 : 0 ≤ x) (h1 : x ≤ 9223372036854775807) (r : List (BitVec 8)) (most : BitVec 64) (hm : x ≤ bv most) : stp most (numL x ++ r, 0) = (BitVec.ofInt 64 x, (r, 0)) := by
  unfold stp numL
  simp only [rv_back, if_pos]
  rw [if_pos (by rw [bv_ofInt h0 h1]; exact hm), List.drop_left]
theorem top_val : bv topN = 9223372036854775807 := rfl
theorem stp_top {x : Int} (h0 : 0 ≤ x) (h1 : x ≤ 9223372036854775807) (r : List (BitVec 8)) : stp topN (numL x ++ r, 0) = (BitVec.ofInt 64 x, (r, 0)) := stp_num h0 h1 r topN h1
theorem fx4_fixed (s : BitVec 32) (r : List (BitVec 8)) : fx4 (fixedL (s.setWidth 64) 4 ++ r, 0) = (leB (fixedL (s.setWidth 64) 4), (r, 0)) := by
  unfold fx4
  have h4 : (fixedL (s.setWidth 64) 4).length = 4 := fixedL_len _ _
  simp only [if_pos]
  rw [if_pos (by rw [List.length_append, h4]; omega), List.take_left' h4, List.drop_left' h4]
/-- All numbers of a segment can be written. -/
structure SegW (s : SegV) : Prop where
  ok : SegOk s
  num : 0 ≤ s.num
  base : 0 ≤ s.base
  end_ : 0 ≤ s.end_
  size : 0 ≤ s.size
theorem segR_back {s : SegV} (h : SegW s) (r : List (BitVec 8)) : segR (segB s ++ r, 0) = (s, (r, 0)) := by
  have e1 := stp_top h.num h.ok.num.2 (numL s.base ++ (fixedL (s.seed.setWidth 64) 4 ++ (numL s.end_ ++ (numL s.size ++ r))))
  have e2 := stp_top h.base h.ok.base.2 (fixedL (s.seed.setWidth 64) 4 ++ (numL s.end_ ++ (numL s.size ++ r)))
  have e3 := fx4_fixed s.seed (numL s.end_ ++ (numL s.size ++ r))
  have e4 := stp_top h.end_ h.ok.end_.2 (numL s.size ++ r)
  have e5 := stp_top h.size h.ok.size.2 r
  have e0 : segB s ++ r = numL s.num ++ (numL s.base ++ (fixedL (s.seed.setWidth 64) 4 ++ (numL s.end_ ++ (numL s.size ++ r)))) := by
    unfold segB; simp only [List.append_assoc]
  unfold segR
  rw [e0]
  simp only [e1, e2, e3, e4, e5, leB_fixed32, bv_ofInt h.num h.ok.num.2, bv_ofInt h.base h.ok.base.2, bv_ofInt h.end_ h.ok.end_.2, bv_ofInt h.size h.ok.size.2]
theorem segsR_back : ∀ (L : List SegV) (r : List (BitVec 8)), (∀ s ∈ L, SegW s) → segsR L.length (L.flatMap segB ++ r, 0) = (L, (r, 0))
  | [], r, _ => rfl
  | s :: L, r, h => by
    rw [List.length_cons, segsR, List.flatMap_cons, List.append_assoc, segR_back (h s (by simp))]
    simp only [segsR_back L r (fun t ht => h t (by simp [ht]))]
theorem mem_nthS {L : List SegV} {s : SegV} (h : s ∈ L) : ∃ i, i < L.length ∧ nthS L i = s := by
  obtain ⟨i, hi, e⟩ := List.mem_iff_getElem.1 h
  exact ⟨i, hi, by simp [nthS, hi, e]⟩
theorem MayC.segW {c : CatV} (h : MayC c) (hok : OkC c) {i : Nat} (hi : i < c.segs.length) : SegW (nthS c.segs i) := by
  obtain ⟨h1, h2⟩ : 1 ≤ (nthS c.segs i).num ∧ 1 ≤ (nthS c.segs i).base := by
    rcases Nat.lt_or_ge (i + 1) c.segs.length with h3 | h3
    · exact ⟨(h.link i h3).1.1, (h.link i h3).1.2.1⟩
    · obtain rfl : i = c.segs.length - 1 := by omega
      exact ⟨h.last.1, h.last.2.1⟩
  refine ⟨hok.segs i hi, by omega, by omega, ?_, ?_⟩
  · rcases Nat.lt_or_ge (i + 1) c.segs.length with h3 | h3
    · have := (h.link i h3).1.2.2.1; omega
    · obtain rfl : i = c.segs.length - 1 := by omega
      have := h.last.2.2.1; omega
  · rcases Nat.lt_or_ge (i + 1) c.segs.length with h3 | h3
    · have := (h.link i h3).1.2.2.2.1; omega
    · obtain rfl : i = c.segs.length - 1 := by omega
      have := h.last.2.2.2; omega
theorem bodyR_back {c : CatV} (h : MayC c) (hok : OkC c) : bodyR (numL c.gen ++ (numL c.first ++ (numL (c.segs.length : Nat) ++ c.segs.flatMap segB))) = (c, 0) := by
  have hf := h.few
  have e1 := stp_top (by have := h.gen; omega) hok.gen.2 (numL c.first ++ (numL (c.segs.length : Nat) ++ c.segs.flatMap segB))
  have e2 := stp_top (by have := h.first; omega) hok.first.2 (numL (c.segs.length : Nat) ++ c.segs.flatMap segB)
  have e3 := stp_num (x := (c.segs.length : Nat)) (by omega) (by omega) (c.segs.flatMap segB) 64#64 (by have e : bv 64#64 = 64 := rfl; rw [e]; omega)
  have e4 := segsR_back c.segs [] (fun s hs => by obtain ⟨i, hi, rfl⟩ := mem_nthS hs; exact h.segW hok hi)
  rw [List.append_nil] at e4
  have e5 : (BitVec.ofInt 64 (c.segs.length : Nat)).toNat = c.segs.length := by
    have := bv_ofInt (x := (c.segs.length : Nat)) (by omega) (by omega)
    unfold bv at this; omega
  unfold bodyR
  simp only [e1, e2, e3, e5, e4, bv_ofInt (show (0 : Int) ≤ c.gen by have := h.gen; omega) hok.gen.2, bv_ofInt (show (0 : Int) ≤ c.first by have := h.first; omega) hok.first.2]
  exact endR_ok rfl rfl h
theorem catR_back {c : CatV} (h : MayC c) (hok : OkC c) : catR (catB c) = (c, 0) := by
  have h4 : (fixedL ((Crc.sum (bareB c)).setWidth 64) 4).length = 4 := fixedL_len _ _
  have hl : (catB c).length = (bareB c).length + 4 := by unfold catB; rw [List.length_append, h4]
  have hb : bareB c = fcatL ++ (numL c.gen ++ (numL c.first ++ (numL (c.segs.length : Nat) ++ c.segs.flatMap segB))) := by unfold bareB preB; simp only [List.append_assoc]
  have hb4 : 4 ≤ (bareB c).length := by rw [hb, List.length_append]; exact Nat.le_add_right 4 _
  have e1 : (catB c).take ((catB c).length - 4) = bareB c := by rw [hl, Nat.add_sub_cancel]; unfold catB; rw [List.take_left]
  have e2 : (catB c).drop ((catB c).length - 4) = fixedL ((Crc.sum (bareB c)).setWidth 64) 4 := by rw [hl, Nat.add_sub_cancel]; unfold catB; rw [List.drop_left]
  have e3 : (catB c).take 4 = fcatL := by
    unfold catB
    rw [hb, List.append_assoc]; rfl
  unfold catR
  rw [if_neg (by omega), if_neg (by rw [e3]; simp), e1, e2, leB_fixed32, if_neg (by simp)]
  have e4 : (bareB c).drop 4 = numL c.gen ++ (numL c.first ++ (numL (c.segs.length : Nat) ++ c.segs.flatMap segB)) := by rw [hb]; rfl
  rw [e4]
  exact bodyR_back h hok
theorem catB_len (c : CatV) (h : c.segs.length ≤ 64) : (catB c).length ≤ 3000 := by
  unfold catB bareB
  rw [List.length_append, List.length_append, fixedL_len]
  have := preB_len c
  have := flatB_len c.segs
  omega
end Go.Proofs.Ytmkljmljbbijeaa

/-! What a catalog's reading read, written, is what was read. -/
namespace Go.Proofs.Ytmkljmljbbijeaa

theorem leN_one : ∀ {xs ys : List (BitVec 8)}, xs.length = ys.length → leN xs = leN ys → xs = ys
  | [], [], _, _ => rfl
  | [], _ :: _, h, _ => by simp at h
  | _ :: _, [], h, _ => by simp at h
  | a :: xs, b :: ys, h, e => by
    simp only [leN] at e
    have h1 := a.isLt
    have h2 := b.isLt
    have e1 : a.toNat = b.toNat := by omega
    rw [BitVec.eq_of_toNat_eq e1, leN_one (xs := xs) (ys := ys) (by simpa using h) (by omega)]
theorem fixed_forth {xs : List (BitVec 8)} (hl : xs.length = 4) {s : BitVec 32} (h : (leB xs).setWidth 32 = s) : fixedL (s.setWidth 64) 4 = xs := by
  refine leN_one (by rw [fixedL_len, hl]) ?_
  have h1 := leN_lt xs
  rw [hl] at h1
  have h2 := leB_lt (xs := xs) (by omega)
  have e : (256 : Nat) ^ 4 = 4294967296 := rfl
  subst h
  rw [leN_fixed, BitVec.toNat_setWidth, BitVec.toNat_setWidth, h2]
  omega
theorem ofInt_bv (v : BitVec 64) : BitVec.ofInt 64 (bv v) = v := by
  apply BitVec.eq_of_toNat_eq
  unfold bv
  rw [BitVec.toNat_ofInt]
  have := v.isLt
  omega
theorem stp_forth {most : BitVec 64} {s : RS} (h : (stp most s).2.2 = 0) : s.2 = 0 ∧ s.1 = numL (bv (stp most s).1) ++ (stp most s).2.1 := by
  unfold stp at *
  by_cases h1 : s.2 = 0
  · rw [if_pos h1] at h ⊢
    by_cases h2 : (rv s.1).2.2 = 0
    · rw [if_pos h2] at h ⊢
      by_cases h3 : bv (rv s.1).1 ≤ bv most
      · rw [if_pos h3] at h ⊢
        refine ⟨h1, ?_⟩
        obtain ⟨-, -, -, h4⟩ := rv_forth (bs := s.1) (x := (rv s.1).1) (k := (rv s.1).2.1) (by rw [← h2])
        show s.1 = numL (bv (rv s.1).1) ++ s.1.drop (rv s.1).2.1
        unfold numL
        rw [ofInt_bv, h4, List.take_append_drop]
      · rw [if_neg h3] at h; exact absurd h (by show ¬ (3 : Nat) = 0; decide)
    · rw [if_neg h2] at h; exact absurd h h2
  · rw [if_neg h1] at h; exact absurd h h1
theorem fx4_forth {s : RS} (h : (fx4 s).2.2 = 0) : s.2 = 0 ∧ s.1 = fixedL (((fx4 s).1.setWidth 32).setWidth 64) 4 ++ (fx4 s).2.1 := by
  unfold fx4 at *
  by_cases h1 : s.2 = 0
  · rw [if_pos h1] at h ⊢
    by_cases h2 : 4 ≤ s.1.length
    · rw [if_pos h2]
      refine ⟨h1, ?_⟩
      show s.1 = fixedL (((leB (s.1.take 4)).setWidth 32).setWidth 64) 4 ++ s.1.drop 4
      rw [fixed_forth (xs := s.1.take 4) (by rw [List.length_take]; omega) rfl, List.take_append_drop]
    · rw [if_neg h2] at h; exact absurd h (by show ¬ (2 : Nat) = 0; decide)
  · rw [if_neg h1] at h; exact absurd h h1
theorem segR_forth {s : RS} (h : (segR s).2.2 = 0) : s.2 = 0 ∧ s.1 = segB (segR s).1 ++ (segR s).2.1 := by
  obtain ⟨e5, f5⟩ := stp_forth (s := (stp topN (fx4 (stp topN (stp topN s).2).2).2).2) h
  obtain ⟨e4, f4⟩ := stp_forth e5
  obtain ⟨e3, f3⟩ := fx4_forth e4
  obtain ⟨e2, f2⟩ := stp_forth e3
  obtain ⟨e1, f1⟩ := stp_forth e2
  refine ⟨e1, ?_⟩
  show s.1 = (numL _ ++ numL _ ++ fixedL _ 4 ++ numL _ ++ numL _) ++ _
  rw [List.append_assoc, List.append_assoc, List.append_assoc, List.append_assoc]
  refine f1.trans (congrArg _ (f2.trans (congrArg _ (f3.trans (congrArg _ (f4.trans (congrArg _ f5)))))))
theorem segsR_forth : ∀ (n : Nat) {s : RS}, (segsR n s).2.2 = 0 → s.2 = 0 ∧ s.1 = (segsR n s).1.flatMap segB ++ (segsR n s).2.1
  | 0, s, h => ⟨h, rfl⟩
  | n + 1, s, h => by
    rw [segsR] at h ⊢
    obtain ⟨h1, h2⟩ := segsR_forth n (s := (segR s).2) h
    obtain ⟨h3, h4⟩ := segR_forth h1
    refine ⟨h3, ?_⟩
    show s.1 = ((segR s).1 :: (segsR n (segR s).2).1).flatMap segB ++ _
    rw [List.flatMap_cons, List.append_assoc]
    exact h4.trans (congrArg _ h2)
theorem endR_forth {g f : Int} {l : List SegV × RS} {c : CatV} (h : endR g f l = (c, 0)) : l.2.2 = 0 ∧ l.2.1 = [] ∧ MayC ⟨g, f, l.1⟩ ∧ c = ⟨g, f, l.1⟩ := by
  by_cases h1 : l.2.2 = 2
  · rw [endR_short h1] at h; injection h with _ h2; exact absurd h2 (by decide)
  · by_cases h2 : l.2.2 ≠ 0 ∨ l.2.1 ≠ [] ∨ ¬ MayC ⟨g, f, l.1⟩
    · rw [endR_bad h1 h2] at h; injection h with _ h3; exact absurd h3 (by decide)
    · have a : l.2.2 = 0 := Decidable.byContradiction fun h3 => h2 (.inl h3)
      have b : l.2.1 = [] := Decidable.byContradiction fun h3 => h2 (.inr (.inl h3))
      have m : MayC ⟨g, f, l.1⟩ := Classical.byContradiction fun h3 => h2 (.inr (.inr h3))
      rw [endR_ok a b m] at h
      injection h with h3 _
      exact ⟨a, b, m, h3.symm⟩
theorem bodyR_forth {P : List (BitVec 8)} {c : CatV} (h : bodyR P = (c, 0)) : MayC c ∧ OkC c ∧ P = numL c.gen ++ (numL c.first ++ (numL (c.segs.length : Nat) ++ c.segs.flatMap segB)) := by
  unfold bodyR at h
  obtain ⟨h1, h2, h3, rfl⟩ := endR_forth h
  obtain ⟨h4, h5⟩ := segsR_forth _ h1
  rw [h2, List.append_nil] at h5
  obtain ⟨h6, h7⟩ := stp_forth h4
  obtain ⟨h8, h9⟩ := stp_forth h6
  obtain ⟨-, h11⟩ := stp_forth h8
  refine ⟨h3, ⟨top_r64 (s := (P, 0)) rfl, top_r64 (s := (stp topN (P, 0)).2) rfl, segsR_ok _ _⟩, ?_⟩
  have hl : ((segsR (stp 64#64 (stp topN (stp topN (P, 0)).2).2).1.toNat (stp 64#64 (stp topN (stp topN (P, 0)).2).2).2).1.length : Int) = bv (stp 64#64 (stp topN (stp topN (P, 0)).2).2).1 := by
    rw [segsR_len]; rfl
  dsimp only at h11 ⊢
  rw [hl]
  exact h11.trans (congrArg _ (h9.trans (congrArg _ (h7.trans (congrArg _ h5)))))
theorem catR_forth {bs : List (BitVec 8)} {c : CatV} (h : catR bs = (c, 0)) : MayC c ∧ OkC c ∧ catB c = bs := by
  unfold catR at h
  by_cases h1 : bs.length < 8
  · rw [if_pos h1] at h; injection h with _ h2; exact absurd h2 (by decide)
  · rw [if_neg h1] at h
    by_cases h2 : bs.take 4 ≠ fcatL
    · rw [if_pos h2] at h; injection h with _ h3; exact absurd h3 (by decide)
    · rw [if_neg h2] at h
      have h2 : bs.take 4 = fcatL := Decidable.byContradiction h2
      by_cases h3 : (leB ((bs.drop (bs.length - 4)))).setWidth 32 ≠ Crc.sum (bs.take (bs.length - 4))
      · rw [if_pos h3] at h; injection h with _ h4; exact absurd h4 (by decide)
      · rw [if_neg h3] at h
        have h3 : (leB ((bs.drop (bs.length - 4)))).setWidth 32 = Crc.sum (bs.take (bs.length - 4)) := Decidable.byContradiction h3
        obtain ⟨hM, hO, hP⟩ := bodyR_forth h
        refine ⟨hM, hO, ?_⟩
        have hb : bareB c = bs.take (bs.length - 4) := by
          have e1 : bareB c = fcatL ++ (numL c.gen ++ (numL c.first ++ (numL (c.segs.length : Nat) ++ c.segs.flatMap segB))) := by unfold bareB preB; simp only [List.append_assoc]
          rw [e1, ← hP, ← h2, show bs.take 4 = (bs.take (bs.length - 4)).take 4 by rw [List.take_take, Nat.min_eq_left (by omega)], List.take_append_drop]
        unfold catB
        rw [hb, fixed_forth (xs := bs.drop (bs.length - 4)) (by rw [List.length_drop]; omega) h3, List.take_append_drop]
end Go.Proofs.Ytmkljmljbbijeaa

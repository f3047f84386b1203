/- What a catalog writes is read back. -/
import Derived.Test.YtmkljmljbbijeaaCatRd
namespace Go.Proofs.Ytmkljmljbbijeaa

theorem bv_ofInt {x : Int} (h0 : 0 ≤ x) (h1 : x ≤ 9223372036854775807) : bv (BitVec.ofInt 64 x) = x := by
  unfold bv
  rw [BitVec.toNat_ofInt]
  have : ((2 ^ 64 : Nat) : Int) = 18446744073709551616 := rfl
  omega
theorem stp_num {x : Int} (h0 : 0 ≤ x) (h1 : x ≤ 9223372036854775807) (r : List (BitVec 8)) (most : BitVec 64) (hm : x ≤ bv most) : stp most (numL x ++ r, 0) = (BitVec.ofInt 64 x, (r, 0)) := by
  unfold stp numL
  simp only [rv_back, if_pos]
  rw [if_pos (by rw [bv_ofInt h0 h1]; exact hm), List.drop_left]
theorem top_val : bv topN = 9223372036854775807 := rfl
theorem stp_top {x : Int} (h0 : 0 ≤ x) (h1 : x ≤ 9223372036854775807) (r : List (BitVec 8)) : stp topN (numL x ++ r, 0) = (BitVec.ofInt 64 x, (r, 0)) := stp_num h0 h1 r topN h1
theorem fx4_fixed (s : BitVec 32) (r : List (BitVec 8)) : fx4 (fixedL (s.setWidth 64) 4 ++ r, 0) = (leB (fixedL (s.setWidth 64) 4), (r, 0)) := by
  unfold fx4
  have h4 : (fixedL (s.setWidth 64) 4).length = 4 := fixedL_len _ _
  simp only [if_pos]
  rw [if_pos (by rw [List.length_append, h4]; omega), List.take_left' h4, List.drop_left' h4]
/-- All numbers of a segment can be written. -/
structure SegW (s : SegV) : Prop where
  ok : SegOk s
  num : 0 ≤ s.num
  base : 0 ≤ s.base
  end_ : 0 ≤ s.end_
  size : 0 ≤ s.size
theorem segR_back {s : SegV} (h : SegW s) (r : List (BitVec 8)) : segR (segB s ++ r, 0) = (s, (r, 0)) := by
  have e1 := stp_top h.num h.ok.num.2 (numL s.base ++ (fixedL (s.seed.setWidth 64) 4 ++ (numL s.end_ ++ (numL s.size ++ r))))
  have e2 := stp_top h.base h.ok.base.2 (fixedL (s.seed.setWidth 64) 4 ++ (numL s.end_ ++ (numL s.size ++ r)))
  have e3 := fx4_fixed s.seed (numL s.end_ ++ (numL s.size ++ r))
  have e4 := stp_top h.end_ h.ok.end_.2 (numL s.size ++ r)
  have e5 := stp_top h.size h.ok.size.2 r
  have e0 : segB s ++ r = numL s.num ++ (numL s.base ++ (fixedL (s.seed.setWidth 64) 4 ++ (numL s.end_ ++ (numL s.size ++ r)))) := by
    unfold segB; simp only [List.append_assoc]
  unfold segR
  rw [e0]
  simp only [e1, e2, e3, e4, e5, leB_fixed32, bv_ofInt h.num h.ok.num.2, bv_ofInt h.base h.ok.base.2, bv_ofInt h.end_ h.ok.end_.2, bv_ofInt h.size h.ok.size.2]
theorem segsR_back : ∀ (L : List SegV) (r : List (BitVec 8)), (∀ s ∈ L, SegW s) → segsR L.length (L.flatMap segB ++ r, 0) = (L, (r, 0))
  | [], r, _ => rfl
  | s :: L, r, h => by
    rw [List.length_cons, segsR, List.flatMap_cons, List.append_assoc, segR_back (h s (by simp))]
    simp only [segsR_back L r (fun t ht => h t (by simp [ht]))]
theorem mem_nthS {L : List SegV} {s : SegV} (h : s ∈ L) : ∃ i, i < L.length ∧ nthS L i = s := by
  obtain ⟨i, hi, e⟩ := List.mem_iff_getElem.1 h
  exact ⟨i, hi, by simp [nthS, hi, e]⟩
theorem MayC.segW {c : CatV} (h : MayC c) (hok : OkC c) {i : Nat} (hi : i < c.segs.length) : SegW (nthS c.segs i) := by
  obtain ⟨h1, h2⟩ : 1 ≤ (nthS c.segs i).num ∧ 1 ≤ (nthS c.segs i).base := by
    rcases Nat.lt_or_ge (i + 1) c.segs.length with h3 | h3
    · exact ⟨(h.link i h3).1.1, (h.link i h3).1.2.1⟩
    · obtain rfl : i = c.segs.length - 1 := by omega
      exact ⟨h.last.1, h.last.2.1⟩
  refine ⟨hok.segs i hi, by omega, by omega, ?_, ?_⟩
  · rcases Nat.lt_or_ge (i + 1) c.segs.length with h3 | h3
    · have := (h.link i h3).1.2.2.1; omega
    · obtain rfl : i = c.segs.length - 1 := by omega
      have := h.last.2.2.1; omega
  · rcases Nat.lt_or_ge (i + 1) c.segs.length with h3 | h3
    · have := (h.link i h3).1.2.2.2.1; omega
    · obtain rfl : i = c.segs.length - 1 := by omega
      have := h.last.2.2.2; omega
theorem bodyR_back {c : CatV} (h : MayC c) (hok : OkC c) : bodyR (numL c.gen ++ (numL c.first ++ (numL (c.segs.length : Nat) ++ c.segs.flatMap segB))) = (c, 0) := by
  have hf := h.few
  have e1 := stp_top (by have := h.gen; omega) hok.gen.2 (numL c.first ++ (numL (c.segs.length : Nat) ++ c.segs.flatMap segB))
  have e2 := stp_top (by have := h.first; omega) hok.first.2 (numL (c.segs.length : Nat) ++ c.segs.flatMap segB)
  have e3 := stp_num (x := (c.segs.length : Nat)) (by omega) (by omega) (c.segs.flatMap segB) 64#64 (by have e : bv 64#64 = 64 := rfl; rw [e]; omega)
  have e4 := segsR_back c.segs [] (fun s hs => by obtain ⟨i, hi, rfl⟩ := mem_nthS hs; exact h.segW hok hi)
  rw [List.append_nil] at e4
  have e5 : (BitVec.ofInt 64 (c.segs.length : Nat)).toNat = c.segs.length := by
    have := bv_ofInt (x := (c.segs.length : Nat)) (by omega) (by omega)
    unfold bv at this; omega
  unfold bodyR
  simp only [e1, e2, e3, e5, e4, bv_ofInt (show (0 : Int) ≤ c.gen by have := h.gen; omega) hok.gen.2, bv_ofInt (show (0 : Int) ≤ c.first by have := h.first; omega) hok.first.2]
  exact endR_ok rfl rfl h
theorem catR_back {c : CatV} (h : MayC c) (hok : OkC c) : catR (catB c) = (c, 0) := by
  have h4 : (fixedL ((Crc.sum (bareB c)).setWidth 64) 4).length = 4 := fixedL_len _ _
  have hl : (catB c).length = (bareB c).length + 4 := by unfold catB; rw [List.length_append, h4]
  have hb : bareB c = fcatL ++ (numL c.gen ++ (numL c.first ++ (numL (c.segs.length : Nat) ++ c.segs.flatMap segB))) := by unfold bareB preB; simp only [List.append_assoc]
  have hb4 : 4 ≤ (bareB c).length := by rw [hb, List.length_append]; exact Nat.le_add_right 4 _
  have e1 : (catB c).take ((catB c).length - 4) = bareB c := by rw [hl, Nat.add_sub_cancel]; unfold catB; rw [List.take_left]
  have e2 : (catB c).drop ((catB c).length - 4) = fixedL ((Crc.sum (bareB c)).setWidth 64) 4 := by rw [hl, Nat.add_sub_cancel]; unfold catB; rw [List.drop_left]
  have e3 : (catB c).take 4 = fcatL := by
    unfold catB
    rw [hb, List.append_assoc]; rfl
  unfold catR
  rw [if_neg (by omega), if_neg (by rw [e3]; simp), e1, e2, leB_fixed32, if_neg (by simp)]
  have e4 : (bareB c).drop 4 = numL c.gen ++ (numL c.first ++ (numL (c.segs.length : Nat) ++ c.segs.flatMap segB)) := by rw [hb]; rfl
  rw [e4]
  exact bodyR_back h hok
theorem catB_len (c : CatV) (h : c.segs.length ≤ 64) : (catB c).length ≤ 3000 := by
  unfold catB bareB
  rw [List.length_append, List.length_append, fixedL_len]
  have := preB_len c
  have := flatB_len c.segs
  omega
end Go.Proofs.Ytmkljmljbbijeaa

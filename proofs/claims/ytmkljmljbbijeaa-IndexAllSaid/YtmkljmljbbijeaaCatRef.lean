/- The document's catalogs walked: May, At, Eq, Copy. -/
import Derived.Test.YtmkljmljbbijeaaCatAt
namespace Go.Proofs.Ytmkljmljbbijeaa
open Go.RowKit

theorem MayC.numk {c : CatV} (h : MayC c) {i : Nat} (hi : i < c.segs.length) : 1 ≤ (nthS c.segs i).num ∧ 1 ≤ (nthS c.segs i).base := by
  refine ⟨?_, h.base_pos i hi⟩
  rcases Nat.lt_or_ge (i + 1) c.segs.length with h1 | h1
  · exact (h.link i h1).1.1
  · obtain rfl : i = c.segs.length - 1 := by omega
    exact h.last.1
/-- What the document's loop has seen of a segment and the one behind it. -/
def linkR (s t : SegV) : Prop := s.base ≤ s.end_ ∧ 32 ≤ s.size ∧ s.size ≤ 2147483647 ∧ wrap64 (t.num - 1) = s.num ∧ t.base = s.end_
theorem wrap_pred {x y : Int} (hx : 1 ≤ x) (hr : x ≤ 9223372036854775807) (h : wrap64 (x - 1) = y) : y ≠ 9223372036854775807 ∧ x = y + 1 := by
  rw [show wrap64 (x - 1) = x - 1 by unfold wrap64; omega] at h
  omega
set_option maxRecDepth 100000 in
set_option maxHeartbeats 4000000 in
theorem ref_may_some (gen first : Int) (b off m ca : Nat) (L : List SegV) (w : World) (hL : L.length = m + 1) (hs : SegsAt w (some ⟨b, off, none⟩) L) (hc : m + 1 ≤ ca) (t : Bool) (ht : t = true ↔ MayC ⟨gen, first, L⟩) :
    Calls Try.prog 22 #[.agg #[.int .i64 gen, .int .i64 first, .slice (some ⟨b, off, none⟩) (m + 1) ca]] w fun e w' => e = .returned (.bool t) ∧ Below w.heap.size w w' := by
  obtain ⟨w1, hw1⟩ : ∃ w1, w.alloc (.cells #[.int .i64 gen, .int .i64 first, .slice (some ⟨b, off, none⟩) (m + 1) ca] 29) = w1 := ⟨_, rfl⟩
  have hb1 : Below w.heap.size w w1 := hw1 ▸ below_alloc w _
  have hn := heap_alloc_new w (.cells #[.int .i64 gen, .int .i64 first, .slice (some ⟨b, off, none⟩) (m + 1) ca] 29)
  rw [hw1] at hn
  have k0 := cell_of_row _ _ 0 _ _ _ hn
  have k1 := cell_of_row _ _ 1 _ _ _ hn
  have k2 := cell_of_row _ _ 2 _ _ _ hn
  have HS := Lib.hid (hs.below hb1)
  have HT := Lib.hid ht
  have HB1 := Lib.hid hb1
  have HL := Lib.hid hL
  clear hs ht hb1 hn hL
  go_enter Try.func22, Try.ntmps22
  by_cases h1 : 1 ≤ gen
  · by_cases h2 : 1 ≤ first
    · by_cases h3 : m < 64
      · go_wp2_with fail
        go_loopw [4, 5] (fun i _ wr => ∃ k : Nat, k ≤ m + 1 ∧ i = .int .i64 k ∧ Hid (Below w1.heap.size w1 wr) ∧ Hid (∀ j, j < k → 1 ≤ (nthS L j).num ∧ 1 ≤ (nthS L j).base) ∧ Hid (∀ j, j < k → j < m → linkR (nthS L j) (nthS L (j + 1))) ∧ Hid (m < k → (nthS L m).end_ = 0 ∧ (nthS L m).size = 0)) (fun i _ _ => m + 1 - (intOf i).toNat)
        case atStart => exact ⟨0, Nat.zero_le _, rfl, Lib.hid (Below.refl _ _), Lib.hid fun j hj => absurd hj (by omega), Lib.hid fun j hj => absurd hj (by omega), Lib.hid fun h => absurd h (by omega)⟩
        case round =>
          obtain ⟨k, hk, rfl, HW, HP, HK, HF⟩ := hrel
          have KW2 := cell_keep HW.out k2
          by_cases hk2 : k < m + 1
          · obtain ⟨ok, d0, d1, d2, d3, d4⟩ := (HS.out.below HW.out).get (i := k) (by have := HL.out; omega)
            have B1 := below_alloc wr (.cells #[.int .i64 (nthS L k).num, .int .i64 (nthS L k).base, .int .u32 (bv (nthS L k).seed), .int .i64 (nthS L k).end_, .int .i64 (nthS L k).size] 53)
            obtain ⟨f0, F1, F2, F3, F4⟩ := (seg_new wr (nthS L k) 53)
            obtain ⟨w4, hw4⟩ : ∃ w4, wr.alloc (.cells #[.int .i64 (nthS L k).num, .int .i64 (nthS L k).base, .int .u32 (bv (nthS L k).seed), .int .i64 (nthS L k).end_, .int .i64 (nthS L k).size] 53) = w4 := ⟨_, rfl⟩
            rw [hw4] at B1 f0 F1 F2 F3 F4
            have f1 : w4.cell? ⟨wr.heap.size, 1, none⟩ = _ := F1
            have f3 : w4.cell? ⟨wr.heap.size, 3, none⟩ = _ := F3
            have f4 : w4.cell? ⟨wr.heap.size, 4, none⟩ = _ := F4
            have KA2 := cell_keep B1 KW2
            have HB5 := Lib.hid (below_trans HB1.out (below_trans HW.out B1))
            have HW5 := Lib.hid (below_trans HW.out B1)
            have hS := (HS.out.below HW5.out)
            have ok1 := ok.num.1
            have ok2 := ok.num.2
            clear F1 F2 F3 F4 B1 ok
            by_cases q1 : 1 ≤ (nthS L k).num
            · by_cases q2 : 1 ≤ (nthS L k).base
              · by_cases hkm : k < m
                · have bk : ((k : Int) == (m : Int)) = false := beq_false_of_ne (by omega)
                  obtain ⟨oj, e0, e1, e2, e3, e4⟩ := hS.get (i := k + 1) (by have := HL.out; omega)
                  have oj := Lib.hid oj
                  obtain ⟨z, hz⟩ : ∃ z, wrap64 ((nthS L (k + 1)).num - 1) = z := ⟨_, rfl⟩
                  have HZ := Lib.hid hz
                  clear hS
                  have lk : Hid (MayC ⟨gen, first, L⟩ → linkC (nthS L k) (nthS L (k + 1))) := Lib.hid fun h => h.link k (by have := HL.out; dsimp only; omega)
                  by_cases q3 : (nthS L k).base ≤ (nthS L k).end_
                  · have t3 : decide ((nthS L k).end_ < (nthS L k).base) = false := decide_eq_false (by omega)
                    by_cases q4 : 32 ≤ (nthS L k).size
                    · have t4 : decide ((nthS L k).size < 32) = false := decide_eq_false (by omega)
                      by_cases q5 : (nthS L k).size ≤ 2147483647
                      · have t5 : decide (2147483647 < (nthS L k).size) = false := decide_eq_false (by omega)
                        have z1 : (k : Int) < (m : Int) := by omega
                        have z2 : (k : Int) + 1 < (m : Int) + 1 := by omega
                        by_cases q6 : z = (nthS L k).num
                        · have b6 : (z != (nthS L k).num) = false := by simp [q6]
                          have Q6 := Lib.hid q6
                          clear q6
                          by_cases q7 : (nthS L (k + 1)).base = (nthS L k).end_
                          · have b7 : ((nthS L (k + 1)).base != (nthS L k).end_) = false := by simp [q7]
                            have Q7 := Lib.hid q7
                            clear q7
                            have Q : Hid (linkR (nthS L k) (nthS L (k + 1))) := Lib.hid ⟨q3, q4, q5, HZ.out.trans Q6.out, Q7.out⟩
                            have QP : Hid (1 ≤ (nthS L k).num ∧ 1 ≤ (nthS L k).base) := Lib.hid ⟨q1, q2⟩
                            go_wp2_with fail
                            go_big_quiet (fail)
                            go_wp2_with fail
                            go_roundw
                            case rel =>
                              have R1 : ∀ j, j < k + 1 → 1 ≤ (nthS L j).num ∧ 1 ≤ (nthS L j).base := fun j hj => by
                                rcases Nat.lt_or_ge j k with h | h
                                · exact HP.out j h
                                · obtain rfl : j = k := by omega
                                  exact QP.out
                              have R2 : ∀ j, j < k + 1 → j < m → linkR (nthS L j) (nthS L (j + 1)) := fun j hj hjm => by
                                rcases Nat.lt_or_ge j k with h | h
                                · exact HK.out j h hjm
                                · obtain rfl : j = k := by omega
                                  exact Q.out
                              exact ⟨k + 1, by omega, by go_num, Lib.hid (below_trans HW5.out (below_drewN _ _)), Lib.hid R1, Lib.hid R2, Lib.hid fun h => absurd h (by omega)⟩
                            case measure => simp [intOf]; omega
                          · have b7 : ((nthS L (k + 1)).base != (nthS L k).end_) = true := by simp [q7]
                            have Q7 := Lib.hid q7
                            clear q7
                            go_wp2_with fail
                            go_big_quiet (fail)
                            go_wp2_with fail
                            go_ret
                            exact ⟨by rw [show t = false from Bool.eq_false_iff.2 fun h => by exact Q7.out (lk.out (HT.out.1 h)).2.2.2]; rfl, below_trans HB5.out (below_drewN _ _)⟩
                        · have b6 : (z != (nthS L k).num) = true := by simp [q6]
                          have Q6 := Lib.hid q6
                          clear q6
                          go_wp2_with fail
                          go_big_quiet (fail)
                          go_wp2_with fail
                          go_ret
                          exact ⟨by rw [show t = false from Bool.eq_false_iff.2 fun h => by have h5 := (lk.out (HT.out.1 h)).2.2.1; have h6 := oj.out.num; exact Q6.out (by rw [← HZ.out, h5]; unfold wrap64; omega)]; rfl, below_trans HB5.out (below_drewN _ _)⟩
                      · have Q5 := Lib.hid q5
                        have t5 : decide (2147483647 < (nthS L k).size) = true := decide_eq_true (by omega)
                        go_wp2_with fail
                        go_big_quiet (fail)
                        go_wp2_with fail
                        go_ret
                        exact ⟨by rw [show t = false from Bool.eq_false_iff.2 fun h => by have h5 := (lk.out (HT.out.1 h)).1; have := h5.2.2.2.2; have := Q5.out; omega]; rfl, below_trans HB5.out (below_drewN _ _)⟩
                    · have Q4 := Lib.hid q4
                      have t4 : decide ((nthS L k).size < 32) = true := decide_eq_true (by omega)
                      go_wp2_with fail
                      go_big_quiet (fail)
                      go_wp2_with fail
                      go_ret
                      exact ⟨by rw [show t = false from Bool.eq_false_iff.2 fun h => by have h5 := (lk.out (HT.out.1 h)).1; have := h5.2.2.2.1; have := Q4.out; omega]; rfl, below_trans HB5.out (below_drewN _ _)⟩
                  · have Q3 := Lib.hid q3
                    have t3 : decide ((nthS L k).end_ < (nthS L k).base) = true := decide_eq_true (by omega)
                    go_wp2_with fail
                    go_big_quiet (fail)
                    go_wp2_with fail
                    go_ret
                    exact ⟨by rw [show t = false from Bool.eq_false_iff.2 fun h => by have h5 := (lk.out (HT.out.1 h)).1; have := h5.2.2.1; have := Q3.out; omega]; rfl, below_trans HB5.out (below_drewN _ _)⟩
                · obtain rfl : k = m := by omega
                  have bk : ((k : Int) == (k : Int)) = true := by simp
                  clear hS
                  have lk : Hid (MayC ⟨gen, first, L⟩ → (nthS L k).end_ = 0 ∧ (nthS L k).size = 0) := Lib.hid fun h => by
                    have h5 := h.last
                    dsimp only at h5
                    rw [HL.out, Nat.add_sub_cancel] at h5
                    exact h5.2.2
                  by_cases q3 : (nthS L k).end_ = 0
                  · have b3 : ((nthS L k).end_ != 0) = false := by simp [q3]
                    have Q3 := Lib.hid q3
                    clear q3
                    by_cases q4 : (nthS L k).size = 0
                    · have b4 : ((nthS L k).size != 0) = false := by simp [q4]
                      have Q4 := Lib.hid q4
                      clear q4
                      have QP : Hid (1 ≤ (nthS L k).num ∧ 1 ≤ (nthS L k).base) := Lib.hid ⟨q1, q2⟩
                      go_wp2_with fail
                      go_roundw
                      case rel =>
                        have R1 : ∀ j, j < k + 1 → 1 ≤ (nthS L j).num ∧ 1 ≤ (nthS L j).base := fun j hj => by
                          rcases Nat.lt_or_ge j k with h | h
                          · exact HP.out j h
                          · obtain rfl : j = k := by omega
                            exact QP.out
                        exact ⟨k + 1, by omega, by go_num, HW5, Lib.hid R1, Lib.hid fun j hj hjm => HK.out j (by omega) hjm, Lib.hid fun _ => ⟨Q3.out, Q4.out⟩⟩
                      case measure => simp [intOf]
                    · have b4 : ((nthS L k).size != 0) = true := by simp [q4]
                      have Q4 := Lib.hid q4
                      clear q4
                      go_wp2_with fail
                      go_ret
                      exact ⟨by rw [show t = false from Bool.eq_false_iff.2 fun h => by exact Q4.out (lk.out (HT.out.1 h)).2]; rfl, HB5.out⟩
                  · have b3 : ((nthS L k).end_ != 0) = true := by simp [q3]
                    have Q3 := Lib.hid q3
                    clear q3
                    go_wp2_with fail
                    go_ret
                    exact ⟨by rw [show t = false from Bool.eq_false_iff.2 fun h => by exact Q3.out (lk.out (HT.out.1 h)).1]; rfl, HB5.out⟩
              · have Q2 := Lib.hid q2
                go_wp2_with fail
                go_ret
                exact ⟨by rw [show t = false from Bool.eq_false_iff.2 fun h => by have h5 := (HT.out.1 h).numk (i := k) (by have := HL.out; dsimp only; omega); have := Q2.out; dsimp only at h5; omega]; rfl, HB5.out⟩
            · have Q1 := Lib.hid q1
              go_wp2_with fail
              go_ret
              exact ⟨by rw [show t = false from Bool.eq_false_iff.2 fun h => by have h5 := (HT.out.1 h).numk (i := k) (by have := HL.out; dsimp only; omega); have := Q1.out; dsimp only at h5; omega]; rfl, HB5.out⟩
          · obtain rfl : k = m + 1 := by omega
            have KW0 := cell_keep HW.out k0
            have KW1 := cell_keep HW.out k1
            obtain ⟨ok, D0, D1, D2, D3, D4⟩ := (HS.out.below HW.out).get (i := 0) (by have := HL.out; omega)
            have d1 : wr.cell? ⟨b, off + 1, none⟩ = _ := D1
            have d3 : wr.cell? ⟨b, off + 3, none⟩ = _ := D3
            have HB5 := Lib.hid (below_trans HB1.out HW.out)
            have H1 := Lib.hid h1
            have H2 := Lib.hid h2
            have H3 := Lib.hid h3
            clear D0 D1 D2 D3 D4 ok hk
            have fin : Hid ((nthS L 0).base ≤ first → (L.length = 1 ∨ first ≤ (nthS L 0).end_) → MayC ⟨gen, first, L⟩) := Lib.hid fun a1 a2 => by
              have e := HL.out
              have l1 : ∀ i, i + 1 < L.length → linkC (nthS L i) (nthS L (i + 1)) := fun i hi => by
                obtain ⟨r1, r2, r3, r4, r5⟩ := HK.out i (by omega) (by omega)
                obtain ⟨p1, p2⟩ := HP.out i (by omega)
                obtain ⟨p3, p4⟩ := HP.out (i + 1) (by omega)
                obtain ⟨s1, s2⟩ := wrap_pred p3 (HS.out.get (i := i + 1) hi).1.num.2 r4
                exact ⟨⟨p1, p2, r1, r2, r3⟩, s1, s2, r5⟩
              have l2 : openC (nthS L m) := ⟨(HP.out m (by omega)).1, (HP.out m (by omega)).2, HF.out (by omega)⟩
              exact ⟨H1.out, H2.out, (by dsimp only; omega), (by have := H3.out; dsimp only; omega), (by dsimp only; rw [e, Nat.add_sub_cancel]; exact l2), l1, a1, a2⟩
            by_cases q1 : (nthS L 0).base ≤ first
            · have Q1 := Lib.hid q1
              have t1 : decide ((nthS L 0).base ≤ first) = true := decide_eq_true q1
              by_cases q2 : m = 0
              · have Q2 := Lib.hid q2
                have b2 : (((m : Int) + 1) == 1) = true := by simp [q2]
                have b2' : ((m : Int) == 0) = true := by simp [q2]
                clear q2 hk2
                go_wp2_with fail
                go_big_quiet (fail)
                go_wp2_with fail
                go_ret
                exact ⟨by rw [show t = true from HT.out.2 (fin.out Q1.out (.inl (by rw [HL.out, Q2.out])))]; rfl, below_trans HB5.out (below_drewN _ _)⟩
              · have Q2 := Lib.hid q2
                have b2 : (((m : Int) + 1) == 1) = false := beq_false_of_ne (by omega)
                have b2' : ((m : Int) == 0) = false := by simp [q2]
                clear q2 hk2
                by_cases q3 : first ≤ (nthS L 0).end_
                · have Q3 := Lib.hid q3
                  have t3 : decide (first ≤ (nthS L 0).end_) = true := decide_eq_true q3
                  go_wp2_with fail
                  go_big_quiet (fail)
                  go_wp2_with fail
                  go_ret
                  exact ⟨by rw [show t = true from HT.out.2 (fin.out Q1.out (.inr Q3.out))]; rfl, below_trans HB5.out (below_drewN _ _)⟩
                · have Q3 := Lib.hid q3
                  have t3 : decide (first ≤ (nthS L 0).end_) = false := decide_eq_false q3
                  go_wp2_with fail
                  go_big_quiet (fail)
                  go_wp2_with fail
                  go_ret
                  exact ⟨by rw [show t = false from Bool.eq_false_iff.2 fun h => by have h5 := (HT.out.1 h).high; have := Q2.out; have := Q3.out; have := HL.out; dsimp only at h5; omega]; rfl, below_trans HB5.out (below_drewN _ _)⟩
            · have Q1 := Lib.hid q1
              have t1 : decide ((nthS L 0).base ≤ first) = false := decide_eq_false q1
              go_wp2_with fail
              go_big_quiet (fail)
              go_wp2_with fail
              go_ret
              exact ⟨by rw [show t = false from Bool.eq_false_iff.2 fun h => by have h5 := (HT.out.1 h).low; have := Q1.out; dsimp only at h5; omega]; rfl, below_trans HB5.out (below_drewN _ _)⟩
      · have H3 := Lib.hid h3
        go_wp2_with fail
        go_ret
        exact ⟨by rw [show t = false from Bool.eq_false_iff.2 fun h => by have h5 := (HT.out.1 h).few; have h6 := HL.out; have := H3.out; dsimp only at h5; omega]; rfl, HB1.out⟩
    · have H2 := Lib.hid h2
      go_wp2_with fail
      go_ret
      exact ⟨by rw [show t = false from Bool.eq_false_iff.2 fun h => by have h5 := (HT.out.1 h).first; have := H2.out; dsimp only at h5; omega]; rfl, HB1.out⟩
  · have H1 := Lib.hid h1
    go_wp2_with fail
    go_ret
    exact ⟨by rw [show t = false from Bool.eq_false_iff.2 fun h => by have h5 := (HT.out.1 h).gen; have := H1.out; dsimp only at h5; omega]; rfl, HB1.out⟩
end Go.Proofs.Ytmkljmljbbijeaa

/-! The document's May and At of catalogs, whole. -/
namespace Go.Proofs.Ytmkljmljbbijeaa
open Go.RowKit

set_option maxRecDepth 100000 in
theorem ref_may_none (gen first : Int) (ao : Option Addr) (ca : Nat) (w : World) :
    Calls Try.prog 22 #[.agg #[.int .i64 gen, .int .i64 first, .slice ao 0 ca]] w fun e w' => e = .returned (.bool false) ∧ Below w.heap.size w w' := by
  have hb1 := below_alloc w (.cells #[.int .i64 gen, .int .i64 first, .slice ao 0 ca] 29)
  have hn := heap_alloc_new w (.cells #[.int .i64 gen, .int .i64 first, .slice ao 0 ca] 29)
  have k0 := cell_of_row _ _ 0 _ _ _ hn
  have k1 := cell_of_row _ _ 1 _ _ _ hn
  have k2 := cell_of_row _ _ 2 _ _ _ hn
  have HB1 := Lib.hid hb1
  clear hb1 hn
  go_enter Try.func22, Try.ntmps22
  by_cases h1 : 1 ≤ gen
  · by_cases h2 : 1 ≤ first
    · go_wp2_with fail
      go_ret
      exact ⟨rfl, HB1.out⟩
    · go_wp2_with fail
      go_ret
      exact ⟨rfl, HB1.out⟩
  · go_wp2_with fail
    go_ret
    exact ⟨rfl, HB1.out⟩
theorem ref_may (c : CatV) (v : Value) (w : World) (h : CatAt w v c) (t : Bool) (ht : t = true ↔ MayC c) :
    Calls Try.prog 22 #[v] w fun e w' => e = .returned (.bool t) ∧ Below w.heap.size w w' := by
  obtain ⟨ao, ca, rfl, hs, h1, h2, h3⟩ := h.shape
  obtain ⟨gen, first, L⟩ := c
  dsimp only at hs h1 ⊢
  match hL : L.length with
  | 0 =>
    obtain rfl : t = false := Bool.eq_false_iff.2 fun h => by have := (ht.1 h).some; dsimp only at this; omega
    exact ref_may_none gen first ao ca w
  | m + 1 =>
    obtain ⟨-, b, off, rfl, -⟩ := hs 0 (by omega)
    exact ref_may_some gen first b off m ca L w hL hs (by omega) t ht

set_option maxRecDepth 100000 in
set_option maxHeartbeats 2000000 in
theorem ref_at (gen first lsn : Int) (ao : Option Addr) (n ca : Nat) (L : List SegV) (w : World) (hn : L.length = n) (hA : CatAt w (.agg #[.int .i64 gen, .int .i64 first, .slice ao n ca]) ⟨gen, first, L⟩) :
    Calls Try.prog 20 #[.agg #[.int .i64 gen, .int .i64 first, .slice ao n ca], .int .i64 lsn] w fun e w' => ∃ (i : Nat) (ok : Bool), AtIs ⟨gen, first, L⟩ lsn i ok ∧ e = .returned (.tuple #[.int .i64 i, .bool ok]) ∧ Below w.heap.size w w' := by
  have b1 := below_alloc w (.cells #[.int .i64 gen, .int .i64 first, .slice ao n ca] 29)
  have hn1 := heap_alloc_new w (.cells #[.int .i64 gen, .int .i64 first, .slice ao n ca] 29)
  obtain ⟨w1, hw1⟩ : ∃ w1, w.alloc (.cells #[.int .i64 gen, .int .i64 first, .slice ao n ca] 29) = w1 := ⟨_, rfl⟩
  rw [hw1] at b1 hn1
  have k0 := cell_of_row _ _ 0 _ _ _ hn1
  have k1 := cell_of_row _ _ 1 _ _ _ hn1
  have k2 := cell_of_row _ _ 2 _ _ _ hn1
  have HB2 := Lib.hid b1
  have HA := Lib.hid (hA.below HB2.out)
  have HN := Lib.hid hn
  clear b1 hn1 hA hn
  go_enter Try.func20, Try.ntmps20
  obtain ⟨t, ht⟩ : ∃ t : Bool, t = true ↔ MayC ⟨gen, first, L⟩ := by
    by_cases h : MayC ⟨gen, first, L⟩
    · exact ⟨true, by simp [h]⟩
    · exact ⟨false, by simp [h]⟩
  have HT := Lib.hid ht
  clear ht
  go_wp2_with fail
  refine (ref_may _ _ w1 HA.out t HT.out).mono ?_
  rintro e w3 ⟨rfl, hb3⟩
  have K0 := cell_keep hb3 k0
  have K1 := cell_keep hb3 k1
  have K2 := cell_keep hb3 k2
  have HA3 := Lib.hid (HA.out.below hb3)
  have HB3 := Lib.hid (below_trans HB2.out hb3)
  clear hb3 k0 k1 k2 hw1
  cases t
  · go_wp2_with fail
    go_ret2
    exact ⟨0, false, .inr ⟨fun h => absurd (HT.out.2 h.1) (by simp), rfl, rfl⟩, rfl, HB3.out⟩
  · by_cases h1 : first ≤ lsn
    · have M := Lib.hid (HT.out.1 rfl)
      have H1 := Lib.hid h1
      obtain ⟨ao', ca', e1, hs, hle, hcm, -⟩ := HA3.out.shape
      injection e1 with e1
      simp only [Array.mk.injEq, List.cons.injEq, Value.slice.injEq, and_true, true_and] at e1
      obtain ⟨rfl, -, rfl⟩ := e1
      dsimp only at hs hle hcm
      have hn0 := M.out.some
      dsimp only at hn0
      have hz : n ≤ 140737488355328 := by have := HN.out; omega
      obtain ⟨-, b, off, rfl, -⟩ := hs 0 hn0
      have HS := Lib.hid hs
      clear hs hle hcm hn0
      go_wp2_with fail
      go_loopw [6, 7] (fun a i wr => ∃ x k : Nat, k ≤ n ∧ a = .int .i64 x ∧ i = .int .i64 k ∧ wr = w3 ∧ Hid ((0 < k → x < k ∧ (nthS L x).base ≤ lsn) ∧ (k = 0 → x = 0) ∧ ∀ j, x < j → j < k → lsn < (nthS L j).base)) (fun _ i _ => n - (intOf i).toNat)
      case atStart => exact ⟨0, 0, Nat.zero_le _, rfl, rfl, rfl, Lib.hid ⟨fun h => absurd h (by omega), fun _ => rfl, fun j h1 h2 => absurd h2 (by omega)⟩⟩
      case round =>
        obtain ⟨x, k, hk, rfl, rfl, rfl, HI⟩ := hrel
        by_cases hlt : k < n
        · obtain ⟨-, d0, d1, d2, d3, d4⟩ := HS.out.get (i := k) (by have := HN.out; omega)
          by_cases hb : (nthS L k).base ≤ lsn
          · have HQ := Lib.hid hb
            have t1 : decide ((nthS L k).base ≤ lsn) = true := decide_eq_true hb
            go_wp2_with fail
            go_roundw
            case rel => exact ⟨k, k + 1, by omega, rfl, by go_num, trivial, Lib.hid ⟨fun _ => ⟨by omega, HQ.out⟩, fun h => absurd h (by omega), fun j h1 h2 => absurd h2 (by omega)⟩⟩
            case measure => simp [intOf]; omega
          · have HQ := Lib.hid hb
            have t1 : decide ((nthS L k).base ≤ lsn) = false := decide_eq_false hb
            have hk0 : Hid (0 < k) := Lib.hid (by
              rcases Nat.eq_zero_or_pos k with h0 | h0
              · subst h0
                have h8 := M.out.low
                have h9 := H1.out
                dsimp only at h8
                exact absurd (Int.le_trans h8 h9) hb
              · exact h0)
            clear hb
            go_wp2_with fail
            go_roundw
            case rel => exact ⟨x, k + 1, by omega, rfl, by go_num, trivial, Lib.hid ⟨fun _ => by obtain ⟨i1, i2⟩ := HI.out.1 hk0.out; exact ⟨by omega, i2⟩, fun h => absurd h (by omega), fun j h1 h2 => by
              rcases Nat.lt_or_ge j k with h | h
              · exact HI.out.2.2 j h1 h
              · obtain rfl : j = k := by omega
                have := HQ.out
                omega⟩⟩
            case measure => simp [intOf]; omega
        · obtain rfl : k = n := by omega
          clear hlt hk
          go_wp2_with fail
          go_ret2
          have h0 := M.out.some
          obtain ⟨i1, i2⟩ := HI.out.1 (by have := HN.out; dsimp only at h0; omega)
          exact ⟨x, true, .inl ⟨M.out, H1.out, rfl, by have := HN.out; dsimp only; omega, i2, fun j h1 h2 => HI.out.2.2 j h1 (by have := HN.out; dsimp only at h2; omega)⟩, rfl, HB3.out⟩
    · have H1 := Lib.hid h1
      go_wp2_with fail
      go_ret2
      exact ⟨0, false, .inr ⟨fun h => by have := H1.out; have := h.2; dsimp only at this; omega, rfl, rfl⟩, rfl, HB3.out⟩
end Go.Proofs.Ytmkljmljbbijeaa

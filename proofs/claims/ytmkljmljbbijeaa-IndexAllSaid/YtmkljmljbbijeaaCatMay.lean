/- The walks of catalog.sealed and catalog.open. -/
import Derived.Test.YtmkljmljbbijeaaPlainCat
import Derived.BigQuiet
namespace Go.Proofs.Ytmkljmljbbijeaa
open Go.RowKit

def segVal (s : SegV) : Value := .agg #[.int .i64 s.num, .int .i64 s.base, .int .u32 (bv s.seed), .int .i64 s.end_, .int .i64 s.size]
instance (s : SegV) : Decidable (sealedC s) := by unfold sealedC; infer_instance
instance (s : SegV) : Decidable (openC s) := by unfold openC; infer_instance
set_option maxRecDepth 100000 in
theorem cat_open (s : SegV) (w : World) : Calls Try.prog 77 #[segVal s] w fun e w' => e = .returned (.bool (decide (openC s))) ∧ Below w.heap.size w w' := by
  obtain ⟨num, base, seed, en, size⟩ := s
  have bA := below_alloc w (.cells #[.int .i64 num, .int .i64 base, .int .u32 (bv seed), .int .i64 en, .int .i64 size] 53)
  have BA := Lib.hid bA
  have hn := heap_alloc_new w (.cells #[.int .i64 num, .int .i64 base, .int .u32 (bv seed), .int .i64 en, .int .i64 size] 53)
  have c0 := cell_of_row _ _ 0 _ _ _ hn
  have c1 := cell_of_row _ _ 1 _ _ _ hn
  have c3 := cell_of_row _ _ 3 _ _ _ hn
  have c4 := cell_of_row _ _ 4 _ _ _ hn
  clear bA hn
  obtain ⟨t, ht⟩ : ∃ t, decide (openC ⟨num, base, seed, en, size⟩) = t := ⟨_, rfl⟩
  rw [ht]
  have HT := Lib.hid ht
  clear ht
  unfold segVal
  dsimp only
  go_enter Try.func77, Try.ntmps77
  by_cases h1 : 1 ≤ num
  · by_cases h2 : 1 ≤ base
    · by_cases h3 : en = 0
      · by_cases h4 : size = 0
        · subst h3 h4
          go_wp2_with fail
          go_ret
          exact ⟨by rw [show t = true from by rw [← HT.out]; exact decide_eq_true (by unfold openC; dsimp only; omega)]; rfl, BA.out⟩
        · have b4 : (size == 0) = false := beq_false_of_ne h4
          subst h3
          go_wp2_with fail
          go_ret
          exact ⟨by rw [show t = false from by rw [← HT.out]; exact decide_eq_false (by unfold openC; dsimp only; omega)]; rfl, BA.out⟩
      · have b3 : (en == 0) = false := beq_false_of_ne h3
        go_wp2_with fail
        go_ret
        exact ⟨by rw [show t = false from by rw [← HT.out]; exact decide_eq_false (by unfold openC; dsimp only; omega)]; rfl, BA.out⟩
    · go_wp2_with fail
      go_ret
      exact ⟨by rw [show t = false from by rw [← HT.out]; exact decide_eq_false (by unfold openC; dsimp only; omega)]; rfl, BA.out⟩
  · go_wp2_with fail
    go_ret
    exact ⟨by rw [show t = false from by rw [← HT.out]; exact decide_eq_false (by unfold openC; dsimp only; omega)]; rfl, BA.out⟩
set_option maxRecDepth 100000 in
theorem cat_sealed (s : SegV) (w : World) : Calls Try.prog 78 #[segVal s] w fun e w' => e = .returned (.bool (decide (sealedC s))) ∧ Below w.heap.size w w' := by
  obtain ⟨num, base, seed, en, size⟩ := s
  have bA := below_alloc w (.cells #[.int .i64 num, .int .i64 base, .int .u32 (bv seed), .int .i64 en, .int .i64 size] 53)
  have BA := Lib.hid bA
  have hn := heap_alloc_new w (.cells #[.int .i64 num, .int .i64 base, .int .u32 (bv seed), .int .i64 en, .int .i64 size] 53)
  have c0 := cell_of_row _ _ 0 _ _ _ hn
  have c1 := cell_of_row _ _ 1 _ _ _ hn
  have c3 := cell_of_row _ _ 3 _ _ _ hn
  have c4 := cell_of_row _ _ 4 _ _ _ hn
  clear bA hn
  obtain ⟨t, ht⟩ : ∃ t, decide (sealedC ⟨num, base, seed, en, size⟩) = t := ⟨_, rfl⟩
  rw [ht]
  have HT := Lib.hid ht
  clear ht
  unfold segVal
  dsimp only
  go_enter Try.func78, Try.ntmps78
  by_cases h : 1 ≤ num ∧ 1 ≤ base ∧ base ≤ en ∧ 32 ≤ size ∧ size ≤ 2147483647
  · obtain ⟨h1, h2, h3, h4, h5⟩ := h
    go_wp2_with fail
    go_ret
    exact ⟨by rw [show t = true from by rw [← HT.out]; exact decide_eq_true (by unfold sealedC; dsimp only; omega)]; rfl, BA.out⟩
  · by_cases h1 : 1 ≤ num
    · by_cases h2 : 1 ≤ base
      · by_cases h3 : base ≤ en
        · by_cases h4 : 32 ≤ size
          · have h5 : ¬ size ≤ 2147483647 := by omega
            clear h
            go_wp2_with fail
            go_ret
            exact ⟨by rw [show t = false from by rw [← HT.out]; exact decide_eq_false (by unfold sealedC; dsimp only; omega)]; rfl, BA.out⟩
          · clear h
            go_wp2_with fail
            go_ret
            exact ⟨by rw [show t = false from by rw [← HT.out]; exact decide_eq_false (by unfold sealedC; dsimp only; omega)]; rfl, BA.out⟩
        · clear h
          go_wp2_with fail
          go_ret
          exact ⟨by rw [show t = false from by rw [← HT.out]; exact decide_eq_false (by unfold sealedC; dsimp only; omega)]; rfl, BA.out⟩
      · clear h
        go_wp2_with fail
        go_ret
        exact ⟨by rw [show t = false from by rw [← HT.out]; exact decide_eq_false (by unfold sealedC; dsimp only; omega)]; rfl, BA.out⟩
    · clear h
      go_wp2_with fail
      go_ret
      exact ⟨by rw [show t = false from by rw [← HT.out]; exact decide_eq_false (by unfold sealedC; dsimp only; omega)]; rfl, BA.out⟩
end Go.Proofs.Ytmkljmljbbijeaa

/-! Segments in memory; catalog.May walked. -/
namespace Go.Proofs.Ytmkljmljbbijeaa
open Go.RowKit

def R64 (x : Int) : Prop := -9223372036854775808 ≤ x ∧ x ≤ 9223372036854775807
structure SegOk (s : SegV) : Prop where
  num : R64 s.num
  base : R64 s.base
  end_ : R64 s.end_
  size : R64 s.size
/-- Five cells that hold a segment. -/
structure SegCells (w : World) (b o : Nat) (s : SegV) : Prop where
  c0 : w.cell? ⟨b, o, none⟩ = some (.int .i64 s.num)
  c1 : w.cell? ⟨b, o + 1, none⟩ = some (.int .i64 s.base)
  c2 : w.cell? ⟨b, o + 2, none⟩ = some (.int .u32 (bv s.seed))
  c3 : w.cell? ⟨b, o + 3, none⟩ = some (.int .i64 s.end_)
  c4 : w.cell? ⟨b, o + 4, none⟩ = some (.int .i64 s.size)
theorem SegCells.below {w w' : World} {b o : Nat} {s : SegV} (h : SegCells w b o s) (hb : Below w.heap.size w w') : SegCells w' b o s :=
  ⟨cell_keep hb h.c0, cell_keep hb h.c1, cell_keep hb h.c2, cell_keep hb h.c3, cell_keep hb h.c4⟩
def SegsAt (w : World) (ao : Option Addr) (L : List SegV) : Prop := ∀ i, i < L.length → SegOk (nthS L i) ∧ ∃ b off, ao = some ⟨b, off, none⟩ ∧ SegCells w b (off + i * 5) (nthS L i)
theorem SegsAt.below {w w' : World} {ao : Option Addr} {L : List SegV} (h : SegsAt w ao L) (hb : Below w.heap.size w w') : SegsAt w' ao L := fun i hi => by
  obtain ⟨hr, b, off, e, hc⟩ := h i hi
  exact ⟨hr, b, off, e, hc.below hb⟩
theorem SegsAt.get {w : World} {b off : Nat} {L : List SegV} (h : SegsAt w (some ⟨b, off, none⟩) L) {i : Nat} (hi : i < L.length) : SegOk (nthS L i) ∧ SegCells w b (off + i * 5) (nthS L i) := by
  obtain ⟨hr, b', off', e, hc⟩ := h i hi
  injection e with e
  injection e with e1 e2
  subst e1 e2
  exact ⟨hr, hc⟩
theorem seg_new (w : World) (s : SegV) (t : TypeId) : SegCells (w.alloc (.cells #[.int .i64 s.num, .int .i64 s.base, .int .u32 (bv s.seed), .int .i64 s.end_, .int .i64 s.size] t)) w.heap.size 0 s := by
  have h := heap_alloc_new w (.cells #[.int .i64 s.num, .int .i64 s.base, .int .u32 (bv s.seed), .int .i64 s.end_, .int .i64 s.size] t)
  exact ⟨cell_of_row _ _ 0 _ _ _ h, cell_of_row _ _ 1 _ _ _ h, cell_of_row _ _ 2 _ _ _ h, cell_of_row _ _ 3 _ _ _ h, cell_of_row _ _ 4 _ _ _ h⟩

set_option maxRecDepth 100000 in
set_option maxHeartbeats 2000000 in
/-- May, of segments that are there. -/
theorem cat_may_some (gen first : Int) (b off m ca : Nat) (L : List SegV) (w : World) (hL : L.length = m + 1) (hs : SegsAt w (some ⟨b, off, none⟩) L) (hc : m + 1 ≤ ca) (hm : m + 1 ≤ 140737488355328) (t : Bool) (ht : t = true ↔ MayC ⟨gen, first, L⟩) :
    Calls Try.prog 21 #[.agg #[.int .i64 gen, .int .i64 first, .slice (some ⟨b, off, none⟩) (m + 1) ca]] w fun e w' => e = .returned (.bool t) ∧ Below w.heap.size w w' := by
  obtain ⟨w1, hw1⟩ : ∃ w1, w.alloc (.cells #[.int .i64 gen, .int .i64 first, .slice (some ⟨b, off, none⟩) (m + 1) ca] 29) = w1 := ⟨_, rfl⟩
  have hb1 : Below w.heap.size w w1 := hw1 ▸ below_alloc w _
  have hn := heap_alloc_new w (.cells #[.int .i64 gen, .int .i64 first, .slice (some ⟨b, off, none⟩) (m + 1) ca] 29)
  rw [hw1] at hn
  have k0 := cell_of_row _ _ 0 _ _ _ hn
  have k1 := cell_of_row _ _ 1 _ _ _ hn
  have k2 := cell_of_row _ _ 2 _ _ _ hn
  have HS := Lib.hid (hs.below hb1)
  have HT := Lib.hid ht
  have HB1 := Lib.hid hb1
  have HL := Lib.hid hL
  obtain ⟨ol, d0, d1, d2, d3, d4⟩ := HS.out.get (i := m) (by omega)
  clear hs ht hb1 hn hL
  go_enter Try.func21, Try.ntmps21
  by_cases h1 : 1 ≤ gen
  · by_cases h2 : 1 ≤ first
    · by_cases h3 : m < 64
      · go_wp2_with fail
        refine (cat_open (nthS L m) w1).mono ?_
        rintro e w2 ⟨rfl, hb2⟩
        by_cases h4 : openC (nthS L m)
        · rw [decide_eq_true h4]
          have K0 := cell_keep hb2 k0
          have K1 := cell_keep hb2 k1
          have K2 := cell_keep hb2 k2
          have HS2 := Lib.hid (HS.out.below hb2)
          have HB2 := Lib.hid (below_trans HB1.out hb2)
          clear d0 d1 d2 d3 d4 ol k0 k1 k2 hb2 hw1
          go_wp2_with fail
          go_loopw [42, 4, 5, 6] (fun i _ _ _ wr => ∃ k : Nat, k ≤ m ∧ i = .int .i64 k ∧ Hid (Below w2.heap.size w2 wr) ∧ Hid (∀ j, j < k → linkC (nthS L j) (nthS L (j + 1)))) (fun i _ _ _ _ => m - (intOf i).toNat)
          case atStart => exact ⟨0, Nat.zero_le _, rfl, Lib.hid (Below.refl _ _), Lib.hid fun j hj => absurd hj (by omega)⟩
          case round =>
            obtain ⟨k, hk, rfl, HW, HK⟩ := hrel
            by_cases hk2 : k < m
            · have B1 := below_alloc wr (.cells #[.int .i64 (nthS L k).num, .int .i64 (nthS L k).base, .int .u32 (bv (nthS L k).seed), .int .i64 (nthS L k).end_, .int .i64 (nthS L k).size] 53)
              have B2 := below_alloc (wr.alloc (.cells #[.int .i64 (nthS L k).num, .int .i64 (nthS L k).base, .int .u32 (bv (nthS L k).seed), .int .i64 (nthS L k).end_, .int .i64 (nthS L k).size] 53)) (.cells #[.int .i64 (nthS L (k + 1)).num, .int .i64 (nthS L (k + 1)).base, .int .u32 (bv (nthS L (k + 1)).seed), .int .i64 (nthS L (k + 1)).end_, .int .i64 (nthS L (k + 1)).size] 53)
              have e1 : (wr.alloc (.cells #[.int .i64 (nthS L k).num, .int .i64 (nthS L k).base, .int .u32 (bv (nthS L k).seed), .int .i64 (nthS L k).end_, .int .i64 (nthS L k).size] 53)).heap.size = wr.heap.size + 1 := by simp
              have S1 := (seg_new wr (nthS L k) 53)
              have S2 := (seg_new (wr.alloc (.cells #[.int .i64 (nthS L k).num, .int .i64 (nthS L k).base, .int .u32 (bv (nthS L k).seed), .int .i64 (nthS L k).end_, .int .i64 (nthS L k).size] 53)) (nthS L (k + 1)) 53)
              rw [e1] at S2
              have KW := cell_keep HW.out K2
              have KA := cell_keep B1 KW
              obtain ⟨ok, d0, d1, d2, d3, d4⟩ := (HS2.out.below HW.out).get (i := k) (by have := HL.out; omega)
              obtain ⟨oj, E⟩ := (HS2.out.below HW.out).get (i := k + 1) (by have := HL.out; omega)
              obtain ⟨E0, E1, E2, E3, E4⟩ := E.below B1
              have S1B := S1.below B2
              obtain ⟨F0, F1, F2, F3, F4⟩ := S1B
              have f0 : ((wr.alloc (.cells #[.int .i64 (nthS L k).num, .int .i64 (nthS L k).base, .int .u32 (bv (nthS L k).seed), .int .i64 (nthS L k).end_, .int .i64 (nthS L k).size] 53)).alloc (.cells #[.int .i64 (nthS L (k + 1)).num, .int .i64 (nthS L (k + 1)).base, .int .u32 (bv (nthS L (k + 1)).seed), .int .i64 (nthS L (k + 1)).end_, .int .i64 (nthS L (k + 1)).size] 53)).cell? ⟨wr.heap.size, 0, none⟩ = _ := F0
              have f1 : ((wr.alloc (.cells #[.int .i64 (nthS L k).num, .int .i64 (nthS L k).base, .int .u32 (bv (nthS L k).seed), .int .i64 (nthS L k).end_, .int .i64 (nthS L k).size] 53)).alloc (.cells #[.int .i64 (nthS L (k + 1)).num, .int .i64 (nthS L (k + 1)).base, .int .u32 (bv (nthS L (k + 1)).seed), .int .i64 (nthS L (k + 1)).end_, .int .i64 (nthS L (k + 1)).size] 53)).cell? ⟨wr.heap.size, 1, none⟩ = _ := F1
              have f2 : ((wr.alloc (.cells #[.int .i64 (nthS L k).num, .int .i64 (nthS L k).base, .int .u32 (bv (nthS L k).seed), .int .i64 (nthS L k).end_, .int .i64 (nthS L k).size] 53)).alloc (.cells #[.int .i64 (nthS L (k + 1)).num, .int .i64 (nthS L (k + 1)).base, .int .u32 (bv (nthS L (k + 1)).seed), .int .i64 (nthS L (k + 1)).end_, .int .i64 (nthS L (k + 1)).size] 53)).cell? ⟨wr.heap.size, 2, none⟩ = _ := F2
              have f3 : ((wr.alloc (.cells #[.int .i64 (nthS L k).num, .int .i64 (nthS L k).base, .int .u32 (bv (nthS L k).seed), .int .i64 (nthS L k).end_, .int .i64 (nthS L k).size] 53)).alloc (.cells #[.int .i64 (nthS L (k + 1)).num, .int .i64 (nthS L (k + 1)).base, .int .u32 (bv (nthS L (k + 1)).seed), .int .i64 (nthS L (k + 1)).end_, .int .i64 (nthS L (k + 1)).size] 53)).cell? ⟨wr.heap.size, 3, none⟩ = _ := F3
              have f4 : ((wr.alloc (.cells #[.int .i64 (nthS L k).num, .int .i64 (nthS L k).base, .int .u32 (bv (nthS L k).seed), .int .i64 (nthS L k).end_, .int .i64 (nthS L k).size] 53)).alloc (.cells #[.int .i64 (nthS L (k + 1)).num, .int .i64 (nthS L (k + 1)).base, .int .u32 (bv (nthS L (k + 1)).seed), .int .i64 (nthS L (k + 1)).end_, .int .i64 (nthS L (k + 1)).size] 53)).cell? ⟨wr.heap.size, 4, none⟩ = _ := F4
              have HX := Lib.hid (below_trans B1 B2)
              have HS2' := Lib.hid S2
              have HE := Lib.hid E
              have HO := Lib.hid ok
              have HO2 := Lib.hid oj
              clear B1 B2 e1 S1 S2 KW F0 F1 F2 F3 F4 E ok oj
              go_wp2_with fail
              refine (cat_sealed (nthS L k) _).mono ?_
              rintro e w5 ⟨rfl, hb5⟩
              have HB5 := Lib.hid (below_trans HB2.out (below_trans HW.out (below_trans HX.out hb5)))
              have HW5 := Lib.hid (below_trans HW.out (below_trans HX.out hb5))
              have g0 := cell_keep hb5 f0
              have g1 := cell_keep hb5 f1
              have g2 := cell_keep hb5 f2
              have g3 := cell_keep hb5 f3
              have g4 := cell_keep hb5 f4
              have G := (HS2'.out.below hb5)
              have j0 : w5.cell? ⟨wr.heap.size + 1, 0, none⟩ = _ := G.c0
              have j1 : w5.cell? ⟨wr.heap.size + 1, 1, none⟩ = _ := G.c1
              have hx := HO.out
              obtain ⟨⟨r1, r2⟩, -, -, -⟩ := hx
              clear hb5 f0 f1 f2 f3 f4 G KA d0 d1 d2 d3 d4 E0 E1 E2 E3 E4
              by_cases q1 : sealedC (nthS L k)
              · rw [decide_eq_true q1]
                by_cases q2 : (nthS L k).num = 9223372036854775807
                · have Q2 := Lib.hid q2
                  have b2 : ((nthS L k).num == 9223372036854775807) = true := by simp [q2]
                  clear q2
                  go_wp2_with fail
                  go_ret
                  exact ⟨by rw [show t = false from Bool.eq_false_iff.2 fun h => by have h5 := (HT.out.1 h).link k (by have := HL.out; dsimp only; omega); exact absurd Q2.out h5.2.1]; rfl, HB5.out⟩
                · have b2 : ((nthS L k).num == 9223372036854775807) = false := by simp [q2]
                  have r3 : (nthS L k).num < 9223372036854775807 := by omega
                  by_cases q3 : (nthS L (k + 1)).num = (nthS L k).num + 1
                  · have b3 : ((nthS L (k + 1)).num != (nthS L k).num + 1) = false := by simp [q3]
                    have Q3 := Lib.hid q3
                    clear q3
                    by_cases q4 : (nthS L (k + 1)).base = (nthS L k).end_
                    · have b4 : ((nthS L (k + 1)).base != (nthS L k).end_) = false := by simp [q4]
                      have Q := Lib.hid (show linkC (nthS L k) (nthS L (k + 1)) from ⟨q1, q2, Q3.out, q4⟩)
                      clear q4 q2
                      go_wp2_with fail
                      go_roundw
                      case rel => exact ⟨k + 1, by omega, by go_num, HW5, Lib.hid fun j hj => by
                        rcases Nat.lt_or_ge j k with h | h
                        · exact HK.out j h
                        · obtain rfl : j = k := by omega
                          exact Q.out⟩
                      case measure => simp [intOf]; omega
                    · have b4 : ((nthS L (k + 1)).base != (nthS L k).end_) = true := by simp [q4]
                      have Q4 := Lib.hid q4
                      clear q4
                      go_wp2_with fail
                      go_ret
                      exact ⟨by rw [show t = false from Bool.eq_false_iff.2 fun h => by have h5 := (HT.out.1 h).link k (by have := HL.out; dsimp only; omega); exact absurd h5.2.2.2 Q4.out]; rfl, HB5.out⟩
                  · have b3 : ((nthS L (k + 1)).num != (nthS L k).num + 1) = true := by simp [q3]
                    have Q3 := Lib.hid q3
                    clear q3
                    go_wp2_with fail
                    go_ret
                    exact ⟨by rw [show t = false from Bool.eq_false_iff.2 fun h => by have h5 := (HT.out.1 h).link k (by have := HL.out; dsimp only; omega); exact absurd h5.2.2.1 Q3.out]; rfl, HB5.out⟩
              · rw [decide_eq_false q1]
                have Q1 := Lib.hid q1
                clear q1
                go_wp2_with fail
                go_ret
                exact ⟨by rw [show t = false from Bool.eq_false_iff.2 fun h => by have h5 := (HT.out.1 h).link k (by have := HL.out; dsimp only; omega); exact absurd h5.1 Q1.out]; rfl, HB5.out⟩
            · obtain rfl : k = m := by omega
              have KW0 := cell_keep HW.out K0
              have KW1 := cell_keep HW.out K1
              have KW2 := cell_keep HW.out K2
              obtain ⟨ok, D0, D1, D2, D3, D4⟩ := (HS2.out.below HW.out).get (i := 0) (by have := HL.out; omega)
              have d0 : wr.cell? ⟨b, off, none⟩ = _ := D0
              have d1 : wr.cell? ⟨b, off + 1, none⟩ = _ := D1
              have d2 : wr.cell? ⟨b, off + 2, none⟩ = _ := D2
              have d3 : wr.cell? ⟨b, off + 3, none⟩ = _ := D3
              have d4 : wr.cell? ⟨b, off + 4, none⟩ = _ := D4
              have B1 := below_alloc wr (.cells #[.int .i64 (nthS L 0).num, .int .i64 (nthS L 0).base, .int .u32 (bv (nthS L 0).seed), .int .i64 (nthS L 0).end_, .int .i64 (nthS L 0).size] 53)
              obtain ⟨f0, F1, F2, F3, F4⟩ := (seg_new wr (nthS L 0) 53)
              have f1 : (wr.alloc (.cells #[.int .i64 (nthS L 0).num, .int .i64 (nthS L 0).base, .int .u32 (bv (nthS L 0).seed), .int .i64 (nthS L 0).end_, .int .i64 (nthS L 0).size] 53)).cell? ⟨wr.heap.size, 1, none⟩ = _ := F1
              have f3 : (wr.alloc (.cells #[.int .i64 (nthS L 0).num, .int .i64 (nthS L 0).base, .int .u32 (bv (nthS L 0).seed), .int .i64 (nthS L 0).end_, .int .i64 (nthS L 0).size] 53)).cell? ⟨wr.heap.size, 3, none⟩ = _ := F3
              have KA0 := cell_keep B1 KW0
              have KA1 := cell_keep B1 KW1
              have KA2 := cell_keep B1 KW2
              have HB5 := Lib.hid (below_trans HB2.out (below_trans HW.out B1))
              have H4 := Lib.hid h4
              have H2 := Lib.hid h2
              have H1 := Lib.hid h1
              have H3 := Lib.hid h3
              clear D0 D1 D2 D3 D4 F1 F2 F3 F4 K0 K1 K2 B1 ok h4 hk
              have fin : Hid ((nthS L 0).base ≤ first → (L.length = 1 ∨ first ≤ (nthS L 0).end_) → MayC ⟨gen, first, L⟩) := Lib.hid fun a1 a2 => ⟨H1.out, H2.out, (by have := HL.out; dsimp only; omega), (by have := HL.out; have := H3.out; dsimp only; omega), (by dsimp only; rw [HL.out, Nat.add_sub_cancel]; exact H4.out), (fun i hi => HK.out i (by have := HL.out; dsimp only at hi; omega)), a1, a2⟩
              by_cases q1 : (nthS L 0).base ≤ first
              · have Q1 := Lib.hid q1
                by_cases q2 : k = 0
                · have Q2 := Lib.hid q2
                  have b2 : ((k : Int) == 0) = true := by simp [q2]
                  clear q2 hk2
                  go_wp2_with fail
                  go_ret
                  exact ⟨by rw [show t = true from HT.out.2 (fin.out Q1.out (.inl (by rw [HL.out, Q2.out])))]; rfl, HB5.out⟩
                · have Q2 := Lib.hid q2
                  have b2 : ((k : Int) == 0) = false := by simp [q2]
                  clear q2 hk2
                  by_cases q3 : first ≤ (nthS L 0).end_
                  · have Q3 := Lib.hid q3
                    go_wp2_with fail
                    go_ret
                    exact ⟨by rw [show t = true from HT.out.2 (fin.out Q1.out (.inr Q3.out))]; rfl, HB5.out⟩
                  · have Q3 := Lib.hid q3
                    go_wp2_with fail
                    go_ret
                    exact ⟨by rw [show t = false from Bool.eq_false_iff.2 fun h => by have h5 := (HT.out.1 h).high; have := Q2.out; have := Q3.out; have := HL.out; dsimp only at h5; omega]; rfl, HB5.out⟩
              · have Q1 := Lib.hid q1
                go_wp2_with fail
                go_ret
                exact ⟨by rw [show t = false from Bool.eq_false_iff.2 fun h => by have h5 := (HT.out.1 h).low; have := Q1.out; dsimp only at h5; omega]; rfl, HB5.out⟩
        · rw [decide_eq_false h4]
          have HB2 := Lib.hid (below_trans HB1.out hb2)
          clear hb2
          go_wp2_with fail
          go_ret
          exact ⟨by rw [show t = false from Bool.eq_false_iff.2 fun h => h4 (by have h5 := (HT.out.1 h).last; have h6 := HL.out; dsimp only at h5; rwa [h6, Nat.add_sub_cancel] at h5)]; rfl, HB2.out⟩
      · go_wp2_with fail
        go_ret
        exact ⟨by rw [show t = false from Bool.eq_false_iff.2 fun h => by have h5 := (HT.out.1 h).few; have h6 := HL.out; dsimp only at h5; omega]; rfl, HB1.out⟩
    · go_wp2_with fail
      go_ret
      exact ⟨by rw [show t = false from Bool.eq_false_iff.2 fun h => by have h5 := (HT.out.1 h).first; dsimp only at h5; omega]; rfl, HB1.out⟩
  · go_wp2_with fail
    go_ret
    exact ⟨by rw [show t = false from Bool.eq_false_iff.2 fun h => by have h5 := (HT.out.1 h).gen; dsimp only at h5; omega]; rfl, HB1.out⟩
set_option maxRecDepth 100000 in
/-- May, of no segments. -/
theorem cat_may_none (gen first : Int) (ao : Option Addr) (ca : Nat) (w : World) :
    Calls Try.prog 21 #[.agg #[.int .i64 gen, .int .i64 first, .slice ao 0 ca]] w fun e w' => e = .returned (.bool false) ∧ Below w.heap.size w w' := by
  have hb1 := below_alloc w (.cells #[.int .i64 gen, .int .i64 first, .slice ao 0 ca] 29)
  have hn := heap_alloc_new w (.cells #[.int .i64 gen, .int .i64 first, .slice ao 0 ca] 29)
  have k0 := cell_of_row _ _ 0 _ _ _ hn
  have k1 := cell_of_row _ _ 1 _ _ _ hn
  have k2 := cell_of_row _ _ 2 _ _ _ hn
  have HB1 := Lib.hid hb1
  clear hb1 hn
  go_enter Try.func21, Try.ntmps21
  by_cases h1 : 1 ≤ gen
  · by_cases h2 : 1 ≤ first
    · go_wp2_with fail
      go_ret
      exact ⟨rfl, HB1.out⟩
    · go_wp2_with fail
      go_ret
      exact ⟨rfl, HB1.out⟩
  · go_wp2_with fail
    go_ret
    exact ⟨rfl, HB1.out⟩
/-- A catalog's value, its segments there. -/
structure CatAt (w : World) (v : Value) (c : CatV) : Prop where
  shape : ∃ ao ca, v = .agg #[.int .i64 c.gen, .int .i64 c.first, .slice ao c.segs.length ca] ∧ SegsAt w ao c.segs ∧ c.segs.length ≤ ca ∧ c.segs.length ≤ 140737488355328 ∧ (ao = none → ca = 0)
  gen : R64 c.gen
  first : R64 c.first
theorem CatAt.below {w w' : World} {v : Value} {c : CatV} (h : CatAt w v c) (hb : Below w.heap.size w w') : CatAt w' v c :=
  ⟨by obtain ⟨ao, ca, e, hs, r⟩ := h.shape; exact ⟨ao, ca, e, hs.below hb, r⟩, h.gen, h.first⟩
theorem cat_may (c : CatV) (v : Value) (w : World) (h : CatAt w v c) (t : Bool) (ht : t = true ↔ MayC c) :
    Calls Try.prog 21 #[v] w fun e w' => e = .returned (.bool t) ∧ Below w.heap.size w w' := by
  obtain ⟨ao, ca, rfl, hs, h1, h2, h3⟩ := h.shape
  obtain ⟨gen, first, L⟩ := c
  dsimp only at hs h1 h2 ⊢
  match hL : L.length with
  | 0 =>
    obtain rfl : t = false := Bool.eq_false_iff.2 fun h => by have := (ht.1 h).some; dsimp only at this; omega
    exact cat_may_none gen first ao ca w
  | m + 1 =>
    obtain ⟨-, b, off, rfl, -⟩ := hs 0 (by omega)
    exact cat_may_some gen first b off m ca L w hL hs (by omega) (by omega) t ht
end Go.Proofs.Ytmkljmljbbijeaa

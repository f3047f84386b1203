/- The walks of the document's Copy and Roll. -/
import Derived.Test.YtmkljmljbbijeaaCatNext
import Derived.Test.YtmkljmljbbijeaaCatRef
import Derived.Test.YtmkljmljbbijeaaSegsOwn
namespace Go.Proofs.Ytmkljmljbbijeaa
open Go.RowKit

/-- One cell of a box of three, set. -/
theorem set3_0 {W : World} {b : Nat} {a0 a1 a2 : Value} {T : TypeId} {fr : Nat × Nat} (h : W.heap[b]? = some (.cells #[a0, a1, a2] T fr)) (x : Value) : (W.setCell ⟨b, 0, none⟩ x).heap[b]? = some (.cells #[x, a1, a2] T fr) := Go.Joins.block_setCell h x (i := 0)
theorem set3_2 {W : World} {b : Nat} {a0 a1 a2 : Value} {T : TypeId} {fr : Nat × Nat} (h : W.heap[b]? = some (.cells #[a0, a1, a2] T fr)) (x : Value) : (W.setCell ⟨b, 2, none⟩ x).heap[b]? = some (.cells #[a0, a1, x] T fr) := Go.Joins.block_setCell h x (i := 2)
theorem set_off {W : World} {b i n : Nat} (hb : b ≠ n) (x : Value) : (W.setCell ⟨b, i, none⟩ x).heap[n]? = W.heap[n]? := Below.heap_setCell _ _ _ _ (by simpa using hb.symm)

set_option maxRecDepth 100000 in
theorem ref_copy (gen first : Int) (ao : Option Addr) (n ca : Nat) (L : List SegV) (w : World) (hn : L.length = n) (hl : n ≤ 100000) (hA : CatAt w (.agg #[.int .i64 gen, .int .i64 first, .slice ao n ca]) ⟨gen, first, L⟩) :
    Calls Try.prog 80 #[.agg #[.int .i64 gen, .int .i64 first, .slice ao n ca]] w fun e w' => ∃ vs, e = .returned (.agg #[.int .i64 gen, .int .i64 first, vs]) ∧ OwnS w' w.heap.size vs L ∧ Below w.heap.size w w' := by
  obtain ⟨ao', ca', e1, hsg, hle, hcm, hnil⟩ := hA.shape
  injection e1 with e1
  simp only [Array.mk.injEq, List.cons.injEq, Value.slice.injEq, and_true, true_and] at e1
  obtain ⟨rfl, -, rfl⟩ := e1
  dsimp only at hsg hle hcm
  have b1 := below_alloc w (.cells #[.int .i64 gen, .int .i64 first, .slice ao n ca] 29)
  have hn1 := heap_alloc_new w (.cells #[.int .i64 gen, .int .i64 first, .slice ao n ca] 29)
  obtain ⟨w1, hw1⟩ : ∃ w1, w.alloc (.cells #[.int .i64 gen, .int .i64 first, .slice ao n ca] 29) = w1 := ⟨_, rfl⟩
  rw [hw1] at b1 hn1
  have b2 := below_alloc w1 (.cells #[.int .i64 0, .int .i64 0, .slice none 0 0] 29)
  have hn2 := heap_alloc_new w1 (.cells #[.int .i64 0, .int .i64 0, .slice none 0 0] 29)
  obtain ⟨w2, hw2⟩ : ∃ w2, w1.alloc (.cells #[.int .i64 0, .int .i64 0, .slice none 0 0] 29) = w2 := ⟨_, rfl⟩
  rw [hw2] at b2 hn2
  have HC := Lib.hid ((b2.block _ (heap_lt hn1)).trans hn1)
  have HR := Lib.hid hn2
  have HB := Lib.hid (below_trans b1 b2)
  have LT := Lib.hid (heap_lt hn1)
  have HS := Lib.hid (hsg.below HB.out)
  have HN := Lib.hid hn
  have HNil := Lib.hid hnil
  have k2 := cell_of_row _ _ 2 _ _ _ HC.out
  clear b1 b2 hn1 hn2 hsg hnil hn hA
  go_enter Try.func80, Try.ntmps80
  go_wp2_with (refine wpList_append_segs (o := ⟨some 5, _, _, _, _, _⟩) rfl _ _ rfl w2.heap.size (.slice none 0 0) [] rfl (OwnS.nil _ _) ao n ca L rfl HN.out.symm HS.out HNil.out (by have := HN.out; simp; omega) (Nat.le_refl _) ?_)
  intro v5 w5 ho5 hg5
  obtain ⟨a5, c5, rfl, -⟩ := OwnS.there (L := L) ho5 (ok_of_at HS.out) (by have := HN.out; omega)
  have hb5 := (OwnS.nil w2 w2.heap.size).below hg5 (Nat.le_refl _) (Nat.le_refl _)
  have HC5 := Lib.hid ((hb5.block _ (heap_lt HC.out)).trans HC.out)
  have HR5 := Lib.hid ((hb5.block _ (heap_lt HR.out)).trans HR.out)
  have HB5 := Lib.hid (below_trans HB.out hb5)
  have O5 := Lib.hid ho5
  have L2 := Lib.hid (heap_lt HC.out)
  have L1 := Lib.hid (heap_lt HR.out)
  clear ho5 hg5 hb5 k2
  have k0 := cell_of_row _ _ 0 _ _ _ HC5.out
  have k1 := cell_of_row _ _ 1 _ _ _ HC5.out
  have k2 := cell_of_row _ _ 2 _ _ _ HC5.out
  have f2 := frozen_of_row _ _ 2 _ _ HC5.out
  have hc6 := set3_2 HC5.out (.slice a5 L.length c5)
  have hr6 := (set_off (i := 2) (show w.heap.size ≠ w1.heap.size by have := LT.out; omega) (.slice a5 L.length c5)).trans HR5.out
  obtain ⟨w6, hw6⟩ : ∃ w6, w5.setCell ⟨w.heap.size, 2, none⟩ (.slice a5 L.length c5) = w6 := ⟨_, rfl⟩
  have O6 := Lib.hid (show OwnS w6 w2.heap.size (.slice a5 L.length c5) L by rw [← hw6]; exact rows_congr O5.out fun k hk => set_off (by have := (rows_blk O5.out hk).1; have := L2.out; omega) _)
  have HB6 := Lib.hid (show Below w.heap.size w w6 by rw [← hw6]; exact HB5.out.setCell (p := ⟨w.heap.size, 2, none⟩) (Nat.le_refl _) _)
  rw [hw6] at hc6 hr6
  have HR6 := Lib.hid hr6
  have y0 := cell_of_row _ _ 0 _ _ _ hc6
  have y1 := cell_of_row _ _ 1 _ _ _ hc6
  have y2 := cell_of_row _ _ 2 _ _ _ hc6
  have r0 := cell_of_row _ _ 0 _ _ _ hr6
  have r1 := cell_of_row _ _ 1 _ _ _ hr6
  have r2 := cell_of_row _ _ 2 _ _ _ hr6
  have g0 := frozen_of_row _ _ 0 _ _ hr6
  have g1 := frozen_of_row _ _ 1 _ _ hr6
  have g2 := frozen_of_row _ _ 2 _ _ hr6
  clear hc6 hr6
  go_wp2_with fail
  refine bodyPost_ret (results_cat1 rfl _ _ w1.heap.size _ _ _ rfl (cell_of_row _ _ 0 _ _ _ (put3 HR6.out _ _ _)) (cell_of_row _ _ 1 _ _ _ (put3 HR6.out _ _ _)) (cell_of_row _ _ 2 _ _ _ (put3 HR6.out _ _ _))) rfl ?_
  refine ⟨_, rfl, OwnS.base ?_ HB.out.size, put3_below HB6.out (Nat.le_of_lt (by have := LT.out; omega)) _ _ _⟩
  exact rows_congr O6.out fun k hk => put3_off (by have := (rows_blk O6.out hk).1; have := L1.out; omega) _ _ _

set_option maxRecDepth 100000 in
set_option maxHeartbeats 4000000 in
theorem ref_roll (gen first en size s : Int) (seed : BitVec 32) (ao : Option Addr) (n ca : Nat) (L : List SegV) (w : World) (hs : s = bv seed) (hn : L.length = n) (hA : CatAt w (.agg #[.int .i64 gen, .int .i64 first, .slice ao n ca]) ⟨gen, first, L⟩) (h1 : R64 en) (h2 : R64 size) :
    Calls Try.prog 25 #[.agg #[.int .i64 gen, .int .i64 first, .slice ao n ca], .int .i64 en, .int .i64 size, .int .u32 s] w (RollB w ⟨gen, first, L⟩ en size seed) := by
  subst hs
  have hgen := hA.gen
  have hfst := hA.first
  obtain ⟨ao', ca', e1, hsg, hle, hcm, hnil⟩ := hA.shape
  injection e1 with e1
  simp only [Array.mk.injEq, List.cons.injEq, Value.slice.injEq, and_true, true_and] at e1
  obtain ⟨rfl, -, rfl⟩ := e1
  dsimp only at hsg hle hgen hcm hfst
  have b1 := below_alloc w (.cells #[.int .i64 gen, .int .i64 first, .slice ao n ca] 29)
  have hn1 := heap_alloc_new w (.cells #[.int .i64 gen, .int .i64 first, .slice ao n ca] 29)
  obtain ⟨w1, hw1⟩ : ∃ w1, w.alloc (.cells #[.int .i64 gen, .int .i64 first, .slice ao n ca] 29) = w1 := ⟨_, rfl⟩
  rw [hw1] at b1 hn1
  have b2 := below_alloc w1 (.cells #[.int .i64 0, .int .i64 0, .slice none 0 0] 29)
  have hn2 := heap_alloc_new w1 (.cells #[.int .i64 0, .int .i64 0, .slice none 0 0] 29)
  obtain ⟨w2, hw2⟩ : ∃ w2, w1.alloc (.cells #[.int .i64 0, .int .i64 0, .slice none 0 0] 29) = w2 := ⟨_, rfl⟩
  rw [hw2] at b2 hn2
  have hn12 : w2.heap[w.heap.size]? = _ := (b2.block _ (heap_lt hn1)).trans hn1
  have HC := Lib.hid hn12
  have HR := Lib.hid hn2
  have HB2 := Lib.hid (below_trans b1 b2)
  have HLT := Lib.hid (heap_lt hn1)
  have HA := Lib.hid (hA.below HB2.out)
  have HS := Lib.hid (hsg.below HB2.out)
  have HN := Lib.hid hn
  have HNil := Lib.hid hnil
  have k0 := cell_of_row _ _ 0 _ _ _ hn12
  have k1 := cell_of_row _ _ 1 _ _ _ hn12
  have k2 := cell_of_row _ _ 2 _ _ _ hn12
  clear b1 b2 hn1 hn2 hn12 hA hn hsg hnil
  obtain ⟨t, ht⟩ : ∃ t : Bool, t = true ↔ MayC ⟨gen, first, L⟩ := by
    by_cases h : MayC ⟨gen, first, L⟩
    · exact ⟨true, by simp [h]⟩
    · exact ⟨false, by simp [h]⟩
  have HT := Lib.hid ht
  clear ht
  go_enter Try.func25, Try.ntmps25
  go_wp2_with fail
  refine (ref_may _ _ w2 HA.out t HT.out).mono ?_
  rintro e w3 ⟨rfl, hb3⟩
  have HC3 := Lib.hid ((hb3.block _ (heap_lt HC.out)).trans HC.out)
  have HR3 := Lib.hid ((hb3.block _ (heap_lt HR.out)).trans HR.out)
  have HB3 := Lib.hid (below_trans HB2.out hb3)
  have HA3 := Lib.hid (HA.out.below hb3)
  have HS3 := Lib.hid (HS.out.below hb3)
  clear hb3 k0 k1 k2
  have k0 := cell_of_row _ _ 0 _ _ _ HC3.out
  have k1 := cell_of_row _ _ 1 _ _ _ HC3.out
  have k2 := cell_of_row _ _ 2 _ _ _ HC3.out
  have r0 := cell_of_row _ _ 0 _ _ _ HR3.out
  have r1 := cell_of_row _ _ 1 _ _ _ HR3.out
  have r2 := cell_of_row _ _ 2 _ _ _ HR3.out
  have f0 := frozen_of_row _ _ 0 _ _ HR3.out
  have f1 := frozen_of_row _ _ 1 _ _ HR3.out
  have f2 := frozen_of_row _ _ 2 _ _ HR3.out
  have bad : ∀ (W : World), W.heap[w1.heap.size]? = some (.cells #[.int .i64 0, .int .i64 0, .slice none 0 0] 29 (0, 0)) → Below w.heap.size w W → ∀ (er : Int), RollIs ⟨gen, first, L⟩ en size seed catZ er →
      RollB w ⟨gen, first, L⟩ en size seed (.returned (.tuple #[.agg #[.int .i64 0, .int .i64 0, .slice none 0 0], .int .i64 er])) (((W.setCell ⟨w1.heap.size, 0, none⟩ (.int .i64 0)).setCell ⟨w1.heap.size, 1, none⟩ (.int .i64 0)).setCell ⟨w1.heap.size, 2, none⟩ (.slice none 0 0)) :=
    fun W h hb er hr => ⟨_, _, _, hr, rfl, CatOwn.z _ _, put3_below hb (Nat.le_of_lt HLT.out) _ _ _⟩
  have BAD := Lib.hid bad
  clear bad
  cases t
  · go_wp2_with fail
    refine bodyPost_ret (results_cat2 rfl _ _ w1.heap.size _ _ _ rfl (cell_of_row _ _ 0 _ _ _ (put3 HR3.out _ _ _)) (cell_of_row _ _ 1 _ _ _ (put3 HR3.out _ _ _)) (cell_of_row _ _ 2 _ _ _ (put3 HR3.out _ _ _))) rfl ?_
    exact BAD.out _ HR3.out HB3.out _ (.inl ⟨fun h => absurd (HT.out.2 h) (by simp), rfl, rfl⟩)
  · have M := Lib.hid (HT.out.1 rfl)
    obtain ⟨m, rfl⟩ : ∃ m, n = m + 1 := ⟨n - 1, by have := M.out.some; have := HN.out; dsimp only at *; omega⟩
    have hm : m < 64 := by have := M.out.few; have := HN.out; dsimp only at *; omega
    by_cases h64 : m + 1 = 64
    · have b64 : (((m : Int) + 1) == 64) = true := by simp; omega
      have H64 := Lib.hid h64
      clear h64
      go_wp2_with fail
      refine bodyPost_ret (results_cat2 rfl _ _ w1.heap.size _ _ _ rfl (cell_of_row _ _ 0 _ _ _ (put3 HR3.out _ _ _)) (cell_of_row _ _ 1 _ _ _ (put3 HR3.out _ _ _)) (cell_of_row _ _ 2 _ _ _ (put3 HR3.out _ _ _))) rfl ?_
      exact BAD.out _ HR3.out HB3.out _ (.inr (.inl ⟨M.out, HN.out.trans H64.out, rfl, rfl⟩))
    · have b64 : (((m : Int) + 1) == 64) = false := by simp; omega
      have H64 := Lib.hid h64
      clear h64
      obtain ⟨okm, sb, so, rfl, hsc⟩ := HS3.out m (by have := HN.out; omega)
      obtain ⟨d0, d1, d2, d3, d4⟩ := hsc
      obtain ⟨n1, n2⟩ := okm.num
      have LS : Hid (lastS ⟨gen, first, L⟩ = nthS L m) := Lib.hid (by unfold lastS; dsimp only; rw [HN.out]; rfl)
      have bS := below_alloc w3 (.cells #[.int .i64 (nthS L m).num, .int .i64 (nthS L m).base, .int .u32 (bv (nthS L m).seed), .int .i64 (nthS L m).end_, .int .i64 (nthS L m).size] 53)
      have nS := heap_alloc_new w3 (.cells #[.int .i64 (nthS L m).num, .int .i64 (nthS L m).base, .int .u32 (bv (nthS L m).seed), .int .i64 (nthS L m).end_, .int .i64 (nthS L m).size] 53)
      obtain ⟨w4, hw4⟩ : ∃ w4, w3.alloc (.cells #[.int .i64 (nthS L m).num, .int .i64 (nthS L m).base, .int .u32 (bv (nthS L m).seed), .int .i64 (nthS L m).end_, .int .i64 (nthS L m).size] 53) = w4 := ⟨_, rfl⟩
      rw [hw4] at bS nS
      have HC4 := Lib.hid ((bS.block _ (heap_lt HC3.out)).trans HC3.out)
      have HR4 := Lib.hid ((bS.block _ (heap_lt HR3.out)).trans HR3.out)
      have HB4 := Lib.hid (below_trans HB3.out bS)
      have HA4 := Lib.hid (HA3.out.below bS)
      have NS4 := Lib.hid nS
      clear bS nS okm r0 r1 r2 f0 f1 f2
      have j0 := cell_of_row _ _ 0 _ _ _ HC4.out
      have j1 := cell_of_row _ _ 1 _ _ _ HC4.out
      have j2 := cell_of_row _ _ 2 _ _ _ HC4.out
      have r0 := cell_of_row _ _ 0 _ _ _ HR4.out
      have r1 := cell_of_row _ _ 1 _ _ _ HR4.out
      have r2 := cell_of_row _ _ 2 _ _ _ HR4.out
      have f0 := frozen_of_row _ _ 0 _ _ HR4.out
      have f1 := frozen_of_row _ _ 1 _ _ HR4.out
      have f2 := frozen_of_row _ _ 2 _ _ HR4.out
      have p0 := cell_of_row _ _ 0 _ _ _ NS4.out
      by_cases q : gen = 9223372036854775807 ∨ (nthS L m).num = 9223372036854775807
      · have Q := Lib.hid q
        have bq : (gen == 9223372036854775807) = true ∨ ((gen == 9223372036854775807) = false ∧ ((nthS L m).num == 9223372036854775807) = true) := by
          by_cases h : gen = 9223372036854775807
          · exact .inl (by simp [h])
          · exact .inr ⟨by simp [h], by simpa using q.resolve_left h⟩
        clear q
        rcases bq with bq | ⟨bq, bq2⟩
        all_goals
          go_wp2_with fail
          refine bodyPost_ret (results_cat2 rfl _ _ w1.heap.size _ _ _ rfl (cell_of_row _ _ 0 _ _ _ (put3 HR4.out _ _ _)) (cell_of_row _ _ 1 _ _ _ (put3 HR4.out _ _ _)) (cell_of_row _ _ 2 _ _ _ (put3 HR4.out _ _ _))) rfl ?_
          exact BAD.out _ HR4.out HB4.out _ (.inr (.inr (.inl ⟨M.out, fun h => H64.out (HN.out.symm.trans h), fun h => Q.out.elim h.2.1 (by rw [← LS.out]; exact h.1), rfl, rfl⟩)))
      · have Q := Lib.hid (And.intro (fun h => q (.inl h)) (fun h => q (.inr h)))
        have bq : (gen == 9223372036854775807) = false := by simpa using Q.out.1
        have bq2 : ((nthS L m).num == 9223372036854775807) = false := by simpa using Q.out.2
        have gb : gen < 9223372036854775807 := by have := hgen.2; have := Q.out.1; omega
        have nb : (nthS L m).num < 9223372036854775807 := by have := Q.out.2; omega
        obtain ⟨hg1, -⟩ := hgen
        clear q
        go_wp2_with fail
        refine (ref_copy gen first (some ⟨sb, so, none⟩) (m + 1) ca L w4 HN.out (by omega) HA4.out).mono ?_
        rintro e w5 ⟨vs, rfl, hO, hb5⟩
        have ho := hO
        unfold OwnS at ho
        rw [HN.out] at ho
        obtain ⟨g, cap, rfl⟩ := ownsRow_succ ho
        obtain ⟨hgb0, cur, hcur⟩ := rows_blk ho rfl
        have hgb : w4.heap.size ≤ g := hgb0
        clear hgb0
        have hgl : g < w5.heap.size := heap_lt hcur
        have bD := below_alloc w5 (.cells #[.int .i64 gen, .int .i64 first, .slice (some ⟨g, 0, none⟩) (m + 1) cap] 29)
        have nD := heap_alloc_new w5 (.cells #[.int .i64 gen, .int .i64 first, .slice (some ⟨g, 0, none⟩) (m + 1) cap] 29)
        obtain ⟨w6, hw6⟩ : ∃ w6, w5.alloc (.cells #[.int .i64 gen, .int .i64 first, .slice (some ⟨g, 0, none⟩) (m + 1) cap] 29) = w6 := ⟨_, rfl⟩
        rw [hw6] at bD nD
        have b46 := below_trans hb5 bD
        have hlt1 := heap_lt HR4.out
        have hlt3 := heap_lt NS4.out
        have s45 := hb5.size
        have G1 : g ≠ w1.heap.size := by omega
        have G3 : g ≠ w3.heap.size := by omega
        have GD : g ≠ w5.heap.size := by omega
        have D1 : w5.heap.size ≠ w1.heap.size := by omega
        have D3 : w5.heap.size ≠ w3.heap.size := by omega
        have HRr := (b46.block _ hlt1).trans HR4.out
        have NSr := (b46.block _ hlt3).trans NS4.out
        have hO6 := hO.keep bD
        have hB6 := below_trans HB4.out b46
        have dA := set3_0 nD (.int .i64 (gen + 1))
        have rA := (set_off (i := 0) D1 (.int .i64 (gen + 1))).trans HRr
        have lA := (set_off (i := 0) D3 (.int .i64 (gen + 1))).trans NSr
        have oA : OwnS (w6.setCell ⟨w5.heap.size, 0, none⟩ (.int .i64 (gen + 1))) w4.heap.size (.slice (some ⟨g, 0, none⟩) (m + 1) cap) L := rows_congr hO6 fun k hk => set_off (fun e => GD ((Option.some.inj hk).trans e.symm)) _
        have bA := hB6.setCell (p := ⟨w5.heap.size, 0, none⟩) (show w.heap.size ≤ w5.heap.size by have := HB4.out.size; omega) (.int .i64 (gen + 1))
        obtain ⟨wA, hwA⟩ : ∃ wA, w6.setCell ⟨w5.heap.size, 0, none⟩ (.int .i64 (gen + 1)) = wA := ⟨_, rfl⟩
        rw [hwA] at dA rA lA oA bA
        have dB := (set_off (i := m * 5 + 3) GD (.int .i64 en)).trans dA
        have rB := (set_off (i := m * 5 + 3) G1 (.int .i64 en)).trans rA
        have lB := (set_off (i := m * 5 + 3) G3 (.int .i64 en)).trans lA
        obtain ⟨⟨c0, c1, c2, c3, c4⟩, hfz⟩ := OwnS.cells (L := L) oA (i := m) (by have := HN.out; omega)
        have fz3 := hfz (m * 5 + 3)
        have fz4 := hfz (m * 5 + 4)
        have y4 : (wA.setCell ⟨g, m * 5 + 3, none⟩ (.int .i64 en)).cell? ⟨g, m * 5 + 4, none⟩ = some (.int .i64 (nthS L m).size) := by rw [World.cell?_setCell_other _ _ _ _ (by intro e; injection e; omega)]; exact c4
        have z4 : (wA.setCell ⟨g, m * 5 + 3, none⟩ (.int .i64 en)).frozen? ⟨g, m * 5 + 4, none⟩ = false := by simpa [go_sem] using fz4
        have gw : w.heap.size ≤ g := by have := HB4.out.size; omega
        have bB := bA.setCell (p := ⟨g, m * 5 + 3, none⟩) gw (.int .i64 en)
        have bC := bB.setCell (p := ⟨g, m * 5 + 4, none⟩) gw (.int .i64 size)
        have oC : OwnS ((wA.setCell ⟨g, m * 5 + 3, none⟩ (.int .i64 en)).setCell ⟨g, m * 5 + 4, none⟩ (.int .i64 size)) w4.heap.size (.slice (some ⟨g, 0, none⟩) (m + 1) cap) (sealS L m en size) := by
          have h := oA
          rw [← HN.out] at h ⊢
          exact h.seal (by have := HN.out; omega) en size
        obtain ⟨wB, hwB⟩ : ∃ wB, wA.setCell ⟨g, m * 5 + 3, none⟩ (.int .i64 en) = wB := ⟨_, rfl⟩
        rw [hwB] at dB rB lB y4 z4 bB bC oC
        have dC := (set_off (i := m * 5 + 4) GD (.int .i64 size)).trans dB
        have rC := (set_off (i := m * 5 + 4) G1 (.int .i64 size)).trans rB
        have lC := (set_off (i := m * 5 + 4) G3 (.int .i64 size)).trans lB
        obtain ⟨wC, hwC⟩ : ∃ wC, wB.setCell ⟨g, m * 5 + 4, none⟩ (.int .i64 size) = wC := ⟨_, rfl⟩
        rw [hwC] at dC rC lC bC oC
        have HD6 := Lib.hid nD
        have HDA := Lib.hid dA
        have HDB := Lib.hid dB
        have HDC := Lib.hid dC
        have HRC := Lib.hid rC
        have HLC := Lib.hid lC
        have HBC := Lib.hid bC
        have HOC := Lib.hid oC
        clear hO ho hcur bD nD b46 hlt1 hlt3 s45 HRr NSr hO6 hB6 dA rA lA oA bA dB rB lB hfz bB bC oC dC rC lC hb5 j0 j1 j2 r0 r1 r2 f0 f1 f2 p0 c0 c1 c2 c4 fz4 d0 d1 d2 d3 d4
        have e0 := cell_of_row _ _ 0 _ _ _ HD6.out
        have ef0 := frozen_of_row _ _ 0 _ _ HD6.out
        have e2 := cell_of_row _ _ 2 _ _ _ HDA.out
        have e2b := cell_of_row _ _ 2 _ _ _ HDB.out
        have e2c := cell_of_row _ _ 2 _ _ _ HDC.out
        have l0 := cell_of_row _ _ 0 _ _ _ HLC.out
        have bN := below_alloc wC (.cells #[.int .i64 ((nthS L m).num + 1), .int .i64 en, .int .u32 (bv seed), .int .i64 0, .int .i64 0] 53)
        have OW := Lib.hid (HOC.out.keep bN)
        have SG : Hid (SegsAt (wC.alloc (.cells #[.int .i64 ((nthS L m).num + 1), .int .i64 en, .int .u32 (bv seed), .int .i64 0, .int .i64 0] 53)) (some ⟨wC.heap.size, 0, none⟩) [⟨(nthS L m).num + 1, en, seed, 0, 0⟩]) := Lib.hid fun i hi => by
          obtain rfl : i = 0 := by simp at hi; exact hi
          exact ⟨⟨show R64 ((nthS L m).num + 1) from ⟨by omega, by omega⟩, h1, show R64 0 from ⟨by decide, by decide⟩, show R64 0 from ⟨by decide, by decide⟩⟩, wC.heap.size, 0, rfl, seg_new wC ⟨(nthS L m).num + 1, en, seed, 0, 0⟩ _⟩
        have LEN : Hid ((sealS L m en size).length + [(⟨(nthS L m).num + 1, en, seed, 0, 0⟩ : SegV)].length ≤ 3518437208883) := Lib.hid (by rw [sealS_length, HN.out]; simp; omega)
        have HBN := Lib.hid (below_trans HBC.out bN)
        have HDN := Lib.hid ((bN.block _ (heap_lt HDC.out)).trans HDC.out)
        have HRN := Lib.hid ((bN.block _ (heap_lt HRC.out)).trans HRC.out)
        have S4C := Lib.hid (show w4.heap.size ≤ wC.heap.size by have := heap_lt HDC.out; omega)
        have SZ := Lib.hid (Nat.le_trans S4C.out bN.size)
        clear bN
        go_wp2_with (refine wpList_append_segs (o := ⟨some 67, _, _, _, _, _⟩) rfl _ _ rfl w4.heap.size (.slice (some ⟨g, 0, none⟩) (m + 1) cap) (sealS L m en size) rfl OW.out (some ⟨wC.heap.size, 0, none⟩) 1 1 [⟨(nthS L m).num + 1, en, seed, 0, 0⟩] rfl rfl SG.out (fun e => by cases e) LEN.out SZ.out ?_)
        intro v7 w7 ho7 hg7
        have hb7 : Below w.heap.size w w7 := HBN.out.grown hg7 (HBN.out.size) (fun k hk => by have := (rows_blk OW.out hk).1; have := HB4.out.size; omega)
        have hd7 := (hg7.block w5.heap.size (heap_lt HDN.out) (by intro e; injection e with e; first | exact GD e | exact GD e.symm)).trans HDN.out
        have hr7 := (hg7.block w1.heap.size (heap_lt HRN.out) (by intro e; injection e with e; first | exact G1 e | exact G1 e.symm)).trans HRN.out
        have OK7 : Hid (OkL (sealS L m en size ++ [⟨(nthS L m).num + 1, en, seed, 0, 0⟩])) := Lib.hid (ok_append (ok_seal (ok_of_at HS3.out) (by have := HN.out; omega) h1 h2) (ok_of_at SG.out))
        have FEW : Hid ((sealS L m en size ++ [(⟨(nthS L m).num + 1, en, seed, 0, 0⟩ : SegV)]).length ≤ 140737488355328) := Lib.hid (by rw [List.length_append]; have := LEN.out; omega)
        have RC : Hid (rollC ⟨gen, first, L⟩ en size seed = ⟨gen + 1, first, sealS L m en size ++ [⟨(nthS L m).num + 1, en, seed, 0, 0⟩]⟩) := Lib.hid (by unfold rollC; rw [LS.out]; dsimp only; rw [HN.out]; rfl)
        obtain ⟨L7, hL7⟩ : ∃ L7, sealS L m en size ++ [(⟨(nthS L m).num + 1, en, seed, 0, 0⟩ : SegV)] = L7 := ⟨_, rfl⟩
        rw [hL7] at ho7 OK7 FEW RC
        obtain ⟨a7, c7, rfl, h7⟩ := ho7.there OK7.out FEW.out
        have V7 : ∀ k, (Value.slice a7 L7.length c7).ownBlock = some k → k ≠ w5.heap.size ∧ k ≠ w1.heap.size := fun k hk => by
          obtain ⟨-, cu, hcu⟩ := rows_blk ho7 hk
          exact ⟨fun e => by subst e; rw [hd7] at hcu; simp at hcu, fun e => by subst e; rw [hr7] at hcu; simp at hcu⟩
        have VV := Lib.hid V7
        have d8 := set3_2 hd7 (.slice a7 L7.length c7)
        have r8 := (set_off (i := 2) D1 (.slice a7 L7.length c7)).trans hr7
        have o8 : OwnS (w7.setCell ⟨w5.heap.size, 2, none⟩ (.slice a7 L7.length c7)) w4.heap.size (.slice a7 L7.length c7) L7 := rows_congr ho7 fun k hk => set_off (fun e => (V7 k hk).1 e.symm) _
        have b8 := hb7.setCell (p := ⟨w5.heap.size, 2, none⟩) (show w.heap.size ≤ w5.heap.size by omega) (.slice a7 L7.length c7)
        have q2 := cell_of_row _ _ 2 _ _ _ hd7
        have qf := frozen_of_row _ _ 2 _ _ hd7
        obtain ⟨w8, hw8⟩ : ∃ w8, w7.setCell ⟨w5.heap.size, 2, none⟩ (.slice a7 L7.length c7) = w8 := ⟨_, rfl⟩
        rw [hw8] at d8 r8 o8 b8
        have HD8 := Lib.hid d8
        have HR8 := Lib.hid r8
        have HO8 := Lib.hid o8
        have HB8 := Lib.hid b8
        have CA : Hid (CatAt w8 (.agg #[.int .i64 (gen + 1), .int .i64 first, .slice a7 L7.length c7]) ⟨gen + 1, first, L7⟩) := Lib.hid (CatAt.of_own o8 OK7.out FEW.out ⟨by omega, by omega⟩ hfst)
        obtain ⟨t2, ht2⟩ : ∃ t2 : Bool, t2 = true ↔ MayC ⟨gen + 1, first, L7⟩ := by
          by_cases h : MayC ⟨gen + 1, first, L7⟩
          · exact ⟨true, by simp [h]⟩
          · exact ⟨false, by simp [h]⟩
        have T2 := Lib.hid ht2
        clear ht2 ho7 hg7 hb7 hd7 hr7 hL7 h7 V7 d8 r8 o8 b8 e0 ef0 e2 e2b e2c l0 y4 z4 c3 fz3 hw6 hwA hwB hwC
        have e0 := cell_of_row _ _ 0 _ _ _ HD8.out
        have e1 := cell_of_row _ _ 1 _ _ _ HD8.out
        have e2 := cell_of_row _ _ 2 _ _ _ HD8.out
        go_wp2_with fail
        refine (ref_may ⟨gen + 1, first, L7⟩ _ w8 CA.out t2 T2.out).mono ?_
        rintro e w9 ⟨rfl, hb9⟩
        have HR9 := Lib.hid ((hb9.block _ (heap_lt HR8.out)).trans HR8.out)
        have HD9 := Lib.hid ((hb9.block _ (heap_lt HD8.out)).trans HD8.out)
        have HB9 := Lib.hid (below_trans HB8.out hb9)
        have HO9 := Lib.hid (HO8.out.keep hb9)
        clear hb9 e0 e1 e2 q2 qf
        have r0 := cell_of_row _ _ 0 _ _ _ HR9.out
        have r1 := cell_of_row _ _ 1 _ _ _ HR9.out
        have r2 := cell_of_row _ _ 2 _ _ _ HR9.out
        have f0 := frozen_of_row _ _ 0 _ _ HR9.out
        have f1 := frozen_of_row _ _ 1 _ _ HR9.out
        have f2 := frozen_of_row _ _ 2 _ _ HR9.out
        cases t2
        · go_wp2_with fail
          refine bodyPost_ret (results_cat2 rfl _ _ w1.heap.size _ _ _ rfl (cell_of_row _ _ 0 _ _ _ (put3 HR9.out _ _ _)) (cell_of_row _ _ 1 _ _ _ (put3 HR9.out _ _ _)) (cell_of_row _ _ 2 _ _ _ (put3 HR9.out _ _ _))) rfl ?_
          exact BAD.out _ HR9.out HB9.out _ (.inr (.inr (.inl ⟨M.out, fun h => H64.out (HN.out.symm.trans h), fun h => by have h3 := h.2.2; rw [RC.out] at h3; exact absurd (T2.out.2 h3) (by simp), rfl, rfl⟩)))
        · have e0 := cell_of_row _ _ 0 _ _ _ HD9.out
          have e1 := cell_of_row _ _ 1 _ _ _ HD9.out
          have e2 := cell_of_row _ _ 2 _ _ _ HD9.out
          go_wp2_with fail
          refine bodyPost_ret (results_cat2 rfl _ _ w1.heap.size _ _ _ rfl (cell_of_row _ _ 0 _ _ _ (put3 HR9.out _ _ _)) (cell_of_row _ _ 1 _ _ _ (put3 HR9.out _ _ _)) (cell_of_row _ _ 2 _ _ _ (put3 HR9.out _ _ _))) rfl ?_
          refine ⟨_, _, _, .inr (.inr (.inr ⟨M.out, fun h => H64.out (HN.out.symm.trans h), ⟨by rw [LS.out]; exact Q.out.2, Q.out.1, by rw [RC.out]; exact T2.out.1 trivial⟩, rfl, rfl⟩)), rfl, ?_, put3_below HB9.out (Nat.le_of_lt HLT.out) _ _ _⟩
          rw [RC.out]
          refine ⟨⟨_, rfl, ?_⟩, ⟨⟨by dsimp only; omega, by dsimp only; omega⟩, hfst, OK7.out⟩, FEW.out⟩
          exact OwnS.base (rows_congr HO9.out fun k hk => put3_off (fun e => (VV.out k hk).2 e.symm) _ _ _) HB4.out.size
end Go.Proofs.Ytmkljmljbbijeaa

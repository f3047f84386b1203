/- The walk of catalog.next. -/
import Derived.Test.YtmkljmljbbijeaaSegsOwn
namespace Go.Proofs.Ytmkljmljbbijeaa
open Go.RowKit

theorem put3 {W : World} {b : Nat} {a0 a1 a2 : Value} {T : TypeId} {fr : Nat × Nat} (h : W.heap[b]? = some (.cells #[a0, a1, a2] T fr)) (x y z : Value) :
    (((W.setCell ⟨b, 0, none⟩ x).setCell ⟨b, 1, none⟩ y).setCell ⟨b, 2, none⟩ z).heap[b]? = some (.cells #[x, y, z] T fr) :=
  Go.Joins.block_setCell (Go.Joins.block_setCell (Go.Joins.block_setCell h x (i := 0)) y (i := 1)) z (i := 2)
theorem put3_below {n b : Nat} {w W : World} (h : Below n w W) (hb : n ≤ b) (x y z : Value) : Below n w (((W.setCell ⟨b, 0, none⟩ x).setCell ⟨b, 1, none⟩ y).setCell ⟨b, 2, none⟩ z) :=
  ((h.setCell (p := ⟨b, 0, none⟩) hb _).setCell (p := ⟨b, 1, none⟩) hb _).setCell (p := ⟨b, 2, none⟩) hb _
theorem put3_off {n b : Nat} {W : World} (hb : b ≠ n) (x y z : Value) : (((W.setCell ⟨b, 0, none⟩ x).setCell ⟨b, 1, none⟩ y).setCell ⟨b, 2, none⟩ z).heap[n]? = W.heap[n]? := by
  rw [Below.heap_setCell _ _ _ _ (by simpa using hb.symm), Below.heap_setCell _ _ _ _ (by simpa using hb.symm), Below.heap_setCell _ _ _ _ (by simpa using hb.symm)]

set_option maxRecDepth 100000 in
set_option maxHeartbeats 2000000 in
theorem cat_next (gen f0 first : Int) (a0 : Option Addr) (n0 c0 : Nat) (ao : Option Addr) (n ca : Nat) (L : List SegV) (w : World) (hA : CatAt w (.agg #[.int .i64 (gen + 1), .int .i64 first, .slice ao n ca]) ⟨gen + 1, first, L⟩) (hg : -9223372036854775808 ≤ gen ∧ gen < 9223372036854775807) (t : Bool) (ht : t = true ↔ MayC ⟨gen + 1, first, L⟩) :
    Calls Try.prog 79 #[.agg #[.int .i64 gen, .int .i64 f0, .slice a0 n0 c0], .int .i64 first, .slice ao n ca] w fun e w' => e = .returned (.tuple #[.agg #[.int .i64 (gen + 1), .int .i64 first, .slice ao n ca], .bool t]) ∧ Below w.heap.size w w' := by
  obtain ⟨g1, g2⟩ := hg
  have b1 := below_alloc w (.cells #[.int .i64 gen, .int .i64 f0, .slice a0 n0 c0] 29)
  have hn1 := heap_alloc_new w (.cells #[.int .i64 gen, .int .i64 f0, .slice a0 n0 c0] 29)
  obtain ⟨w1, hw1⟩ : ∃ w1, w.alloc (.cells #[.int .i64 gen, .int .i64 f0, .slice a0 n0 c0] 29) = w1 := ⟨_, rfl⟩
  rw [hw1] at b1 hn1
  have b2 := below_alloc w1 (.cells #[.int .i64 0, .int .i64 0, .slice none 0 0] 29)
  have hn2 := heap_alloc_new w1 (.cells #[.int .i64 0, .int .i64 0, .slice none 0 0] 29)
  obtain ⟨w2, hw2⟩ : ∃ w2, w1.alloc (.cells #[.int .i64 0, .int .i64 0, .slice none 0 0] 29) = w2 := ⟨_, rfl⟩
  rw [hw2] at b2 hn2
  have b3 := below_alloc w2 (.cells #[.int .i64 (gen + 1), .int .i64 first, .slice ao n ca] 29)
  have hn3 := heap_alloc_new w2 (.cells #[.int .i64 (gen + 1), .int .i64 first, .slice ao n ca] 29)
  obtain ⟨w3, hw3⟩ : ∃ w3, w2.alloc (.cells #[.int .i64 (gen + 1), .int .i64 first, .slice ao n ca] 29) = w3 := ⟨_, rfl⟩
  rw [hw3] at b3 hn3
  have k0 := cell_keep b2 (cell_of_row _ _ 0 _ _ _ hn1)
  have j0 := cell_regrown (cell_of_row _ _ 0 _ _ _ hn3)
  have j1 := cell_regrown (cell_of_row _ _ 1 _ _ _ hn3)
  have j2 := cell_regrown (cell_of_row _ _ 2 _ _ _ hn3)
  have hn23 : w3.heap[w1.heap.size]? = _ := (b3.block _ (heap_lt hn2)).trans hn2
  have HN := Lib.hid hn23
  have HB3 := Lib.hid (below_trans b1 (below_trans b2 b3))
  have HL := Lib.hid (b1.size)
  have HA := Lib.hid (hA.below HB3.out)
  have HT := Lib.hid ht
  have bg : (gen == 9223372036854775807) = false := beq_false_of_ne (by omega)
  clear b1 b2 b3 hn1 hn2 hn3 hn23 hA ht
  go_enter Try.func79, Try.ntmps79
  go_wp2_with fail
  refine wp_region_tail_below 3 (by kernel_rfl) (by kernel_rfl) ?_
  simp only [List.take_succ_cons, List.take_zero, List.drop_succ_cons, List.drop_zero]
  repeat (quiet_step ((go_at_call 21; exact Calls.regrown_of (cat_may _ _ _ (HA.out.below (below_regrown _ _ _)) t HT.out))))
  refine wpQuiet_nil ?_
  intro w4 hw4
  obtain ⟨⟨nq, osq⟩, hw4'⟩ := hw4
  have hb4 : Below w3.heap.size w3 w4 := by rw [hw4']; exact below_regrown _ _ _
  have HN4 := Lib.hid ((hb4.block _ (heap_lt HN.out)).trans HN.out)
  have HB4 := Lib.hid (below_trans HB3.out hb4)
  clear hw4' hb4 j0 j1 j2
  have r0 := cell_of_row _ _ 0 _ _ _ HN4.out
  have r1 := cell_of_row _ _ 1 _ _ _ HN4.out
  have r2 := cell_of_row _ _ 2 _ _ _ HN4.out
  have f0' := frozen_of_row _ _ 0 _ _ HN4.out
  have f1' := frozen_of_row _ _ 1 _ _ HN4.out
  have f2' := frozen_of_row _ _ 2 _ _ HN4.out
  go_wp2_with fail
  refine bodyPost_ret (results_cat2 rfl _ _ w1.heap.size _ _ _ rfl (cell_of_row _ _ 0 _ _ _ (put3 HN4.out _ _ _)) (cell_of_row _ _ 1 _ _ _ (put3 HN4.out _ _ _)) (cell_of_row _ _ 2 _ _ _ (put3 HN4.out _ _ _))) rfl ?_
  exact ⟨rfl, put3_below HB4.out HL.out _ _ _⟩
set_option maxRecDepth 100000 in
theorem cat_next_top (f0 first : Int) (a0 : Option Addr) (n0 c0 : Nat) (v : Value) (w : World) :
    Calls Try.prog 79 #[.agg #[.int .i64 9223372036854775807, .int .i64 f0, .slice a0 n0 c0], .int .i64 first, v] w fun e w' => e = .returned (.tuple #[.agg #[.int .i64 0, .int .i64 0, .slice none 0 0], .bool false]) ∧ Below w.heap.size w w' := by
  have b1 := below_alloc w (.cells #[.int .i64 9223372036854775807, .int .i64 f0, .slice a0 n0 c0] 29)
  have hn1 := heap_alloc_new w (.cells #[.int .i64 9223372036854775807, .int .i64 f0, .slice a0 n0 c0] 29)
  obtain ⟨w1, hw1⟩ : ∃ w1, w.alloc (.cells #[.int .i64 9223372036854775807, .int .i64 f0, .slice a0 n0 c0] 29) = w1 := ⟨_, rfl⟩
  rw [hw1] at b1 hn1
  have b2 := below_alloc w1 (.cells #[.int .i64 0, .int .i64 0, .slice none 0 0] 29)
  have hn2 := heap_alloc_new w1 (.cells #[.int .i64 0, .int .i64 0, .slice none 0 0] 29)
  obtain ⟨w2, hw2⟩ : ∃ w2, w1.alloc (.cells #[.int .i64 0, .int .i64 0, .slice none 0 0] 29) = w2 := ⟨_, rfl⟩
  rw [hw2] at b2 hn2
  have k0 := cell_keep b2 (cell_of_row _ _ 0 _ _ _ hn1)
  have HN4 := Lib.hid hn2
  have HB4 := Lib.hid (below_trans b1 b2)
  have HL := Lib.hid (b1.size)
  clear b1 b2 hn1 hn2
  have r0 := cell_of_row _ _ 0 _ _ _ HN4.out
  have r1 := cell_of_row _ _ 1 _ _ _ HN4.out
  have r2 := cell_of_row _ _ 2 _ _ _ HN4.out
  have f0' := frozen_of_row _ _ 0 _ _ HN4.out
  have f1' := frozen_of_row _ _ 1 _ _ HN4.out
  have f2' := frozen_of_row _ _ 2 _ _ HN4.out
  go_enter Try.func79, Try.ntmps79
  go_wp2_with fail
  refine bodyPost_ret (results_cat2 rfl _ _ w1.heap.size _ _ _ rfl (cell_of_row _ _ 0 _ _ _ (put3 HN4.out _ _ _)) (cell_of_row _ _ 1 _ _ _ (put3 HN4.out _ _ _)) (cell_of_row _ _ 2 _ _ _ (put3 HN4.out _ _ _))) rfl ?_
  exact ⟨rfl, put3_below HB4.out HL.out _ _ _⟩
end Go.Proofs.Ytmkljmljbbijeaa

/-! The walk of catalog.Roll. -/
namespace Go.Proofs.Ytmkljmljbbijeaa
open Go.RowKit

def catZ : CatV := ⟨0, 0, []⟩
def lastS (c : CatV) : SegV := nthS c.segs (c.segs.length - 1)
/-- A catalog, rolled. -/
def rollC (c : CatV) (en size : Int) (seed : BitVec 32) : CatV := ⟨c.gen + 1, c.first, sealS c.segs (c.segs.length - 1) en size ++ [⟨(lastS c).num + 1, en, seed, 0, 0⟩]⟩
/-- What Roll answers. -/
def RollIs (c : CatV) (en size : Int) (seed : BitVec 32) (r : CatV) (er : Int) : Prop :=
  (¬ MayC c ∧ r = catZ ∧ er = 4) ∨ (MayC c ∧ c.segs.length = 64 ∧ r = catZ ∧ er = 9) ∨
  (MayC c ∧ c.segs.length ≠ 64 ∧ ¬ ((lastS c).num ≠ 9223372036854775807 ∧ c.gen ≠ 9223372036854775807 ∧ MayC (rollC c en size seed)) ∧ r = catZ ∧ er = 1) ∨
  (MayC c ∧ c.segs.length ≠ 64 ∧ ((lastS c).num ≠ 9223372036854775807 ∧ c.gen ≠ 9223372036854775807 ∧ MayC (rollC c en size seed)) ∧ r = rollC c en size seed ∧ er = 0)
theorem RollIs.uniq {c : CatV} {en size : Int} {seed : BitVec 32} {r r' : CatV} {er er' : Int} (h : RollIs c en size seed r er) (k : RollIs c en size seed r' er') : r = r' ∧ er = er' := by
  rcases h with ⟨h1, h2, h3⟩ | ⟨h1, h2, h3, h4⟩ | ⟨h1, h2, h3, h4, h5⟩ | ⟨h1, h2, h3, h4, h5⟩ <;> rcases k with ⟨k1, k2, k3⟩ | ⟨k1, k2, k3, k4⟩ | ⟨k1, k2, k3, k4, k5⟩ | ⟨k1, k2, k3, k4, k5⟩ <;>
    first
    | exact absurd k1 h1
    | exact absurd h1 k1
    | exact absurd h2 k2
    | exact absurd k2 h2
    | exact absurd h3 k3
    | exact absurd k3 h3
    | (subst h2 h3 k2 k3; exact ⟨rfl, rfl⟩)
    | (subst h3 h4 k3 k4; exact ⟨rfl, rfl⟩)
    | (subst h4 h5 k4 k5; exact ⟨rfl, rfl⟩)
structure OkC (c : CatV) : Prop where
  gen : R64 c.gen
  first : R64 c.first
  segs : OkL c.segs
theorem okC_z : OkC catZ := ⟨by unfold R64 catZ; dsimp only; omega, by unfold R64 catZ; dsimp only; omega, fun i hi => absurd hi (by simp [catZ])⟩
theorem CatAt.ok {w : World} {v : Value} {c : CatV} (h : CatAt w v c) : OkC c := by
  obtain ⟨ao, ca, -, hs, -⟩ := h.shape
  exact ⟨h.gen, h.first, ok_of_at hs⟩
/-- A catalog that was answered: its segments in new memory. -/
structure CatOwn (w : World) (base : Nat) (v : Value) (c : CatV) : Prop where
  own : ∃ vs, v = .agg #[.int .i64 c.gen, .int .i64 c.first, vs] ∧ OwnS w base vs c.segs
  ok : OkC c
  few : c.segs.length ≤ 140737488355328
theorem CatOwn.at {w : World} {base : Nat} {v : Value} {c : CatV} (h : CatOwn w base v c) : CatAt w v c := by
  obtain ⟨vs, rfl, ho⟩ := h.own
  exact CatAt.of_own ho h.ok.segs h.few h.ok.gen h.ok.first
theorem CatOwn.z (w : World) (base : Nat) : CatOwn w base (.agg #[.int .i64 0, .int .i64 0, .slice none 0 0]) catZ := ⟨⟨_, rfl, OwnS.nil w base⟩, okC_z, by simp [catZ]⟩
theorem CatOwn.keep {w w' : World} {base : Nat} {v : Value} {c : CatV} (h : CatOwn w base v c) (hb : Below w.heap.size w w') : CatOwn w' base v c := by
  obtain ⟨vs, rfl, ho⟩ := h.own
  exact ⟨⟨vs, rfl, ho.keep hb⟩, h.ok, h.few⟩
def RollB (w : World) (c : CatV) (en size : Int) (seed : BitVec 32) (e : Ending) (w' : World) : Prop := ∃ v r er, RollIs c en size seed r er ∧ e = .returned (.tuple #[v, .int .i64 er]) ∧ CatOwn w' w.heap.size v r ∧ Below w.heap.size w w'
theorem ok_seal {L : List SegV} {i : Nat} {en size : Int} (h : OkL L) (hi : i < L.length) (h1 : R64 en) (h2 : R64 size) : OkL (sealS L i en size) := fun j hj => by
  rw [sealS_length] at hj
  rw [nthS_seal L en size hi j]
  split
  · exact ⟨(h i hi).num, (h i hi).base, h1, h2⟩
  · exact h j hj
/-- The cells of an owned segment may be written. -/
theorem OwnS.cells {w : World} {base : Nat} {g cap n : Nat} {L : List SegV} (h : OwnS w base (.slice (some ⟨g, 0, none⟩) n cap) L) {i : Nat} (hi : i < L.length) : SegCells w g (i * 5) (nthS L i) ∧ ∀ o, w.frozen? ⟨g, o, none⟩ = false := by
  rcases h.2 with ⟨h0, -⟩ | ⟨g', cap', cur, hv, hb, hc, hle, -, hsz, htk⟩
  · cases h0
  · injection hv with hv1 _ hv2
    injection hv1 with hv1
    injection hv1 with hv1
    subst hv1
    have key : ∀ j u, j < 5 → (segL (nthS L i))[j]? = some u → w.cell? ⟨g, i * 5 + j, none⟩ = some u := fun j u hj hu => by
      rw [cell_of_row _ _ _ _ _ _ hc, ← Array.getElem?_toList, ← hu, ← flat5 L i j hi hj, ← htk, List.getElem?_take, if_pos (by omega)]
    exact ⟨⟨key 0 _ (by omega) rfl, key 1 _ (by omega) rfl, key 2 _ (by omega) rfl, key 3 _ (by omega) rfl, key 4 _ (by omega) rfl⟩, fun o => frozen_of_row _ _ o _ _ hc⟩

set_option maxRecDepth 100000 in
set_option maxHeartbeats 4000000 in
theorem cat_roll (gen first en size s : Int) (seed : BitVec 32) (ao : Option Addr) (n ca : Nat) (L : List SegV) (w : World) (hs : s = bv seed) (hn : L.length = n) (hA : CatAt w (.agg #[.int .i64 gen, .int .i64 first, .slice ao n ca]) ⟨gen, first, L⟩) (h1 : R64 en) (h2 : R64 size) :
    Calls Try.prog 24 #[.agg #[.int .i64 gen, .int .i64 first, .slice ao n ca], .int .i64 en, .int .i64 size, .int .u32 s] w (RollB w ⟨gen, first, L⟩ en size seed) := by
  subst hs
  have hgen := hA.gen
  obtain ⟨ao', ca', e1, hsg, hle, hcm, hnil⟩ := hA.shape
  injection e1 with e1
  simp only [Array.mk.injEq, List.cons.injEq, Value.slice.injEq, and_true, true_and] at e1
  obtain ⟨rfl, -, rfl⟩ := e1
  dsimp only at hsg hle hgen hcm
  have b1 := below_alloc w (.cells #[.int .i64 gen, .int .i64 first, .slice ao n ca] 29)
  have hn1 := heap_alloc_new w (.cells #[.int .i64 gen, .int .i64 first, .slice ao n ca] 29)
  obtain ⟨w1, hw1⟩ : ∃ w1, w.alloc (.cells #[.int .i64 gen, .int .i64 first, .slice ao n ca] 29) = w1 := ⟨_, rfl⟩
  rw [hw1] at b1 hn1
  have b2 := below_alloc w1 (.cells #[.int .i64 0, .int .i64 0, .slice none 0 0] 29)
  have hn2 := heap_alloc_new w1 (.cells #[.int .i64 0, .int .i64 0, .slice none 0 0] 29)
  obtain ⟨w2, hw2⟩ : ∃ w2, w1.alloc (.cells #[.int .i64 0, .int .i64 0, .slice none 0 0] 29) = w2 := ⟨_, rfl⟩
  rw [hw2] at b2 hn2
  have hn12 : w2.heap[w.heap.size]? = _ := (b2.block _ (heap_lt hn1)).trans hn1
  have HC := Lib.hid hn12
  have HR := Lib.hid hn2
  have HB2 := Lib.hid (below_trans b1 b2)
  have HLT := Lib.hid (heap_lt hn1)
  have HA := Lib.hid (hA.below HB2.out)
  have HS := Lib.hid (hsg.below HB2.out)
  have HN := Lib.hid hn
  have HNil := Lib.hid hnil
  have k0 := cell_of_row _ _ 0 _ _ _ hn12
  have k1 := cell_of_row _ _ 1 _ _ _ hn12
  have k2 := cell_of_row _ _ 2 _ _ _ hn12
  clear b1 b2 hn1 hn2 hn12 hA hn hsg hnil
  obtain ⟨t, ht⟩ : ∃ t : Bool, t = true ↔ MayC ⟨gen, first, L⟩ := by
    by_cases h : MayC ⟨gen, first, L⟩
    · exact ⟨true, by simp [h]⟩
    · exact ⟨false, by simp [h]⟩
  have HT := Lib.hid ht
  clear ht
  go_enter Try.func24, Try.ntmps24
  go_wp2_with fail
  refine (cat_may _ _ w2 HA.out t HT.out).mono ?_
  rintro e w3 ⟨rfl, hb3⟩
  have HC3 := Lib.hid ((hb3.block _ (heap_lt HC.out)).trans HC.out)
  have HR3 := Lib.hid ((hb3.block _ (heap_lt HR.out)).trans HR.out)
  have HB3 := Lib.hid (below_trans HB2.out hb3)
  have HS3 := Lib.hid (HS.out.below hb3)
  clear hb3 k0 k1 k2
  have k0 := cell_of_row _ _ 0 _ _ _ HC3.out
  have k1 := cell_of_row _ _ 1 _ _ _ HC3.out
  have k2 := cell_of_row _ _ 2 _ _ _ HC3.out
  have r0 := cell_of_row _ _ 0 _ _ _ HR3.out
  have r1 := cell_of_row _ _ 1 _ _ _ HR3.out
  have r2 := cell_of_row _ _ 2 _ _ _ HR3.out
  have f0 := frozen_of_row _ _ 0 _ _ HR3.out
  have f1 := frozen_of_row _ _ 1 _ _ HR3.out
  have f2 := frozen_of_row _ _ 2 _ _ HR3.out
  have bad : ∀ (W : World), W.heap[w1.heap.size]? = some (.cells #[.int .i64 0, .int .i64 0, .slice none 0 0] 29 (0, 0)) → Below w.heap.size w W → ∀ (er : Int), RollIs ⟨gen, first, L⟩ en size seed catZ er →
      RollB w ⟨gen, first, L⟩ en size seed (.returned (.tuple #[.agg #[.int .i64 0, .int .i64 0, .slice none 0 0], .int .i64 er])) (((W.setCell ⟨w1.heap.size, 0, none⟩ (.int .i64 0)).setCell ⟨w1.heap.size, 1, none⟩ (.int .i64 0)).setCell ⟨w1.heap.size, 2, none⟩ (.slice none 0 0)) :=
    fun W h hb er hr => ⟨_, _, _, hr, rfl, CatOwn.z _ _, put3_below hb (Nat.le_of_lt HLT.out) _ _ _⟩
  have BAD := Lib.hid bad
  clear bad
  cases t
  · go_wp2_with fail
    refine bodyPost_ret (results_cat2 rfl _ _ w1.heap.size _ _ _ rfl (cell_of_row _ _ 0 _ _ _ (put3 HR3.out _ _ _)) (cell_of_row _ _ 1 _ _ _ (put3 HR3.out _ _ _)) (cell_of_row _ _ 2 _ _ _ (put3 HR3.out _ _ _))) rfl ?_
    exact BAD.out _ HR3.out HB3.out _ (.inl ⟨fun h => absurd (HT.out.2 h) (by simp), rfl, rfl⟩)
  · have M := Lib.hid (HT.out.1 rfl)
    obtain ⟨m, rfl⟩ : ∃ m, n = m + 1 := ⟨n - 1, by have := M.out.some; have := HN.out; dsimp only at *; omega⟩
    have hm : m < 64 := by have := M.out.few; have := HN.out; dsimp only at *; omega
    by_cases h64 : m + 1 = 64
    · have b64 : (((m : Int) + 1) == 64) = true := by simp; omega
      have H64 := Lib.hid h64
      clear h64
      go_wp2_with fail
      refine bodyPost_ret (results_cat2 rfl _ _ w1.heap.size _ _ _ rfl (cell_of_row _ _ 0 _ _ _ (put3 HR3.out _ _ _)) (cell_of_row _ _ 1 _ _ _ (put3 HR3.out _ _ _)) (cell_of_row _ _ 2 _ _ _ (put3 HR3.out _ _ _))) rfl ?_
      exact BAD.out _ HR3.out HB3.out _ (.inr (.inl ⟨M.out, HN.out.trans H64.out, rfl, rfl⟩))
    · have b64 : (((m : Int) + 1) == 64) = false := by simp; omega
      have H64 := Lib.hid h64
      clear h64
      go_wp2_with (refine wpList_append_segs (o := ⟨some 27, _, _, _, _, _⟩) rfl _ _ rfl w.heap.size (.slice none 0 0) [] rfl (OwnS.nil _ _) ao (m + 1) ca L rfl HN.out.symm HS3.out HNil.out (by have := M.out.few; dsimp only at this; simp; omega) HB3.out.size ?_)
      intro v5 w5 ho5 hg5
      have hb5 := (OwnS.nil w3 w3.heap.size).below hg5 (Nat.le_refl _) (Nat.le_refl _)
      have ho := ho5
      unfold OwnS at ho
      rw [HN.out] at ho
      obtain ⟨g, cap, rfl⟩ := ownsRow_succ ho
      have hgb : w.heap.size ≤ g := (rows_blk ho rfl).1
      have HC5 := Lib.hid ((hb5.block _ (heap_lt HC3.out)).trans HC3.out)
      have HR5 := Lib.hid ((hb5.block _ (heap_lt HR3.out)).trans HR3.out)
      have HB5 := Lib.hid (below_trans HB3.out hb5)
      have HO5 := Lib.hid ho5
      have hg0 : g ≠ w.heap.size ∧ g ≠ w1.heap.size := by
        obtain ⟨-, cur, hcur⟩ := rows_blk ho rfl
        exact ⟨fun e => by subst e; rw [HC5.out] at hcur; simp at hcur, fun e => by subst e; rw [HR5.out] at hcur; simp at hcur⟩
      have HG := Lib.hid hg0
      obtain ⟨⟨d0, d1, d2, d3, d4⟩, hfz⟩ := ho5.cells (i := m) (by have := HN.out; omega)
      have fz3 := hfz (m * 5 + 3)
      have fz4 := hfz (m * 5 + 4)
      have okm := Lib.hid ((ok_of_at HS3.out) m (by have := HN.out; omega))
      obtain ⟨n1, n2⟩ := okm.out.num
      clear hb5 ho hg5 k0 k1 k2 r0 r1 r2 f0 f1 f2 ho5 hg0 hfz
      have k0 := cell_of_row _ _ 0 _ _ _ HC5.out
      have k1 := cell_of_row _ _ 1 _ _ _ HC5.out
      have k2 := cell_of_row _ _ 2 _ _ _ HC5.out
      have r0 := cell_of_row _ _ 0 _ _ _ HR5.out
      have r1 := cell_of_row _ _ 1 _ _ _ HR5.out
      have r2 := cell_of_row _ _ 2 _ _ _ HR5.out
      have f0 := frozen_of_row _ _ 0 _ _ HR5.out
      have f1 := frozen_of_row _ _ 1 _ _ HR5.out
      have f2 := frozen_of_row _ _ 2 _ _ HR5.out
      have LS : Hid (lastS ⟨gen, first, L⟩ = nthS L m) := Lib.hid (by unfold lastS; dsimp only; rw [HN.out]; rfl)
      by_cases q1 : (nthS L m).num = 9223372036854775807
      · have bq : ((nthS L m).num == 9223372036854775807) = true := by simp [q1]
        have Q1 := Lib.hid q1
        clear q1
        go_wp2_with fail
        refine bodyPost_ret (results_cat2 rfl _ _ w1.heap.size _ _ _ rfl (cell_of_row _ _ 0 _ _ _ (put3 HR5.out _ _ _)) (cell_of_row _ _ 1 _ _ _ (put3 HR5.out _ _ _)) (cell_of_row _ _ 2 _ _ _ (put3 HR5.out _ _ _))) rfl ?_
        exact BAD.out _ HR5.out HB5.out _ (.inr (.inr (.inl ⟨M.out, fun h => H64.out (HN.out.symm.trans h), fun h => h.1 (by rw [LS.out]; exact Q1.out), rfl, rfl⟩)))
      · have bq : ((nthS L m).num == 9223372036854775807) = false := by simp [q1]
        have q1b : (nthS L m).num < 9223372036854775807 := by omega
        have Q1 := Lib.hid q1
        clear q1
        have y4 : (w5.setCell ⟨g, m * 5 + 3, none⟩ (.int .i64 en)).cell? ⟨g, m * 5 + 4, none⟩ = some (.int .i64 (nthS L m).size) := by rw [World.cell?_setCell_other _ _ _ _ (by intro e; injection e; omega)]; exact d4
        obtain ⟨w6, hw6⟩ : ∃ w6, (w5.setCell ⟨g, m * 5 + 3, none⟩ (.int .i64 en)).setCell ⟨g, m * 5 + 4, none⟩ (.int .i64 size) = w6 := ⟨_, rfl⟩
        have hb6 : Below w.heap.size w w6 := by rw [← hw6]; exact (HB5.out.setCell (p := ⟨g, m * 5 + 3, none⟩) hgb _).setCell (p := ⟨g, m * 5 + 4, none⟩) hgb _
        have hc6 : w6.heap[w.heap.size]? = some (.cells #[.int .i64 gen, .int .i64 first, .slice ao (m + 1) ca] 29 (0, 0)) := by rw [← hw6, Below.heap_setCell _ _ _ _ (by simpa using HG.out.1.symm), Below.heap_setCell _ _ _ _ (by simpa using HG.out.1.symm)]; exact HC5.out
        have hr6 : w6.heap[w1.heap.size]? = some (.cells #[.int .i64 0, .int .i64 0, .slice none 0 0] 29 (0, 0)) := by rw [← hw6, Below.heap_setCell _ _ _ _ (by simpa using HG.out.2.symm), Below.heap_setCell _ _ _ _ (by simpa using HG.out.2.symm)]; exact HR5.out
        have ho6 : OwnS w6 w.heap.size (.slice (some ⟨g, 0, none⟩) (m + 1) cap) (sealS L m en size) := by
          have h := HO5.out
          rw [← HN.out] at h ⊢
          rw [← hw6]
          exact h.seal (by have := HN.out; omega) en size
        obtain ⟨⟨e0, -, -, -, -⟩, -⟩ := ho6.cells (i := m) (by rw [sealS_length]; have := HN.out; omega)
        rw [nthS_seal L en size (by have := HN.out; omega) m, if_pos rfl] at e0
        have HC6 := Lib.hid hc6
        have HR6 := Lib.hid hr6
        have HB6 := Lib.hid hb6
        have HO6 := Lib.hid ho6
        clear hc6 hr6 hb6 ho6
        have bN := below_alloc w6 (.cells #[.int .i64 ((nthS L m).num + 1), .int .i64 en, .int .u32 (bv seed), .int .i64 0, .int .i64 0] 53)
        have OW := Lib.hid (HO6.out.keep bN)
        have SG : Hid (SegsAt (w6.alloc (.cells #[.int .i64 ((nthS L m).num + 1), .int .i64 en, .int .u32 (bv seed), .int .i64 0, .int .i64 0] 53)) (some ⟨w6.heap.size, 0, none⟩) [⟨(nthS L m).num + 1, en, seed, 0, 0⟩]) := Lib.hid fun i hi => by
          obtain rfl : i = 0 := by simp at hi; exact hi
          exact ⟨⟨show R64 ((nthS L m).num + 1) from ⟨by omega, by omega⟩, h1, show R64 0 from ⟨by decide, by decide⟩, show R64 0 from ⟨by decide, by decide⟩⟩, w6.heap.size, 0, rfl, seg_new w6 ⟨(nthS L m).num + 1, en, seed, 0, 0⟩ _⟩
        have SZ := Lib.hid (Nat.le_trans HB6.out.size bN.size)
        have LEN : Hid ((sealS L m en size).length + [(⟨(nthS L m).num + 1, en, seed, 0, 0⟩ : SegV)].length ≤ 3518437208883) := Lib.hid (by rw [sealS_length, HN.out]; simp; omega)
        have HB6' := Lib.hid (below_trans HB6.out bN)
        have HC6' := Lib.hid ((bN.block _ (heap_lt HC6.out)).trans HC6.out)
        have HR6' := Lib.hid ((bN.block _ (heap_lt HR6.out)).trans HR6.out)
        clear bN
        go_wp2_with (refine wpList_append_segs (o := ⟨some 57, _, _, _, _, _⟩) rfl _ _ rfl w.heap.size (.slice (some ⟨g, 0, none⟩) (m + 1) cap) (sealS L m en size) rfl OW.out (some ⟨w6.heap.size, 0, none⟩) 1 1 [⟨(nthS L m).num + 1, en, seed, 0, 0⟩] rfl rfl SG.out (fun e => by cases e) LEN.out SZ.out ?_)
        intro v7 w7 ho7 hg7
        have hb7 : Below w.heap.size w w7 := HB6'.out.grown hg7 (HB6'.out.size) (fun k hk => by have := (rows_blk OW.out hk).1; omega)
        have hc7 := (hg7.block w.heap.size (heap_lt HC6'.out) (by intro e; injection e with e; exact HG.out.1 e.symm)).trans HC6'.out
        have hr7 := (hg7.block w1.heap.size (heap_lt HR6'.out) (by intro e; injection e with e; exact HG.out.2 e.symm)).trans HR6'.out
        have OK7 : Hid (OkL (sealS L m en size ++ [⟨(nthS L m).num + 1, en, seed, 0, 0⟩])) := Lib.hid (ok_append (ok_seal (ok_of_at HS3.out) (by have := HN.out; omega) h1 h2) (ok_of_at SG.out))
        have FEW : Hid ((sealS L m en size ++ [(⟨(nthS L m).num + 1, en, seed, 0, 0⟩ : SegV)]).length ≤ 140737488355328) := Lib.hid (by rw [List.length_append]; have := LEN.out; omega)
        have RC : Hid (rollC ⟨gen, first, L⟩ en size seed = ⟨gen + 1, first, sealS L m en size ++ [⟨(nthS L m).num + 1, en, seed, 0, 0⟩]⟩) := Lib.hid (by unfold rollC; rw [LS.out]; dsimp only; rw [HN.out]; rfl)
        obtain ⟨L7, hL7⟩ : ∃ L7, sealS L m en size ++ [(⟨(nthS L m).num + 1, en, seed, 0, 0⟩ : SegV)] = L7 := ⟨_, rfl⟩
        rw [hL7] at ho7 OK7 FEW RC
        obtain ⟨a7, c7, rfl, h7⟩ := ho7.there OK7.out FEW.out
        have HC7 := Lib.hid hc7
        have HR7 := Lib.hid hr7
        have HB7 := Lib.hid hb7
        have HO7 := Lib.hid ho7
        have H7 := Lib.hid h7
        clear hc7 hr7 hb7 ho7 hg7 hL7 h7 k0 k1 k2 r0 r1 r2 f0 f1 f2 d0 d1 d2 d3 d4 e0 fz3 fz4 y4 hw6 OW SG HB6' HC6' HR6' HC6 HR6 HO6 HO5 HC5 HR5
        have k0 := cell_of_row _ _ 0 _ _ _ HC7.out
        have k1 := cell_of_row _ _ 1 _ _ _ HC7.out
        have k2 := cell_of_row _ _ 2 _ _ _ HC7.out
        have fin : Hid (∀ (W : World) (b : Nat), Below w7.heap.size w7 W → w1.heap.size < w7.heap.size ∧ W.heap[w1.heap.size]? = some (.cells #[.int .i64 0, .int .i64 0, .slice none 0 0] 29 (0, 0)) ∧ Below w.heap.size w W) := Lib.hid fun W b hb => ⟨heap_lt HR7.out, (hb.block _ (heap_lt HR7.out)).trans HR7.out, below_trans HB7.out hb⟩
        by_cases q2 : gen = 9223372036854775807
        · subst q2
          go_wp2_with fail
          refine (cat_next_top _ _ _ _ _ _ _).mono ?_
          rintro e w8 ⟨rfl, hb8⟩
          have bM := below_alloc w8 (.cells #[.int .i64 0, .int .i64 0, .slice none 0 0] 29)
          obtain ⟨l1, HR8, HB8⟩ := fin.out _ 0 (below_trans hb8 bM)
          have HR9 := Lib.hid HR8
          have HB9 := Lib.hid HB8
          clear HR8 HB8 bM hb8 l1 k0 k1 k2
          have r0 := cell_of_row _ _ 0 _ _ _ HR9.out
          have r1 := cell_of_row _ _ 1 _ _ _ HR9.out
          have r2 := cell_of_row _ _ 2 _ _ _ HR9.out
          have f0 := frozen_of_row _ _ 0 _ _ HR9.out
          have f1 := frozen_of_row _ _ 1 _ _ HR9.out
          have f2 := frozen_of_row _ _ 2 _ _ HR9.out
          go_wp2_with fail
          refine bodyPost_ret (results_cat2 rfl _ _ w1.heap.size _ _ _ rfl (cell_of_row _ _ 0 _ _ _ (put3 HR9.out _ _ _)) (cell_of_row _ _ 1 _ _ _ (put3 HR9.out _ _ _)) (cell_of_row _ _ 2 _ _ _ (put3 HR9.out _ _ _))) rfl ?_
          exact BAD.out _ HR9.out HB9.out _ (.inr (.inr (.inl ⟨M.out, fun h => H64.out (HN.out.symm.trans h), fun h => h.2.1 rfl, rfl, rfl⟩)))
        · have Q2 := Lib.hid q2
          obtain ⟨t2, ht2⟩ : ∃ t2 : Bool, t2 = true ↔ MayC ⟨gen + 1, first, L7⟩ := by
            by_cases h : MayC ⟨gen + 1, first, L7⟩
            · exact ⟨true, by simp [h]⟩
            · exact ⟨false, by simp [h]⟩
          have T2 := Lib.hid ht2
          have GG : Hid (-9223372036854775808 ≤ gen ∧ gen < 9223372036854775807) := Lib.hid ⟨hgen.1, by have := hgen.2; omega⟩
          have CA : Hid (CatAt w7 (.agg #[.int .i64 (gen + 1), .int .i64 first, .slice a7 L7.length c7]) ⟨gen + 1, first, L7⟩) := Lib.hid (by
            have h := GG.out
            exact ⟨⟨a7, c7, rfl, H7.out⟩, ⟨by dsimp only; omega, by dsimp only; omega⟩, HA.out.first⟩)
          clear q2 ht2
          go_wp2_with fail
          refine (cat_next gen first first ao (m + 1) ca a7 L7.length c7 L7 w7 CA.out GG.out t2 T2.out).mono ?_
          rintro e w8 ⟨rfl, hb8⟩
          have bM := below_alloc w8 (.cells #[.int .i64 (gen + 1), .int .i64 first, .slice a7 L7.length c7] 29)
          obtain ⟨x0, x1, x2⟩ : (w8.alloc (.cells #[.int .i64 (gen + 1), .int .i64 first, .slice a7 L7.length c7] 29)).cell? ⟨w8.heap.size, 0, none⟩ = some (.int .i64 (gen + 1)) ∧ (w8.alloc (.cells #[.int .i64 (gen + 1), .int .i64 first, .slice a7 L7.length c7] 29)).cell? ⟨w8.heap.size, 1, none⟩ = some (.int .i64 first) ∧ (w8.alloc (.cells #[.int .i64 (gen + 1), .int .i64 first, .slice a7 L7.length c7] 29)).cell? ⟨w8.heap.size, 2, none⟩ = some (.slice a7 L7.length c7) := by
            have h := heap_alloc_new w8 (.cells #[.int .i64 (gen + 1), .int .i64 first, .slice a7 L7.length c7] 29)
            exact ⟨cell_of_row _ _ 0 _ _ _ h, cell_of_row _ _ 1 _ _ _ h, cell_of_row _ _ 2 _ _ _ h⟩
          obtain ⟨l1, HR8, HB8⟩ := fin.out _ 0 (below_trans hb8 bM)
          have HR9 := Lib.hid HR8
          have HB9 := Lib.hid HB8
          have HO9 := Lib.hid (HO7.out.keep (below_trans hb8 bM))
          clear HR8 HB8 bM hb8 l1 k0 k1 k2
          have r0 := cell_of_row _ _ 0 _ _ _ HR9.out
          have r1 := cell_of_row _ _ 1 _ _ _ HR9.out
          have r2 := cell_of_row _ _ 2 _ _ _ HR9.out
          have f0 := frozen_of_row _ _ 0 _ _ HR9.out
          have f1 := frozen_of_row _ _ 1 _ _ HR9.out
          have f2 := frozen_of_row _ _ 2 _ _ HR9.out
          cases t2
          · go_wp2_with fail
            refine bodyPost_ret (results_cat2 rfl _ _ w1.heap.size _ _ _ rfl (cell_of_row _ _ 0 _ _ _ (put3 HR9.out _ _ _)) (cell_of_row _ _ 1 _ _ _ (put3 HR9.out _ _ _)) (cell_of_row _ _ 2 _ _ _ (put3 HR9.out _ _ _))) rfl ?_
            exact BAD.out _ HR9.out HB9.out _ (.inr (.inr (.inl ⟨M.out, fun h => H64.out (HN.out.symm.trans h), fun h => by have h3 := h.2.2; rw [RC.out] at h3; exact absurd (T2.out.2 h3) (by simp), rfl, rfl⟩)))
          · go_wp2_with fail
            refine bodyPost_ret (results_cat2 rfl _ _ w1.heap.size _ _ _ rfl (cell_of_row _ _ 0 _ _ _ (put3 HR9.out _ _ _)) (cell_of_row _ _ 1 _ _ _ (put3 HR9.out _ _ _)) (cell_of_row _ _ 2 _ _ _ (put3 HR9.out _ _ _))) rfl ?_
            refine ⟨_, _, _, .inr (.inr (.inr ⟨M.out, fun h => H64.out (HN.out.symm.trans h), ⟨by rw [LS.out]; exact Q1.out, Q2.out, by rw [RC.out]; exact T2.out.1 trivial⟩, rfl, rfl⟩)), rfl, ?_, put3_below HB9.out (Nat.le_of_lt HLT.out) _ _ _⟩
            rw [RC.out]
            refine ⟨⟨_, rfl, ?_⟩, ⟨⟨by have := GG.out; dsimp only; omega, by have := GG.out; dsimp only; omega⟩, HA.out.first, OK7.out⟩, FEW.out⟩
            have hne : (Value.slice a7 L7.length c7).ownBlock ≠ some w1.heap.size := fun e => by
              obtain ⟨-, cur, hcur⟩ := rows_blk HO9.out e
              rw [HR9.out] at hcur
              simp at hcur
            exact rows_congr HO9.out fun k hk => put3_off (fun e => hne (hk.trans (congrArg some e.symm))) _ _ _
end Go.Proofs.Ytmkljmljbbijeaa

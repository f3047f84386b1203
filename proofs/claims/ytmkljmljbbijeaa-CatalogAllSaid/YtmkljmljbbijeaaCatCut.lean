/- The walk of catalog.Cut. -/
import Derived.Test.YtmkljmljbbijeaaCatNext
import Derived.Test.YtmkljmljbbijeaaSegsOwn
import Derived.Test.YtmkljmljbbijeaaFork2
namespace Go.Proofs.Ytmkljmljbbijeaa
open Go.RowKit

/-- So many segments go. -/
def CutK (c : CatV) (lsn : Int) (k : Nat) : Prop := k + 1 ≤ c.segs.length ∧ (∀ i, i < k → (nthS c.segs i).end_ ≤ lsn) ∧ (k + 1 < c.segs.length → lsn < (nthS c.segs k).end_)
theorem CutK.uniq {c : CatV} {lsn : Int} {i j : Nat} (h : CutK c lsn i) (k : CutK c lsn j) : i = j := by
  rcases Nat.lt_trichotomy i j with h1 | h1 | h1
  · have := h.2.2 (by have := k.1; omega); have := k.2.1 i h1; omega
  · exact h1
  · have := k.2.2 (by have := h.1; omega); have := h.2.1 j h1; omega
def cutC (c : CatV) (lsn : Int) (k : Nat) : CatV := ⟨c.gen + 1, lsn, c.segs.drop k⟩
def numsC (L : List SegV) (k : Nat) : List Int := (L.take k).map (·.num)
def CutIs (c : CatV) (lsn : Int) (r : CatV) (nums : List Int) (er : Int) : Prop :=
  (¬ MayC c ∧ r = catZ ∧ nums = [] ∧ er = 4) ∨
  (∃ k, CutK c lsn k ∧ MayC c ∧ ¬ (c.first ≤ lsn ∧ c.gen ≠ 9223372036854775807 ∧ MayC (cutC c lsn k)) ∧ r = catZ ∧ nums = [] ∧ er = 1) ∨
  (∃ k, CutK c lsn k ∧ MayC c ∧ (c.first ≤ lsn ∧ c.gen ≠ 9223372036854775807 ∧ MayC (cutC c lsn k)) ∧ r = cutC c lsn k ∧ nums = numsC c.segs k ∧ er = 0)
theorem CutIs.uniq {c : CatV} {lsn : Int} {r r' : CatV} {a a' : List Int} {er er' : Int} (h : CutIs c lsn r a er) (k : CutIs c lsn r' a' er') : r = r' ∧ a = a' ∧ er = er' := by
  rcases h with ⟨h1, h2, h3, h4⟩ | ⟨i, hi, h1, h2, h3, h4, h5⟩ | ⟨i, hi, h1, h2, h3, h4, h5⟩ <;> rcases k with ⟨k1, k2, k3, k4⟩ | ⟨j, hj, k1, k2, k3, k4, k5⟩ | ⟨j, hj, k1, k2, k3, k4, k5⟩
  · exact ⟨h2.trans k2.symm, h3.trans k3.symm, h4.trans k4.symm⟩
  · exact absurd k1 h1
  · exact absurd k1 h1
  · exact absurd h1 k1
  · exact ⟨h3.trans k3.symm, h4.trans k4.symm, h5.trans k5.symm⟩
  · obtain rfl := hi.uniq hj; exact absurd k2 h2
  · exact absurd h1 k1
  · obtain rfl := hi.uniq hj; exact absurd h2 k2
  · obtain rfl := hi.uniq hj; exact ⟨h3.trans k3.symm, h4.trans k4.symm, h5.trans k5.symm⟩
/-- There always is such a number. -/
theorem cutK_ex (c : CatV) (lsn : Int) (h : 1 ≤ c.segs.length) : ∃ k, CutK c lsn k := by
  have key : ∀ n k, n + k + 1 = c.segs.length → (∀ i, i < k → (nthS c.segs i).end_ ≤ lsn) → ∃ k, CutK c lsn k := by
    intro n
    induction n with
    | zero => intro k h1 h2; exact ⟨k, by omega, h2, fun h3 => absurd h3 (by omega)⟩
    | succ n ih =>
      intro k h1 h2
      by_cases hk : (nthS c.segs k).end_ ≤ lsn
      · exact ih (k + 1) (by omega) fun i hi => by
          rcases Nat.lt_or_ge i k with h3 | h3
          · exact h2 i h3
          · obtain rfl : i = k := by omega
            exact hk
      · exact ⟨k, by omega, h2, fun _ => by omega⟩
  exact key (c.segs.length - 1) 0 (by omega) fun i hi => absurd hi (by omega)
def CutB (w : World) (c : CatV) (lsn : Int) (e : Ending) (w' : World) : Prop := ∃ v nv r nums er, CutIs c lsn r nums er ∧ e = .returned (.tuple #[v, nv, .int .i64 er]) ∧ CatOwn w' w.heap.size v r ∧ OwnI w' w.heap.size nv nums ∧ Below w.heap.size w w'
theorem numsC_succ {L : List SegV} {k : Nat} (h : k < L.length) : numsC L k ++ [(nthS L k).num] = numsC L (k + 1) := by
  unfold numsC nthS
  rw [List.take_add_one, List.getElem?_eq_getElem h, List.map_append]
  simp [List.getD, h]
theorem numsC_length {L : List SegV} {k : Nat} (h : k ≤ L.length) : (numsC L k).length = k := by simp [numsC, h]
theorem drop_at {w : World} {b off : Nat} {L : List SegV} {k : Nat} (h : SegsAt w (some ⟨b, off, none⟩) L) : SegsAt w (some ⟨b, off + k * 5, none⟩) (L.drop k) := fun i hi => by
  rw [List.length_drop] at hi
  obtain ⟨h1, h2⟩ := h.get (i := k + i) (by omega)
  have e : nthS (L.drop k) i = nthS L (k + i) := by simp [nthS]
  rw [e]
  refine ⟨h1, b, off + k * 5, rfl, ?_⟩
  rw [show off + k * 5 + i * 5 = off + (k + i) * 5 by omega]
  exact h2

/-- A catalog's box among what may change. -/
structure CatW (b : Nat) (x y z : Value) (W : World) : Prop where
  c0 : W.cell? ⟨b, 0, none⟩ = some x
  c1 : W.cell? ⟨b, 1, none⟩ = some y
  c2 : W.cell? ⟨b, 2, none⟩ = some z
theorem CatW.of {b : Nat} {x y z : Value} {T : TypeId} {fr : Nat × Nat} {W : World} (h : W.heap[b]? = some (.cells #[x, y, z] T fr)) : CatW b x y z W := ⟨cell_of_row _ _ 0 _ _ _ h, cell_of_row _ _ 1 _ _ _ h, cell_of_row _ _ 2 _ _ _ h⟩
/-- next, whatever it answers. -/
theorem cat_next_x (gen f0 first : Int) (a0 : Option Addr) (n0 c0 : Nat) (v : Value) (base : Nat) (L : List SegV) (w : World) (hg : R64 gen) (hf : R64 first) (ho : OwnS w base v L) (ok : OkL L) (hl : L.length ≤ 140737488355328) :
    Calls Try.prog 79 #[.agg #[.int .i64 gen, .int .i64 f0, .slice a0 n0 c0], .int .i64 first, v] w fun e w' => ∃ (g f : Int) (au : Option Addr) (nu cu : Nat) (t : Bool), e = .returned (.tuple #[.agg #[.int .i64 g, .int .i64 f, .slice au nu cu], .bool t]) ∧ Below w.heap.size w w' ∧
      ((t = true ∧ gen ≠ 9223372036854775807 ∧ MayC ⟨gen + 1, first, L⟩ ∧ g = gen + 1 ∧ f = first ∧ .slice au nu cu = v) ∨ (t = false ∧ ¬ (gen ≠ 9223372036854775807 ∧ MayC ⟨gen + 1, first, L⟩))) := by
  by_cases h : gen = 9223372036854775807
  · subst h
    exact (cat_next_top f0 first a0 n0 c0 v w).mono (by rintro e w' ⟨rfl, hb⟩; exact ⟨_, _, _, _, _, _, rfl, hb, .inr ⟨rfl, fun h => h.1 rfl⟩⟩)
  · have h2 : -9223372036854775808 ≤ gen ∧ gen < 9223372036854775807 := ⟨hg.1, by have := hg.2; omega⟩
    have hA := CatAt.of_own (gen := gen + 1) ho ok hl ⟨by omega, by omega⟩ hf
    obtain ⟨ao, ca, rfl, -⟩ := ho.there ok hl
    by_cases hM : MayC ⟨gen + 1, first, L⟩
    · exact (cat_next gen f0 first a0 n0 c0 ao L.length ca L w hA h2 true (by simp [hM])).mono (by rintro e w' ⟨rfl, hb⟩; exact ⟨_, _, _, _, _, _, rfl, hb, .inl ⟨rfl, h, hM, rfl, rfl, rfl⟩⟩)
    · exact (cat_next gen f0 first a0 n0 c0 ao L.length ca L w hA h2 false (by simp [hM])).mono (by rintro e w' ⟨rfl, hb⟩; exact ⟨_, _, _, _, _, _, rfl, hb, .inr ⟨rfl, fun h => hM h.2⟩⟩)

set_option maxRecDepth 100000 in
set_option maxHeartbeats 8000000 in
theorem cat_cut (gen first lsn : Int) (ao : Option Addr) (n ca : Nat) (L : List SegV) (w : World) (hn : L.length = n) (hA : CatAt w (.agg #[.int .i64 gen, .int .i64 first, .slice ao n ca]) ⟨gen, first, L⟩) (h1 : R64 lsn) :
    Calls Try.prog 26 #[.agg #[.int .i64 gen, .int .i64 first, .slice ao n ca], .int .i64 lsn] w (CutB w ⟨gen, first, L⟩ lsn) := by
  have hgen := hA.gen
  obtain ⟨ao', ca', e1, hsg, hle, hcm, hnil⟩ := hA.shape
  injection e1 with e1
  simp only [Array.mk.injEq, List.cons.injEq, Value.slice.injEq, and_true, true_and] at e1
  obtain ⟨rfl, -, rfl⟩ := e1
  dsimp only at hsg hle hgen hcm
  have b1 := below_alloc w (.cells #[.int .i64 gen, .int .i64 first, .slice ao n ca] 29)
  have hn1 := heap_alloc_new w (.cells #[.int .i64 gen, .int .i64 first, .slice ao n ca] 29)
  obtain ⟨w1, hw1⟩ : ∃ w1, w.alloc (.cells #[.int .i64 gen, .int .i64 first, .slice ao n ca] 29) = w1 := ⟨_, rfl⟩
  rw [hw1] at b1 hn1
  have b2 := below_alloc w1 (.cells #[.int .i64 0, .int .i64 0, .slice none 0 0] 29)
  have hn2 := heap_alloc_new w1 (.cells #[.int .i64 0, .int .i64 0, .slice none 0 0] 29)
  obtain ⟨w2, hw2⟩ : ∃ w2, w1.alloc (.cells #[.int .i64 0, .int .i64 0, .slice none 0 0] 29) = w2 := ⟨_, rfl⟩
  rw [hw2] at b2 hn2
  have hn12 : w2.heap[w.heap.size]? = _ := (b2.block _ (heap_lt hn1)).trans hn1
  have HC := Lib.hid hn12
  have HR := Lib.hid hn2
  have HB2 := Lib.hid (below_trans b1 b2)
  have HLT := Lib.hid (heap_lt hn1)
  have HA := Lib.hid (hA.below HB2.out)
  have HS := Lib.hid (hsg.below HB2.out)
  have HN := Lib.hid hn
  have HNil := Lib.hid hnil
  have k0 := cell_of_row _ _ 0 _ _ _ hn12
  have k1 := cell_of_row _ _ 1 _ _ _ hn12
  have k2 := cell_of_row _ _ 2 _ _ _ hn12
  clear b1 b2 hn1 hn2 hn12 hA hn hsg hnil
  obtain ⟨t, ht⟩ : ∃ t : Bool, t = true ↔ MayC ⟨gen, first, L⟩ := by
    by_cases h : MayC ⟨gen, first, L⟩
    · exact ⟨true, by simp [h]⟩
    · exact ⟨false, by simp [h]⟩
  have HT := Lib.hid ht
  clear ht
  go_enter Try.func26, Try.ntmps26
  go_wp2_with fail
  refine (cat_may _ _ w2 HA.out t HT.out).mono ?_
  rintro e w3 ⟨rfl, hb3⟩
  have HB3 := Lib.hid hb3
  have HS3 := Lib.hid (HS.out.below hb3)
  clear hb3 k0 k1 k2
  have bad : ∀ (W : World), Below w2.heap.size w2 W → ∀ (er : Int), CutIs ⟨gen, first, L⟩ lsn catZ [] er →
      CutB w ⟨gen, first, L⟩ lsn (.returned (.tuple #[.agg #[.int .i64 0, .int .i64 0, .slice none 0 0], .slice none 0 0, .int .i64 er])) (((W.setCell ⟨w1.heap.size, 0, none⟩ (.int .i64 0)).setCell ⟨w1.heap.size, 1, none⟩ (.int .i64 0)).setCell ⟨w1.heap.size, 2, none⟩ (.slice none 0 0)) :=
    fun W hb er hr => ⟨_, _, _, _, _, hr, rfl, CatOwn.z _ _, OwnI.nil _ _, put3_below (below_trans HB2.out hb) (Nat.le_of_lt HLT.out) _ _ _⟩
  have box : ∀ (W : World), Below w2.heap.size w2 W → W.heap[w.heap.size]? = some (.cells #[.int .i64 gen, .int .i64 first, .slice ao n ca] 29 (0, 0)) ∧ W.heap[w1.heap.size]? = some (.cells #[.int .i64 0, .int .i64 0, .slice none 0 0] 29 (0, 0)) :=
    fun W hb => ⟨(hb.block _ (heap_lt HC.out)).trans HC.out, (hb.block _ (heap_lt HR.out)).trans HR.out⟩
  have BAD := Lib.hid bad
  have BOX := Lib.hid box
  clear bad box
  obtain ⟨hc3, hr3⟩ := BOX.out w3 HB3.out
  have HR3 := Lib.hid hr3
  have k0 := cell_of_row _ _ 0 _ _ _ hc3
  have k1 := cell_of_row _ _ 1 _ _ _ hc3
  have k2 := cell_of_row _ _ 2 _ _ _ hc3
  have r0 := cell_of_row _ _ 0 _ _ _ hr3
  have r1 := cell_of_row _ _ 1 _ _ _ hr3
  have r2 := cell_of_row _ _ 2 _ _ _ hr3
  have f0 := frozen_of_row _ _ 0 _ _ hr3
  have f1 := frozen_of_row _ _ 1 _ _ hr3
  have f2 := frozen_of_row _ _ 2 _ _ hr3
  clear hc3 hr3
  cases t
  · go_wp2_with fail
    refine bodyPost_ret (results_cat3 rfl _ _ w1.heap.size _ _ _ rfl (cell_of_row _ _ 0 _ _ _ (put3 HR3.out _ _ _)) (cell_of_row _ _ 1 _ _ _ (put3 HR3.out _ _ _)) (cell_of_row _ _ 2 _ _ _ (put3 HR3.out _ _ _))) rfl ?_
    exact BAD.out _ HB3.out _ (.inl ⟨fun h => absurd (HT.out.2 h) (by simp), rfl, rfl, rfl⟩)
  · have M := Lib.hid (HT.out.1 rfl)
    have hm0 : 1 ≤ n ∧ n ≤ 64 := by have h3 := M.out.some; have h4 := M.out.few; have := HN.out; dsimp only at h3 h4; omega
    obtain ⟨m, rfl⟩ : ∃ m, n = m + 1 := ⟨n - 1, by omega⟩
    have hm : m < 64 := by omega
    clear hm0
    obtain ⟨kk, hkk⟩ := cutK_ex ⟨gen, first, L⟩ lsn (by dsimp only; rw [HN.out]; omega)
    have KK := Lib.hid hkk
    clear hkk
    by_cases q1 : first ≤ lsn
    · have Q1 := Lib.hid q1
      obtain ⟨-, b, off, rfl, -⟩ := HS3.out 0 (by rw [HN.out]; omega)
      clear r0 r1 r2 f0 f1 f2
      go_wp2_with fail
      go_loopw [7, 8] (fun i u wr => ∃ k : Nat, k ≤ m ∧ i = .int .i64 k ∧ Hid (OwnI wr w2.heap.size u (numsC L k)) ∧ Hid (Below w2.heap.size w2 wr) ∧ Hid (∀ j, j < k → (nthS L j).end_ ≤ lsn)) (fun i _ _ => m - (intOf i).toNat)
      case atStart => exact ⟨0, Nat.zero_le _, rfl, Lib.hid (OwnI.nil _ _), HB3, Lib.hid fun j hj => absurd hj (by omega)⟩
      case round =>
        obtain ⟨k, hk, rfl, HO, HW, HE⟩ := hrel
        obtain ⟨hc4, hr4⟩ := BOX.out wr HW.out
        have HC4 := Lib.hid hc4
        have HR4 := Lib.hid hr4
        have k0 := cell_of_row _ _ 0 _ _ _ hc4
        have k1 := cell_of_row _ _ 1 _ _ _ hc4
        have k2 := cell_of_row _ _ 2 _ _ _ hc4
        obtain ⟨-, d0, d1, d2, d3, d4⟩ := (HS.out.below HW.out).get (i := k) (by have := HN.out; omega)
        have D3 := Lib.hid (And.intro d0 (And.intro d1 (And.intro d2 (And.intro d3 d4))))
        clear hc4 hr4 d0 d1 d2 d4
        by_cases hlt : k < m ∧ (nthS L k).end_ ≤ lsn
        · obtain ⟨hlt, he⟩ := hlt
          have d0 := D3.out.1
          have EN := Lib.hid he
          have bO := below_alloc wr (.cells #[.int .i64 (nthS L k).num] 2)
          have O5 := Lib.hid (HO.out.keep bO)
          have SZ5 := Lib.hid (Nat.le_trans HW.out.size bO.size)
          have LE := Lib.hid (show (numsC L k).length ≤ 1099511627776 by rw [numsC_length (by have := HN.out; omega)]; omega)
          have BO := Lib.hid bO
          clear bO
          go_wp2_with (refine wpList_append_i64 (o := ⟨some 46, _, _, _, _, _⟩) rfl _ _ rfl w2.heap.size u8 (numsC L k) rfl O5.out ⟨wr.heap.size, 0, none⟩ (nthS L k).num rfl (cell_one_new _ _ _) LE.out SZ5.out ?_)
          intro v5 w5 ho5 hg5
          have O6 := Lib.hid (show OwnI w5 w2.heap.size v5 (numsC L (k + 1)) by rw [← numsC_succ (by have := HN.out; omega)]; exact ho5)
          have W6 := Lib.hid (show Below w2.heap.size w2 w5 from (below_trans HW.out BO.out).grown hg5 SZ5.out (fun k hk => (rows_blk O5.out hk).1))
          clear ho5 hg5 O5 SZ5 LE BO d0 d3 k0 k1 k2
          go_wp2_with fail
          go_roundw
          case rel => exact ⟨k + 1, by omega, by go_num, O6.out, W6.out, fun j hj => by
            rcases Nat.lt_or_ge j k with h | h
            · exact HE.out j h
            · obtain rfl : j = k := by omega
              exact EN.out⟩
          case measure => simp [intOf]; omega
        · have CW := Lib.hid (CatW.of HC4.out)
          have KE : Hid (k = kk) := Lib.hid (CutK.uniq (c := ⟨gen, first, L⟩) ⟨by have := HN.out; dsimp only; omega, HE.out, fun h => by have := HN.out; dsimp only at h ⊢; omega⟩ KK.out)
          have kk1 : k ≤ m + 1 := by omega
          have kk2 : (k : Int) ≤ (m : Int) + 1 := by omega
          have hnk : ¬ (ca = k) := by have := HN.out; omega
          have qs0 : ∀ p : In (CatW w.heap.size (.int .i64 gen) (.int .i64 first) (.slice (some ⟨b, off, none⟩) (m + 1) ca)), p.w.cell? ⟨w.heap.size, 0, none⟩ = some (.int .i64 gen) := fun p => p.h.c0
          have qs1 : ∀ p : In (CatW w.heap.size (.int .i64 gen) (.int .i64 first) (.slice (some ⟨b, off, none⟩) (m + 1) ca)), p.w.cell? ⟨w.heap.size, 1, none⟩ = some (.int .i64 first) := fun p => p.h.c1
          have qs2 : ∀ p : In (CatW w.heap.size (.int .i64 gen) (.int .i64 first) (.slice (some ⟨b, off, none⟩) (m + 1) ca)), p.w.cell? ⟨w.heap.size, 2, none⟩ = some (.slice (some ⟨b, off, none⟩) (m + 1) ca) := fun p => p.h.c2
          rcases Nat.lt_or_ge k m with hkm | hkm
          · have he : ¬ (nthS L k).end_ ≤ lsn := fun h => hlt ⟨hkm, h⟩
            clear hlt
            go_wp2_with fail
            refine wp_region_fork2 [0, 1, 2, 3, 4, 5] 6 11 7 [8, 9, 10, 11, 12, 13] [6, 7, 8, 9, 10, 12, 13] [7, 8, 9, 10, 12, 13] (CatW w.heap.size (.int .i64 gen) (.int .i64 first) (.slice (some ⟨b, off, none⟩) (m + 1) ca)) (by kernel_rfl) (by kernel_rfl) (by intro c a d v w h; cases d <;> exact h) ⟨CW.out.c0, CW.out.c1, CW.out.c2⟩ ?_
            intro hne
            simp only [pick, List.map_cons, List.map_nil, List.getD_cons_zero, List.getD_cons_succ]
            repeat (go_big_quiet_step (fail))
            refine wpQuiet_nil ?_
            have LDK : Hid (m + 1 - k = (L.drop k).length) := Lib.hid (by rw [List.length_drop, HN.out])
            have SDK : Hid (SegsAt wr.drew (some ⟨b, off + k * 5, none⟩) (L.drop k)) := Lib.hid (drop_at ((HS.out.below HW.out).below (below_drew wr)))
            have LEN : Hid ((([] : List SegV)).length + (L.drop k).length ≤ 3518437208883) := Lib.hid (by rw [← LDK.out, List.length_nil]; omega)
            have SZW : Hid (w2.heap.size ≤ wr.drew.heap.size) := Lib.hid HW.out.size
            have OKD : Hid (OkL (L.drop k)) := Lib.hid (ok_of_at SDK.out)
            have FEW : Hid ((L.drop k).length ≤ 140737488355328) := Lib.hid (by rw [← LDK.out]; omega)
            refine ⟨⟨rfl, ?_⟩, ?_⟩
            · go_wp2_with (refine wpList_append_segs (o := ⟨some 56, _, _, _, _, _⟩) rfl _ _ rfl w2.heap.size (.slice none 0 0) [] rfl (OwnS.nil _ _) (some ⟨b, off + k * 5, none⟩) (m + 1 - k) (ca - k) (L.drop k) rfl LDK.out SDK.out (fun e => by cases e) LEN.out SZW.out ?_)
              intro v5 w5 ho5 hg5
              have HB5 := Lib.hid (show Below wr.heap.size wr w5 from (below_drew wr).grown hg5 (Nat.le_refl _) (fun k hk => by cases hk))
              have HO5 := Lib.hid ho5
              clear ho5 hg5
              go_wp2_with fail
              refine ⟨⟨⟨_, (CatW.of ((HB5.out.block _ (heap_lt HC4.out)).trans HC4.out))⟩, rfl⟩, ?_⟩
              refine ⟨?_, ?_⟩
              · refine wpMix_act rfl ?_ rfl
                go_wp2_with fail
                refine (cat_next_x gen first lsn (some ⟨b, off, none⟩) (m + 1) ca v5 w2.heap.size (L.drop k) _ hgen h1 HO5.out OKD.out FEW.out).mono ?_
                rintro e w6 ⟨gg, ff, au, nu, cu, tt, rfl, hb6, hx6⟩
                have HX := Lib.hid hx6
                have HB6 := Lib.hid (below_trans HB5.out hb6)
                have HO6 := Lib.hid (HO5.out.keep hb6)
                clear hb6 hx6
                have hN := heap_alloc_new w6 (.cells #[.int .i64 0, .int .i64 0, .slice none 0 0] 29)
                have z0 := cell_of_row _ _ 0 _ _ _ hN
                have z1 := cell_of_row _ _ 1 _ _ _ hN
                have z2 := cell_of_row _ _ 2 _ _ _ hN
                have y0 := frozen_of_row _ _ 0 _ _ hN
                have y1 := frozen_of_row _ _ 1 _ _ hN
                have y2 := frozen_of_row _ _ 2 _ _ hN
                have CZ := Lib.hid (below_trans HB6.out (below_alloc w6 (.cells #[.int .i64 0, .int .i64 0, .slice none 0 0] 29)))
                have CF := Lib.hid (below_trans HB6.out (below_alloc w6 (.cells #[.int .i64 gg, .int .i64 ff, .slice au nu cu] 29)))
                have HO7 := Lib.hid (HO6.out.keep (below_alloc w6 (.cells #[.int .i64 gg, .int .i64 ff, .slice au nu cu] 29)))
                have HF7 := Lib.hid (heap_alloc_new w6 (.cells #[.int .i64 gg, .int .i64 ff, .slice au nu cu] 29))
                clear hN
                go_wp2_with fail
                refine ⟨⟨⟨_, (CatW.of ((HB6.out.block _ (heap_lt HC4.out)).trans HC4.out))⟩, rfl⟩, ?_⟩
                refine wpMix_reads 3 _ (by kernel_rfl) ?_
                simp only [List.take_succ_cons, List.take_zero, List.drop_succ_cons, List.drop_zero]
                repeat (go_big_quiet_step (fail))
                refine wpQuiet_nil ?_
                refine wpMix_act rfl ?_ rfl
                go_wp2_with fail
                refine ⟨⟨⟨_, (CatW.of ((CZ.out.block _ (heap_lt HC4.out)).trans HC4.out))⟩, rfl⟩, ?_⟩
                refine wpMix_act rfl ?_ rfl
                go_wp2_with fail
                refine ⟨⟨⟨_, (CatW.of ((CF.out.block _ (heap_lt HC4.out)).trans HC4.out))⟩, rfl⟩, ?_⟩
                refine wpMix_reads 1 _ (by kernel_rfl) ?_
                simp only [List.take_succ_cons, List.take_zero, List.drop_succ_cons, List.drop_zero]
                repeat (go_big_quiet_step (fail))
                refine wpQuiet_nil ?_
                refine wpMix_nil ?_
                clear z0 z1 z2 y0 y1 y2 CZ
                obtain ⟨wf, hwf⟩ : ∃ wf, w6.alloc (.cells #[.int .i64 gg, .int .i64 ff, .slice au nu cu] 29) = wf := ⟨_, rfl⟩
                rw [hwf] at CF HO7 HF7
                rw [hwf]
                have FW := Lib.hid HF7.out
                have BW := Lib.hid (below_trans HW.out CF.out)
                have OW := Lib.hid HO7.out
                have IW := Lib.hid (HO.out.keep CF.out)
                clear hwf HF7 CF HO7 HO6 HB6 HO5 HB5
                obtain ⟨-, hr9⟩ := BOX.out wf BW.out
                have HR9 := Lib.hid hr9
                have x0 := cell_of_row _ _ 0 _ _ _ FW.out
                have x1 := cell_of_row _ _ 1 _ _ _ FW.out
                have x2 := cell_of_row _ _ 2 _ _ _ FW.out
                have r0 := cell_of_row _ _ 0 _ _ _ hr9
                have r1 := cell_of_row _ _ 1 _ _ _ hr9
                have r2 := cell_of_row _ _ 2 _ _ _ hr9
                have f0 := frozen_of_row _ _ 0 _ _ hr9
                have f1 := frozen_of_row _ _ 1 _ _ hr9
                have f2 := frozen_of_row _ _ 2 _ _ hr9
                have LW := Lib.hid (heap_lt HR.out)
                have HXX := Lib.hid HX.out
                clear hr9 hne qs0 qs1 qs2
                cases tt
                · have NO : Hid (¬ (gen ≠ 9223372036854775807 ∧ MayC ⟨gen + 1, lsn, L.drop k⟩)) := Lib.hid (HXX.out.elim (fun h => absurd h.1 (by simp)) (fun h => h.2))
                  go_wp2_with fail
                  refine bodyPost_ret (results_cat3 rfl _ _ w1.heap.size _ _ _ rfl (cell_of_row _ _ 0 _ _ _ (put3 HR9.out _ _ _)) (cell_of_row _ _ 1 _ _ _ (put3 HR9.out _ _ _)) (cell_of_row _ _ 2 _ _ _ (put3 HR9.out _ _ _))) rfl ?_
                  exact BAD.out _ BW.out _ (.inr (.inl ⟨kk, KK.out, M.out, fun h => NO.out ⟨h.2.1, by rw [KE.out]; exact h.2.2⟩, rfl, rfl, rfl⟩))
                · have YES : Hid (gen ≠ 9223372036854775807 ∧ MayC ⟨gen + 1, lsn, L.drop k⟩ ∧ gg = gen + 1 ∧ ff = lsn ∧ Value.slice au nu cu = v5) := Lib.hid (HXX.out.elim (fun h => h.2) (fun h => absurd h.1 (by simp)))
                  go_wp2_with fail
                  refine bodyPost_ret (results_cat3 rfl _ _ w1.heap.size _ _ _ rfl (cell_of_row _ _ 0 _ _ _ (put3 HR9.out _ _ _)) (cell_of_row _ _ 1 _ _ _ (put3 HR9.out _ _ _)) (cell_of_row _ _ 2 _ _ _ (put3 HR9.out _ _ _))) rfl ?_
                  obtain ⟨y1, y2, rfl, rfl, y5⟩ := YES.out
                  refine ⟨_, u8, cutC ⟨gen, first, L⟩ ff k, numsC L k, 0, .inr (.inr ⟨k, by rw [KE.out]; exact KK.out, M.out, ⟨Q1.out, y1, y2⟩, rfl, rfl, rfl⟩), rfl, ⟨⟨_, rfl, OwnS.base ?_ HB2.out.size⟩, ⟨⟨by have := hgen.1; show _ ≤ gen + 1; omega, by have := hgen.2; show gen + 1 ≤ _; omega⟩, h1, OKD.out⟩, FEW.out⟩, OwnI.base ?_ HB2.out.size, put3_below (below_trans HB2.out BW.out) (Nat.le_of_lt HLT.out) _ _ _⟩
                  · have h := OW.out
                    rw [← y5] at h
                    exact rows_congr h fun g hg => put3_off (by have := (rows_blk h hg).1; have := LW.out; omega) _ _ _
                  · exact rows_congr IW.out fun g hg => put3_off (by have := (rows_blk IW.out hg).1; have := LW.out; omega) _ _ _
              · have hN := heap_alloc_new w5 (.cells #[.int .i64 0, .int .i64 0, .slice none 0 0] 29)
                have CZ := Lib.hid (below_trans HB5.out (below_alloc w5 (.cells #[.int .i64 0, .int .i64 0, .slice none 0 0] 29)))
                have HO5' := Lib.hid (HO5.out.keep (below_alloc w5 (.cells #[.int .i64 0, .int .i64 0, .slice none 0 0] 29)))
                have HN5 := Lib.hid hN
                clear hN
                refine wpMix_act rfl ?_ rfl
                go_wp2_with fail
                refine ⟨⟨⟨_, (CatW.of ((CZ.out.block _ (heap_lt HC4.out)).trans HC4.out))⟩, rfl⟩, ?_⟩
                refine wpMix_act rfl ?_ rfl
                go_wp2_with fail
                refine (cat_next_x gen first lsn (some ⟨b, off, none⟩) (m + 1) ca v5 w2.heap.size (L.drop k) _ hgen h1 HO5'.out OKD.out FEW.out).mono ?_
                rintro e w6 ⟨gg, ff, au, nu, cu, tt, rfl, hb6, hx6⟩
                have HX := Lib.hid hx6
                have HB6 := Lib.hid (below_trans CZ.out hb6)
                have HO6 := Lib.hid (HO5'.out.keep hb6)
                have HN6 := Lib.hid ((hb6.block _ (heap_lt HN5.out)).trans HN5.out)
                have NB := Lib.hid (show wr.heap.size ≤ w5.heap.size from HB5.out.size)
                clear hb6 hx6
                have z0 := cell_of_row _ _ 0 _ _ _ HN6.out
                have z1 := cell_of_row _ _ 1 _ _ _ HN6.out
                have z2 := cell_of_row _ _ 2 _ _ _ HN6.out
                have y0 := frozen_of_row _ _ 0 _ _ HN6.out
                have y1 := frozen_of_row _ _ 1 _ _ HN6.out
                have y2 := frozen_of_row _ _ 2 _ _ HN6.out
                go_wp2_with fail
                refine ⟨⟨⟨_, (CatW.of ((HB6.out.block _ (heap_lt HC4.out)).trans HC4.out))⟩, rfl⟩, ?_⟩
                refine wpMix_reads 3 _ (by kernel_rfl) ?_
                simp only [List.take_succ_cons, List.take_zero, List.drop_succ_cons, List.drop_zero]
                repeat (go_big_quiet_step (fail))
                refine wpQuiet_nil ?_
                refine wpMix_act rfl ?_ rfl
                go_wp2_with fail
                refine ⟨⟨⟨_, (CatW.of (((put3_below HB6.out NB.out _ _ _).block _ (heap_lt HC4.out)).trans HC4.out))⟩, rfl⟩, ?_⟩
                refine wpMix_reads 1 _ (by kernel_rfl) ?_
                simp only [List.take_succ_cons, List.take_zero, List.drop_succ_cons, List.drop_zero]
                repeat (go_big_quiet_step (fail))
                refine wpQuiet_nil ?_
                refine wpMix_nil ?_
                clear z0 z1 z2 y0 y1 y2 CZ
                have PB := Lib.hid (put3_below HB6.out NB.out (.int .i64 gg) (.int .i64 ff) (.slice au nu cu))
                have PR := Lib.hid (put3 HN6.out (.int .i64 gg) (.int .i64 ff) (.slice au nu cu))
                have PO := Lib.hid (show OwnS (((w6.setCell ⟨w5.heap.size, 0, none⟩ (.int .i64 gg)).setCell ⟨w5.heap.size, 1, none⟩ (.int .i64 ff)).setCell ⟨w5.heap.size, 2, none⟩ (.slice au nu cu)) w2.heap.size v5 (L.drop k) from rows_congr HO6.out fun g hg => put3_off (fun e => by obtain ⟨-, cur, hcur⟩ := rows_blk HO6.out hg; rw [← e, HN6.out] at hcur; simp at hcur) _ _ _)
                obtain ⟨wf, hwf⟩ : ∃ wf, ((w6.setCell ⟨w5.heap.size, 0, none⟩ (.int .i64 gg)).setCell ⟨w5.heap.size, 1, none⟩ (.int .i64 ff)).setCell ⟨w5.heap.size, 2, none⟩ (.slice au nu cu) = wf := ⟨_, rfl⟩
                rw [hwf] at PB PR PO
                rw [hwf]
                have FW := Lib.hid PR.out
                have BW := Lib.hid (below_trans HW.out PB.out)
                have OW := Lib.hid PO.out
                have IW := Lib.hid (HO.out.keep PB.out)
                clear hwf PR PO PB HO6 HB6 HN6 HO5 HO5' HN5 HB5 NB
                obtain ⟨-, hr9⟩ := BOX.out wf BW.out
                have HR9 := Lib.hid hr9
                have x0 := cell_of_row _ _ 0 _ _ _ FW.out
                have x1 := cell_of_row _ _ 1 _ _ _ FW.out
                have x2 := cell_of_row _ _ 2 _ _ _ FW.out
                have r0 := cell_of_row _ _ 0 _ _ _ hr9
                have r1 := cell_of_row _ _ 1 _ _ _ hr9
                have r2 := cell_of_row _ _ 2 _ _ _ hr9
                have f0 := frozen_of_row _ _ 0 _ _ hr9
                have f1 := frozen_of_row _ _ 1 _ _ hr9
                have f2 := frozen_of_row _ _ 2 _ _ hr9
                have LW := Lib.hid (heap_lt HR.out)
                have HXX := Lib.hid HX.out
                clear hr9 hne qs0 qs1 qs2
                cases tt
                · have NO : Hid (¬ (gen ≠ 9223372036854775807 ∧ MayC ⟨gen + 1, lsn, L.drop k⟩)) := Lib.hid (HXX.out.elim (fun h => absurd h.1 (by simp)) (fun h => h.2))
                  go_wp2_with fail
                  refine bodyPost_ret (results_cat3 rfl _ _ w1.heap.size _ _ _ rfl (cell_of_row _ _ 0 _ _ _ (put3 HR9.out _ _ _)) (cell_of_row _ _ 1 _ _ _ (put3 HR9.out _ _ _)) (cell_of_row _ _ 2 _ _ _ (put3 HR9.out _ _ _))) rfl ?_
                  exact BAD.out _ BW.out _ (.inr (.inl ⟨kk, KK.out, M.out, fun h => NO.out ⟨h.2.1, by rw [KE.out]; exact h.2.2⟩, rfl, rfl, rfl⟩))
                · have YES : Hid (gen ≠ 9223372036854775807 ∧ MayC ⟨gen + 1, lsn, L.drop k⟩ ∧ gg = gen + 1 ∧ ff = lsn ∧ Value.slice au nu cu = v5) := Lib.hid (HXX.out.elim (fun h => h.2) (fun h => absurd h.1 (by simp)))
                  go_wp2_with fail
                  refine bodyPost_ret (results_cat3 rfl _ _ w1.heap.size _ _ _ rfl (cell_of_row _ _ 0 _ _ _ (put3 HR9.out _ _ _)) (cell_of_row _ _ 1 _ _ _ (put3 HR9.out _ _ _)) (cell_of_row _ _ 2 _ _ _ (put3 HR9.out _ _ _))) rfl ?_
                  obtain ⟨y1, y2, rfl, rfl, y5⟩ := YES.out
                  refine ⟨_, u8, cutC ⟨gen, first, L⟩ ff k, numsC L k, 0, .inr (.inr ⟨k, by rw [KE.out]; exact KK.out, M.out, ⟨Q1.out, y1, y2⟩, rfl, rfl, rfl⟩), rfl, ⟨⟨_, rfl, OwnS.base ?_ HB2.out.size⟩, ⟨⟨by have := hgen.1; show _ ≤ gen + 1; omega, by have := hgen.2; show gen + 1 ≤ _; omega⟩, h1, OKD.out⟩, FEW.out⟩, OwnI.base ?_ HB2.out.size, put3_below (below_trans HB2.out BW.out) (Nat.le_of_lt HLT.out) _ _ _⟩
                  · have h := OW.out
                    rw [← y5] at h
                    exact rows_congr h fun g hg => put3_off (by have := (rows_blk h hg).1; have := LW.out; omega) _ _ _
                  · exact rows_congr IW.out fun g hg => put3_off (by have := (rows_blk IW.out hg).1; have := LW.out; omega) _ _ _
            · have CZ := Lib.hid (show Below wr.heap.size wr (wr.alloc (.cells #[.int .i64 0, .int .i64 0, .slice none 0 0] 29)).drew from below_trans (below_alloc wr (.cells #[.int .i64 0, .int .i64 0, .slice none 0 0] 29)) (below_drew _))
              have HN0 := Lib.hid (show (wr.alloc (.cells #[.int .i64 0, .int .i64 0, .slice none 0 0] 29)).drew.heap[wr.heap.size]? = _ from heap_alloc_new wr (.cells #[.int .i64 0, .int .i64 0, .slice none 0 0] 29))
              have SDK2 := Lib.hid (drop_at (k := k) ((HS.out.below HW.out).below CZ.out))
              have SZ2 : Hid (w2.heap.size ≤ (wr.alloc (.cells #[.int .i64 0, .int .i64 0, .slice none 0 0] 29)).drew.heap.size) := Lib.hid (Nat.le_trans HW.out.size CZ.out.size)
              refine wpMix_act rfl ?_ rfl
              go_wp2_with fail
              refine ⟨⟨⟨_, (CatW.of ((CZ.out.block _ (heap_lt HC4.out)).trans HC4.out))⟩, rfl⟩, ?_⟩
              refine wpMix_act rfl ?_ rfl
              go_wp2_with (refine wpList_append_segs (o := ⟨some 56, _, _, _, _, _⟩) rfl _ _ rfl w2.heap.size (.slice none 0 0) [] rfl (OwnS.nil _ _) (some ⟨b, off + k * 5, none⟩) (m + 1 - k) (ca - k) (L.drop k) rfl LDK.out SDK2.out (fun e => by cases e) LEN.out SZ2.out ?_)
              intro v5 w5 ho5 hg5
              have HB5 := Lib.hid (show Below wr.heap.size wr w5 from CZ.out.grown hg5 CZ.out.size (fun k hk => by cases hk))
              have HN5 := Lib.hid ((hg5.block _ (heap_lt HN0.out) (by intro e; cases e)).trans HN0.out)
              have HO5 := Lib.hid ho5
              clear ho5 hg5
              go_wp2_with fail
              refine ⟨⟨⟨_, (CatW.of ((HB5.out.block _ (heap_lt HC4.out)).trans HC4.out))⟩, rfl⟩, ?_⟩
              refine wpMix_act rfl ?_ rfl
              go_wp2_with fail
              refine (cat_next_x gen first lsn (some ⟨b, off, none⟩) (m + 1) ca v5 w2.heap.size (L.drop k) _ hgen h1 HO5.out OKD.out FEW.out).mono ?_
              rintro e w6 ⟨gg, ff, au, nu, cu, tt, rfl, hb6, hx6⟩
              have HX := Lib.hid hx6
              have HB6 := Lib.hid (below_trans HB5.out hb6)
              have HO6 := Lib.hid (HO5.out.keep hb6)
              have HN6 := Lib.hid ((hb6.block _ (heap_lt HN5.out)).trans HN5.out)
              clear hb6 hx6
              have z0 := cell_of_row _ _ 0 _ _ _ HN6.out
              have z1 := cell_of_row _ _ 1 _ _ _ HN6.out
              have z2 := cell_of_row _ _ 2 _ _ _ HN6.out
              have y0 := frozen_of_row _ _ 0 _ _ HN6.out
              have y1 := frozen_of_row _ _ 1 _ _ HN6.out
              have y2 := frozen_of_row _ _ 2 _ _ HN6.out
              go_wp2_with fail
              refine ⟨⟨⟨_, (CatW.of ((HB6.out.block _ (heap_lt HC4.out)).trans HC4.out))⟩, rfl⟩, ?_⟩
              refine wpMix_reads 3 _ (by kernel_rfl) ?_
              simp only [List.take_succ_cons, List.take_zero, List.drop_succ_cons, List.drop_zero]
              repeat (go_big_quiet_step (fail))
              refine wpQuiet_nil ?_
              refine wpMix_act rfl ?_ rfl
              go_wp2_with fail
              refine ⟨⟨⟨_, (CatW.of (((put3_below HB6.out (Nat.le_refl _) _ _ _).block _ (heap_lt HC4.out)).trans HC4.out))⟩, rfl⟩, ?_⟩
              refine wpMix_reads 1 _ (by kernel_rfl) ?_
              simp only [List.take_succ_cons, List.take_zero, List.drop_succ_cons, List.drop_zero]
              repeat (go_big_quiet_step (fail))
              refine wpQuiet_nil ?_
              refine wpMix_nil ?_
              clear z0 z1 z2 y0 y1 y2 CZ
              have PB := Lib.hid (put3_below HB6.out (Nat.le_refl _) (.int .i64 gg) (.int .i64 ff) (.slice au nu cu))
              have PR := Lib.hid (put3 HN6.out (.int .i64 gg) (.int .i64 ff) (.slice au nu cu))
              have PO := Lib.hid (show OwnS (((w6.setCell ⟨wr.heap.size, 0, none⟩ (.int .i64 gg)).setCell ⟨wr.heap.size, 1, none⟩ (.int .i64 ff)).setCell ⟨wr.heap.size, 2, none⟩ (.slice au nu cu)) w2.heap.size v5 (L.drop k) from rows_congr HO6.out fun g hg => put3_off (fun e => by obtain ⟨-, cur, hcur⟩ := rows_blk HO6.out hg; rw [← e, HN6.out] at hcur; simp at hcur) _ _ _)
              obtain ⟨wf, hwf⟩ : ∃ wf, ((w6.setCell ⟨wr.heap.size, 0, none⟩ (.int .i64 gg)).setCell ⟨wr.heap.size, 1, none⟩ (.int .i64 ff)).setCell ⟨wr.heap.size, 2, none⟩ (.slice au nu cu) = wf := ⟨_, rfl⟩
              rw [hwf] at PB PR PO
              rw [hwf]
              have FW := Lib.hid PR.out
              have BW := Lib.hid (below_trans HW.out PB.out)
              have OW := Lib.hid PO.out
              have IW := Lib.hid (HO.out.keep PB.out)
              clear hwf PR PO PB HO6 HB6 HN6 HO5 HN5 HB5 HN0 SDK2 SZ2
              obtain ⟨-, hr9⟩ := BOX.out wf BW.out
              have HR9 := Lib.hid hr9
              have x0 := cell_of_row _ _ 0 _ _ _ FW.out
              have x1 := cell_of_row _ _ 1 _ _ _ FW.out
              have x2 := cell_of_row _ _ 2 _ _ _ FW.out
              have r0 := cell_of_row _ _ 0 _ _ _ hr9
              have r1 := cell_of_row _ _ 1 _ _ _ hr9
              have r2 := cell_of_row _ _ 2 _ _ _ hr9
              have f0 := frozen_of_row _ _ 0 _ _ hr9
              have f1 := frozen_of_row _ _ 1 _ _ hr9
              have f2 := frozen_of_row _ _ 2 _ _ hr9
              have LW := Lib.hid (heap_lt HR.out)
              have HXX := Lib.hid HX.out
              clear hr9 hne qs0 qs1 qs2
              cases tt
              · have NO : Hid (¬ (gen ≠ 9223372036854775807 ∧ MayC ⟨gen + 1, lsn, L.drop k⟩)) := Lib.hid (HXX.out.elim (fun h => absurd h.1 (by simp)) (fun h => h.2))
                go_wp2_with fail
                refine bodyPost_ret (results_cat3 rfl _ _ w1.heap.size _ _ _ rfl (cell_of_row _ _ 0 _ _ _ (put3 HR9.out _ _ _)) (cell_of_row _ _ 1 _ _ _ (put3 HR9.out _ _ _)) (cell_of_row _ _ 2 _ _ _ (put3 HR9.out _ _ _))) rfl ?_
                exact BAD.out _ BW.out _ (.inr (.inl ⟨kk, KK.out, M.out, fun h => NO.out ⟨h.2.1, by rw [KE.out]; exact h.2.2⟩, rfl, rfl, rfl⟩))
              · have YES : Hid (gen ≠ 9223372036854775807 ∧ MayC ⟨gen + 1, lsn, L.drop k⟩ ∧ gg = gen + 1 ∧ ff = lsn ∧ Value.slice au nu cu = v5) := Lib.hid (HXX.out.elim (fun h => h.2) (fun h => absurd h.1 (by simp)))
                go_wp2_with fail
                refine bodyPost_ret (results_cat3 rfl _ _ w1.heap.size _ _ _ rfl (cell_of_row _ _ 0 _ _ _ (put3 HR9.out _ _ _)) (cell_of_row _ _ 1 _ _ _ (put3 HR9.out _ _ _)) (cell_of_row _ _ 2 _ _ _ (put3 HR9.out _ _ _))) rfl ?_
                obtain ⟨y1, y2, rfl, rfl, y5⟩ := YES.out
                refine ⟨_, u8, cutC ⟨gen, first, L⟩ ff k, numsC L k, 0, .inr (.inr ⟨k, by rw [KE.out]; exact KK.out, M.out, ⟨Q1.out, y1, y2⟩, rfl, rfl, rfl⟩), rfl, ⟨⟨_, rfl, OwnS.base ?_ HB2.out.size⟩, ⟨⟨by have := hgen.1; show _ ≤ gen + 1; omega, by have := hgen.2; show gen + 1 ≤ _; omega⟩, h1, OKD.out⟩, FEW.out⟩, OwnI.base ?_ HB2.out.size, put3_below (below_trans HB2.out BW.out) (Nat.le_of_lt HLT.out) _ _ _⟩
                · have h := OW.out
                  rw [← y5] at h
                  exact rows_congr h fun g hg => put3_off (by have := (rows_blk h hg).1; have := LW.out; omega) _ _ _
                · exact rows_congr IW.out fun g hg => put3_off (by have := (rows_blk IW.out hg).1; have := LW.out; omega) _ _ _
          · obtain rfl : k = m := by omega
            clear hlt hk hkm
            go_wp2_with fail
            refine wp_region_fork2 [0, 1, 2, 3, 4, 5] 6 11 7 [8, 9, 10, 11, 12, 13] [6, 7, 8, 9, 10, 12, 13] [7, 8, 9, 10, 12, 13] (CatW w.heap.size (.int .i64 gen) (.int .i64 first) (.slice (some ⟨b, off, none⟩) (k + 1) ca)) (by kernel_rfl) (by kernel_rfl) (by intro c a d v w h; cases d <;> exact h) ⟨CW.out.c0, CW.out.c1, CW.out.c2⟩ ?_
            intro hne
            simp only [pick, List.map_cons, List.map_nil, List.getD_cons_zero, List.getD_cons_succ]
            repeat (go_big_quiet_step (fail))
            refine wpQuiet_nil ?_
            have LDK : Hid (1 = (L.drop k).length) := Lib.hid (by rw [List.length_drop, HN.out]; omega)
            have SDK : Hid (SegsAt wr.drew (some ⟨b, off + k * 5, none⟩) (L.drop k)) := Lib.hid (drop_at ((HS.out.below HW.out).below (below_drew wr)))
            have LEN : Hid ((([] : List SegV)).length + (L.drop k).length ≤ 3518437208883) := Lib.hid (by rw [← LDK.out, List.length_nil]; omega)
            have SZW : Hid (w2.heap.size ≤ wr.drew.heap.size) := Lib.hid HW.out.size
            have OKD : Hid (OkL (L.drop k)) := Lib.hid (ok_of_at SDK.out)
            have FEW : Hid ((L.drop k).length ≤ 140737488355328) := Lib.hid (by rw [← LDK.out]; omega)
            refine ⟨⟨rfl, ?_⟩, ?_⟩
            · go_wp2_with (refine wpList_append_segs (o := ⟨some 56, _, _, _, _, _⟩) rfl _ _ rfl w2.heap.size (.slice none 0 0) [] rfl (OwnS.nil _ _) (some ⟨b, off + k * 5, none⟩) 1 (ca - k) (L.drop k) rfl LDK.out SDK.out (fun e => by cases e) LEN.out SZW.out ?_)
              intro v5 w5 ho5 hg5
              have HB5 := Lib.hid (show Below wr.heap.size wr w5 from (below_drew wr).grown hg5 (Nat.le_refl _) (fun k hk => by cases hk))
              have HO5 := Lib.hid ho5
              clear ho5 hg5
              go_wp2_with fail
              refine ⟨⟨⟨_, (CatW.of ((HB5.out.block _ (heap_lt HC4.out)).trans HC4.out))⟩, rfl⟩, ?_⟩
              refine ⟨?_, ?_⟩
              · refine wpMix_act rfl ?_ rfl
                go_wp2_with fail
                refine (cat_next_x gen first lsn (some ⟨b, off, none⟩) (k + 1) ca v5 w2.heap.size (L.drop k) _ hgen h1 HO5.out OKD.out FEW.out).mono ?_
                rintro e w6 ⟨gg, ff, au, nu, cu, tt, rfl, hb6, hx6⟩
                have HX := Lib.hid hx6
                have HB6 := Lib.hid (below_trans HB5.out hb6)
                have HO6 := Lib.hid (HO5.out.keep hb6)
                clear hb6 hx6
                have hN := heap_alloc_new w6 (.cells #[.int .i64 0, .int .i64 0, .slice none 0 0] 29)
                have z0 := cell_of_row _ _ 0 _ _ _ hN
                have z1 := cell_of_row _ _ 1 _ _ _ hN
                have z2 := cell_of_row _ _ 2 _ _ _ hN
                have y0 := frozen_of_row _ _ 0 _ _ hN
                have y1 := frozen_of_row _ _ 1 _ _ hN
                have y2 := frozen_of_row _ _ 2 _ _ hN
                have CZ := Lib.hid (below_trans HB6.out (below_alloc w6 (.cells #[.int .i64 0, .int .i64 0, .slice none 0 0] 29)))
                have CF := Lib.hid (below_trans HB6.out (below_alloc w6 (.cells #[.int .i64 gg, .int .i64 ff, .slice au nu cu] 29)))
                have HO7 := Lib.hid (HO6.out.keep (below_alloc w6 (.cells #[.int .i64 gg, .int .i64 ff, .slice au nu cu] 29)))
                have HF7 := Lib.hid (heap_alloc_new w6 (.cells #[.int .i64 gg, .int .i64 ff, .slice au nu cu] 29))
                clear hN
                go_wp2_with fail
                refine ⟨⟨⟨_, (CatW.of ((HB6.out.block _ (heap_lt HC4.out)).trans HC4.out))⟩, rfl⟩, ?_⟩
                refine wpMix_reads 3 _ (by kernel_rfl) ?_
                simp only [List.take_succ_cons, List.take_zero, List.drop_succ_cons, List.drop_zero]
                repeat (go_big_quiet_step (fail))
                refine wpQuiet_nil ?_
                refine wpMix_act rfl ?_ rfl
                go_wp2_with fail
                refine ⟨⟨⟨_, (CatW.of ((CZ.out.block _ (heap_lt HC4.out)).trans HC4.out))⟩, rfl⟩, ?_⟩
                refine wpMix_act rfl ?_ rfl
                go_wp2_with fail
                refine ⟨⟨⟨_, (CatW.of ((CF.out.block _ (heap_lt HC4.out)).trans HC4.out))⟩, rfl⟩, ?_⟩
                refine wpMix_reads 1 _ (by kernel_rfl) ?_
                simp only [List.take_succ_cons, List.take_zero, List.drop_succ_cons, List.drop_zero]
                repeat (go_big_quiet_step (fail))
                refine wpQuiet_nil ?_
                refine wpMix_nil ?_
                clear z0 z1 z2 y0 y1 y2 CZ
                obtain ⟨wf, hwf⟩ : ∃ wf, w6.alloc (.cells #[.int .i64 gg, .int .i64 ff, .slice au nu cu] 29) = wf := ⟨_, rfl⟩
                rw [hwf] at CF HO7 HF7
                rw [hwf]
                have FW := Lib.hid HF7.out
                have BW := Lib.hid (below_trans HW.out CF.out)
                have OW := Lib.hid HO7.out
                have IW := Lib.hid (HO.out.keep CF.out)
                clear hwf HF7 CF HO7 HO6 HB6 HO5 HB5
                obtain ⟨-, hr9⟩ := BOX.out wf BW.out
                have HR9 := Lib.hid hr9
                have x0 := cell_of_row _ _ 0 _ _ _ FW.out
                have x1 := cell_of_row _ _ 1 _ _ _ FW.out
                have x2 := cell_of_row _ _ 2 _ _ _ FW.out
                have r0 := cell_of_row _ _ 0 _ _ _ hr9
                have r1 := cell_of_row _ _ 1 _ _ _ hr9
                have r2 := cell_of_row _ _ 2 _ _ _ hr9
                have f0 := frozen_of_row _ _ 0 _ _ hr9
                have f1 := frozen_of_row _ _ 1 _ _ hr9
                have f2 := frozen_of_row _ _ 2 _ _ hr9
                have LW := Lib.hid (heap_lt HR.out)
                have HXX := Lib.hid HX.out
                clear hr9 hne qs0 qs1 qs2
                cases tt
                · have NO : Hid (¬ (gen ≠ 9223372036854775807 ∧ MayC ⟨gen + 1, lsn, L.drop k⟩)) := Lib.hid (HXX.out.elim (fun h => absurd h.1 (by simp)) (fun h => h.2))
                  go_wp2_with fail
                  refine bodyPost_ret (results_cat3 rfl _ _ w1.heap.size _ _ _ rfl (cell_of_row _ _ 0 _ _ _ (put3 HR9.out _ _ _)) (cell_of_row _ _ 1 _ _ _ (put3 HR9.out _ _ _)) (cell_of_row _ _ 2 _ _ _ (put3 HR9.out _ _ _))) rfl ?_
                  exact BAD.out _ BW.out _ (.inr (.inl ⟨kk, KK.out, M.out, fun h => NO.out ⟨h.2.1, by rw [KE.out]; exact h.2.2⟩, rfl, rfl, rfl⟩))
                · have YES : Hid (gen ≠ 9223372036854775807 ∧ MayC ⟨gen + 1, lsn, L.drop k⟩ ∧ gg = gen + 1 ∧ ff = lsn ∧ Value.slice au nu cu = v5) := Lib.hid (HXX.out.elim (fun h => h.2) (fun h => absurd h.1 (by simp)))
                  go_wp2_with fail
                  refine bodyPost_ret (results_cat3 rfl _ _ w1.heap.size _ _ _ rfl (cell_of_row _ _ 0 _ _ _ (put3 HR9.out _ _ _)) (cell_of_row _ _ 1 _ _ _ (put3 HR9.out _ _ _)) (cell_of_row _ _ 2 _ _ _ (put3 HR9.out _ _ _))) rfl ?_
                  obtain ⟨y1, y2, rfl, rfl, y5⟩ := YES.out
                  refine ⟨_, u8, cutC ⟨gen, first, L⟩ ff k, numsC L k, 0, .inr (.inr ⟨k, by rw [KE.out]; exact KK.out, M.out, ⟨Q1.out, y1, y2⟩, rfl, rfl, rfl⟩), rfl, ⟨⟨_, rfl, OwnS.base ?_ HB2.out.size⟩, ⟨⟨by have := hgen.1; show _ ≤ gen + 1; omega, by have := hgen.2; show gen + 1 ≤ _; omega⟩, h1, OKD.out⟩, FEW.out⟩, OwnI.base ?_ HB2.out.size, put3_below (below_trans HB2.out BW.out) (Nat.le_of_lt HLT.out) _ _ _⟩
                  · have h := OW.out
                    rw [← y5] at h
                    exact rows_congr h fun g hg => put3_off (by have := (rows_blk h hg).1; have := LW.out; omega) _ _ _
                  · exact rows_congr IW.out fun g hg => put3_off (by have := (rows_blk IW.out hg).1; have := LW.out; omega) _ _ _
              · have hN := heap_alloc_new w5 (.cells #[.int .i64 0, .int .i64 0, .slice none 0 0] 29)
                have CZ := Lib.hid (below_trans HB5.out (below_alloc w5 (.cells #[.int .i64 0, .int .i64 0, .slice none 0 0] 29)))
                have HO5' := Lib.hid (HO5.out.keep (below_alloc w5 (.cells #[.int .i64 0, .int .i64 0, .slice none 0 0] 29)))
                have HN5 := Lib.hid hN
                clear hN
                refine wpMix_act rfl ?_ rfl
                go_wp2_with fail
                refine ⟨⟨⟨_, (CatW.of ((CZ.out.block _ (heap_lt HC4.out)).trans HC4.out))⟩, rfl⟩, ?_⟩
                refine wpMix_act rfl ?_ rfl
                go_wp2_with fail
                refine (cat_next_x gen first lsn (some ⟨b, off, none⟩) (k + 1) ca v5 w2.heap.size (L.drop k) _ hgen h1 HO5'.out OKD.out FEW.out).mono ?_
                rintro e w6 ⟨gg, ff, au, nu, cu, tt, rfl, hb6, hx6⟩
                have HX := Lib.hid hx6
                have HB6 := Lib.hid (below_trans CZ.out hb6)
                have HO6 := Lib.hid (HO5'.out.keep hb6)
                have HN6 := Lib.hid ((hb6.block _ (heap_lt HN5.out)).trans HN5.out)
                have NB := Lib.hid (show wr.heap.size ≤ w5.heap.size from HB5.out.size)
                clear hb6 hx6
                have z0 := cell_of_row _ _ 0 _ _ _ HN6.out
                have z1 := cell_of_row _ _ 1 _ _ _ HN6.out
                have z2 := cell_of_row _ _ 2 _ _ _ HN6.out
                have y0 := frozen_of_row _ _ 0 _ _ HN6.out
                have y1 := frozen_of_row _ _ 1 _ _ HN6.out
                have y2 := frozen_of_row _ _ 2 _ _ HN6.out
                go_wp2_with fail
                refine ⟨⟨⟨_, (CatW.of ((HB6.out.block _ (heap_lt HC4.out)).trans HC4.out))⟩, rfl⟩, ?_⟩
                refine wpMix_reads 3 _ (by kernel_rfl) ?_
                simp only [List.take_succ_cons, List.take_zero, List.drop_succ_cons, List.drop_zero]
                repeat (go_big_quiet_step (fail))
                refine wpQuiet_nil ?_
                refine wpMix_act rfl ?_ rfl
                go_wp2_with fail
                refine ⟨⟨⟨_, (CatW.of (((put3_below HB6.out NB.out _ _ _).block _ (heap_lt HC4.out)).trans HC4.out))⟩, rfl⟩, ?_⟩
                refine wpMix_reads 1 _ (by kernel_rfl) ?_
                simp only [List.take_succ_cons, List.take_zero, List.drop_succ_cons, List.drop_zero]
                repeat (go_big_quiet_step (fail))
                refine wpQuiet_nil ?_
                refine wpMix_nil ?_
                clear z0 z1 z2 y0 y1 y2 CZ
                have PB := Lib.hid (put3_below HB6.out NB.out (.int .i64 gg) (.int .i64 ff) (.slice au nu cu))
                have PR := Lib.hid (put3 HN6.out (.int .i64 gg) (.int .i64 ff) (.slice au nu cu))
                have PO := Lib.hid (show OwnS (((w6.setCell ⟨w5.heap.size, 0, none⟩ (.int .i64 gg)).setCell ⟨w5.heap.size, 1, none⟩ (.int .i64 ff)).setCell ⟨w5.heap.size, 2, none⟩ (.slice au nu cu)) w2.heap.size v5 (L.drop k) from rows_congr HO6.out fun g hg => put3_off (fun e => by obtain ⟨-, cur, hcur⟩ := rows_blk HO6.out hg; rw [← e, HN6.out] at hcur; simp at hcur) _ _ _)
                obtain ⟨wf, hwf⟩ : ∃ wf, ((w6.setCell ⟨w5.heap.size, 0, none⟩ (.int .i64 gg)).setCell ⟨w5.heap.size, 1, none⟩ (.int .i64 ff)).setCell ⟨w5.heap.size, 2, none⟩ (.slice au nu cu) = wf := ⟨_, rfl⟩
                rw [hwf] at PB PR PO
                rw [hwf]
                have FW := Lib.hid PR.out
                have BW := Lib.hid (below_trans HW.out PB.out)
                have OW := Lib.hid PO.out
                have IW := Lib.hid (HO.out.keep PB.out)
                clear hwf PR PO PB HO6 HB6 HN6 HO5 HO5' HN5 HB5 NB
                obtain ⟨-, hr9⟩ := BOX.out wf BW.out
                have HR9 := Lib.hid hr9
                have x0 := cell_of_row _ _ 0 _ _ _ FW.out
                have x1 := cell_of_row _ _ 1 _ _ _ FW.out
                have x2 := cell_of_row _ _ 2 _ _ _ FW.out
                have r0 := cell_of_row _ _ 0 _ _ _ hr9
                have r1 := cell_of_row _ _ 1 _ _ _ hr9
                have r2 := cell_of_row _ _ 2 _ _ _ hr9
                have f0 := frozen_of_row _ _ 0 _ _ hr9
                have f1 := frozen_of_row _ _ 1 _ _ hr9
                have f2 := frozen_of_row _ _ 2 _ _ hr9
                have LW := Lib.hid (heap_lt HR.out)
                have HXX := Lib.hid HX.out
                clear hr9 hne qs0 qs1 qs2
                cases tt
                · have NO : Hid (¬ (gen ≠ 9223372036854775807 ∧ MayC ⟨gen + 1, lsn, L.drop k⟩)) := Lib.hid (HXX.out.elim (fun h => absurd h.1 (by simp)) (fun h => h.2))
                  go_wp2_with fail
                  refine bodyPost_ret (results_cat3 rfl _ _ w1.heap.size _ _ _ rfl (cell_of_row _ _ 0 _ _ _ (put3 HR9.out _ _ _)) (cell_of_row _ _ 1 _ _ _ (put3 HR9.out _ _ _)) (cell_of_row _ _ 2 _ _ _ (put3 HR9.out _ _ _))) rfl ?_
                  exact BAD.out _ BW.out _ (.inr (.inl ⟨kk, KK.out, M.out, fun h => NO.out ⟨h.2.1, by rw [KE.out]; exact h.2.2⟩, rfl, rfl, rfl⟩))
                · have YES : Hid (gen ≠ 9223372036854775807 ∧ MayC ⟨gen + 1, lsn, L.drop k⟩ ∧ gg = gen + 1 ∧ ff = lsn ∧ Value.slice au nu cu = v5) := Lib.hid (HXX.out.elim (fun h => h.2) (fun h => absurd h.1 (by simp)))
                  go_wp2_with fail
                  refine bodyPost_ret (results_cat3 rfl _ _ w1.heap.size _ _ _ rfl (cell_of_row _ _ 0 _ _ _ (put3 HR9.out _ _ _)) (cell_of_row _ _ 1 _ _ _ (put3 HR9.out _ _ _)) (cell_of_row _ _ 2 _ _ _ (put3 HR9.out _ _ _))) rfl ?_
                  obtain ⟨y1, y2, rfl, rfl, y5⟩ := YES.out
                  refine ⟨_, u8, cutC ⟨gen, first, L⟩ ff k, numsC L k, 0, .inr (.inr ⟨k, by rw [KE.out]; exact KK.out, M.out, ⟨Q1.out, y1, y2⟩, rfl, rfl, rfl⟩), rfl, ⟨⟨_, rfl, OwnS.base ?_ HB2.out.size⟩, ⟨⟨by have := hgen.1; show _ ≤ gen + 1; omega, by have := hgen.2; show gen + 1 ≤ _; omega⟩, h1, OKD.out⟩, FEW.out⟩, OwnI.base ?_ HB2.out.size, put3_below (below_trans HB2.out BW.out) (Nat.le_of_lt HLT.out) _ _ _⟩
                  · have h := OW.out
                    rw [← y5] at h
                    exact rows_congr h fun g hg => put3_off (by have := (rows_blk h hg).1; have := LW.out; omega) _ _ _
                  · exact rows_congr IW.out fun g hg => put3_off (by have := (rows_blk IW.out hg).1; have := LW.out; omega) _ _ _
            · have CZ := Lib.hid (show Below wr.heap.size wr (wr.alloc (.cells #[.int .i64 0, .int .i64 0, .slice none 0 0] 29)).drew from below_trans (below_alloc wr (.cells #[.int .i64 0, .int .i64 0, .slice none 0 0] 29)) (below_drew _))
              have HN0 := Lib.hid (show (wr.alloc (.cells #[.int .i64 0, .int .i64 0, .slice none 0 0] 29)).drew.heap[wr.heap.size]? = _ from heap_alloc_new wr (.cells #[.int .i64 0, .int .i64 0, .slice none 0 0] 29))
              have SDK2 := Lib.hid (drop_at (k := k) ((HS.out.below HW.out).below CZ.out))
              have SZ2 : Hid (w2.heap.size ≤ (wr.alloc (.cells #[.int .i64 0, .int .i64 0, .slice none 0 0] 29)).drew.heap.size) := Lib.hid (Nat.le_trans HW.out.size CZ.out.size)
              refine wpMix_act rfl ?_ rfl
              go_wp2_with fail
              refine ⟨⟨⟨_, (CatW.of ((CZ.out.block _ (heap_lt HC4.out)).trans HC4.out))⟩, rfl⟩, ?_⟩
              refine wpMix_act rfl ?_ rfl
              go_wp2_with (refine wpList_append_segs (o := ⟨some 56, _, _, _, _, _⟩) rfl _ _ rfl w2.heap.size (.slice none 0 0) [] rfl (OwnS.nil _ _) (some ⟨b, off + k * 5, none⟩) 1 (ca - k) (L.drop k) rfl LDK.out SDK2.out (fun e => by cases e) LEN.out SZ2.out ?_)
              intro v5 w5 ho5 hg5
              have HB5 := Lib.hid (show Below wr.heap.size wr w5 from CZ.out.grown hg5 CZ.out.size (fun k hk => by cases hk))
              have HN5 := Lib.hid ((hg5.block _ (heap_lt HN0.out) (by intro e; cases e)).trans HN0.out)
              have HO5 := Lib.hid ho5
              clear ho5 hg5
              go_wp2_with fail
              refine ⟨⟨⟨_, (CatW.of ((HB5.out.block _ (heap_lt HC4.out)).trans HC4.out))⟩, rfl⟩, ?_⟩
              refine wpMix_act rfl ?_ rfl
              go_wp2_with fail
              refine (cat_next_x gen first lsn (some ⟨b, off, none⟩) (k + 1) ca v5 w2.heap.size (L.drop k) _ hgen h1 HO5.out OKD.out FEW.out).mono ?_
              rintro e w6 ⟨gg, ff, au, nu, cu, tt, rfl, hb6, hx6⟩
              have HX := Lib.hid hx6
              have HB6 := Lib.hid (below_trans HB5.out hb6)
              have HO6 := Lib.hid (HO5.out.keep hb6)
              have HN6 := Lib.hid ((hb6.block _ (heap_lt HN5.out)).trans HN5.out)
              clear hb6 hx6
              have z0 := cell_of_row _ _ 0 _ _ _ HN6.out
              have z1 := cell_of_row _ _ 1 _ _ _ HN6.out
              have z2 := cell_of_row _ _ 2 _ _ _ HN6.out
              have y0 := frozen_of_row _ _ 0 _ _ HN6.out
              have y1 := frozen_of_row _ _ 1 _ _ HN6.out
              have y2 := frozen_of_row _ _ 2 _ _ HN6.out
              go_wp2_with fail
              refine ⟨⟨⟨_, (CatW.of ((HB6.out.block _ (heap_lt HC4.out)).trans HC4.out))⟩, rfl⟩, ?_⟩
              refine wpMix_reads 3 _ (by kernel_rfl) ?_
              simp only [List.take_succ_cons, List.take_zero, List.drop_succ_cons, List.drop_zero]
              repeat (go_big_quiet_step (fail))
              refine wpQuiet_nil ?_
              refine wpMix_act rfl ?_ rfl
              go_wp2_with fail
              refine ⟨⟨⟨_, (CatW.of (((put3_below HB6.out (Nat.le_refl _) _ _ _).block _ (heap_lt HC4.out)).trans HC4.out))⟩, rfl⟩, ?_⟩
              refine wpMix_reads 1 _ (by kernel_rfl) ?_
              simp only [List.take_succ_cons, List.take_zero, List.drop_succ_cons, List.drop_zero]
              repeat (go_big_quiet_step (fail))
              refine wpQuiet_nil ?_
              refine wpMix_nil ?_
              clear z0 z1 z2 y0 y1 y2 CZ
              have PB := Lib.hid (put3_below HB6.out (Nat.le_refl _) (.int .i64 gg) (.int .i64 ff) (.slice au nu cu))
              have PR := Lib.hid (put3 HN6.out (.int .i64 gg) (.int .i64 ff) (.slice au nu cu))
              have PO := Lib.hid (show OwnS (((w6.setCell ⟨wr.heap.size, 0, none⟩ (.int .i64 gg)).setCell ⟨wr.heap.size, 1, none⟩ (.int .i64 ff)).setCell ⟨wr.heap.size, 2, none⟩ (.slice au nu cu)) w2.heap.size v5 (L.drop k) from rows_congr HO6.out fun g hg => put3_off (fun e => by obtain ⟨-, cur, hcur⟩ := rows_blk HO6.out hg; rw [← e, HN6.out] at hcur; simp at hcur) _ _ _)
              obtain ⟨wf, hwf⟩ : ∃ wf, ((w6.setCell ⟨wr.heap.size, 0, none⟩ (.int .i64 gg)).setCell ⟨wr.heap.size, 1, none⟩ (.int .i64 ff)).setCell ⟨wr.heap.size, 2, none⟩ (.slice au nu cu) = wf := ⟨_, rfl⟩
              rw [hwf] at PB PR PO
              rw [hwf]
              have FW := Lib.hid PR.out
              have BW := Lib.hid (below_trans HW.out PB.out)
              have OW := Lib.hid PO.out
              have IW := Lib.hid (HO.out.keep PB.out)
              clear hwf PR PO PB HO6 HB6 HN6 HO5 HN5 HB5 HN0 SDK2 SZ2
              obtain ⟨-, hr9⟩ := BOX.out wf BW.out
              have HR9 := Lib.hid hr9
              have x0 := cell_of_row _ _ 0 _ _ _ FW.out
              have x1 := cell_of_row _ _ 1 _ _ _ FW.out
              have x2 := cell_of_row _ _ 2 _ _ _ FW.out
              have r0 := cell_of_row _ _ 0 _ _ _ hr9
              have r1 := cell_of_row _ _ 1 _ _ _ hr9
              have r2 := cell_of_row _ _ 2 _ _ _ hr9
              have f0 := frozen_of_row _ _ 0 _ _ hr9
              have f1 := frozen_of_row _ _ 1 _ _ hr9
              have f2 := frozen_of_row _ _ 2 _ _ hr9
              have LW := Lib.hid (heap_lt HR.out)
              have HXX := Lib.hid HX.out
              clear hr9 hne qs0 qs1 qs2
              cases tt
              · have NO : Hid (¬ (gen ≠ 9223372036854775807 ∧ MayC ⟨gen + 1, lsn, L.drop k⟩)) := Lib.hid (HXX.out.elim (fun h => absurd h.1 (by simp)) (fun h => h.2))
                go_wp2_with fail
                refine bodyPost_ret (results_cat3 rfl _ _ w1.heap.size _ _ _ rfl (cell_of_row _ _ 0 _ _ _ (put3 HR9.out _ _ _)) (cell_of_row _ _ 1 _ _ _ (put3 HR9.out _ _ _)) (cell_of_row _ _ 2 _ _ _ (put3 HR9.out _ _ _))) rfl ?_
                exact BAD.out _ BW.out _ (.inr (.inl ⟨kk, KK.out, M.out, fun h => NO.out ⟨h.2.1, by rw [KE.out]; exact h.2.2⟩, rfl, rfl, rfl⟩))
              · have YES : Hid (gen ≠ 9223372036854775807 ∧ MayC ⟨gen + 1, lsn, L.drop k⟩ ∧ gg = gen + 1 ∧ ff = lsn ∧ Value.slice au nu cu = v5) := Lib.hid (HXX.out.elim (fun h => h.2) (fun h => absurd h.1 (by simp)))
                go_wp2_with fail
                refine bodyPost_ret (results_cat3 rfl _ _ w1.heap.size _ _ _ rfl (cell_of_row _ _ 0 _ _ _ (put3 HR9.out _ _ _)) (cell_of_row _ _ 1 _ _ _ (put3 HR9.out _ _ _)) (cell_of_row _ _ 2 _ _ _ (put3 HR9.out _ _ _))) rfl ?_
                obtain ⟨y1, y2, rfl, rfl, y5⟩ := YES.out
                refine ⟨_, u8, cutC ⟨gen, first, L⟩ ff k, numsC L k, 0, .inr (.inr ⟨k, by rw [KE.out]; exact KK.out, M.out, ⟨Q1.out, y1, y2⟩, rfl, rfl, rfl⟩), rfl, ⟨⟨_, rfl, OwnS.base ?_ HB2.out.size⟩, ⟨⟨by have := hgen.1; show _ ≤ gen + 1; omega, by have := hgen.2; show gen + 1 ≤ _; omega⟩, h1, OKD.out⟩, FEW.out⟩, OwnI.base ?_ HB2.out.size, put3_below (below_trans HB2.out BW.out) (Nat.le_of_lt HLT.out) _ _ _⟩
                · have h := OW.out
                  rw [← y5] at h
                  exact rows_congr h fun g hg => put3_off (by have := (rows_blk h hg).1; have := LW.out; omega) _ _ _
                · exact rows_congr IW.out fun g hg => put3_off (by have := (rows_blk IW.out hg).1; have := LW.out; omega) _ _ _
    · have Q1 := Lib.hid q1
      go_wp2_with fail
      refine bodyPost_ret (results_cat3 rfl _ _ w1.heap.size _ _ _ rfl (cell_of_row _ _ 0 _ _ _ (put3 HR3.out _ _ _)) (cell_of_row _ _ 1 _ _ _ (put3 HR3.out _ _ _)) (cell_of_row _ _ 2 _ _ _ (put3 HR3.out _ _ _))) rfl ?_
      exact BAD.out _ HB3.out _ (.inr (.inl ⟨kk, KK.out, M.out, fun h => by have := Q1.out; have := h.1; dsimp only at this; omega, rfl, rfl, rfl⟩))
end Go.Proofs.Ytmkljmljbbijeaa

/- The walk of flumelaw10's begun. -/
import Derived.Test.YtmkljmljbbijeaaPlainCatBack
import Derived.Test.YtmkljmljbbijeaaCatBody
import Derived.Test.YtmkljmljbbijeaaCatCut
namespace Go.Proofs.Ytmkljmljbbijeaa
open Go.RowKit

def c0 : CatV := ⟨1, 1, [⟨1, 1, 7#32, 0, 0⟩]⟩
def c1 : CatV := ⟨2, 1, [⟨1, 1, 7#32, 11, 300⟩, ⟨2, 11, 9#32, 0, 0⟩]⟩
def c2 : CatV := ⟨3, 11, [⟨2, 11, 9#32, 0, 0⟩]⟩
theorem may_c0 : MayC c0 := ⟨by decide, by decide, by decide, by decide, by unfold openC; decide, fun i hi => absurd hi (by simp [c0]), by decide, .inl rfl⟩
theorem may_c1 : MayC c1 := by
  refine ⟨by decide, by decide, by decide, by decide, by unfold openC; decide, fun i hi => ?_, by decide, .inr (by decide)⟩
  obtain rfl : i = 0 := by have h : i + 1 < 2 := hi; omega
  unfold linkC sealedC
  decide
theorem may_c2 : MayC c2 := ⟨by decide, by decide, by decide, by decide, by unfold openC; decide, fun i hi => absurd hi (by simp [c2]), by decide, .inl rfl⟩
theorem roll_c0 : RollIs c0 11 300 9#32 c1 0 := .inr (.inr (.inr ⟨may_c0, by decide, ⟨by decide, by decide, may_c1⟩, rfl, rfl⟩))
theorem at_c1 : AtIs c1 11 1 true := .inl ⟨may_c1, by decide, rfl, by decide, by decide, fun j h1 h2 => absurd h2 (by have : c1.segs.length = 2 := rfl; omega)⟩
theorem cutk_c1 : CutK c1 11 1 := by
  refine ⟨by decide, fun i hi => ?_, fun h => absurd h (by decide)⟩
  obtain rfl : i = 0 := by omega
  decide
theorem cut_c1 : CutIs c1 11 c2 [1] 0 := .inr (.inr ⟨1, cutk_c1, may_c1, ⟨by decide, by decide, may_c2⟩, rfl, rfl, rfl⟩)
theorem ok_c0 : OkC c0 := ⟨⟨by decide, by decide⟩, ⟨by decide, by decide⟩, fun i hi => (by
  obtain rfl : i = 0 := by have h : i < 1 := hi; omega
  exact ⟨⟨by decide, by decide⟩, ⟨by decide, by decide⟩, ⟨by decide, by decide⟩, ⟨by decide, by decide⟩⟩)⟩
theorem OwnI.one {w : World} {base : Nat} {v : Value} {x : Int} (h : OwnI w base v [x]) : ∃ g cap, v = .slice (some ⟨g, 0, none⟩) 1 cap ∧ w.cell? ⟨g, 0, none⟩ = some (.int .i64 x) := by
  rcases h.2 with ⟨-, h0⟩ | ⟨g, cap, cur, rfl, -, hc, -, -, -, htk⟩
  · simp at h0
  · refine ⟨g, cap, rfl, ?_⟩
    rw [cell_of_row _ _ _ _ _ _ hc, ← Array.getElem?_toList]
    have : (cur.toList.take 1)[0]? = some (.int .i64 x) := by
      have h1 : cur.toList.take 1 = [.int .i64 x] := by simpa [ints] using htk
      rw [h1]; rfl
    rwa [List.getElem?_take, if_pos (by decide)] at this
/-- A catalog's value, its slice shown. -/
theorem CatOwn.shown {w : World} {base : Nat} {v : Value} {c : CatV} (h : CatOwn w base v c) : ∃ ao ca, v = .agg #[.int .i64 c.gen, .int .i64 c.first, .slice ao c.segs.length ca] ∧ CatAt w (.agg #[.int .i64 c.gen, .int .i64 c.first, .slice ao c.segs.length ca]) c := by
  have hA := h.at
  obtain ⟨ao, ca, rfl, -⟩ := hA.shape
  exact ⟨ao, ca, rfl, hA⟩
set_option maxRecDepth 100000 in
set_option maxHeartbeats 4000000 in
theorem cat_begun (w : World) : Calls Try.prog 15 #[] w fun e w' => e = .returned (.bool true) ∧ Below w.heap.size w w' := by
  have bS := below_alloc w (.cells #[.int .i64 1, .int .i64 1, .int .u32 7, .int .i64 0, .int .i64 0] 53)
  have hS : SegCells (w.alloc (.cells #[.int .i64 1, .int .i64 1, .int .u32 7, .int .i64 0, .int .i64 0] 53)) w.heap.size 0 ⟨1, 1, 7#32, 0, 0⟩ := seg_new w ⟨1, 1, 7#32, 0, 0⟩ _
  obtain ⟨w1, hw1⟩ : ∃ w1, w.alloc (.cells #[.int .i64 1, .int .i64 1, .int .u32 7, .int .i64 0, .int .i64 0] 53) = w1 := ⟨_, rfl⟩
  rw [hw1] at bS hS
  have bC := below_alloc w1 (.cells #[.int .i64 1, .int .i64 1, .slice (some ⟨w.heap.size, 0, none⟩) 1 1] 29)
  have hC := heap_alloc_new w1 (.cells #[.int .i64 1, .int .i64 1, .slice (some ⟨w.heap.size, 0, none⟩) 1 1] 29)
  obtain ⟨w2, hw2⟩ : ∃ w2, w1.alloc (.cells #[.int .i64 1, .int .i64 1, .slice (some ⟨w.heap.size, 0, none⟩) 1 1] 29) = w2 := ⟨_, rfl⟩
  rw [hw2] at bC hC
  have HS2 := hS.below bC
  have A2 := Lib.hid (show CatAt w2 (.agg #[.int .i64 1, .int .i64 1, .slice (some ⟨w.heap.size, 0, none⟩) 1 1]) c0 from ⟨⟨_, _, rfl, fun i hi => by
    obtain rfl : i = 0 := by have h : i < 1 := hi; omega
    exact ⟨ok_c0.segs 0 (by decide), w.heap.size, 0, rfl, HS2⟩, by decide, by decide, fun e => by cases e⟩, ok_c0.gen, ok_c0.first⟩)
  have B2 := Lib.hid (below_trans bS bC)
  have C2 := Lib.hid hC
  have d0 := cell_of_row _ _ 0 _ _ _ hC
  have d1 := cell_of_row _ _ 1 _ _ _ hC
  have d2 := cell_of_row _ _ 2 _ _ _ hC
  clear bS bC hS hC HS2
  go_enter Try.func15, Try.ntmps15
  go_wp2_with fail
  refine (cat_roll 1 1 11 300 9 9#32 (some ⟨w.heap.size, 0, none⟩) 1 1 _ w2 rfl rfl A2.out ⟨by decide, by decide⟩ ⟨by decide, by decide⟩).mono ?_
  rintro e w3 ⟨v, r, er, hI, rfl, hO, hb3⟩
  obtain ⟨rfl, rfl⟩ := RollIs.uniq hI roll_c0
  obtain ⟨ao, ca, hv, hA⟩ := hO.shown
  have hv' : v = .agg #[.int .i64 2, .int .i64 1, .slice ao 2 ca] := hv
  subst hv'
  obtain ⟨w4, hw4⟩ : ∃ w4, w3.alloc (.cells #[.int .i64 2, .int .i64 1, .slice ao 2 ca] 29) = w4 := ⟨_, rfl⟩
  have bw4 := below_alloc w3 (.cells #[.int .i64 2, .int .i64 1, .slice ao 2 ca] 29)
  have nw4 := heap_alloc_new w3 (.cells #[.int .i64 2, .int .i64 1, .slice ao 2 ca] 29)
  rw [hw4] at bw4 nw4
  have A4 := Lib.hid (show CatAt w4 (.agg #[.int .i64 2, .int .i64 1, .slice ao 2 ca]) c1 from hA.below bw4)
  have B4 := Lib.hid (below_trans hb3 bw4)
  have N4 := Lib.hid nw4
  clear hO hI hv hA hb3 bw4 d0 d1 d2
  have e0 := cell_of_row _ _ 0 _ _ _ nw4
  have e1 := cell_of_row _ _ 1 _ _ _ nw4
  have e2 := cell_of_row _ _ 2 _ _ _ nw4
  clear nw4
  go_wp2_with fail
  refine (cat_at 2 1 11 ao 2 ca _ w4 rfl A4.out).mono ?_
  rintro e w5 ⟨i, ok, hI, rfl, hb5⟩
  obtain ⟨rfl, rfl⟩ := AtIs.uniq hI at_c1
  have B5 := Lib.hid (below_trans B4.out hb5)
  have A5 := Lib.hid (A4.out.below hb5)
  have N5 := Lib.hid ((hb5.block _ (heap_lt N4.out)).trans N4.out)
  clear hI hb5 e0 e1 e2
  have e0 := cell_of_row _ _ 0 _ _ _ N5.out
  have e1 := cell_of_row _ _ 1 _ _ _ N5.out
  have e2 := cell_of_row _ _ 2 _ _ _ N5.out
  go_wp2_with fail
  refine (cat_cut 2 1 11 ao 2 ca _ w5 rfl A5.out ⟨by decide, by decide⟩).mono ?_
  rintro e w6 ⟨v, nv, r, nums, er, hI, rfl, hO, hnv, hb6⟩
  obtain ⟨rfl, rfl, rfl⟩ := CutIs.uniq hI cut_c1
  obtain ⟨af, cf, hv, hA⟩ := hO.shown
  have hv' : v = .agg #[.int .i64 3, .int .i64 11, .slice af 1 cf] := hv
  subst hv'
  obtain ⟨gn, cn, rfl, hx⟩ := hnv.one
  obtain ⟨w7, hw7⟩ : ∃ w7, w6.alloc (.cells #[.int .i64 3, .int .i64 11, .slice af 1 cf] 29) = w7 := ⟨_, rfl⟩
  have bw7 := below_alloc w6 (.cells #[.int .i64 3, .int .i64 11, .slice af 1 cf] 29)
  have nw7 := heap_alloc_new w6 (.cells #[.int .i64 3, .int .i64 11, .slice af 1 cf] 29)
  rw [hw7] at bw7 nw7
  have B7 := Lib.hid (below_trans B5.out (below_trans hb6 bw7))
  have N7 := Lib.hid nw7
  have XN := Lib.hid (cell_keep bw7 hx)
  have M7 := Lib.hid (((below_trans hb6 bw7).block _ (heap_lt N5.out)).trans N5.out)
  clear hO hI hv hA hb6 bw7 nw7 e0 e1 e2 hnv hx
  have BC7 := Lib.hid ((B7.out.block _ (heap_lt C2.out)).trans C2.out)
  have A7 := Lib.hid (A2.out.below B7.out)
  have d0 := cell_of_row _ _ 0 _ _ _ BC7.out
  have d1 := cell_of_row _ _ 1 _ _ _ BC7.out
  have d2 := cell_of_row _ _ 2 _ _ _ BC7.out
  go_wp2_with fail
  refine (cat_write_ok 1 1 (some ⟨w.heap.size, 0, none⟩) 1 1 _ w7 rfl A7.out may_c0).mono ?_
  rintro e w8 ⟨v, rfl, hO, hb8⟩
  obtain ⟨ab, cb, rfl, hab, nab, lab, -, -⟩ := hO.slice
  have B8 := Lib.hid (below_trans B7.out hb8)
  have LB := catB_len c0 (by decide)
  obtain ⟨nb, hnb⟩ : ∃ nb, (catB c0).length = nb := ⟨_, rfl⟩
  have hO' := hO
  have HAB := Lib.hid (show BytesAt w8 ab (catB c0) from hab)
  have HNAB := Lib.hid nab
  have HNB := Lib.hid (show (catB c0).length = nb from hnb)
  have HLAB := Lib.hid (show nb ≤ cb by rw [← hnb]; exact lab)
  have HLB := Lib.hid (show nb ≤ 3000 by rw [← hnb]; exact LB)
  have hnb' : (catB ⟨1, 1, [⟨1, 1, 7#32, 0, 0⟩]⟩).length = nb := hnb
  try rw [hnb]
  try rw [hnb']
  clear hO hO' hab nab lab hnb hnb' LB d0 d1 d2
  go_wp2_with fail
  refine (cat_read ab (catB c0) nb cb w8 HAB.out HNB.out HNAB.out HLAB.out (by have := HLB.out; omega) c0 0 (catR_back may_c0 ok_c0)).mono ?_
  rintro e w9 ⟨v, rfl, hO, hb9⟩
  obtain ⟨ar, cr, hv, hA⟩ := hO.shown
  have hv' : v = .agg #[.int .i64 1, .int .i64 1, .slice ar 1 cr] := hv
  subst hv'
  obtain ⟨wa, hwa⟩ : ∃ wa, w9.alloc (.cells #[.int .i64 1, .int .i64 1, .slice ar 1 cr] 29) = wa := ⟨_, rfl⟩
  have bwa := below_alloc w9 (.cells #[.int .i64 1, .int .i64 1, .slice ar 1 cr] 29)
  have nwa := heap_alloc_new w9 (.cells #[.int .i64 1, .int .i64 1, .slice ar 1 cr] 29)
  rw [hwa] at bwa nwa
  have Ba := Lib.hid (below_trans B8.out (below_trans hb9 bwa))
  have Na := Lib.hid nwa
  have Aa := Lib.hid (show CatAt wa (.agg #[.int .i64 1, .int .i64 1, .slice ar 1 cr]) c0 from hA.below bwa)
  have B7a := Lib.hid (below_trans hb8 (below_trans hb9 bwa))
  have XNa := Lib.hid (cell_keep B7a.out XN.out)
  have N7a := Lib.hid ((B7a.out.block _ (heap_lt N7.out)).trans N7.out)
  have M7a := Lib.hid ((B7a.out.block _ (heap_lt M7.out)).trans M7.out)
  have BCa := Lib.hid ((B7a.out.block _ (heap_lt BC7.out)).trans BC7.out)
  have ACa := Lib.hid (A7.out.below B7a.out)
  clear hO hv hA hb9 bwa nwa hb8
  have d0 := cell_of_row _ _ 0 _ _ _ BCa.out
  have d1 := cell_of_row _ _ 1 _ _ _ BCa.out
  have d2 := cell_of_row _ _ 2 _ _ _ BCa.out
  go_wp2_with fail
  refine (cat_may c0 _ wa ACa.out true (by simp [may_c0])).mono ?_
  rintro e wb ⟨rfl, hbb⟩
  have Bb := Lib.hid (below_trans Ba.out hbb)
  have x0 := cell_keep hbb XNa.out
  have y0 := cell_keep hbb (cell_of_row _ _ 0 _ _ _ N7a.out)
  have z2 := cell_keep hbb (cell_of_row _ _ 2 _ _ _ M7a.out)
  have AR := Lib.hid (Aa.out.below hbb)
  have AC := Lib.hid (ACa.out.below hbb)
  have hRb := (hbb.block _ (heap_lt Na.out)).trans Na.out
  have hCb := (hbb.block _ (heap_lt BCa.out)).trans BCa.out
  have p0 := cell_of_row _ _ 0 _ _ _ hRb
  have p1 := cell_of_row _ _ 1 _ _ _ hRb
  have p2 := cell_of_row _ _ 2 _ _ _ hRb
  clear d0 d1 d2
  have d0 := cell_of_row _ _ 0 _ _ _ hCb
  have d1 := cell_of_row _ _ 1 _ _ _ hCb
  have d2 := cell_of_row _ _ 2 _ _ _ hCb
  clear hRb hCb hbb
  go_wp2_with fail
  refine (cat_eq 1 1 1 1 ar (some ⟨w.heap.size, 0, none⟩) 1 1 cr 1 _ _ wb rfl rfl AR.out AC.out true (by simp)).mono ?_
  rintro e wc ⟨rfl, hbc⟩
  have Bc := Lib.hid (below_trans B2.out (below_trans Bb.out hbc))
  clear hbc
  go_wp2_with fail
  go_ret
  exact ⟨rfl, Bc.out⟩
end Go.Proofs.Ytmkljmljbbijeaa

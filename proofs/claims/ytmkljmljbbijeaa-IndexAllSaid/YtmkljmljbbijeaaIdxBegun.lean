/- The walk of flumelaw9's begun. -/
import Derived.Test.YtmkljmljbbijeaaIdxBytes
namespace Go.Proofs.Ytmkljmljbbijeaa
open Go.RowKit

def x0' : IdxV := idx0 100
def x1' : IdxV := ⟨100, [⟨5, 32⟩], true, ⟨5, 32⟩⟩
def x2' : IdxV := ⟨100, [⟨5, 32⟩], true, ⟨6, 80⟩⟩
def x3' : IdxV := ⟨100, [⟨5, 32⟩, ⟨7, 132⟩], true, ⟨7, 132⟩⟩
theorem add_x0 : AddIs x0' 5 32 x1' 0 := .inr (.inr (.inl ⟨by unfold BadArg; omega, fun h => (by cases h.1), .inl rfl, rfl, rfl⟩))
theorem not_laid : ¬ LaidE x1' 80 := fun h => by
  rcases h with h | h
  · simp [x1'] at h
  · simp [x1', lastE, nthE] at h
theorem add_x1 : AddIs x1' 6 80 x2' 0 := .inr (.inr (.inr ⟨by unfold BadArg; omega, fun h => (by have := h.2; simp [x1'] at this), not_laid, rfl, rfl⟩))
theorem add_x2 : AddIs x2' 7 132 x3' 0 := .inr (.inr (.inl ⟨by unfold BadArg; omega, fun h => (by have := h.2; simp [x2'] at this), .inr (by simp [x2', lastE, nthE]), rfl, rfl⟩))
theorem add_x3 : AddIs x3' 9 140 x3' 63 := .inr (.inl ⟨by unfold BadArg; omega, ⟨rfl, by simp [x3']⟩, rfl, rfl⟩)
theorem x0_ok : IdxOk x0' := idx0_ok (by decide) (by decide)
theorem x1_ok : IdxOk x1' := add_x0.ok x0_ok (by decide)
theorem x2_ok : IdxOk x2' := add_x1.ok x1_ok (by decide)
theorem x3_ok : IdxOk x3' := add_x2.ok x2_ok (by decide)
theorem find_x3 : FindIs x3'.l 6 ⟨5, 32⟩ true := .inl ⟨0, by simp [x3'], by simp [x3', nthE], fun j h1 h2 => by
  have : j = 1 := by simp [x3'] at h2; omega
  subst this
  simp [x3', nthE], rfl, rfl⟩

set_option maxRecDepth 100000 in
set_option maxHeartbeats 4000000 in
theorem idx_begun (w : World) : Calls Try.prog 35 #[] w fun e w' => e = .returned (.bool true) ∧ Below w.heap.size w w' := by
  go_enter Try.func35, Try.ntmps35
  go_wp2_with fail
  refine (idx_new_ok 100 w (by decide) (by decide)).mono ?_
  rintro e w1 ⟨rfl, hat, hb⟩
  have H1 := Lib.hid (show IdxAt w1 w.heap.size w.heap.size x0' none 0 0 from hat)
  have B1 := Lib.hid hb
  clear hat hb
  go_wp2_with fail
  refine (idx_add w.heap.size w.heap.size 0 0 x0' none 5 32 w1 H1 x0_ok (Lib.hid B1.out.size)).mono ?_
  rintro e w2 ⟨Y, er, a2, n2, c2, hI, rfl, hat, hT⟩
  obtain ⟨rfl, rfl⟩ := hI.uniq add_x0
  have B2 := Lib.hid (B1.out.trans (hT.below H1.out.low (fun j hj => (held_blk H1.out.held hj).1) B1.out.size))
  have H2 := Lib.hid hat
  clear hI hat hT
  go_wp2_with fail
  refine (idx_add w.heap.size w.heap.size n2 c2 x1' a2 6 80 w2 H2 x1_ok (Lib.hid B2.out.size)).mono ?_
  rintro e w3 ⟨Y, er, a3, n3, c3, hI, rfl, hat, hT⟩
  obtain ⟨rfl, rfl⟩ := hI.uniq add_x1
  have B3 := Lib.hid (B2.out.trans (hT.below H2.out.low (fun j hj => (held_blk H2.out.held hj).1) B2.out.size))
  have H3 := Lib.hid hat
  clear hI hat hT
  go_wp2_with fail
  refine (idx_add w.heap.size w.heap.size n3 c3 x2' a3 7 132 w3 H3 x2_ok (Lib.hid B3.out.size)).mono ?_
  rintro e w4 ⟨Y, er, a4, n4, c4, hI, rfl, hat, hT⟩
  obtain ⟨rfl, rfl⟩ := hI.uniq add_x2
  have B4 := Lib.hid (B3.out.trans (hT.below H3.out.low (fun j hj => (held_blk H3.out.held hj).1) B3.out.size))
  have H4 := Lib.hid hat
  clear hI hat hT
  go_wp2_with fail
  refine (idx_add w.heap.size w.heap.size n4 c4 x3' a4 9 140 w4 H4 x3_ok (Lib.hid B4.out.size)).mono ?_
  rintro e w5 ⟨Y, er, a5, n5, c5, hI, rfl, hat, hT⟩
  obtain ⟨rfl, rfl⟩ := hI.uniq add_x3
  have B5 := Lib.hid (B4.out.trans (hT.below H4.out.low (fun j hj => (held_blk H4.out.held hj).1) B4.out.size))
  have H5 := Lib.hid hat
  clear hI hat hT
  go_wp2_with fail
  refine (idx_find w.heap.size w.heap.size n5 c5 x3' a5 6 w5 H5 x3_ok).mono ?_
  rintro e w6 ⟨en, ok, hI, rfl, hb⟩
  obtain ⟨rfl, rfl⟩ := hI.uniq find_x3
  have bE := below_alloc w6 (.cells #[.int .i64 5, .int .i64 32] 64)
  have nE := heap_alloc_new w6 (.cells #[.int .i64 5, .int .i64 32] 64)
  obtain ⟨w7, hw7⟩ : ∃ w7, w6.alloc (.cells #[.int .i64 5, .int .i64 32] 64) = w7 := ⟨_, rfl⟩
  rw [hw7] at bE nE
  have B7 := Lib.hid (B5.out.trans ((below_trans hb bE).mono B5.out.size))
  have H7 := Lib.hid (H5.out.keep (below_trans hb bE))
  have E7 := Lib.hid nE
  clear hI hb bE nE
  try dsimp only
  go_wp2_with fail
  refine (idx_bytes w.heap.size w.heap.size n5 c5 x3' a5 w7 H7 x3_ok).mono ?_
  rintro e w8 ⟨v, rfl, ho, hb⟩
  obtain ⟨ab, cb, rfl, hbs, nbs, hle, -, -⟩ := ho.slice
  have AB := Lib.hid hbs
  have LE := Lib.hid hle
  have LN := Lib.hid (idxB_len x3_ok)
  have B8 := Lib.hid (B7.out.trans (hb.mono B7.out.size))
  have H8 := Lib.hid (H7.out.keep hb)
  have E8 := Lib.hid ((hb.block _ (heap_lt E7.out)).trans E7.out)
  clear ho hbs nbs hle hb
  try dsimp only
  go_wp2_with fail
  refine (idx_load ab (idxB x3') _ cb w8 AB.out rfl LE.out (by have := LN.out; omega)).mono ?_
  rw [idxR_back x3_ok]
  rintro e w9 (⟨h0, -⟩ | ⟨-, -, xb, ao, n, cx, rfl, -, hb⟩)
  · exact absurd rfl h0
  · have B9 := Lib.hid (B8.out.trans (hb.mono B8.out.size))
    have H9 := Lib.hid (H8.out.keep hb)
    have E9 := Lib.hid ((hb.block _ (heap_lt E8.out)).trans E8.out)
    have e0 := cell_of_row _ _ 0 _ _ _ E9.out
    have e1 := cell_of_row _ _ 1 _ _ _ E9.out
    clear hb
    try dsimp only
    go_wp2_with fail
    refine (idx_entries w.heap.size w.heap.size n5 c5 x3' a5 w9 H9 x3_ok).mono ?_
    rintro e w10 ⟨v, rfl, ho, hb⟩
    obtain ⟨av, cv, hv, -⟩ := (HeldE.of_own ho).shape
    have hv2 : v = .slice av 2 cv := hv
    subst hv2
    have B10 := Lib.hid (B9.out.trans (hb.mono B9.out.size))
    clear ho hb hv
    try dsimp only
    go_wp2_with fail
    go_ret
    exact ⟨rfl, B10.out⟩
end Go.Proofs.Ytmkljmljbbijeaa

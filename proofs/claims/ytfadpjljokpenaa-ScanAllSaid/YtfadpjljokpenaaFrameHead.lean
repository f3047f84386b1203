/- The walks of the writing of heads, the program's and the document's. -/
import Derived.Test.YtfadpjljokpenaaFrameWrite
import Derived.Test.YtfadpjljokpenaaOpenRecs
import Derived.Test.YtfadpjljokpenaaBytesFull
import Derived.Lib.SlBytesConst
namespace Go.Proofs.Ytfadpjljokpenaa
open Go.RowKit

/-- What writing a head answers: bytes, sum, error. -/
def wH (h : HeadV) : List (BitVec 8) × BitVec 32 × Nat :=
  if h.num < 1 ∨ h.base < 1 then ([], 0#32, 1) else (headH (BitVec.ofInt 64 h.num) (BitVec.ofInt 64 h.base) h.seed, Crc.sum (bareH (BitVec.ofInt 64 h.num) (BitVec.ofInt 64 h.base) h.seed), 0)
/-- A head in a box of its own. -/
structure HeadBox (w w' : World) (num base : Int) (seed : BitVec 32) : Prop where
  c0 : w'.cell? ⟨w.heap.size, 0, none⟩ = some (.int .i64 num)
  c1 : w'.cell? ⟨w.heap.size, 1, none⟩ = some (.int .i64 base)
  c2 : w'.cell? ⟨w.heap.size, 2, none⟩ = some (.int .u32 (bv seed))
  below : Below w.heap.size w w'
  size : w.heap.size + 1 ≤ w'.heap.size
theorem headBox_new (w : World) (num base : Int) (seed : BitVec 32) : HeadBox w (w.alloc (.cells #[.int .i64 num, .int .i64 base, .int .u32 (bv seed)] 50)) num base seed := by
  have h1 := heap_alloc_new w (.cells #[.int .i64 num, .int .i64 base, .int .u32 (bv seed)] 50)
  refine ⟨cell_of_row _ _ 0 _ _ _ h1, cell_of_row _ _ 1 _ _ _ h1, cell_of_row _ _ 2 _ _ _ h1, below_alloc _ _, ?_⟩
  show _ ≤ (w.heap.push _).size
  rw [Array.size_push]; omega
theorem HeadBox.on {w w1 w2 : World} {num base : Int} {seed : BitVec 32} (h : HeadBox w w1 num base seed) (hb : Below w1.heap.size w1 w2) : HeadBox w w2 num base seed :=
  ⟨cell_keep hb h.c0, cell_keep hb h.c1, cell_keep hb h.c2, below_trans h.below hb, by have := h.size; have := hb.size; omega⟩
theorem HeadBox.grown {w w1 w2 : World} {num base : Int} {seed : BitVec 32} {v : Value} {xs : List (BitVec 8)} (h : HeadBox w w1 num base seed) (hO : OwnB w1 (w.heap.size + 1) v xs) (hg : w1.grownBy w2 v.ownBlock) : HeadBox w w2 num base seed := by
  have hb := hO.below hg (Nat.le_refl _) h.size
  exact ⟨(hb.cell (p := ⟨w.heap.size, 0, none⟩) (Nat.lt_succ_self _)).trans h.c0, (hb.cell (p := ⟨w.heap.size, 1, none⟩) (Nat.lt_succ_self _)).trans h.c1, (hb.cell (p := ⟨w.heap.size, 2, none⟩) (Nat.lt_succ_self _)).trans h.c2, h.below.trans (hO.below hg (Nat.le_succ _) (by have := h.size; omega)), by have := h.size; have := hb.size; omega⟩
/-- The magic word as a literal. -/
def magicA : Array Value := #[.int .u8 70, .int .u8 76, .int .u8 85, .int .u8 77, .int .u8 69, .int .u8 76, .int .u8 79, .int .u8 71]
def magicW (w : World) : World := w.alloc (.cells magicA 5 (8, 9))
theorem magic_at (w : World) : BytesAt (magicW w) (some ⟨w.heap.size, 0, none⟩) magicL := fun i hi => ⟨w.heap.size, 0, rfl, by
  rw [Nat.zero_add]
  show (w.alloc _).cell? _ = _
  rw [cell_of_row _ _ _ _ _ _ (heap_alloc_new w _)]
  have h : i < 8 := hi
  match i, h with
  | 0, _ => rfl
  | 1, _ => rfl
  | 2, _ => rfl
  | 3, _ => rfl
  | 4, _ => rfl
  | 5, _ => rfl
  | 6, _ => rfl
  | 7, _ => rfl⟩
theorem magic_below (w : World) : Below w.heap.size w (magicW w) := below_alloc _ _
theorem magic_conv (w : World) (g : Nat) (hg : g = w.heap.size) : (convert 31 31 (.slice (some ⟨g, 0, none⟩) 8 8)).run Try.prog (w.alloc (.cells #[.int .u8 70, .int .u8 76, .int .u8 85, .int .u8 77, .int .u8 69, .int .u8 76, .int .u8 79, .int .u8 71] 5)) = .ok (.slice (some ⟨g, 0, none⟩) 8 8) (magicW w) :=
  hg ▸ Lib.run_convert_bytes_const (P := Try.prog) w 31 5 #[.int .u8 70, .int .u8 76, .int .u8 85, .int .u8 77, .int .u8 69, .int .u8 76, .int .u8 79, .int .u8 71] 8 8 Try.underlying31 Try.underlying5

set_option maxHeartbeats 2000000 in
set_option maxRecDepth 100000 in
theorem write_head_ok (num base : BitVec 64) (seed : BitVec 32) (w : World) (h1 : ¬ bv num < 1) (h2 : ¬ bv base < 1) :
    Calls Try.prog 28 #[.agg #[.int .i64 (bv num), .int .i64 (bv base), .int .u32 (bv seed)]] w (WriteB w (headH num base seed) (Crc.sum (bareH num base seed)) 0) := by
  have f4 : ∀ n, (fixedL n 4).length = 4 := fun n => fixedL_len n 4
  have f8 : ∀ n, (fixedL n 8).length = 8 := fun n => fixedL_len n 8
  have F4 := Lib.hid f4
  have F8 := Lib.hid f8
  have LM : Hid (magicL.length = 8) := Lib.hid rfl
  have X0 := Lib.hid (headBox_new w (bv num) (bv base) seed)
  clear f4 f8
  obtain ⟨wa, hwa⟩ : ∃ wa, w.alloc (.cells #[.int .i64 (bv num), .int .i64 (bv base), .int .u32 (bv seed)] 50) = wa := ⟨_, rfl⟩
  rw [hwa] at X0
  have kc := magic_conv wa wa.heap.size rfl
  have X1 := Lib.hid (X0.out.on (magic_below _))
  have MA := Lib.hid (magic_at wa)
  have c0 := X0.out.c0
  have c1 := X0.out.c1
  have d0 := X1.out.c0
  go_enter Try.func28, Try.ntmps28
  go_wp2_with fail
  refine (fixed64_to _ num _ (by first | rfl | simp)).mono ?_
  rintro e w2 ⟨v2, rfl, hO, hb⟩
  obtain ⟨a2, c2, rfl, x2, n2, -, -, -⟩ := hO.slice
  have Y2 := Lib.hid x2
  have X2 := Lib.hid (X1.out.on hb)
  have M2 := Lib.hid (MA.out.below hb)
  clear hO hb x2 n2 d0 c0 c1
  go_wp2_with (refine wpList_append_full (o := ⟨some 21, _, _, _, _, _⟩) rfl _ _ rfl (w.heap.size + 1) _ magicL _ 8 rfl LM.out.symm M2.out a2 _ c2 (fixedL num 8) rfl rfl Y2.out (by rw [LM.out, F8.out]; omega) (by rw [F8.out]; omega) (by rw [LM.out, F8.out]; omega) X2.out.size ?_)
  intro v3 w3 hv hg
  have O3 := Lib.hid (show OwnB w3 (w.heap.size + 1) v3 (magicL ++ fixedL num 8) from hv)
  have X3 := Lib.hid (X2.out.on ((OwnB.nil w2 w2.heap.size).below hg (Nat.le_refl _) (Nat.le_refl _)))
  clear hv hg M2 Y2 MA kc hwa
  have d0 := X3.out.c1
  go_wp2_with fail
  refine (fixed64_to _ base _ (by first | rfl | simp)).mono ?_
  rintro e w4 ⟨v4, rfl, hO, hb⟩
  obtain ⟨a4, c4, rfl, x4, n4, -, -, -⟩ := hO.slice
  have Y4 := Lib.hid x4
  have N4 := Lib.hid n4
  have O4 := Lib.hid (O3.out.keep hb)
  have X4 := Lib.hid (X3.out.on hb)
  clear hO hb x4 n4 O3 d0
  go_wp2_with (refine wpList_append_bytes (o := ⟨some 27, _, _, _, _, _⟩) rfl _ _ rfl (w.heap.size + 1) _ (magicL ++ fixedL num 8) rfl O4.out a4 _ c4 (fixedL base 8) rfl rfl Y4.out N4.out (by rw [List.length_append, LM.out, F8.out, F8.out]; omega) X4.out.size ?_)
  intro v5 w5 hv hg hi
  have O5 := Lib.hid (show OwnB w5 (w.heap.size + 1) v5 (magicL ++ fixedL num 8 ++ fixedL base 8) from by simpa only [List.append_assoc] using hv)
  have X5 := Lib.hid (X4.out.grown O4.out hg)
  clear hv hg hi O4 Y4 N4
  have d0 := X5.out.c2
  go_wp2_with fail
  refine (fixed32_bytes seed _).mono ?_
  rintro e w6 ⟨v6, rfl, hO, hb⟩
  obtain ⟨a6, c6, rfl, x6, n6, -, -, -⟩ := hO.slice
  have Y6 := Lib.hid x6
  have N6 := Lib.hid n6
  have O6 := Lib.hid (O5.out.keep hb)
  have X6 := Lib.hid (X5.out.on hb)
  clear hO hb x6 n6 O5 d0
  go_wp2_with (refine wpList_append_bytes (o := ⟨some 32, _, _, _, _, _⟩) rfl _ _ rfl (w.heap.size + 1) _ (magicL ++ fixedL num 8 ++ fixedL base 8) rfl O6.out a6 _ c6 (fixedL (seed.setWidth 64) 4) rfl rfl Y6.out N6.out (by rw [List.length_append, List.length_append, LM.out, F8.out, F8.out, F4.out]; omega) X6.out.size ?_)
  intro v7 w7 hv hg hi
  have O7 := Lib.hid (show OwnB w7 (w.heap.size + 1) v7 (bareH num base seed) from by unfold bareH; simpa only [List.append_assoc] using hv)
  have X7 := Lib.hid (X6.out.grown O6.out hg)
  clear hv hg hi O6 Y6 N6
  go_wp2_with fail
  refine (crc_sum_to _ _ _ _ O7.out (by rw [bareH_len]; omega)).mono ?_
  rintro e w8 ⟨rfl, hb⟩
  have O8 := Lib.hid (O7.out.keep hb)
  have X8 := Lib.hid (X7.out.on hb)
  clear hb O7
  go_wp2_with fail
  refine (crc_mask (Crc.sum (bareH num base seed)) _).mono ?_
  rintro e w9 ⟨rfl, rfl⟩
  go_wp2_with fail
  refine (fixed32_bytes (Crc.mask (Crc.sum (bareH num base seed))) _).mono ?_
  rintro e w10 ⟨v10, rfl, hO, hb⟩
  obtain ⟨a10, c10, rfl, x10, n10, -, -, -⟩ := hO.slice
  have Y10 := Lib.hid x10
  have N10 := Lib.hid n10
  have O10 := Lib.hid (O8.out.keep hb)
  have X10 := Lib.hid (X8.out.on hb)
  clear hO hb x10 n10 O8
  go_wp2_with (refine wpList_append_bytes (o := ⟨some 39, _, _, _, _, _⟩) rfl _ _ rfl (w.heap.size + 1) _ (bareH num base seed) rfl O10.out a10 _ c10 (fixedL ((Crc.mask (Crc.sum (bareH num base seed))).setWidth 64) 4) rfl rfl Y10.out N10.out (by rw [bareH_len, F4.out]; omega) X10.out.size ?_)
  intro v11 w11 hv hg hi
  have O11 := Lib.hid (show OwnB w11 w.heap.size v11 (headH num base seed) from hv.base (Nat.le_succ _))
  have X11 := Lib.hid (X10.out.grown O10.out hg)
  clear hv hg hi O10 Y10 N10
  go_wp2_with fail
  go_ret3
  exact ⟨_, rfl, O11.out, X11.out.below⟩

set_option maxHeartbeats 1000000 in
set_option maxRecDepth 100000 in
theorem write_head (h : HeadV) (hk : HeadOk h) (w : World) (bytes : List (BitVec 8)) (sum : BitVec 32) (err : Nat) (he : wH h = (bytes, sum, err)) :
    Calls Try.prog 28 #[headV h] w (WriteB w bytes sum err) := by
  obtain ⟨num, base, seed⟩ := h
  obtain ⟨k1, k2⟩ := hk
  dsimp only at k1 k2
  unfold headV
  dsimp only
  have X0 := Lib.hid (headBox_new w num base seed)
  have c0 := X0.out.c0
  have c1 := X0.out.c1
  by_cases h1 : num < 1
  · unfold wH at he
    rw [if_pos (.inl h1)] at he
    injection he with h0 he; injection he with h3 h4
    subst h0 h3 h4
    go_enter Try.func28, Try.ntmps28
    go_wp2_with fail
    go_ret3
    exact ⟨_, rfl, OwnB.nil _ _, X0.out.below⟩
  by_cases h2 : base < 1
  · unfold wH at he
    rw [if_pos (.inr h2)] at he
    injection he with h0 he; injection he with h3 h4
    subst h0 h3 h4
    go_enter Try.func28, Try.ntmps28
    go_wp2_with fail
    go_ret3
    exact ⟨_, rfl, OwnB.nil _ _, X0.out.below⟩
  · unfold wH at he
    rw [if_neg (by simp only; omega)] at he
    injection he with h0 he; injection he with h5 h4
    subst h0 h5 h4
    have e1 := lsn_bv (lsn := num) (by omega) (by omega)
    have e2 := lsn_bv (lsn := base) (by omega) (by omega)
    have := write_head_ok (BitVec.ofInt 64 num) (BitVec.ofInt 64 base) seed w (by rw [e1]; exact h1) (by rw [e2]; exact h2)
    rwa [e1, e2] at this

set_option maxHeartbeats 2000000 in
set_option maxRecDepth 100000 in
theorem ref_bare (num base : BitVec 64) (seed : BitVec 32) (w : World) :
    Calls Try.prog 71 #[.agg #[.int .i64 (bv num), .int .i64 (bv base), .int .u32 (bv seed)]] w fun e w' => ∃ v, e = .returned v ∧ OwnB w' w.heap.size v (bareH num base seed) ∧ Below w.heap.size w w' := by
  have f4 : ∀ n, (fixedL n 4).length = 4 := fun n => fixedL_len n 4
  have f8 : ∀ n, (fixedL n 8).length = 8 := fun n => fixedL_len n 8
  have F4 := Lib.hid f4
  have F8 := Lib.hid f8
  have LM : Hid (magicL.length = 8) := Lib.hid rfl
  have X0 := Lib.hid (headBox_new w (bv num) (bv base) seed)
  clear f4 f8
  obtain ⟨wa, hwa⟩ : ∃ wa, w.alloc (.cells #[.int .i64 (bv num), .int .i64 (bv base), .int .u32 (bv seed)] 50) = wa := ⟨_, rfl⟩
  rw [hwa] at X0
  have kc := magic_conv wa wa.heap.size rfl
  have X1 := Lib.hid (X0.out.on (magic_below _))
  have MA := Lib.hid (magic_at wa)
  have c0 := X0.out.c0
  have c1 := X0.out.c1
  have d0 := X1.out.c0
  go_enter Try.func71, Try.ntmps71
  go_wp2_with fail
  refine (ref_fixed_to _ num 8 _ (by first | rfl | simp) (by omega)).mono ?_
  rintro e w2 ⟨v2, rfl, hO, hb⟩
  obtain ⟨a2, c2, rfl, x2, n2, -, -, -⟩ := hO.slice
  have Y2 := Lib.hid x2
  have X2 := Lib.hid (X1.out.on hb)
  have M2 := Lib.hid (MA.out.below hb)
  clear hO hb x2 n2 d0 c0 c1
  go_wp2_with (refine wpList_append_full (o := ⟨some 11, _, _, _, _, _⟩) rfl _ _ rfl (w.heap.size + 1) _ magicL _ 8 rfl LM.out.symm M2.out a2 _ c2 (fixedL num 8) rfl rfl Y2.out (by rw [LM.out, F8.out]; omega) (by rw [F8.out]; omega) (by rw [LM.out, F8.out]; omega) X2.out.size ?_)
  intro v3 w3 hv hg
  have O3 := Lib.hid (show OwnB w3 (w.heap.size + 1) v3 (magicL ++ fixedL num 8) from hv)
  have X3 := Lib.hid (X2.out.on ((OwnB.nil w2 w2.heap.size).below hg (Nat.le_refl _) (Nat.le_refl _)))
  clear hv hg M2 Y2 MA kc hwa
  have d0 := X3.out.c1
  go_wp2_with fail
  refine (ref_fixed_to _ base 8 _ (by first | rfl | simp) (by omega)).mono ?_
  rintro e w4 ⟨v4, rfl, hO, hb⟩
  obtain ⟨a4, c4, rfl, x4, n4, -, -, -⟩ := hO.slice
  have Y4 := Lib.hid x4
  have N4 := Lib.hid n4
  have O4 := Lib.hid (O3.out.keep hb)
  have X4 := Lib.hid (X3.out.on hb)
  clear hO hb x4 n4 O3 d0
  go_wp2_with (refine wpList_append_bytes (o := ⟨some 17, _, _, _, _, _⟩) rfl _ _ rfl (w.heap.size + 1) _ (magicL ++ fixedL num 8) rfl O4.out a4 _ c4 (fixedL base 8) rfl rfl Y4.out N4.out (by rw [List.length_append, LM.out, F8.out, F8.out]; omega) X4.out.size ?_)
  intro v5 w5 hv hg hi
  have O5 := Lib.hid (show OwnB w5 (w.heap.size + 1) v5 (magicL ++ fixedL num 8 ++ fixedL base 8) from by simpa only [List.append_assoc] using hv)
  have X5 := Lib.hid (X4.out.grown O4.out hg)
  clear hv hg hi O4 Y4 N4
  have d0 := X5.out.c2
  go_wp2_with fail
  refine (ref_fixed_to _ (seed.setWidth 64) 4 _ (by first | rfl | simp) (by omega)).mono ?_
  rintro e w6 ⟨v6, rfl, hO, hb⟩
  obtain ⟨a6, c6, rfl, x6, n6, -, -, -⟩ := hO.slice
  have Y6 := Lib.hid x6
  have N6 := Lib.hid n6
  have O6 := Lib.hid (O5.out.keep hb)
  have X6 := Lib.hid (X5.out.on hb)
  clear hO hb x6 n6 O5 d0
  go_wp2_with (refine wpList_append_bytes (o := ⟨some 23, _, _, _, _, _⟩) rfl _ _ rfl (w.heap.size + 1) _ (magicL ++ fixedL num 8 ++ fixedL base 8) rfl O6.out a6 _ c6 (fixedL (seed.setWidth 64) 4) rfl rfl Y6.out N6.out (by rw [List.length_append, List.length_append, LM.out, F8.out, F8.out, F4.out]; omega) X6.out.size ?_)
  intro v7 w7 hv hg hi
  have O7 := Lib.hid (show OwnB w7 w.heap.size v7 (bareH num base seed) from OwnB.base (by unfold bareH; simpa only [List.append_assoc] using hv) (Nat.le_succ _))
  have X7 := Lib.hid (X6.out.grown O6.out hg)
  clear hv hg hi O6 Y6 N6
  go_wp2_with fail
  go_ret
  exact ⟨_, rfl, O7.out, X7.out.below⟩

set_option maxHeartbeats 2000000 in
set_option maxRecDepth 100000 in
theorem ref_write_head_ok (num base : BitVec 64) (seed : BitVec 32) (w : World) (h1 : ¬ bv num < 1) (h2 : ¬ bv base < 1) :
    Calls Try.prog 29 #[.agg #[.int .i64 (bv num), .int .i64 (bv base), .int .u32 (bv seed)]] w (WriteB w (headH num base seed) (Crc.sum (bareH num base seed)) 0) := by
  have f4 : ∀ n, (fixedL n 4).length = 4 := fun n => fixedL_len n 4
  have F4 := Lib.hid f4
  have X0 := Lib.hid (headBox_new w (bv num) (bv base) seed)
  clear f4
  have c0 := X0.out.c0
  have c1 := X0.out.c1
  have c2 := X0.out.c2
  go_enter Try.func29, Try.ntmps29
  go_wp2_with fail
  refine (ref_bare num base seed _).mono ?_
  rintro e w1 ⟨v1, rfl, hO, hb⟩
  have X1 := Lib.hid (X0.out.on hb)
  have O1 := Lib.hid (hO.base X0.out.size)
  clear hO hb c0 c1 c2
  go_wp2_with fail
  refine (ref_sum_to _ _ _ _ O1.out (by rw [bareH_len]; omega)).mono ?_
  rintro e w8 ⟨rfl, hb⟩
  have O8 := Lib.hid (O1.out.keep hb)
  have X8 := Lib.hid (X1.out.on hb)
  clear hb O1
  go_wp2_with fail
  refine (ref_mask (Crc.sum (bareH num base seed)) _).mono ?_
  rintro e w9 ⟨rfl, rfl⟩
  go_wp2_with fail
  refine (ref_fixed_to _ ((Crc.mask (Crc.sum (bareH num base seed))).setWidth 64) 4 _ (by first | rfl | simp) (by omega)).mono ?_
  rintro e w10 ⟨v10, rfl, hO, hb⟩
  obtain ⟨a10, c10, rfl, x10, n10, -, -, -⟩ := hO.slice
  have Y10 := Lib.hid x10
  have N10 := Lib.hid n10
  have O10 := Lib.hid (O8.out.keep hb)
  have X10 := Lib.hid (X8.out.on hb)
  clear hO hb x10 n10 O8
  go_wp2_with (refine wpList_append_bytes (o := ⟨some 24, _, _, _, _, _⟩) rfl _ _ rfl (w.heap.size + 1) _ (bareH num base seed) rfl O10.out a10 _ c10 (fixedL ((Crc.mask (Crc.sum (bareH num base seed))).setWidth 64) 4) rfl rfl Y10.out N10.out (by rw [bareH_len, F4.out]; omega) X10.out.size ?_)
  intro v11 w11 hv hg hi
  have O11 := Lib.hid (show OwnB w11 w.heap.size v11 (headH num base seed) from hv.base (Nat.le_succ _))
  have X11 := Lib.hid (X10.out.grown O10.out hg)
  clear hv hg hi O10 Y10 N10
  go_wp2_with fail
  go_ret3
  exact ⟨_, rfl, O11.out, X11.out.below⟩

set_option maxHeartbeats 1000000 in
set_option maxRecDepth 100000 in
theorem ref_write_head (h : HeadV) (hk : HeadOk h) (w : World) (bytes : List (BitVec 8)) (sum : BitVec 32) (err : Nat) (he : wH h = (bytes, sum, err)) :
    Calls Try.prog 29 #[headV h] w (WriteB w bytes sum err) := by
  obtain ⟨num, base, seed⟩ := h
  obtain ⟨k1, k2⟩ := hk
  dsimp only at k1 k2
  unfold headV
  dsimp only
  have X0 := Lib.hid (headBox_new w num base seed)
  have c0 := X0.out.c0
  have c1 := X0.out.c1
  by_cases h1 : num < 1
  · unfold wH at he
    rw [if_pos (.inl h1)] at he
    injection he with h0 he; injection he with h3 h4
    subst h0 h3 h4
    go_enter Try.func29, Try.ntmps29
    go_wp2_with fail
    go_ret3
    exact ⟨_, rfl, OwnB.nil _ _, X0.out.below⟩
  by_cases h2 : base < 1
  · unfold wH at he
    rw [if_pos (.inr h2)] at he
    injection he with h0 he; injection he with h3 h4
    subst h0 h3 h4
    go_enter Try.func29, Try.ntmps29
    go_wp2_with fail
    go_ret3
    exact ⟨_, rfl, OwnB.nil _ _, X0.out.below⟩
  · unfold wH at he
    rw [if_neg (by simp only; omega)] at he
    injection he with h0 he; injection he with h5 h4
    subst h0 h5 h4
    have e1 := lsn_bv (lsn := num) (by omega) (by omega)
    have e2 := lsn_bv (lsn := base) (by omega) (by omega)
    have := ref_write_head_ok (BitVec.ofInt 64 num) (BitVec.ofInt 64 base) seed w (by rw [e1]; exact h1) (by rw [e2]; exact h2)
    rwa [e1, e2] at this

end Go.Proofs.Ytfadpjljokpenaa

/- The walk of the closure that writes a number behind what stands in its box. -/
import Derived.Test.YtmkljmljbbijeaaBytesFull
import Derived.Test.YtmkljmljbbijeaaWireString
import Derived.Test.YtmkljmljbbijeaaMixed
import Derived.Test.YtmkljmljbbijeaaKept
import Derived.Lib.SmallJoins
namespace Go.Proofs.Ytmkljmljbbijeaa
open Go.RowKit

/-- Bytes of the call's own, their slice in a box. -/
structure BoxB (w : World) (g base : Nat) (v : Value) (bs : List (BitVec 8)) : Prop where
  row : w.heap[g]? = some (.cells #[v] 31 (0, 0))
  own : OwnB w base v bs
  lt : g < base
/-- Nothing but the box and the bytes was changed. -/
structure Put1 (g : Nat) (v : Value) (w w' : World) : Prop where
  os : w'.os = w.os
  tape : w'.tape = w.tape
  output : w'.output = w.output
  size : w.heap.size ≤ w'.heap.size
  block : ∀ k, k < w.heap.size → k ≠ g → v.ownBlock ≠ some k → w'.heap[k]? = w.heap[k]?
theorem Put1.below {g n : Nat} {v : Value} {w w' w0 : World} (h : Put1 g v w w') (h0 : Below n w0 w) (hg : n ≤ g) (hv : ∀ k, v.ownBlock = some k → n ≤ k) (hs : n ≤ w.heap.size) : Below n w0 w' :=
  ⟨h.os.trans h0.os, h.tape.trans h0.tape, h.output.trans h0.output, Nat.le_trans h0.size h.size, fun k hk => (h.block k (by omega) (by omega) (fun e => by have := hv k e; omega)).trans (h0.block k hk)⟩
theorem Put1.of_grown {g : Nat} {v u : Value} {w w1 w2 : World} (hb : Below w.heap.size w w1) (hg : w1.grownBy w2 v.ownBlock) : Put1 g v w (w2.setCell ⟨g, 0, none⟩ u) :=
  ⟨by rw [show (w2.setCell ⟨g, 0, none⟩ u).os = w2.os from ((But.refl g w2).setB 0 u).os]; exact hg.os.trans hb.os, by rw [show (w2.setCell ⟨g, 0, none⟩ u).tape = w2.tape from ((But.refl g w2).setB 0 u).tape]; exact hg.tape.trans hb.tape, by rw [show (w2.setCell ⟨g, 0, none⟩ u).output = w2.output from ((But.refl g w2).setB 0 u).output]; exact hg.output.trans hb.output,
    by have := ((But.refl g w2).setB 0 u).size; have := hg.size; have := hb.size; omega, fun k hk h1 h2 => by
      rw [Below.heap_setCell _ _ _ _ (by simpa using h1)]
      exact (hg.block k (by have := hb.size; omega) (fun e => h2 e.symm)).trans (hb.block k hk)⟩
theorem BoxB.keep {w w' : World} {g base : Nat} {v : Value} {bs : List (BitVec 8)} (h : BoxB w g base v bs) (hb : Below w.heap.size w w') : BoxB w' g base v bs :=
  ⟨(hb.block _ (heap_lt h.row)).trans h.row, h.own.keep hb, h.lt⟩
theorem u64_of (n : Int) : IntKind.u64.wrap n = bv (BitVec.ofInt 64 n) := by
  unfold bv
  rw [IntKind.wrap_u64, BitVec.toNat_ofInt]
  have : ((2 ^ 64 : Nat) : Int) = 18446744073709551616 := rfl
  omega
/-- A number's form. -/
def numL (n : Int) : List (BitVec 8) := varint (BitVec.ofInt 64 n)
theorem numL_len (n : Int) : 1 ≤ (numL n).length ∧ (numL n).length ≤ 10 := varint_len _
/-- The store of what was appended. -/
theorem boxB_push {w1 w2 : World} {g base : Nat} {v v' : Value} {bs : List (BitVec 8)} (hr : w1.heap[g]? = some (.cells #[v] 31 (0, 0))) (ho : OwnB w2 base v' bs) (hg : w1.grownBy w2 v.ownBlock) (hl : g < base) (hv : v.ownBlock ≠ some g) : BoxB (w2.setCell ⟨g, 0, none⟩ v') g base v' bs := by
  have hr2 := (hg.block g (heap_lt hr) (fun e => hv e.symm)).trans hr
  refine ⟨Go.Joins.block_setCell hr2 v' (i := 0), rows_congr ho fun k hk => ?_, hl⟩
  rw [Below.heap_setCell _ _ _ _ (by have := (rows_blk ho hk).1; simp only; omega)]
theorem own_ne {w : World} {g base : Nat} {v : Value} {bs : List (BitVec 8)} (h : OwnB w base v bs) (hl : g < base) : v.ownBlock ≠ some g := fun e => by have := (rows_blk h e).1; omega

set_option maxRecDepth 100000 in
theorem cat_number (n : Int) (g base : Nat) (v : Value) (bs : List (BitVec 8)) (w : World) (h : BoxB w g base v bs) (hb : base ≤ w.heap.size) (hl : bs.length ≤ 1099511627776) :
    Calls Try.prog 72 #[.int .i64 n, .pointer (some ⟨g, 0, none⟩)] w fun e w' => e = .returned (.tuple #[]) ∧ (∃ v', BoxB w' g base v' (bs ++ numL n)) ∧ Put1 g v w w' := by
  have H := Lib.hid h
  have hr := cell_of_row _ _ 0 _ _ _ h.row
  have hn := u64_of n
  have qs0 : ∀ p : In (fun w' => w'.cell? ⟨g, 0, none⟩ = some v), p.w.cell? ⟨g, 0, none⟩ = some v := fun p => p.h
  have SB := Lib.hid hb
  have LB := Lib.hid hl
  clear h hb hl
  go_enter Try.func72, Try.ntmps72
  refine wp_region_mixed_tail [0, 1, 2, 3, 4] 5 (fun w' => w'.cell? ⟨g, 0, none⟩ = some v) (by kernel_rfl) (by kernel_rfl) (by intro c a d v w h; cases d <;> exact h) hr ?_
  intro hne
  simp only [pick, List.map_cons, List.map_nil, List.getD_cons_zero, List.getD_cons_succ, List.drop_succ_cons, List.drop_zero]
  refine wpMix_reads 3 _ (by kernel_rfl) ?_
  simp only [List.take_succ_cons, List.take_zero, List.drop_succ_cons, List.drop_zero]
  repeat (go_big_quiet_step (fail))
  refine wpQuiet_nil ?_
  refine wpMix_act rfl ?_ rfl
  go_wp2_with fail
  refine (wire_varint (BitVec.ofInt 64 n) _).mono ?_
  rintro e w1 ⟨v1, rfl, ho1, hb1⟩
  obtain ⟨a1, c1, rfl, x1, n1, -, -, -⟩ := ho1.slice
  have HB1 := Lib.hid (show Below w.heap.size w w1 from below_trans (below_drew w) hb1)
  have H1 := Lib.hid (H.out.keep HB1.out)
  have X1 := Lib.hid x1
  have N1 := Lib.hid n1
  have V := varint_len (BitVec.ofInt 64 n)
  have VL := Lib.hid V
  clear ho1 hb1 x1 n1 V
  go_wp2_with fail
  refine ⟨⟨⟨_, cell_of_row _ _ 0 _ _ _ H1.out.row⟩, rfl⟩, ?_⟩
  refine wpMix_act rfl ?_ rfl
  go_wp2_with (refine wpList_append_bytes (o := ⟨some 7, _, _, _, _, _⟩) rfl _ _ rfl base v bs rfl H1.out.own a1 _ c1 (varint (BitVec.ofInt 64 n)) rfl rfl X1.out N1.out (by have := VL.out; have := LB.out; omega) (Nat.le_trans SB.out HB1.out.size) ?_)
  intro v2 w2 ho2 hg2 hi2
  have HB := Lib.hid (show BoxB (w2.setCell ⟨g, 0, none⟩ v2) g base v2 (bs ++ numL n) from boxB_push H1.out.row ho2 hg2 H1.out.lt (own_ne H1.out.own H1.out.lt))
  have HP := Lib.hid (show Put1 g v w (w2.setCell ⟨g, 0, none⟩ v2) from Put1.of_grown HB1.out hg2)
  have c2 : w2.cell? ⟨g, 0, none⟩ = some v := cell_of_row _ _ 0 _ _ _ ((hg2.block g (heap_lt H1.out.row) (fun e => own_ne H1.out.own H1.out.lt e.symm)).trans H1.out.row)
  have f2 : w2.frozen? ⟨g, 0, none⟩ = false := frozen_of_row _ _ 0 _ _ ((hg2.block g (heap_lt H1.out.row) (fun e => own_ne H1.out.own H1.out.lt e.symm)).trans H1.out.row)
  obtain ⟨a2, cc2, hv2, -⟩ := ho2.slice
  generalize (bs ++ varint (BitVec.ofInt 64 n)).length = N at hv2
  subst hv2
  clear ho2 hg2 hi2 hr
  go_wp2_with fail
  refine ⟨⟨⟨_, c2⟩, rfl⟩, ?_⟩
  refine wpMix_nil ?_
  clear hne qs0
  change wpList _ _ _ _ _ _
  go_wp2_with fail
  refine ⟨rfl, _, results_none rfl _ _ _, rfl, ?_⟩
  exact ⟨⟨_, HB.out⟩, HP.out⟩
set_option maxRecDepth 100000 in
theorem cat_number_full (n : Int) (g base b0 m : Nat) (bs : List (BitVec 8)) (w : World) (h : w.heap[g]? = some (.cells #[.slice (some ⟨b0, 0, none⟩) m m] 31 (0, 0))) (hbs : BytesAt w (some ⟨b0, 0, none⟩) bs) (hm : m = bs.length) (hg : g < base) (hb : base ≤ w.heap.size) (hl : bs.length ≤ 1099511627776) :
    Calls Try.prog 72 #[.int .i64 n, .pointer (some ⟨g, 0, none⟩)] w fun e w' => e = .returned (.tuple #[]) ∧ (∃ v', BoxB w' g base v' (bs ++ numL n)) ∧ Put1 g (.slice none 0 0) w w' := by
  have H := Lib.hid h
  have HBS := Lib.hid hbs
  have HM := Lib.hid hm
  have HG := Lib.hid hg
  have hr := cell_of_row _ _ 0 _ _ _ h
  obtain ⟨v, hv⟩ : ∃ v, Value.slice (some ⟨b0, 0, none⟩) m m = v := ⟨_, rfl⟩
  have HV := Lib.hid hv
  rw [hv] at hr H
  have hn := u64_of n
  have qs0 : ∀ p : In (fun w' => w'.cell? ⟨g, 0, none⟩ = some v), p.w.cell? ⟨g, 0, none⟩ = some v := fun p => p.h
  have SB := Lib.hid hb
  have LB := Lib.hid hl
  clear h hb hl hbs hm hg hv
  go_enter Try.func72, Try.ntmps72
  refine wp_region_mixed_tail [0, 1, 2, 3, 4] 5 (fun w' => w'.cell? ⟨g, 0, none⟩ = some v) (by kernel_rfl) (by kernel_rfl) (by intro c a d v w h; cases d <;> exact h) hr ?_
  intro hne
  simp only [pick, List.map_cons, List.map_nil, List.getD_cons_zero, List.getD_cons_succ, List.drop_succ_cons, List.drop_zero]
  refine wpMix_reads 3 _ (by kernel_rfl) ?_
  simp only [List.take_succ_cons, List.take_zero, List.drop_succ_cons, List.drop_zero]
  repeat (go_big_quiet_step (fail))
  refine wpQuiet_nil ?_
  refine wpMix_act rfl ?_ rfl
  go_wp2_with fail
  refine (wire_varint (BitVec.ofInt 64 n) _).mono ?_
  rintro e w1 ⟨v1, rfl, ho1, hb1⟩
  obtain ⟨a1, c1, rfl, x1, n1, -, -, -⟩ := ho1.slice
  have HB1 := Lib.hid (show Below w.heap.size w w1 from below_trans (below_drew w) hb1)
  have H1 := Lib.hid ((HB1.out.block _ (heap_lt H.out)).trans H.out)
  have HBS1 := Lib.hid (HBS.out.below HB1.out)
  have X1 := Lib.hid x1
  have N1 := Lib.hid n1
  have V := varint_len (BitVec.ofInt 64 n)
  have VL := Lib.hid V
  clear ho1 hb1 x1 n1 V
  go_wp2_with fail
  refine ⟨⟨⟨_, cell_of_row _ _ 0 _ _ _ H1.out⟩, rfl⟩, ?_⟩
  refine wpMix_act rfl ?_ rfl
  go_wp2_with (refine wpList_append_full (o := ⟨some 7, _, _, _, _, _⟩) rfl _ _ rfl base ⟨b0, 0, none⟩ bs m m HV.out.symm HM.out HBS1.out a1 _ c1 (varint (BitVec.ofInt 64 n)) rfl rfl X1.out (by have := VL.out; have := HM.out; omega) (by have := VL.out; omega) (by have := VL.out; have := LB.out; omega) (Nat.le_trans SB.out HB1.out.size) ?_)
  intro v2 w2 ho2 hg2
  have HB := Lib.hid (show BoxB (w2.setCell ⟨g, 0, none⟩ v2) g base v2 (bs ++ numL n) from ⟨Go.Joins.block_setCell ((hg2.block g (heap_lt H1.out) (fun e => by cases e)).trans H1.out) v2 (i := 0), rows_congr ho2 fun k hk => (by rw [Below.heap_setCell _ _ _ _ (by have := (rows_blk ho2 hk).1; have := HG.out; simp only; omega)]), HG.out⟩)
  have HP := Lib.hid (show Put1 g (.slice none 0 0) w (w2.setCell ⟨g, 0, none⟩ v2) from Put1.of_grown HB1.out hg2)
  have c2 : w2.cell? ⟨g, 0, none⟩ = some v := cell_of_row _ _ 0 _ _ _ ((hg2.block g (heap_lt H1.out) (fun e => by cases e)).trans H1.out)
  have f2 : w2.frozen? ⟨g, 0, none⟩ = false := frozen_of_row _ _ 0 _ _ ((hg2.block g (heap_lt H1.out) (fun e => by cases e)).trans H1.out)
  obtain ⟨a2, cc2, hv2, -⟩ := ho2.slice
  generalize (bs ++ varint (BitVec.ofInt 64 n)).length = N at hv2
  subst hv2
  clear ho2 hg2 hr
  go_wp2_with fail
  refine ⟨⟨⟨_, c2⟩, rfl⟩, ?_⟩
  refine wpMix_nil ?_
  clear hne qs0
  change wpList _ _ _ _ _ _
  go_wp2_with fail
  refine ⟨rfl, _, results_none rfl _ _ _, rfl, ?_⟩
  exact ⟨⟨_, HB.out⟩, HP.out⟩
end Go.Proofs.Ytmkljmljbbijeaa

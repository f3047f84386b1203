/- The walk of the closure that writes a number behind what stands in its box. -/
import Derived.Test.YtmkljmljbbijeaaBytesFull
import Derived.Test.YtmkljmljbbijeaaWireString
import Derived.Test.YtmkljmljbbijeaaMixed
import Derived.Test.YtmkljmljbbijeaaKept
import Derived.Lib.SmallJoins
import Derived.Test.YtmkljmljbbijeaaCatMay
import Derived.Test.YtmkljmljbbijeaaCrcStep
import Derived.Test.YtmkljmljbbijeaaWireForm
import Derived.Lib.SlBytesConst
namespace Go.Proofs.Ytmkljmljbbijeaa
open Go.RowKit

/-- Bytes of the call's own, their slice in a box. -/
structure BoxB (w : World) (g base : Nat) (v : Value) (bs : List (BitVec 8)) : Prop where
  row : w.heap[g]? = some (.cells #[v] 31 (0, 0))
  own : OwnB w base v bs
  lt : g < base
/-- Nothing but the box and the bytes was changed. -/
structure Put1 (g : Nat) (v : Value) (w w' : World) : Prop where
  os : w'.os = w.os
  tape : w'.tape = w.tape
  output : w'.output = w.output
  size : w.heap.size ≤ w'.heap.size
  block : ∀ k, k < w.heap.size → k ≠ g → v.ownBlock ≠ some k → w'.heap[k]? = w.heap[k]?
theorem Put1.below {g n : Nat} {v : Value} {w w' w0 : World} (h : Put1 g v w w') (h0 : Below n w0 w) (hg : n ≤ g) (hv : ∀ k, v.ownBlock = some k → n ≤ k) (hs : n ≤ w.heap.size) : Below n w0 w' :=
  ⟨h.os.trans h0.os, h.tape.trans h0.tape, h.output.trans h0.output, Nat.le_trans h0.size h.size, fun k hk => (h.block k (by omega) (by omega) (fun e => by have := hv k e; omega)).trans (h0.block k hk)⟩
theorem Put1.of_grown {g : Nat} {v u : Value} {w w1 w2 : World} (hb : Below w.heap.size w w1) (hg : w1.grownBy w2 v.ownBlock) : Put1 g v w (w2.setCell ⟨g, 0, none⟩ u) :=
  ⟨by rw [show (w2.setCell ⟨g, 0, none⟩ u).os = w2.os from ((But.refl g w2).setB 0 u).os]; exact hg.os.trans hb.os, by rw [show (w2.setCell ⟨g, 0, none⟩ u).tape = w2.tape from ((But.refl g w2).setB 0 u).tape]; exact hg.tape.trans hb.tape, by rw [show (w2.setCell ⟨g, 0, none⟩ u).output = w2.output from ((But.refl g w2).setB 0 u).output]; exact hg.output.trans hb.output,
    by have := ((But.refl g w2).setB 0 u).size; have := hg.size; have := hb.size; omega, fun k hk h1 h2 => by
      rw [Below.heap_setCell _ _ _ _ (by simpa using h1)]
      exact (hg.block k (by have := hb.size; omega) (fun e => h2 e.symm)).trans (hb.block k hk)⟩
theorem BoxB.keep {w w' : World} {g base : Nat} {v : Value} {bs : List (BitVec 8)} (h : BoxB w g base v bs) (hb : Below w.heap.size w w') : BoxB w' g base v bs :=
  ⟨(hb.block _ (heap_lt h.row)).trans h.row, h.own.keep hb, h.lt⟩
theorem u64_of (n : Int) : IntKind.u64.wrap n = bv (BitVec.ofInt 64 n) := by
  unfold bv
  rw [IntKind.wrap_u64, BitVec.toNat_ofInt]
  have : ((2 ^ 64 : Nat) : Int) = 18446744073709551616 := rfl
  omega
/-- A number's form. -/
def numL (n : Int) : List (BitVec 8) := varint (BitVec.ofInt 64 n)
theorem numL_len (n : Int) : 1 ≤ (numL n).length ∧ (numL n).length ≤ 10 := varint_len _
/-- The store of what was appended. -/
theorem boxB_push {w1 w2 : World} {g base : Nat} {v v' : Value} {bs : List (BitVec 8)} (hr : w1.heap[g]? = some (.cells #[v] 31 (0, 0))) (ho : OwnB w2 base v' bs) (hg : w1.grownBy w2 v.ownBlock) (hl : g < base) (hv : v.ownBlock ≠ some g) : BoxB (w2.setCell ⟨g, 0, none⟩ v') g base v' bs := by
  have hr2 := (hg.block g (heap_lt hr) (fun e => hv e.symm)).trans hr
  refine ⟨Go.Joins.block_setCell hr2 v' (i := 0), rows_congr ho fun k hk => ?_, hl⟩
  rw [Below.heap_setCell _ _ _ _ (by have := (rows_blk ho hk).1; simp only; omega)]
theorem own_ne {w : World} {g base : Nat} {v : Value} {bs : List (BitVec 8)} (h : OwnB w base v bs) (hl : g < base) : v.ownBlock ≠ some g := fun e => by have := (rows_blk h e).1; omega

set_option maxRecDepth 100000 in
theorem cat_number (n : Int) (g base : Nat) (v : Value) (bs : List (BitVec 8)) (w : World) (h : BoxB w g base v bs) (hb : base ≤ w.heap.size) (hl : bs.length ≤ 1099511627776) :
    Calls Try.prog 72 #[.int .i64 n, .pointer (some ⟨g, 0, none⟩)] w fun e w' => e = .returned (.tuple #[]) ∧ (∃ v', BoxB w' g base v' (bs ++ numL n)) ∧ Put1 g v w w' := by
  have H := Lib.hid h
  have hr := cell_of_row _ _ 0 _ _ _ h.row
  have hn := u64_of n
  have qs0 : ∀ p : In (fun w' => w'.cell? ⟨g, 0, none⟩ = some v), p.w.cell? ⟨g, 0, none⟩ = some v := fun p => p.h
  have SB := Lib.hid hb
  have LB := Lib.hid hl
  clear h hb hl
  go_enter Try.func72, Try.ntmps72
  refine wp_region_mixed_tail [0, 1, 2, 3, 4] 5 (fun w' => w'.cell? ⟨g, 0, none⟩ = some v) (by kernel_rfl) (by kernel_rfl) (by intro c a d v w h; cases d <;> exact h) hr ?_
  intro hne
  simp only [pick, List.map_cons, List.map_nil, List.getD_cons_zero, List.getD_cons_succ, List.drop_succ_cons, List.drop_zero]
  refine wpMix_reads 3 _ (by kernel_rfl) ?_
  simp only [List.take_succ_cons, List.take_zero, List.drop_succ_cons, List.drop_zero]
  repeat (go_big_quiet_step (fail))
  refine wpQuiet_nil ?_
  refine wpMix_act rfl ?_ rfl
  go_wp2_with fail
  refine (wire_varint (BitVec.ofInt 64 n) _).mono ?_
  rintro e w1 ⟨v1, rfl, ho1, hb1⟩
  obtain ⟨a1, c1, rfl, x1, n1, -, -, -⟩ := ho1.slice
  have HB1 := Lib.hid (show Below w.heap.size w w1 from below_trans (below_drew w) hb1)
  have H1 := Lib.hid (H.out.keep HB1.out)
  have X1 := Lib.hid x1
  have N1 := Lib.hid n1
  have V := varint_len (BitVec.ofInt 64 n)
  have VL := Lib.hid V
  clear ho1 hb1 x1 n1 V
  go_wp2_with fail
  refine ⟨⟨⟨_, cell_of_row _ _ 0 _ _ _ H1.out.row⟩, rfl⟩, ?_⟩
  refine wpMix_act rfl ?_ rfl
  go_wp2_with (refine wpList_append_bytes (o := ⟨some 7, _, _, _, _, _⟩) rfl _ _ rfl base v bs rfl H1.out.own a1 _ c1 (varint (BitVec.ofInt 64 n)) rfl rfl X1.out N1.out (by have := VL.out; have := LB.out; omega) (Nat.le_trans SB.out HB1.out.size) ?_)
  intro v2 w2 ho2 hg2 hi2
  have HB := Lib.hid (show BoxB (w2.setCell ⟨g, 0, none⟩ v2) g base v2 (bs ++ numL n) from boxB_push H1.out.row ho2 hg2 H1.out.lt (own_ne H1.out.own H1.out.lt))
  have HP := Lib.hid (show Put1 g v w (w2.setCell ⟨g, 0, none⟩ v2) from Put1.of_grown HB1.out hg2)
  have c2 : w2.cell? ⟨g, 0, none⟩ = some v := cell_of_row _ _ 0 _ _ _ ((hg2.block g (heap_lt H1.out.row) (fun e => own_ne H1.out.own H1.out.lt e.symm)).trans H1.out.row)
  have f2 : w2.frozen? ⟨g, 0, none⟩ = false := frozen_of_row _ _ 0 _ _ ((hg2.block g (heap_lt H1.out.row) (fun e => own_ne H1.out.own H1.out.lt e.symm)).trans H1.out.row)
  obtain ⟨a2, cc2, hv2, -⟩ := ho2.slice
  generalize (bs ++ varint (BitVec.ofInt 64 n)).length = N at hv2
  subst hv2
  clear ho2 hg2 hi2 hr
  go_wp2_with fail
  refine ⟨⟨⟨_, c2⟩, rfl⟩, ?_⟩
  refine wpMix_nil ?_
  clear hne qs0
  change wpList _ _ _ _ _ _
  go_wp2_with fail
  refine ⟨rfl, _, results_none rfl _ _ _, rfl, ?_⟩
  exact ⟨⟨_, HB.out⟩, HP.out⟩
set_option maxRecDepth 100000 in
theorem cat_number_full (n : Int) (g base b0 m : Nat) (bs : List (BitVec 8)) (w : World) (h : w.heap[g]? = some (.cells #[.slice (some ⟨b0, 0, none⟩) m m] 31 (0, 0))) (hbs : BytesAt w (some ⟨b0, 0, none⟩) bs) (hm : m = bs.length) (hg : g < base) (hb : base ≤ w.heap.size) (hl : bs.length ≤ 1099511627776) :
    Calls Try.prog 72 #[.int .i64 n, .pointer (some ⟨g, 0, none⟩)] w fun e w' => e = .returned (.tuple #[]) ∧ (∃ v', BoxB w' g base v' (bs ++ numL n)) ∧ Put1 g (.slice none 0 0) w w' := by
  have H := Lib.hid h
  have HBS := Lib.hid hbs
  have HM := Lib.hid hm
  have HG := Lib.hid hg
  have hr := cell_of_row _ _ 0 _ _ _ h
  obtain ⟨v, hv⟩ : ∃ v, Value.slice (some ⟨b0, 0, none⟩) m m = v := ⟨_, rfl⟩
  have HV := Lib.hid hv
  rw [hv] at hr H
  have hn := u64_of n
  have qs0 : ∀ p : In (fun w' => w'.cell? ⟨g, 0, none⟩ = some v), p.w.cell? ⟨g, 0, none⟩ = some v := fun p => p.h
  have SB := Lib.hid hb
  have LB := Lib.hid hl
  clear h hb hl hbs hm hg hv
  go_enter Try.func72, Try.ntmps72
  refine wp_region_mixed_tail [0, 1, 2, 3, 4] 5 (fun w' => w'.cell? ⟨g, 0, none⟩ = some v) (by kernel_rfl) (by kernel_rfl) (by intro c a d v w h; cases d <;> exact h) hr ?_
  intro hne
  simp only [pick, List.map_cons, List.map_nil, List.getD_cons_zero, List.getD_cons_succ, List.drop_succ_cons, List.drop_zero]
  refine wpMix_reads 3 _ (by kernel_rfl) ?_
  simp only [List.take_succ_cons, List.take_zero, List.drop_succ_cons, List.drop_zero]
  repeat (go_big_quiet_step (fail))
  refine wpQuiet_nil ?_
  refine wpMix_act rfl ?_ rfl
  go_wp2_with fail
  refine (wire_varint (BitVec.ofInt 64 n) _).mono ?_
  rintro e w1 ⟨v1, rfl, ho1, hb1⟩
  obtain ⟨a1, c1, rfl, x1, n1, -, -, -⟩ := ho1.slice
  have HB1 := Lib.hid (show Below w.heap.size w w1 from below_trans (below_drew w) hb1)
  have H1 := Lib.hid ((HB1.out.block _ (heap_lt H.out)).trans H.out)
  have HBS1 := Lib.hid (HBS.out.below HB1.out)
  have X1 := Lib.hid x1
  have N1 := Lib.hid n1
  have V := varint_len (BitVec.ofInt 64 n)
  have VL := Lib.hid V
  clear ho1 hb1 x1 n1 V
  go_wp2_with fail
  refine ⟨⟨⟨_, cell_of_row _ _ 0 _ _ _ H1.out⟩, rfl⟩, ?_⟩
  refine wpMix_act rfl ?_ rfl
  go_wp2_with (refine wpList_append_full (o := ⟨some 7, _, _, _, _, _⟩) rfl _ _ rfl base ⟨b0, 0, none⟩ bs m m HV.out.symm HM.out HBS1.out a1 _ c1 (varint (BitVec.ofInt 64 n)) rfl rfl X1.out (by have := VL.out; have := HM.out; omega) (by have := VL.out; omega) (by have := VL.out; have := LB.out; omega) (Nat.le_trans SB.out HB1.out.size) ?_)
  intro v2 w2 ho2 hg2
  have HB := Lib.hid (show BoxB (w2.setCell ⟨g, 0, none⟩ v2) g base v2 (bs ++ numL n) from ⟨Go.Joins.block_setCell ((hg2.block g (heap_lt H1.out) (fun e => by cases e)).trans H1.out) v2 (i := 0), rows_congr ho2 fun k hk => (by rw [Below.heap_setCell _ _ _ _ (by have := (rows_blk ho2 hk).1; have := HG.out; simp only; omega)]), HG.out⟩)
  have HP := Lib.hid (show Put1 g (.slice none 0 0) w (w2.setCell ⟨g, 0, none⟩ v2) from Put1.of_grown HB1.out hg2)
  have c2 : w2.cell? ⟨g, 0, none⟩ = some v := cell_of_row _ _ 0 _ _ _ ((hg2.block g (heap_lt H1.out) (fun e => by cases e)).trans H1.out)
  have f2 : w2.frozen? ⟨g, 0, none⟩ = false := frozen_of_row _ _ 0 _ _ ((hg2.block g (heap_lt H1.out) (fun e => by cases e)).trans H1.out)
  obtain ⟨a2, cc2, hv2, -⟩ := ho2.slice
  generalize (bs ++ varint (BitVec.ofInt 64 n)).length = N at hv2
  subst hv2
  clear ho2 hg2 hr
  go_wp2_with fail
  refine ⟨⟨⟨_, c2⟩, rfl⟩, ?_⟩
  refine wpMix_nil ?_
  clear hne qs0
  change wpList _ _ _ _ _ _
  go_wp2_with fail
  refine ⟨rfl, _, results_none rfl _ _ _, rfl, ?_⟩
  exact ⟨⟨_, HB.out⟩, HP.out⟩
end Go.Proofs.Ytmkljmljbbijeaa

/-! The walk of catalog.Write. -/
namespace Go.Proofs.Ytmkljmljbbijeaa
open Go.RowKit

def segB (s : SegV) : List (BitVec 8) := numL s.num ++ numL s.base ++ fixedL (s.seed.setWidth 64) 4 ++ numL s.end_ ++ numL s.size
def fcatL : List (BitVec 8) := [70#8, 67#8, 65#8, 84#8]
def preB (c : CatV) : List (BitVec 8) := fcatL ++ numL c.gen ++ numL c.first ++ numL (c.segs.length : Nat)
def bareB (c : CatV) : List (BitVec 8) := preB c ++ c.segs.flatMap segB
def catB (c : CatV) : List (BitVec 8) := bareB c ++ fixedL ((Crc.sum (bareB c)).setWidth 64) 4
theorem segB_len (s : SegV) : (segB s).length ≤ 44 := by
  have h1 := numL_len s.num; have h2 := numL_len s.base; have h3 := numL_len s.end_; have h4 := numL_len s.size
  simp only [segB, List.length_append, fixedL_len]; omega
theorem preB_len (c : CatV) : (preB c).length ≤ 34 := by
  have h1 := numL_len c.gen; have h2 := numL_len c.first; have h3 := numL_len (c.segs.length : Nat)
  simp only [preB, List.length_append, fcatL, List.length_cons, List.length_nil]; omega
def segsB (L : List SegV) (k : Nat) : List (BitVec 8) := (L.take k).flatMap segB
theorem flatB_len : ∀ L : List SegV, (L.flatMap segB).length ≤ L.length * 44
  | [] => by simp
  | s :: L => by rw [List.flatMap_cons, List.length_append, List.length_cons]; have := flatB_len L; have := segB_len s; omega
theorem segsB_len (L : List SegV) (k : Nat) : (segsB L k).length ≤ k * 44 := by
  have := flatB_len (L.take k)
  have h : (L.take k).length ≤ k := by rw [List.length_take]; omega
  unfold segsB
  calc _ ≤ _ := this
    _ ≤ _ := Nat.mul_le_mul_right _ h
theorem segsB_succ {L : List SegV} {k : Nat} (h : k < L.length) : segsB L k ++ segB (nthS L k) = segsB L (k + 1) := by
  unfold segsB nthS
  rw [List.take_add_one, List.getElem?_eq_getElem h, List.flatMap_append]
  simp [List.getD, h]
theorem segsB_all (L : List SegV) : segsB L L.length = L.flatMap segB := by unfold segsB; rw [List.take_length]
theorem fcat_at (w : World) (fr : Nat × Nat) : BytesAt (w.alloc (.cells #[.int .u8 70, .int .u8 67, .int .u8 65, .int .u8 84] 5 fr)) (some ⟨w.heap.size, 0, none⟩) fcatL := fun i hi => ⟨w.heap.size, 0, rfl, by
  rw [Nat.zero_add, cell_of_row _ _ _ _ _ _ (heap_alloc_new w _)]
  have h : i < 4 := hi
  match i, h with
  | 0, _ => rfl
  | 1, _ => rfl
  | 2, _ => rfl
  | 3, _ => rfl⟩
theorem fcat_conv (w : World) (g : Nat) (hg : g = w.heap.size) : (convert 31 31 (.slice (some ⟨g, 0, none⟩) 4 4)).run Try.prog (w.alloc (.cells #[.int .u8 70, .int .u8 67, .int .u8 65, .int .u8 84] 5)) = .ok (.slice (some ⟨g, 0, none⟩) 4 4) (w.alloc (.cells #[.int .u8 70, .int .u8 67, .int .u8 65, .int .u8 84] 5 (4, 5))) :=
  hg ▸ Lib.run_convert_bytes_const (P := Try.prog) w 31 5 #[.int .u8 70, .int .u8 67, .int .u8 65, .int .u8 84] 4 4 Try.underlying31 Try.underlying5
theorem wire_fixed32_n (n : BitVec 32) (w : World) :
    Calls Try.prog 54 #[.int .u32 (bv n)] w fun e w' => ∃ ao ys c, e = .returned (.slice ao ys.length c) ∧ ys = fixedL (n.setWidth 64) 4 ∧ BytesAt w' ao ys ∧ (ao = none → c = 0) ∧ Below w.heap.size w w' :=
  (wire_fixed32 n w).mono fun _ _ ⟨g, he, hM⟩ => ⟨some ⟨g, 0, none⟩, _, _, by rw [fixedL_len]; exact he, rfl, hM.at, (fun h => by cases h), hM.below⟩
theorem cat_sum_to (v : Value) (base : Nat) (bs : List (BitVec 8)) (w : World) (ho : OwnB w base v bs) (hm : bs.length ≤ 140737488351232) :
    Calls Try.prog 73 #[v] w fun e w' => e = .returned (.int .u32 (bv (Crc.sum bs))) ∧ Below w.heap.size w w' := by
  obtain ⟨ao, cap, rfl, hb, -, -, -, -⟩ := ho.slice
  exact crc_sum ao bs cap w hb hm
/-- A segment in a box of its own. -/
def RowS (w : World) (q : Nat) (s : SegV) : Prop := w.heap[q]? = some (.cells #[.int .i64 s.num, .int .i64 s.base, .int .u32 (bv s.seed), .int .i64 s.end_, .int .i64 s.size] 53 (0, 0))
theorem own_not_seg {w : World} {base q : Nat} {v : Value} {bs : List (BitVec 8)} {s : SegV} (h : OwnB w base v bs) (hs : RowS w q s) : v.ownBlock ≠ some q := fun e => by
  obtain ⟨-, cur, hc⟩ := rows_blk h e
  unfold RowS at hs
  rw [hs] at hc
  simp at hc
theorem RowS.put {w w' : World} {g base q : Nat} {v : Value} {bs : List (BitVec 8)} {s : SegV} (hs : RowS w q s) (hB : BoxB w g base v bs) (hP : Put1 g v w w') (hq : q ≠ g) : RowS w' q s :=
  (hP.block q (heap_lt hs) hq (own_not_seg hB.own hs)).trans hs
theorem RowS.below {w w' : World} {q : Nat} {s : SegV} (hs : RowS w q s) (hb : Below w.heap.size w w') : RowS w' q s := (hb.block q (heap_lt hs)).trans hs
theorem BoxB.low {w0 w w' : World} {g base n : Nat} {v : Value} {bs : List (BitVec 8)} (hB : BoxB w g base v bs) (hP : Put1 g v w w') (h : Below n w0 w) (hg : n ≤ g) (hs : n ≤ w.heap.size) : Below n w0 w' :=
  hP.below h hg (fun k e => by have := (rows_blk hB.own e).1; have := hB.lt; omega) hs

set_option maxRecDepth 100000 in
theorem cat_write_no (gen first : Int) (ao : Option Addr) (n ca : Nat) (L : List SegV) (w : World) (hA : CatAt w (.agg #[.int .i64 gen, .int .i64 first, .slice ao n ca]) ⟨gen, first, L⟩) (hM : ¬ MayC ⟨gen, first, L⟩) :
    Calls Try.prog 17 #[.agg #[.int .i64 gen, .int .i64 first, .slice ao n ca]] w fun e w' => e = .returned (.tuple #[.slice none 0 0, .int .i64 4]) ∧ Below w.heap.size w w' := by
  have b1 := below_alloc w (.cells #[.int .i64 gen, .int .i64 first, .slice ao n ca] 29)
  have hn1 := heap_alloc_new w (.cells #[.int .i64 gen, .int .i64 first, .slice ao n ca] 29)
  have k0 := cell_of_row _ _ 0 _ _ _ hn1
  have k1 := cell_of_row _ _ 1 _ _ _ hn1
  have k2 := cell_of_row _ _ 2 _ _ _ hn1
  have HA := Lib.hid (hA.below b1)
  have HB := Lib.hid b1
  clear b1 hn1 hA
  go_enter Try.func17, Try.ntmps17
  go_wp2_with fail
  refine (cat_may _ _ _ HA.out false (by simp [hM])).mono ?_
  rintro e w3 ⟨rfl, hb3⟩
  have HB3 := Lib.hid (below_trans HB.out hb3)
  clear hb3 k0 k1 k2
  go_wp2_with fail
  go_ret2
  exact ⟨rfl, HB3.out⟩

set_option maxRecDepth 100000 in
set_option maxHeartbeats 4000000 in
theorem cat_write_ok (gen first : Int) (ao : Option Addr) (n ca : Nat) (L : List SegV) (w : World) (hn : L.length = n) (hA : CatAt w (.agg #[.int .i64 gen, .int .i64 first, .slice ao n ca]) ⟨gen, first, L⟩) (hM : MayC ⟨gen, first, L⟩) :
    Calls Try.prog 17 #[.agg #[.int .i64 gen, .int .i64 first, .slice ao n ca]] w fun e w' => ∃ v, e = .returned (.tuple #[v, .int .i64 0]) ∧ OwnB w' w.heap.size v (catB ⟨gen, first, L⟩) ∧ Below w.heap.size w w' := by
  have hn64 : 1 ≤ n ∧ n ≤ 64 := by have h1 := hM.some; have h2 := hM.few; dsimp only at h1 h2; omega
  obtain ⟨N1, N64⟩ := hn64
  obtain ⟨ao', ca', e1, hsg, -⟩ := hA.shape
  injection e1 with e1
  simp only [Array.mk.injEq, List.cons.injEq, Value.slice.injEq, and_true, true_and] at e1
  obtain ⟨rfl, -, rfl⟩ := e1
  dsimp only at hsg
  have b1 := below_alloc w (.cells #[.int .i64 gen, .int .i64 first, .slice ao n ca] 29)
  have hn1 := heap_alloc_new w (.cells #[.int .i64 gen, .int .i64 first, .slice ao n ca] 29)
  obtain ⟨w1, hw1⟩ : ∃ w1, w.alloc (.cells #[.int .i64 gen, .int .i64 first, .slice ao n ca] 29) = w1 := ⟨_, rfl⟩
  rw [hw1] at b1 hn1
  have k0 := cell_of_row _ _ 0 _ _ _ hn1
  have k1 := cell_of_row _ _ 1 _ _ _ hn1
  have k2 := cell_of_row _ _ 2 _ _ _ hn1
  have HC := Lib.hid hn1
  have HA := Lib.hid (hA.below b1)
  have HS := Lib.hid (hsg.below b1)
  have HB := Lib.hid b1
  have HN := Lib.hid hn
  have HM := Lib.hid hM
  clear b1 hn1 hA hsg hM hn
  go_enter Try.func17, Try.ntmps17
  go_wp2_with fail
  refine (cat_may _ _ _ HA.out true (by simp [HM.out])).mono ?_
  rintro e w2 ⟨rfl, hb2⟩
  have HB2 := Lib.hid hb2
  have kc := fcat_conv w2 w2.heap.size rfl
  have FA := Lib.hid (fcat_at w2 (4, 5))
  have bm := below_alloc w2 (.cells #[.int .u8 70, .int .u8 67, .int .u8 65, .int .u8 84] 5 (4, 5))
  obtain ⟨w3, hw3⟩ : ∃ w3, w2.alloc (.cells #[.int .u8 70, .int .u8 67, .int .u8 65, .int .u8 84] 5 (4, 5)) = w3 := ⟨_, rfl⟩
  rw [hw3] at kc FA bm
  have B23 := Lib.hid bm
  have bg := below_alloc w3 (.cells #[.slice (some ⟨w2.heap.size, 0, none⟩) 4 4] 31)
  have hg := heap_alloc_new w3 (.cells #[.slice (some ⟨w2.heap.size, 0, none⟩) 4 4] 31)
  obtain ⟨w4, hw4⟩ : ∃ w4, w3.alloc (.cells #[.slice (some ⟨w2.heap.size, 0, none⟩) 4 4] 31) = w4 := ⟨_, rfl⟩
  rw [hw4] at bg hg
  have LG := Lib.hid (heap_lt hg)
  have HG := Lib.hid hg
  have FA4 := Lib.hid (FA.out.below bg)
  have HB4 := Lib.hid (below_trans hb2 (below_trans bm bg))
  have HB34 := Lib.hid bg
  have c0 := cell_keep HB4.out k0
  clear hb2 bm bg hg k0 k1 k2 FA
  go_wp2_with fail
  refine (cat_number_full gen w3.heap.size (w3.heap.size + 1) w2.heap.size 4 fcatL w4 HG.out FA4.out rfl (Nat.lt_succ_self _) LG.out (by decide)).mono ?_
  rintro e w5 ⟨rfl, ⟨v5, hbx⟩, hp⟩
  obtain ⟨B5, hB5⟩ : ∃ B5, fcatL ++ numL gen = B5 := ⟨_, rfl⟩
  rw [hB5] at hbx
  have E5 := Lib.hid hB5
  have X5 := Lib.hid hbx
  have S5 := Lib.hid (show (w3.heap.size + 1) ≤ w5.heap.size by have := hp.size; have := LG.out; omega)
  have D5 := Lib.hid (hp.below HB34.out (Nat.le_refl _) (fun k e => by cases e) HB34.out.size)
  have L5 := Lib.hid (show B5.length ≤ 14 by rw [← hB5, List.length_append]; have := numL_len gen; show 4 + _ ≤ _; omega)
  have LC := Lib.hid (show w.heap.size < w3.heap.size by have h1 := heap_lt HC.out; have h2 := HB2.out.size; have h3 := B23.out.size; omega)
  have C4 := Lib.hid ((HB4.out.block _ (heap_lt HC.out)).trans HC.out)
  have C3 : Hid (w3.heap[w.heap.size]? = some (.cells #[.int .i64 gen, .int .i64 first, .slice ao n ca] 29 (0, 0))) := Lib.hid ((HB34.out.block _ LC.out).symm.trans C4.out)
  clear hbx hp hB5 c0 kc hw3 hw4
  have c5 := cell_of_row _ _ 1 _ _ _ ((D5.out.block _ LC.out).trans C3.out)
  go_wp2_with fail
  refine (cat_number first w3.heap.size (w3.heap.size + 1) v5 B5 w5 X5.out S5.out (by have := L5.out; omega)).mono ?_
  rintro e w6 ⟨rfl, ⟨v6, hbx⟩, hp⟩
  obtain ⟨B6, hB6⟩ : ∃ B6, B5 ++ numL first = B6 := ⟨_, rfl⟩
  rw [hB6] at hbx
  have E6 := Lib.hid hB6
  have X6 := Lib.hid hbx
  have S6 := Lib.hid (show (w3.heap.size + 1) ≤ w6.heap.size by have := hp.size; have := S5.out; omega)
  have D6 := Lib.hid (X5.out.low hp D5.out (Nat.le_refl _) (by have := S5.out; omega))
  have L6 := Lib.hid (show B6.length ≤ 24 by rw [← hB6, List.length_append]; have := numL_len first; have := L5.out; omega)
  clear hbx hp hB6 c5
  have c6 := cell_of_row _ _ 2 _ _ _ ((D6.out.block _ LC.out).trans C3.out)
  go_wp2_with fail
  refine (cat_number (n : Int) w3.heap.size (w3.heap.size + 1) v6 B6 w6 X6.out S6.out (by have := L6.out; omega)).mono ?_
  rintro e w7 ⟨rfl, ⟨v7, hbx⟩, hp⟩
  have PRE : Hid (B6 ++ numL (n : Int) = preB ⟨gen, first, L⟩) := Lib.hid (by unfold preB; dsimp only; rw [HN.out, ← E6.out, ← E5.out])
  rw [PRE.out] at hbx
  obtain ⟨PB, hPB⟩ : ∃ PB, preB ⟨gen, first, L⟩ = PB := ⟨_, rfl⟩
  rw [hPB] at hbx
  have EP := Lib.hid hPB
  have LP := Lib.hid (show PB.length ≤ 34 by rw [← hPB]; exact preB_len _)
  have X7 := Lib.hid hbx
  have S7 := Lib.hid (show (w3.heap.size + 1) ≤ w7.heap.size by have := hp.size; have := S6.out; omega)
  have D7 := Lib.hid (X6.out.low hp D6.out (Nat.le_refl _) (by have := S6.out; omega))
  clear hbx hp hPB c6 PRE X5 S5 D5 L5 E5 X6 S6 D6 L6 E6
  have c7 := cell_of_row _ _ 2 _ _ _ ((D7.out.block _ LC.out).trans C3.out)
  have HS3 : Hid (SegsAt w2 ao L) := Lib.hid (HS.out.below HB2.out)
  have AO : Hid (∀ (W : World), Below w3.heap.size w3 W → SegsAt W ao L) := Lib.hid fun W hW i hi => by
    obtain ⟨h1, b, off, e, hc⟩ := HS3.out i hi
    have hlt := block_lt_of_cell hc.c0
    have key : ∀ (o : Nat) (u : Value), w2.cell? ⟨b, o, none⟩ = some u → W.cell? ⟨b, o, none⟩ = some u := fun o u hu => by
      have h23 : w3.cell? ⟨b, o, none⟩ = some u := cell_keep B23.out hu
      have hl : b < w3.heap.size := block_lt_of_cell h23
      exact (hW.cell (p := ⟨b, o, none⟩) hl).trans h23
    exact ⟨h1, b, off, e, ⟨key _ _ hc.c0, key _ _ hc.c1, key _ _ hc.c2, key _ _ hc.c3, key _ _ hc.c4⟩⟩
  go_wp2_with fail
  go_loopw [30, 7] (fun i _ wr => ∃ (k : Nat) (v : Value), k ≤ n ∧ i = .int .i64 k ∧ Hid (BoxB wr w3.heap.size (w3.heap.size + 1) v (PB ++ segsB L k)) ∧ Hid ((w3.heap.size + 1) ≤ wr.heap.size) ∧ Hid (Below w3.heap.size w3 wr)) (fun i _ _ => n - (intOf i).toNat)
  case atStart => exact ⟨0, v7, Nat.zero_le _, rfl, Lib.hid (by rw [show segsB L 0 = [] from rfl, List.append_nil]; exact X7.out), S7, D7⟩
  case round =>
    obtain ⟨k, v, hk, rfl, HX, HZ, HD⟩ := hrel
    by_cases hlt : k < n
    · obtain ⟨-, b, off, ea, hc⟩ := AO.out wr HD.out k (by have := HN.out; omega)
      subst ea
      obtain ⟨d0, d1, d2, d3, d4⟩ := hc
      obtain ⟨s, hs⟩ : ∃ s, nthS L k = s := ⟨_, rfl⟩
      rw [hs] at d0 d1 d2 d3 d4
      have HSK := Lib.hid hs
      obtain ⟨X0, hX0⟩ : ∃ X0, PB ++ segsB L k = X0 := ⟨_, rfl⟩
      have EX0 := Lib.hid hX0
      have LX0 := Lib.hid (show X0.length ≤ 3000 by rw [← hX0, List.length_append]; have := LP.out; have := segsB_len L k; omega)
      have bq := below_alloc wr (.cells #[.int .i64 s.num, .int .i64 s.base, .int .u32 (bv s.seed), .int .i64 s.end_, .int .i64 s.size] 53)
      have hq := heap_alloc_new wr (.cells #[.int .i64 s.num, .int .i64 s.base, .int .u32 (bv s.seed), .int .i64 s.end_, .int .i64 s.size] 53)
      obtain ⟨x1, hx1⟩ : ∃ x1, wr.alloc (.cells #[.int .i64 s.num, .int .i64 s.base, .int .u32 (bv s.seed), .int .i64 s.end_, .int .i64 s.size] 53) = x1 := ⟨_, rfl⟩
      rw [hx1] at bq hq
      obtain ⟨q, hqq⟩ : ∃ q, wr.heap.size = q := ⟨_, rfl⟩
      rw [hqq] at hq
      have QG := Lib.hid (show q ≠ w3.heap.size by have := HZ.out; omega)
      have R1 := Lib.hid (show RowS x1 q s from hq)
      have XX1 := Lib.hid (show BoxB x1 w3.heap.size (w3.heap.size + 1) v X0 by rw [← hX0]; exact HX.out.keep bq)
      have Z1 := Lib.hid (Nat.le_trans HZ.out bq.size)
      have D1 := Lib.hid (show Below w3.heap.size w3 x1 from HD.out.trans (bq.mono (by have := HZ.out; omega)))
      have kz : (k : Int) < (n : Int) := by omega
      clear bq hq hs hX0
      have r1 := cell_of_row _ _ 0 _ _ _ (show x1.heap[q]? = some (.cells #[.int .i64 s.num, .int .i64 s.base, .int .u32 (bv s.seed), .int .i64 s.end_, .int .i64 s.size] 53 (0, 0)) from R1.out)
      go_wp2_with fail
      refine (cat_number s.num w3.heap.size (w3.heap.size + 1) v X0 x1 XX1.out Z1.out (by have := LX0.out; omega)).mono ?_
      rintro e x2 ⟨rfl, ⟨v2x, hbx⟩, hp⟩
      obtain ⟨X1, hX1⟩ : ∃ X1, X0 ++ numL s.num = X1 := ⟨_, rfl⟩
      rw [hX1] at hbx
      have EX1 := Lib.hid hX1
      have LX1 := Lib.hid (show X1.length ≤ 3010 by rw [← hX1, List.length_append]; have := numL_len s.num; have := LX0.out; omega)
      have XX2 := Lib.hid hbx
      have R2 := Lib.hid (R1.out.put XX1.out hp QG.out)
      have Z2 := Lib.hid (Nat.le_trans Z1.out hp.size)
      have D2 := Lib.hid (XX1.out.low hp D1.out (Nat.le_refl _) (by have := Z1.out; omega))
      clear hbx hp hX1 r1 XX1 R1 Z1 D1
      have r2 := cell_of_row _ _ 1 _ _ _ (show x2.heap[q]? = some (.cells #[.int .i64 s.num, .int .i64 s.base, .int .u32 (bv s.seed), .int .i64 s.end_, .int .i64 s.size] 53 (0, 0)) from R2.out)
      go_wp2_with fail
      refine (cat_number s.base w3.heap.size (w3.heap.size + 1) v2x X1 x2 XX2.out Z2.out (by have := LX1.out; omega)).mono ?_
      rintro e x3 ⟨rfl, ⟨v3x, hbx⟩, hp⟩
      obtain ⟨X2, hX2⟩ : ∃ X2, X1 ++ numL s.base = X2 := ⟨_, rfl⟩
      rw [hX2] at hbx
      have EX2 := Lib.hid hX2
      have LX2 := Lib.hid (show X2.length ≤ 3020 by rw [← hX2, List.length_append]; have := numL_len s.base; have := LX1.out; omega)
      have XX3 := Lib.hid hbx
      have R3 := Lib.hid (R2.out.put XX2.out hp QG.out)
      have Z3 := Lib.hid (Nat.le_trans Z2.out hp.size)
      have D3 := Lib.hid (XX2.out.low hp D2.out (Nat.le_refl _) (by have := Z2.out; omega))
      clear hbx hp hX2 r2 XX2 R2 Z2 D2
      have r3 := cell_of_row _ _ 2 _ _ _ (show x3.heap[q]? = some (.cells #[.int .i64 s.num, .int .i64 s.base, .int .u32 (bv s.seed), .int .i64 s.end_, .int .i64 s.size] 53 (0, 0)) from R3.out)
      have qs0 : ∀ p : In (fun w' => w'.cell? ⟨w3.heap.size, 0, none⟩ = some v3x ∧ w'.cell? ⟨q, 2, none⟩ = some (.int .u32 (bv s.seed))), p.w.cell? ⟨w3.heap.size, 0, none⟩ = some v3x := fun p => p.h.1
      have qs1 : ∀ p : In (fun w' => w'.cell? ⟨w3.heap.size, 0, none⟩ = some v3x ∧ w'.cell? ⟨q, 2, none⟩ = some (.int .u32 (bv s.seed))), p.w.cell? ⟨q, 2, none⟩ = some (.int .u32 (bv s.seed)) := fun p => p.h.2
      have R3' := Lib.hid r3
      clear r3
      go_wp2_with fail
      refine wp_region_mixed_tail [0, 1, 2, 3, 4] 5 (fun w' => w'.cell? ⟨w3.heap.size, 0, none⟩ = some v3x ∧ w'.cell? ⟨q, 2, none⟩ = some (.int .u32 (bv s.seed))) (by kernel_rfl) (by kernel_rfl) (by intro c a d v w h; cases d <;> exact h) ⟨cell_of_row _ _ 0 _ _ _ XX3.out.row, R3'.out⟩ ?_
      intro hne
      simp only [pick, List.map_cons, List.map_nil, List.getD_cons_zero, List.getD_cons_succ, List.drop_succ_cons, List.drop_zero]
      refine wpMix_reads 3 _ (by kernel_rfl) ?_
      simp only [List.take_succ_cons, List.take_zero, List.drop_succ_cons, List.drop_zero]
      repeat (go_big_quiet_step (fail))
      refine wpQuiet_nil ?_
      refine wpMix_act rfl ?_ rfl
      go_wp2_with fail
      refine (wire_fixed32_n s.seed _).mono ?_
      rintro e y1 ⟨af, ys, cf, rfl, hys, hya, hyn, hby⟩
      have BY := Lib.hid (show Below x3.heap.size x3 y1 from below_trans (below_drew x3) hby)
      have XY := Lib.hid (XX3.out.keep BY.out)
      have RY := Lib.hid (R3.out.below BY.out)
      have EY := Lib.hid hys
      have AY := Lib.hid hya
      have NY := Lib.hid hyn
      have LY := Lib.hid (show ys.length = 4 by rw [hys, fixedL_len])
      clear hys hya hyn hby
      go_wp2_with fail
      refine ⟨⟨⟨_, ⟨cell_of_row _ _ 0 _ _ _ XY.out.row, cell_of_row _ _ 2 _ _ _ RY.out⟩⟩, rfl⟩, ?_⟩
      refine wpMix_act rfl ?_ rfl
      go_wp2_with (refine wpList_append_bytes (o := ⟨some 46, _, _, _, _, _⟩) rfl _ _ rfl (w3.heap.size + 1) v3x X2 rfl XY.out.own af _ cf ys rfl rfl AY.out NY.out (by have := LY.out; have := LX2.out; omega) (Nat.le_trans Z3.out BY.out.size) ?_)
      intro v4x y2 ho2 hg2 hi2
      obtain ⟨X3, hX3⟩ : ∃ X3, X2 ++ ys = X3 := ⟨_, rfl⟩
      rw [hX3] at ho2
      have EX3 := Lib.hid hX3
      have LX3 := Lib.hid (show X3.length ≤ 3030 by rw [← hX3, List.length_append]; have := LY.out; have := LX2.out; omega)
      have XX4 := Lib.hid (show BoxB (y2.setCell ⟨w3.heap.size, 0, none⟩ v4x) w3.heap.size (w3.heap.size + 1) v4x X3 from boxB_push XY.out.row ho2 hg2 XY.out.lt (own_ne XY.out.own XY.out.lt))
      have hp := (show Put1 w3.heap.size v3x x3 (y2.setCell ⟨w3.heap.size, 0, none⟩ v4x) from Put1.of_grown BY.out hg2)
      have R4 := Lib.hid (R3.out.put XX3.out hp QG.out)
      have Z4 := Lib.hid (Nat.le_trans Z3.out hp.size)
      have D4 := Lib.hid (XX3.out.low hp D3.out (Nat.le_refl _) (by have := Z3.out; omega))
      have c2 : y2.cell? ⟨w3.heap.size, 0, none⟩ = some v3x := cell_of_row _ _ 0 _ _ _ ((hg2.block w3.heap.size (heap_lt XY.out.row) (fun e => own_ne XY.out.own XY.out.lt e.symm)).trans XY.out.row)
      have f2 : y2.frozen? ⟨w3.heap.size, 0, none⟩ = false := frozen_of_row _ _ 0 _ _ ((hg2.block w3.heap.size (heap_lt XY.out.row) (fun e => own_ne XY.out.own XY.out.lt e.symm)).trans XY.out.row)
      have c2s : y2.cell? ⟨q, 2, none⟩ = some (.int .u32 (bv s.seed)) := cell_of_row _ _ 2 _ _ _ ((hg2.block q (heap_lt RY.out) (fun e => own_not_seg XY.out.own RY.out e.symm)).trans RY.out)
      obtain ⟨a2, cc2, hv2, -⟩ := ho2.slice
      generalize hN3 : X3.length = N3 at hv2
      subst hv2
      clear ho2 hg2 hi2 hp hX3 hN3
      go_wp2_with fail
      refine ⟨⟨⟨_, ⟨c2, c2s⟩⟩, rfl⟩, ?_⟩
      refine wpMix_nil ?_
      clear hne qs0 qs1 c2s XX3 R3 Z3 D3 XY RY AY NY LY BY R3'
      obtain ⟨x4, hx4⟩ : ∃ x4, y2.setCell ⟨w3.heap.size, 0, none⟩ (.slice a2 N3 cc2) = x4 := ⟨_, rfl⟩
      rw [hx4] at XX4 R4 Z4 D4
      have r4 := cell_of_row _ _ 3 _ _ _ (show x4.heap[q]? = some (.cells #[.int .i64 s.num, .int .i64 s.base, .int .u32 (bv s.seed), .int .i64 s.end_, .int .i64 s.size] 53 (0, 0)) from R4.out)
      change wpList _ _ _ _ _ _
      go_wp2_with fail
      refine (cat_number s.end_ w3.heap.size (w3.heap.size + 1) (.slice a2 N3 cc2) X3 x4 XX4.out Z4.out (by have := LX3.out; omega)).mono ?_
      rintro e x5 ⟨rfl, ⟨v5x, hbx⟩, hp⟩
      obtain ⟨X4, hX4⟩ : ∃ X4, X3 ++ numL s.end_ = X4 := ⟨_, rfl⟩
      rw [hX4] at hbx
      have EX4 := Lib.hid hX4
      have LX4 := Lib.hid (show X4.length ≤ 3040 by rw [← hX4, List.length_append]; have := numL_len s.end_; have := LX3.out; omega)
      have XX5 := Lib.hid hbx
      have R5 := Lib.hid (R4.out.put XX4.out hp QG.out)
      have Z5 := Lib.hid (Nat.le_trans Z4.out hp.size)
      have D5 := Lib.hid (XX4.out.low hp D4.out (Nat.le_refl _) (by have := Z4.out; omega))
      clear hbx hp hX4 r4 c2 f2 hx4 XX4 R4 Z4 D4
      have r5 := cell_of_row _ _ 4 _ _ _ (show x5.heap[q]? = some (.cells #[.int .i64 s.num, .int .i64 s.base, .int .u32 (bv s.seed), .int .i64 s.end_, .int .i64 s.size] 53 (0, 0)) from R5.out)
      go_wp2_with fail
      refine (cat_number s.size w3.heap.size (w3.heap.size + 1) v5x X4 x5 XX5.out Z5.out (by have := LX4.out; omega)).mono ?_
      rintro e x6 ⟨rfl, ⟨v6x, hbx⟩, hp⟩
      obtain ⟨X5, hX5⟩ : ∃ X5, X4 ++ numL s.size = X5 := ⟨_, rfl⟩
      rw [hX5] at hbx
      have EX5 := Lib.hid hX5
      have LX5 := Lib.hid (show X5.length ≤ 3050 by rw [← hX5, List.length_append]; have := numL_len s.size; have := LX4.out; omega)
      have XX6 := Lib.hid hbx
      have R6 := Lib.hid (R5.out.put XX5.out hp QG.out)
      have Z6 := Lib.hid (Nat.le_trans Z5.out hp.size)
      have D6 := Lib.hid (XX5.out.low hp D5.out (Nat.le_refl _) (by have := Z5.out; omega))
      clear hbx hp hX5 r5 XX5 R5 Z5 D5
      go_wp2_with fail
      go_roundw
      case rel =>
        have FIN : X5 = PB ++ segsB L (k + 1) := by
          rw [← segsB_succ (by have := HN.out; omega), HSK.out, ← EX5.out, ← EX4.out, ← EX3.out, ← EX2.out, ← EX1.out, ← EX0.out, EY.out]
          unfold segB
          simp only [List.append_assoc]
        exact ⟨k + 1, v6x, by omega, by go_num, FIN ▸ XX6.out, Z6.out, D6.out⟩
      case measure => simp [intOf]; omega
    · obtain rfl : k = n := by omega
      have EB : Hid (PB ++ segsB L k = bareB ⟨gen, first, L⟩) := Lib.hid (by unfold bareB; dsimp only; rw [EP.out, ← segsB_all, HN.out])
      obtain ⟨BB, hBB⟩ : ∃ BB, PB ++ segsB L k = BB := ⟨_, rfl⟩
      rw [hBB] at HX EB
      have LB := Lib.hid (show BB.length ≤ 3000 by rw [← hBB, List.length_append]; have := LP.out; have := segsB_len L k; omega)
      have XR := Lib.hid (cell_of_row _ _ 0 _ _ _ HX.out.row)
      have qs0 : ∀ p : In (fun w' => w'.cell? ⟨w3.heap.size, 0, none⟩ = some v), p.w.cell? ⟨w3.heap.size, 0, none⟩ = some v := fun p => p.h
      clear hBB hk hlt
      go_wp2_with fail
      refine wp_region_mixed [0, 1, 2, 3, 4, 5, 6] (fun w' => w'.cell? ⟨w3.heap.size, 0, none⟩ = some v) (by kernel_rfl) (by kernel_rfl) (by intro c a d v w h; cases d <;> exact h) XR.out ?_
      intro hne
      simp only [pick, List.map_cons, List.map_nil, List.getD_cons_zero, List.getD_cons_succ]
      refine wpMix_reads 2 _ (by kernel_rfl) ?_
      simp only [List.take_succ_cons, List.take_zero, List.drop_succ_cons, List.drop_zero]
      repeat (go_big_quiet_step (fail))
      refine wpQuiet_nil ?_
      refine wpMix_act rfl ?_ rfl
      go_wp2_with fail
      refine (cat_sum_to v (w3.heap.size + 1) BB wr.drew (HX.out.own.keep (below_drew wr)) (by have := LB.out; omega)).mono ?_
      rintro e y0 ⟨rfl, hb0⟩
      have B0 := Lib.hid (show Below wr.heap.size wr y0 from below_trans (below_drew wr) hb0)
      have X0' := Lib.hid (HX.out.keep B0.out)
      clear hb0
      go_wp2_with fail
      refine ⟨⟨⟨_, cell_of_row _ _ 0 _ _ _ X0'.out.row⟩, rfl⟩, ?_⟩
      refine wpMix_act rfl ?_ rfl
      go_wp2_with fail
      refine (wire_fixed32_n (Crc.sum BB) _).mono ?_
      rintro e y1 ⟨af, ys, cf, rfl, hys, hya, hyn, hby⟩
      have BY := Lib.hid (below_trans B0.out hby)
      have XY := Lib.hid (HX.out.keep BY.out)
      have EY := Lib.hid hys
      have AY := Lib.hid hya
      have NY := Lib.hid hyn
      have LY := Lib.hid (show ys.length = 4 by rw [hys, fixedL_len])
      clear hys hya hyn hby X0' B0
      go_wp2_with fail
      refine ⟨⟨⟨_, cell_of_row _ _ 0 _ _ _ XY.out.row⟩, rfl⟩, ?_⟩
      refine wpMix_act rfl ?_ rfl
      go_wp2_with (refine wpList_append_bytes (o := ⟨some 60, _, _, _, _, _⟩) rfl _ _ rfl (w3.heap.size + 1) v BB rfl XY.out.own af _ cf ys rfl rfl AY.out NY.out (by have := LY.out; have := LB.out; omega) (Nat.le_trans HZ.out BY.out.size) ?_)
      intro vf yf ho2 hg2 hi2
      have c2 : yf.cell? ⟨w3.heap.size, 0, none⟩ = some v := cell_of_row _ _ 0 _ _ _ ((hg2.block w3.heap.size (heap_lt XY.out.row) (fun e => own_ne XY.out.own XY.out.lt e.symm)).trans XY.out.row)
      have OF := Lib.hid (show OwnB yf w.heap.size vf (catB ⟨gen, first, L⟩) by
        unfold catB
        rw [← EB.out, ← EY.out]
        exact ho2.base (by have := LC.out; omega))
      have BF := Lib.hid (show Below w.heap.size w yf from by
        have h1 : Below w.heap.size w wr := by
          have h2 : Below w.heap.size w w3 := below_trans HB.out (below_trans HB2.out B23.out)
          exact h2.trans (HD.out.mono (by have := LC.out; omega))
        have h3 : Below w.heap.size w y1 := below_trans h1 BY.out
        exact h3.grown hg2 h3.size (fun k hk => by have := (rows_blk XY.out.own hk).1; have := LC.out; omega))
      clear ho2 hg2 hi2
      go_wp2_with fail
      refine ⟨⟨⟨_, c2⟩, rfl⟩, ?_⟩
      refine wpMix_reads 2 _ (by kernel_rfl) ?_
      simp only [List.take_succ_cons, List.take_zero, List.drop_succ_cons, List.drop_zero]
      repeat (go_big_quiet_step (fail))
      refine wpQuiet_nil ?_
      refine wpMix_nil ?_
      clear hne qs0 c2
      go_wp2_with fail
      go_ret2
      exact ⟨vf, rfl, OF.out, BF.out⟩
end Go.Proofs.Ytmkljmljbbijeaa

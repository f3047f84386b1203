/- The walks of the methods of a nil reader. -/
import Derived.Test.YtggbhakkgbfneaaWireOne
namespace Go.Proofs.Ytggbhakkgbfneaa
open Go.RowKit

set_option maxRecDepth 100000 in
theorem rest_nil (w : World) : Calls Try.prog 59 #[.pointer none] w fun e w' => e = .returned (.slice none 0 0) ∧ w = w' := by
  go_enter Try.func59, Try.ntmps59
  go_wp2_with fail
  go_ret
  exact ⟨rfl, rfl⟩
theorem rv_nil : rv [] = (0#64, 0, 2) := rfl
set_option maxRecDepth 100000 in
theorem number_nil (most : BitVec 64) (w : World) : Calls Try.prog 53 #[.pointer none, .int .u64 (bv most)] w fun x w' => x = .panicked [{ v := faultV (2 : Nat), recovered := false }] ∧ Below w.heap.size w w' := by
  have HV := Lib.hid (show rvVal (rv []) = .tuple #[.int .u64 0, .int .i64 0, .int .i64 2] from rfl)
  go_enter Try.func53, Try.ntmps53
  go_wp2_with fail
  refine (rest_nil _).mono ?_
  rintro e w1 ⟨rfl, rfl⟩
  go_wp2_with fail
  refine (read_varint_to none [] 0 0 _ _ (fun i hi => by simp at hi) rfl HV.out).mono ?_
  rintro e w1 ⟨rfl, rfl⟩
  go_wp2_with fail
  refine (reader_took_bad none _ 2 _ (by omega)).mono ?_
  rintro e w1 ⟨rfl, rfl⟩
  go_wp2_with fail
  exact ⟨rfl, rfl, Below.refl _ _⟩
set_option maxRecDepth 100000 in
theorem low_nil (size : Nat) (w : World) (hs : 1 ≤ size) : Calls Try.prog 56 #[.pointer none, .int .i64 size] w fun x w' => x = .panicked [{ v := faultV (2 : Nat), recovered := false }] ∧ Below w.heap.size w w' := by
  have hs' : (0 : Int) < (size : Int) := by omega
  go_enter Try.func56, Try.ntmps56
  go_wp2_with fail
  refine (rest_nil _).mono ?_
  rintro e w1 ⟨rfl, rfl⟩
  go_wp2_with fail
  exact ⟨rfl, rfl, Below.refl _ _⟩
set_option maxHeartbeats 1000000 in
set_option maxRecDepth 100000 in
theorem varint_nil (most : BitVec 64) (w : World) :
    Calls Try.prog 39 #[.pointer none, .int .u64 (bv most)] w fun x w' => x = .returned (.int .u64 0) ∧ Below w.heap.size w w' := by
  have hmf : ∀ (fn : Fn) (first cap : Array Value) (w : World), (Instr.makeFunc fn first cap).run Try.prog w = .ok (.func fn first cap) w := fun _ _ _ _ => rfl
  have HT := Lib.hid (two_new w none (.int .u64 0) 52 27)
  go_enter_defers Try.func39, Try.ntmps39
  go_wp2_with fail
  refine (number_nil most _).mono ?_
  rintro x w1 ⟨rfl, hb⟩
  have B1 := Lib.hid (below_trans HT.out.below hb)
  have cr := cell_keep hb HT.out.recv
  have cn := cell_keep hb HT.out.res
  have cf := (hb.frozen (block_lt_of_cell HT.out.res)).trans HT.out.free
  clear hb
  go_wp2_with fail
  refine leaves_cons (f := 51) (args := #[.pointer (some ⟨w.heap.size, 0, none⟩), .pointer (some ⟨w.heap.size + 1, 0, none⟩)]) (by simp) (by simp [go_sem]) ?_
  refine (catch_none_varint _ _ 2 _ [] w1 cr cn cf).mono ?_
  rintro x u' w'' ⟨rfl, rfl, ⟨w2, hb2, rfl⟩⟩
  have cn2 : (w2.setCell ⟨w.heap.size + 1, 0, none⟩ (.int .u64 0)).cell? ⟨w.heap.size + 1, 0, none⟩ = some (.int .u64 0) := World.cell?_setCell_same _ _ _ (cell_keep (show Below w1.drew.heap.size w1.drew w2 from hb2) (show w1.drew.cell? _ = _ from cn))
  have HF : Below w.heap.size w (w2.setCell ⟨w.heap.size + 1, 0, none⟩ (.int .u64 0)) := (below_trans B1.out (below_trans (below_drew w1) (show Below w1.drew.heap.size w1.drew w2 from hb2))).setCell (by simp) _
  simp [Leaves, settle, results, Try.results39, go_sem, cn2]
  exact HF
set_option maxHeartbeats 1000000 in
set_option maxRecDepth 100000 in
theorem signed_nil (w : World) :
    Calls Try.prog 40 #[.pointer none] w fun x w' => x = .returned (.int .i64 0) ∧ Below w.heap.size w w' := by
  have hmf : ∀ (fn : Fn) (first cap : Array Value) (w : World), (Instr.makeFunc fn first cap).run Try.prog w = .ok (.func fn first cap) w := fun _ _ _ _ => rfl
  have HT := Lib.hid (two_new w none (.int .i64 0) 52 2)
  go_enter_defers Try.func40, Try.ntmps40
  go_wp2_with fail
  refine (number_nil 18446744073709551615#64 _).mono ?_
  rintro x w1 ⟨rfl, hb⟩
  have B1 := Lib.hid (below_trans HT.out.below hb)
  have cr := cell_keep hb HT.out.recv
  have cn := cell_keep hb HT.out.res
  have cf := (hb.frozen (block_lt_of_cell HT.out.res)).trans HT.out.free
  clear hb
  go_wp2_with fail
  refine leaves_cons (f := 54) (args := #[.pointer (some ⟨w.heap.size, 0, none⟩), .pointer (some ⟨w.heap.size + 1, 0, none⟩)]) (by simp) (by simp [go_sem]) ?_
  refine (catch_none_signed _ _ 2 _ [] w1 cr cn cf).mono ?_
  rintro x u' w'' ⟨rfl, rfl, ⟨w2, hb2, rfl⟩⟩
  have cn2 : (w2.setCell ⟨w.heap.size + 1, 0, none⟩ (.int .i64 0)).cell? ⟨w.heap.size + 1, 0, none⟩ = some (.int .i64 0) := World.cell?_setCell_same _ _ _ (cell_keep (show Below w1.drew.heap.size w1.drew w2 from hb2) (show w1.drew.cell? _ = _ from cn))
  have HF : Below w.heap.size w (w2.setCell ⟨w.heap.size + 1, 0, none⟩ (.int .i64 0)) := (below_trans B1.out (below_trans (below_drew w1) (show Below w1.drew.heap.size w1.drew w2 from hb2))).setCell (by simp) _
  simp [Leaves, settle, results, Try.results40, go_sem, cn2]
  exact HF
set_option maxHeartbeats 1000000 in
set_option maxRecDepth 100000 in
theorem fixed32_nil (w : World) :
    Calls Try.prog 41 #[.pointer none] w fun x w' => x = .returned (.int .u32 0) ∧ Below w.heap.size w w' := by
  have hmf : ∀ (fn : Fn) (first cap : Array Value) (w : World), (Instr.makeFunc fn first cap).run Try.prog w = .ok (.func fn first cap) w := fun _ _ _ _ => rfl
  have HT := Lib.hid (two_new w none (.int .u32 0) 52 46)
  go_enter_defers Try.func41, Try.ntmps41
  go_wp2_with fail
  refine (low_nil 4 _ (by omega)).mono ?_
  rintro x w1 ⟨rfl, hb⟩
  have B1 := Lib.hid (below_trans HT.out.below hb)
  have cr := cell_keep hb HT.out.recv
  have cn := cell_keep hb HT.out.res
  have cf := (hb.frozen (block_lt_of_cell HT.out.res)).trans HT.out.free
  clear hb
  go_wp2_with fail
  refine leaves_cons (f := 55) (args := #[.pointer (some ⟨w.heap.size, 0, none⟩), .pointer (some ⟨w.heap.size + 1, 0, none⟩)]) (by simp) (by simp [go_sem]) ?_
  refine (catch_none_fixed32 _ _ 2 _ [] w1 cr cn cf).mono ?_
  rintro x u' w'' ⟨rfl, rfl, ⟨w2, hb2, rfl⟩⟩
  have cn2 : (w2.setCell ⟨w.heap.size + 1, 0, none⟩ (.int .u32 0)).cell? ⟨w.heap.size + 1, 0, none⟩ = some (.int .u32 0) := World.cell?_setCell_same _ _ _ (cell_keep (show Below w1.drew.heap.size w1.drew w2 from hb2) (show w1.drew.cell? _ = _ from cn))
  have HF : Below w.heap.size w (w2.setCell ⟨w.heap.size + 1, 0, none⟩ (.int .u32 0)) := (below_trans B1.out (below_trans (below_drew w1) (show Below w1.drew.heap.size w1.drew w2 from hb2))).setCell (by simp) _
  simp [Leaves, settle, results, Try.results41, go_sem, cn2]
  exact HF
set_option maxHeartbeats 1000000 in
set_option maxRecDepth 100000 in
theorem fixed64_nil (w : World) :
    Calls Try.prog 42 #[.pointer none] w fun x w' => x = .returned (.int .u64 0) ∧ Below w.heap.size w w' := by
  have hmf : ∀ (fn : Fn) (first cap : Array Value) (w : World), (Instr.makeFunc fn first cap).run Try.prog w = .ok (.func fn first cap) w := fun _ _ _ _ => rfl
  have HT := Lib.hid (two_new w none (.int .u64 0) 52 27)
  go_enter_defers Try.func42, Try.ntmps42
  go_wp2_with fail
  refine (low_nil 8 _ (by omega)).mono ?_
  rintro x w1 ⟨rfl, hb⟩
  have B1 := Lib.hid (below_trans HT.out.below hb)
  have cr := cell_keep hb HT.out.recv
  have cn := cell_keep hb HT.out.res
  have cf := (hb.frozen (block_lt_of_cell HT.out.res)).trans HT.out.free
  clear hb
  go_wp2_with fail
  refine leaves_cons (f := 57) (args := #[.pointer (some ⟨w.heap.size, 0, none⟩), .pointer (some ⟨w.heap.size + 1, 0, none⟩)]) (by simp) (by simp [go_sem]) ?_
  refine (catch_none_fixed64 _ _ 2 _ [] w1 cr cn cf).mono ?_
  rintro x u' w'' ⟨rfl, rfl, ⟨w2, hb2, rfl⟩⟩
  have cn2 : (w2.setCell ⟨w.heap.size + 1, 0, none⟩ (.int .u64 0)).cell? ⟨w.heap.size + 1, 0, none⟩ = some (.int .u64 0) := World.cell?_setCell_same _ _ _ (cell_keep (show Below w1.drew.heap.size w1.drew w2 from hb2) (show w1.drew.cell? _ = _ from cn))
  have HF : Below w.heap.size w (w2.setCell ⟨w.heap.size + 1, 0, none⟩ (.int .u64 0)) := (below_trans B1.out (below_trans (below_drew w1) (show Below w1.drew.heap.size w1.drew w2 from hb2))).setCell (by simp) _
  simp [Leaves, settle, results, Try.results42, go_sem, cn2]
  exact HF
set_option maxHeartbeats 1000000 in
set_option maxRecDepth 100000 in
theorem byte_nil (w : World) :
    Calls Try.prog 50 #[.pointer none] w fun x w' => x = .returned (.int .u8 0) ∧ Below w.heap.size w w' := by
  have hmf : ∀ (fn : Fn) (first cap : Array Value) (w : World), (Instr.makeFunc fn first cap).run Try.prog w = .ok (.func fn first cap) w := fun _ _ _ _ => rfl
  have HT := Lib.hid (two_new w none (.int .u8 0) 52 5)
  go_enter_defers Try.func50, Try.ntmps50
  go_wp2_with fail
  refine (low_nil 1 _ (by omega)).mono ?_
  rintro x w1 ⟨rfl, hb⟩
  have B1 := Lib.hid (below_trans HT.out.below hb)
  have cr := cell_keep hb HT.out.recv
  have cn := cell_keep hb HT.out.res
  have cf := (hb.frozen (block_lt_of_cell HT.out.res)).trans HT.out.free
  clear hb
  go_wp2_with fail
  refine leaves_cons (f := 63) (args := #[.pointer (some ⟨w.heap.size, 0, none⟩), .pointer (some ⟨w.heap.size + 1, 0, none⟩)]) (by simp) (by simp [go_sem]) ?_
  refine (catch_none_byte _ _ 2 _ [] w1 cr cn cf).mono ?_
  rintro x u' w'' ⟨rfl, rfl, ⟨w2, hb2, rfl⟩⟩
  have cn2 : (w2.setCell ⟨w.heap.size + 1, 0, none⟩ (.int .u8 0)).cell? ⟨w.heap.size + 1, 0, none⟩ = some (.int .u8 0) := World.cell?_setCell_same _ _ _ (cell_keep (show Below w1.drew.heap.size w1.drew w2 from hb2) (show w1.drew.cell? _ = _ from cn))
  have HF : Below w.heap.size w (w2.setCell ⟨w.heap.size + 1, 0, none⟩ (.int .u8 0)) := (below_trans B1.out (below_trans (below_drew w1) (show Below w1.drew.heap.size w1.drew w2 from hb2))).setCell (by simp) _
  simp [Leaves, settle, results, Try.results50, go_sem, cn2]
  exact HF
theorem rs_nil (most : Int) : ∃ e : Nat, e ≠ 0 ∧ rs [] most = ([], 0, e) := by
  by_cases h : most < 0
  · exact ⟨1, by omega, by unfold rs; rw [if_pos h]⟩
  · exact ⟨2, by omega, by unfold rs; rw [if_neg h, rv_nil]; rfl⟩
set_option maxHeartbeats 1000000 in
set_option maxRecDepth 100000 in
theorem string_nil (most : Int) (w : World) (hmost : -9223372036854775808 ≤ most ∧ most ≤ 9223372036854775807) :
    Calls Try.prog 43 #[.pointer none, .int .i64 most] w fun x w' => x = .returned (.slice none 0 0) ∧ Below w.heap.size w w' := by
  have hmf : ∀ (fn : Fn) (first cap : Array Value) (w : World), (Instr.makeFunc fn first cap).run Try.prog w = .ok (.func fn first cap) w := fun _ _ _ _ => rfl
  have HT := Lib.hid (two_new w none (.slice none 0 0) 52 25)
  obtain ⟨e, he, hr⟩ := rs_nil most
  have HE := Lib.hid he
  have HR := Lib.hid hr
  have HMo := Lib.hid hmost
  clear he hr hmost
  go_enter_defers Try.func43, Try.ntmps43
  go_wp2_with fail
  refine (rest_nil _).mono ?_
  rintro x w1 ⟨rfl, rfl⟩
  go_wp2_with fail
  refine (read_string_to none [] 0 0 most _ _ (fun i hi => by simp at hi) rfl (by omega) (fun _ => rfl) (by omega) (by omega) HMo.out HR.out).mono ?_
  rintro x w2 ⟨v, rfl, hO, hb2⟩
  have O2 := Lib.hid (show OwnB w2 _ v [] from hO)
  obtain ⟨av, cv, hv, -, -, -, -, -⟩ := O2.out.slice
  rw [List.length_nil] at hv
  subst hv
  have B2 := Lib.hid (below_trans HT.out.below hb2)
  have cr := cell_keep hb2 HT.out.recv
  have cn := cell_keep hb2 HT.out.res
  have cf := (hb2.frozen (block_lt_of_cell HT.out.res)).trans HT.out.free
  have cr' : (w2.setCell ⟨w.heap.size + 1, 0, none⟩ (.slice av 0 cv)).cell? ⟨w.heap.size, 0, none⟩ = some (.pointer none) := by
    rw [World.cell?_setCell_other _ _ _ _ (by intro e; injection e; omega)]; exact cr
  have c3 : (w2.setCell ⟨w.heap.size + 1, 0, none⟩ (.slice av 0 cv)).cell? ⟨w.heap.size + 1, 0, none⟩ = some (.slice av 0 cv) := World.cell?_setCell_same _ _ _ cn
  have f3 : (w2.setCell ⟨w.heap.size + 1, 0, none⟩ (.slice av 0 cv)).frozen? ⟨w.heap.size + 1, 0, none⟩ = false := by rw [World.frozen?_setCell]; exact cf
  have B3 := Lib.hid (B2.out.setCell (p := ⟨w.heap.size + 1, 0, none⟩) (by simp) (.slice av 0 cv))
  clear hO hb2 cr
  go_wp2_with fail
  refine (reader_took_bad _ _ e _ HE.out).mono ?_
  rintro x w4 ⟨rfl, rfl⟩
  clear O2 cf cn
  go_wp2_with fail
  refine leaves_cons (f := 58) (args := #[.pointer (some ⟨w.heap.size, 0, none⟩), .pointer (some ⟨w.heap.size + 1, 0, none⟩)]) (by simp) (by simp [go_sem]) ?_
  refine (catch_none_string _ _ e _ [] _ cr' c3 f3).mono ?_
  rintro x u' w'' ⟨rfl, rfl, ⟨w5, hb5, rfl⟩⟩
  have cn2 : (w5.setCell ⟨w.heap.size + 1, 0, none⟩ (.slice none 0 0)).cell? ⟨w.heap.size + 1, 0, none⟩ = some (.slice none 0 0) := World.cell?_setCell_same _ _ _ (cell_keep (show Below (World.drew (w2.setCell ⟨w.heap.size + 1, 0, none⟩ (.slice av 0 cv))).heap.size (World.drew (w2.setCell ⟨w.heap.size + 1, 0, none⟩ (.slice av 0 cv))) w5 from hb5) (show (World.drew (w2.setCell ⟨w.heap.size + 1, 0, none⟩ (.slice av 0 cv))).cell? ⟨w.heap.size + 1, 0, none⟩ = _ from c3))
  have HF : Below w.heap.size w (w5.setCell ⟨w.heap.size + 1, 0, none⟩ (.slice none 0 0)) := (below_trans B3.out (below_trans (below_drew (w2.setCell ⟨w.heap.size + 1, 0, none⟩ (.slice av 0 cv))) (show Below (World.drew (w2.setCell ⟨w.heap.size + 1, 0, none⟩ (.slice av 0 cv))).heap.size (World.drew (w2.setCell ⟨w.heap.size + 1, 0, none⟩ (.slice av 0 cv))) w5 from hb5))).setCell (by simp) _
  simp [Leaves, settle, results, Try.results43, go_sem, cn2]
  exact HF

theorem varH_nil (most : BitVec 64) : VarH [] 0 0 most 0#64 0 2 := .inr ⟨rfl, rfl, by omega, .inl ⟨rfl, rfl⟩⟩
theorem fixH_nil (size : Nat) (hs : 1 ≤ size) : FixH [] 0 0 size 0#64 0 2 := .inr ⟨rfl, rfl, by omega, .inl ⟨rfl, by simp; omega, rfl⟩⟩

/-- A block that holds a reader of the document's. -/
def IsQ (w : World) (q : Nat) : Prop := ∃ cur, w.heap[q]? = some (.cells cur 56 (0, 0))
theorem IsQ.ne {w : World} {q kb lo z : Nat} {lv : Value} {xs : List Value} (h : IsQ w q) (hK : Kept w kb lo lv z xs) : kb ≠ q ∧ lv.ownBlock ≠ some q ∧ ∀ x ∈ xs, x.ownBlock ≠ some q := by
  obtain ⟨cur, hc⟩ := h
  refine ⟨fun e => ?_, fun e => ?_, fun x hx e => ?_⟩
  · subst e
    have := hK.box.symm.trans hc
    injection this with this; injection this with _ this; exact absurd this (by decide)
  · obtain ⟨_, cur', hc'⟩ := rows_blk hK.list e
    have := hc'.symm.trans hc
    injection this with this; injection this with _ this; exact absurd this (by decide)
  · obtain ⟨⟨_, ho⟩, _⟩ := hK.elem x hx
    obtain ⟨_, cur', hc'⟩ := rows_blk ho e
    have := hc'.symm.trans hc
    injection this with this; injection this with _ this; exact absurd this (by decide)
theorem Kept.butQ {w w' : World} {q kb lo z : Nat} {lv : Value} {xs : List Value} (h : Kept w kb lo lv z xs) (hu : But q w w') (hq : IsQ w q) : Kept w' kb lo lv z xs := by
  obtain ⟨h1, h2, h3⟩ := hq.ne h
  exact h.move (hu.block kb (heap_lt h.box) h1) (fun g hg => let ⟨_, _, hc⟩ := rows_blk h.list hg; hu.block g (heap_lt hc) (fun e => h2 (by rw [hg, e]))) (fun x hx g hg => let ⟨⟨_, ho⟩, _⟩ := h.elem x hx; let ⟨_, _, hc⟩ := rows_blk ho hg; hu.block g (heap_lt hc) (fun e => h3 x hx (by rw [hg, e])))
theorem IsQ.keep {w w' : World} {q : Nat} (h : IsQ w q) (hb : Below w.heap.size w w') : IsQ w' q := let ⟨cur, hc⟩ := h; ⟨cur, (hb.block q (heap_lt hc)).trans hc⟩
/-- What a call on a nil reader leaves. -/
def NilB (w : World) (q kb lo : Nat) (e : Ending) (w' : World) : Prop :=
  e = .returned (.bool true) ∧ ∃ lv' z' xs', Kept w' kb lo lv' z' xs' ∧ Short xs' ∧ Touch q q lo w w'
section
variable (w : World) (q kb lo : Nat) (lv : Value) (z : Nat) (xs : List Value) (hQ : QAt w q none 0 [] 0 0) (hK : Kept w kb lo lv z xs) (hS : Short xs) (hq : IsQ w q) (hlo : lo ≤ w.heap.size) (most : BitVec 64) (size : Int)
include hQ hK hS hq hlo
set_option maxHeartbeats 1000000 in
set_option maxRecDepth 100000 in
theorem nil_varint : Calls Try.prog 34 #[.pointer none, .pointer (some ⟨q, 0, none⟩), .agg #[.int .i64 1, .int .u64 (bv most), .int .i64 size], .pointer (some ⟨kb, 0, none⟩)] w (NilB w q kb lo) := by
  have hbA : Below w.heap.size w (w.alloc (.cells #[.int .i64 1, .int .u64 (bv most), .int .i64 size] 59)) := below_alloc w _
  have Q1 := Lib.hid (hQ.on hbA)
  have K1 := Lib.hid (hK.keep hbA)
  have T1 := Lib.hid (show Touch q q lo w _ from touch_below (hbA.mono hlo))
  have L1 := Lib.hid (Nat.le_trans hlo hbA.size)
  have HQL := Lib.hid hQ.lt
  have I1 := Lib.hid (hq.keep hbA)
  have HC := Lib.hid (cell_of_row (w.alloc (.cells #[.int .i64 1, .int .u64 (bv most), .int .i64 size] 59)) _ 1 _ _ _ (heap_alloc_new w _))
  clear hQ hK hbA hq
  go_enter Try.func34, Try.ntmps34
  go_wp2_with fail
  have kc : ∀ p : In (fun w' => w'.cell? ⟨w.heap.size, 1, none⟩ = some (.int .u64 (bv most))), p.w.cell? ⟨w.heap.size, 1, none⟩ = some (.int .u64 (bv most)) := fun p => p.h
  refine wp_region_mixed [0, 1, 2, 4, 5, 6, 3, 7, 8, 9] (fun w' => w'.cell? ⟨w.heap.size, 1, none⟩ = some (.int .u64 (bv most))) (by kernel_rfl) (by kernel_rfl) (by intro c a d v w h; cases d <;> exact h) HC.out ?_
  intro hne
  simp only [pick, List.map_cons, List.map_nil, List.getD_cons_zero, List.getD_cons_succ]
  refine wpMix_reads 6 _ (by kernel_rfl) ?_
  simp only [List.take_succ_cons, List.take_zero, List.drop_succ_cons, List.drop_zero]
  repeat (go_big_quiet_step (fail))
  refine wpQuiet_nil ?_
  have Q1d := Lib.hid (Q1.out.on (below_drew _))
  have K1d := Lib.hid (K1.out.keep (below_drew _))
  have I1d := Lib.hid (I1.out.keep (below_drew _))
  have T1d := Lib.hid (T1.out.trans (touch_below ((below_drew _).mono L1.out)))
  refine wpMix_act rfl ?_ rfl
  go_wp2_with fail
  refine (varint_nil most _).mono ?_
  rintro x w2 ⟨rfl, hb⟩
  have Q2 := Lib.hid (Q1d.out.on hb)
  have K2 := Lib.hid (K1d.out.keep hb)
  have I2 := Lib.hid (I1d.out.keep hb)
  have L2 := Lib.hid (Nat.le_trans L1.out hb.size)
  have T2 := Lib.hid (T1d.out.trans (touch_below (hb.mono L1.out)))
  have C2 := Lib.hid (cell_keep hb (show (World.drew _).cell? ⟨w.heap.size, 1, none⟩ = _ from HC.out))
  clear hb
  go_wp2_with fail
  refine ⟨⟨⟨_, C2.out⟩, rfl⟩, ?_⟩
  refine wpMix_act rfl ?_ rfl
  go_wp2_with fail
  refine (q_varint q none 0 [] 0 0 most _ Q2.out (by simp) 0#64 0 2 (varH_nil most)).mono ?_
  rintro x w3 ⟨rfl, hN⟩
  have K3 := Lib.hid (K2.out.butQ hN.but I2.out)
  have T3 := Lib.hid (T2.out.trans (touch_but hN.but L2.out))
  have C3 := Lib.hid (hN.but.cell C2.out (show w.heap.size ≠ q by have := HQL.out; omega))
  clear hN
  go_wp2_with fail
  refine ⟨⟨⟨_, C3.out⟩, rfl⟩, ?_⟩
  refine wpMix_reads 2 _ (by kernel_rfl) ?_
  simp only [List.take_succ_cons, List.take_zero, List.drop_succ_cons, List.drop_zero]
  repeat (go_big_quiet_step (fail))
  refine wpQuiet_nil ?_
  refine wpMix_nil ?_
  clear hne kc
  go_wp2_with fail
  go_ret
  exact ⟨rfl, lv, z, xs, K3.out, hS, T3.out⟩
set_option maxHeartbeats 1000000 in
set_option maxRecDepth 100000 in
theorem nil_signed : Calls Try.prog 34 #[.pointer none, .pointer (some ⟨q, 0, none⟩), .agg #[.int .i64 2, .int .u64 (bv most), .int .i64 size], .pointer (some ⟨kb, 0, none⟩)] w (NilB w q kb lo) := by
  have hbA : Below w.heap.size w (w.alloc (.cells #[.int .i64 2, .int .u64 (bv most), .int .i64 size] 59)) := below_alloc w _
  have Q1 := Lib.hid (hQ.on hbA)
  have K1 := Lib.hid (hK.keep hbA)
  have T1 := Lib.hid (show Touch q q lo w _ from touch_below (hbA.mono hlo))
  have L1 := Lib.hid (Nat.le_trans hlo hbA.size)
  have HQL := Lib.hid hQ.lt
  have I1 := Lib.hid (hq.keep hbA)
  have HC := Lib.hid (cell_of_row (w.alloc (.cells #[.int .i64 2, .int .u64 (bv most), .int .i64 size] 59)) _ 1 _ _ _ (heap_alloc_new w _))
  clear hQ hK hbA hq
  go_enter Try.func34, Try.ntmps34
  go_wp2_with fail
  refine (signed_nil _).mono ?_
  rintro x w2 ⟨rfl, hb⟩
  have Q2 := Lib.hid (Q1.out.on hb)
  have K2 := Lib.hid (K1.out.keep hb)
  have I2 := Lib.hid (I1.out.keep hb)
  have L2 := Lib.hid (Nat.le_trans L1.out hb.size)
  have T2 := Lib.hid (T1.out.trans (touch_below (hb.mono L1.out)))
  clear hb
  go_wp2_with fail
  refine (q_signed q none 0 [] 0 0 _ Q2.out (by simp) 0#64 0 2 (varH_nil _)).mono ?_
  rintro x w3 ⟨rfl, hN⟩
  have K3 := Lib.hid (K2.out.butQ hN.but I2.out)
  have T3 := Lib.hid (T2.out.trans (touch_but hN.but L2.out))
  clear hN
  go_wp2_with fail
  go_ret
  exact ⟨rfl, lv, z, xs, K3.out, hS, T3.out⟩
set_option maxHeartbeats 1000000 in
set_option maxRecDepth 100000 in
theorem nil_fixed32 : Calls Try.prog 34 #[.pointer none, .pointer (some ⟨q, 0, none⟩), .agg #[.int .i64 3, .int .u64 (bv most), .int .i64 size], .pointer (some ⟨kb, 0, none⟩)] w (NilB w q kb lo) := by
  have hbA : Below w.heap.size w (w.alloc (.cells #[.int .i64 3, .int .u64 (bv most), .int .i64 size] 59)) := below_alloc w _
  have Q1 := Lib.hid (hQ.on hbA)
  have K1 := Lib.hid (hK.keep hbA)
  have T1 := Lib.hid (show Touch q q lo w _ from touch_below (hbA.mono hlo))
  have L1 := Lib.hid (Nat.le_trans hlo hbA.size)
  have HQL := Lib.hid hQ.lt
  have I1 := Lib.hid (hq.keep hbA)
  have HC := Lib.hid (cell_of_row (w.alloc (.cells #[.int .i64 3, .int .u64 (bv most), .int .i64 size] 59)) _ 1 _ _ _ (heap_alloc_new w _))
  clear hQ hK hbA hq
  go_enter Try.func34, Try.ntmps34
  go_wp2_with fail
  refine (fixed32_nil _).mono ?_
  rintro x w2 ⟨rfl, hb⟩
  have Q2 := Lib.hid (Q1.out.on hb)
  have K2 := Lib.hid (K1.out.keep hb)
  have I2 := Lib.hid (I1.out.keep hb)
  have L2 := Lib.hid (Nat.le_trans L1.out hb.size)
  have T2 := Lib.hid (T1.out.trans (touch_below (hb.mono L1.out)))
  clear hb
  go_wp2_with fail
  refine (q_fixed q none 0 [] 0 0 4 _ Q2.out (by simp) (by omega) (by omega) 0#64 0 2 (fixH_nil 4 (by omega))).mono ?_
  rintro x w3 ⟨rfl, hN⟩
  have K3 := Lib.hid (K2.out.butQ hN.but I2.out)
  have T3 := Lib.hid (T2.out.trans (touch_but hN.but L2.out))
  clear hN
  go_wp2_with fail
  go_ret
  exact ⟨rfl, lv, z, xs, K3.out, hS, T3.out⟩
set_option maxHeartbeats 1000000 in
set_option maxRecDepth 100000 in
theorem nil_fixed64 : Calls Try.prog 34 #[.pointer none, .pointer (some ⟨q, 0, none⟩), .agg #[.int .i64 4, .int .u64 (bv most), .int .i64 size], .pointer (some ⟨kb, 0, none⟩)] w (NilB w q kb lo) := by
  have hbA : Below w.heap.size w (w.alloc (.cells #[.int .i64 4, .int .u64 (bv most), .int .i64 size] 59)) := below_alloc w _
  have Q1 := Lib.hid (hQ.on hbA)
  have K1 := Lib.hid (hK.keep hbA)
  have T1 := Lib.hid (show Touch q q lo w _ from touch_below (hbA.mono hlo))
  have L1 := Lib.hid (Nat.le_trans hlo hbA.size)
  have HQL := Lib.hid hQ.lt
  have I1 := Lib.hid (hq.keep hbA)
  have HC := Lib.hid (cell_of_row (w.alloc (.cells #[.int .i64 4, .int .u64 (bv most), .int .i64 size] 59)) _ 1 _ _ _ (heap_alloc_new w _))
  clear hQ hK hbA hq
  go_enter Try.func34, Try.ntmps34
  go_wp2_with fail
  refine (fixed64_nil _).mono ?_
  rintro x w2 ⟨rfl, hb⟩
  have Q2 := Lib.hid (Q1.out.on hb)
  have K2 := Lib.hid (K1.out.keep hb)
  have I2 := Lib.hid (I1.out.keep hb)
  have L2 := Lib.hid (Nat.le_trans L1.out hb.size)
  have T2 := Lib.hid (T1.out.trans (touch_below (hb.mono L1.out)))
  clear hb
  go_wp2_with fail
  refine (q_fixed q none 0 [] 0 0 8 _ Q2.out (by simp) (by omega) (by omega) 0#64 0 2 (fixH_nil 8 (by omega))).mono ?_
  rintro x w3 ⟨rfl, hN⟩
  have K3 := Lib.hid (K2.out.butQ hN.but I2.out)
  have T3 := Lib.hid (T2.out.trans (touch_but hN.but L2.out))
  clear hN
  go_wp2_with fail
  go_ret
  exact ⟨rfl, lv, z, xs, K3.out, hS, T3.out⟩
set_option maxHeartbeats 1000000 in
set_option maxRecDepth 100000 in
theorem nil_byte : Calls Try.prog 34 #[.pointer none, .pointer (some ⟨q, 0, none⟩), .agg #[.int .i64 6, .int .u64 (bv most), .int .i64 size], .pointer (some ⟨kb, 0, none⟩)] w (NilB w q kb lo) := by
  have hbA : Below w.heap.size w (w.alloc (.cells #[.int .i64 6, .int .u64 (bv most), .int .i64 size] 59)) := below_alloc w _
  have Q1 := Lib.hid (hQ.on hbA)
  have K1 := Lib.hid (hK.keep hbA)
  have T1 := Lib.hid (show Touch q q lo w _ from touch_below (hbA.mono hlo))
  have L1 := Lib.hid (Nat.le_trans hlo hbA.size)
  have HQL := Lib.hid hQ.lt
  have I1 := Lib.hid (hq.keep hbA)
  have HC := Lib.hid (cell_of_row (w.alloc (.cells #[.int .i64 6, .int .u64 (bv most), .int .i64 size] 59)) _ 1 _ _ _ (heap_alloc_new w _))
  clear hQ hK hbA hq
  go_enter Try.func34, Try.ntmps34
  go_wp2_with fail
  refine (byte_nil _).mono ?_
  rintro x w2 ⟨rfl, hb⟩
  have Q2 := Lib.hid (Q1.out.on hb)
  have K2 := Lib.hid (K1.out.keep hb)
  have I2 := Lib.hid (I1.out.keep hb)
  have L2 := Lib.hid (Nat.le_trans L1.out hb.size)
  have T2 := Lib.hid (T1.out.trans (touch_below (hb.mono L1.out)))
  clear hb
  go_wp2_with fail
  refine (q_fixed q none 0 [] 0 0 1 _ Q2.out (by simp) (by omega) (by omega) 0#64 0 2 (fixH_nil 1 (by omega))).mono ?_
  rintro x w3 ⟨rfl, hN⟩
  have K3 := Lib.hid (K2.out.butQ hN.but I2.out)
  have T3 := Lib.hid (T2.out.trans (touch_but hN.but L2.out))
  clear hN
  go_wp2_with fail
  go_ret
  exact ⟨rfl, lv, z, xs, K3.out, hS, T3.out⟩

set_option maxHeartbeats 1000000 in
set_option maxRecDepth 100000 in
theorem nil_string (hz : -9223372036854775808 ≤ size ∧ size ≤ 9223372036854775807) : Calls Try.prog 34 #[.pointer none, .pointer (some ⟨q, 0, none⟩), .agg #[.int .i64 5, .int .u64 (bv most), .int .i64 size], .pointer (some ⟨kb, 0, none⟩)] w (NilB w q kb lo) := by
  have hbA : Below w.heap.size w (w.alloc (.cells #[.int .i64 5, .int .u64 (bv most), .int .i64 size] 59)) := below_alloc w _
  have Q1 := Lib.hid (hQ.on hbA)
  have K1 := Lib.hid (hK.keep hbA)
  have T1 := Lib.hid (show Touch q q lo w _ from touch_below (hbA.mono hlo))
  have L1 := Lib.hid (Nat.le_trans hlo hbA.size)
  have HQL := Lib.hid hQ.lt
  have I1 := Lib.hid (hq.keep hbA)
  have HC := Lib.hid (cell_of_row (w.alloc (.cells #[.int .i64 5, .int .u64 (bv most), .int .i64 size] 59)) _ 2 _ _ _ (heap_alloc_new w _))
  have HK0 := Lib.hid (heap_lt hK.box)
  have HL0 := Lib.hid hK.list
  have HS := Lib.hid hS
  have HZ := Lib.hid hz
  obtain ⟨e, he, hr⟩ := rs_nil size
  have HV : Hid (StrH [] 0 0 size [] 0 e) := Lib.hid (.inr ⟨rfl, rfl, he, .inl ⟨rfl, by rw [List.drop_nil, hr]⟩⟩)
  clear hQ hK hbA hS hz he hr hq
  go_enter Try.func34, Try.ntmps34
  go_wp2_with fail
  refine (string_nil size _ HZ.out).mono ?_
  rintro x w2 ⟨rfl, hb⟩
  have Q2 := Lib.hid (Q1.out.on hb)
  have K2 := Lib.hid (K1.out.keep hb)
  have I2 := Lib.hid (I1.out.keep hb)
  have L2 := Lib.hid (Nat.le_trans L1.out hb.size)
  have T2 := Lib.hid (T1.out.trans (touch_below (hb.mono L1.out)))
  have C2 := Lib.hid (cell_keep hb HC.out)
  have S2 := Lib.hid (show w.heap.size + 1 ≤ w2.heap.size from by have := hb.size; simpa using this)
  clear hb
  go_wp2_with fail
  have hbA : Below w2.heap.size w2 (w2.alloc (.cells #[.slice none 0 0] 25 (0, 0))) := below_alloc _ _
  have Q3 := Lib.hid (Q2.out.on hbA)
  have K3 := Lib.hid (K2.out.keep hbA)
  have I3 := Lib.hid (I2.out.keep hbA)
  have T3 := Lib.hid (T2.out.trans (touch_below (hbA.mono L2.out)))
  have L3 := Lib.hid (Nat.le_trans L2.out hbA.size)
  have C3 := Lib.hid (cell_keep hbA C2.out)
  have NW := Lib.hid (news_one w2 (.slice none 0 0) 25 (0, 0))
  have KB := Lib.hid (show kb ≠ w2.heap.size by have := heap_lt K2.out.box; omega)
  have KL := Lib.hid (show lv.ownBlock ≠ some w2.heap.size from fun e => by obtain ⟨_, _, hc⟩ := rows_blk K2.out.list e; have := heap_lt hc; omega)
  have LO := Lib.hid (show lv.ownBlock ≠ some w.heap.size from fun e => by
    obtain ⟨_, _, hc⟩ := rows_blk HL0.out e
    have := heap_lt hc
    omega)
  have KO := Lib.hid (show w.heap.size ≠ kb by have := HK0.out; omega)
  clear hbA
  refine (keep kb lo w2.heap.size 1 lv z xs [.slice none 0 0] _ K3.out ⟨fun j v _ hv => by have := NW.out j v hv; rwa [Addr.add_mid, Nat.zero_add] at this, fun j v _ hv => ?_, fun j v _ hv g hg x hx => ?_, fun i j x y hij hx hy => ?_⟩ KB.out KL.out (by simp) L3.out HS.out).mono ?_
  · have hv := List.mem_of_getElem? hv
    obtain rfl := List.mem_singleton.1 hv
    exact ⟨[], OwnB.nil _ _, by simp⟩
  · have hv := List.mem_of_getElem? hv
    obtain rfl := List.mem_singleton.1 hv
    cases hg
  · have h1 := (List.getElem?_eq_some_iff.1 hy).1
    simp at h1
    omega
  rintro e w4 ⟨rfl, lv', z', xs', hK, hB, -, hF, hS⟩
  have hqb := hF q Q3.out.lt (I3.out.ne K3.out).1.symm (I3.out.ne K3.out).2.1
  have Q4 := Lib.hid (Q3.out.congr hqb (fun g off e => by cases e))
  have I4 := Lib.hid (show IsQ w4 q from let ⟨cur, hc⟩ := I3.out; ⟨cur, hqb.trans hc⟩)
  have K4 := Lib.hid hK
  have S4 := Lib.hid hS
  have T4 := Lib.hid (T3.out.trans (touch_below hB))
  have L4 := Lib.hid (Nat.le_trans L3.out hB.size)
  have C4 := Lib.hid ((World.cell?_of_block (a := ⟨w.heap.size, 2, none⟩) (hF w.heap.size (by have := S2.out; simp; omega) KO.out LO.out)).trans C3.out)
  clear hK hB hF hS hqb
  have kc := C4.out
  go_wp2_with fail
  refine (q_string q none 0 [] 0 0 size _ Q4.out (by simp) HZ.out [] 0 _ HV.out).mono ?_
  rintro x w5 ⟨v5, rfl, hO, hN⟩
  have K5 := Lib.hid (K4.out.butQ hN.but I4.out)
  have T5 := Lib.hid (T4.out.trans (touch_but hN.but L4.out))
  have L5 := Lib.hid (Nat.le_trans L4.out hN.but.size)
  obtain ⟨a5, c5, rfl, x5, -, -, -, -⟩ := hO.slice
  have X5 := Lib.hid x5
  clear hN hO x5 kc
  go_wp2_with fail
  refine (eq_bytes_of none a5 [] [] _ _ 0 c5 true _ (fun i hi => by simp at hi) X5.out rfl rfl (by simp) (decide_eq_true rfl)).mono ?_
  rintro x w6 ⟨rfl, n6, hw6⟩
  have hb6 : Below w5.heap.size w5 w6 := by rw [hw6]; exact below_drewN _ _
  have K6 := Lib.hid (K5.out.keep hb6)
  have T6 := Lib.hid (T5.out.trans (touch_below (hb6.mono L5.out)))
  clear hw6 hb6
  go_wp2_with fail
  go_ret
  exact ⟨rfl, lv', z', xs', K6.out, S4.out, T6.out⟩
end
set_option maxHeartbeats 1000000 in
set_option maxRecDepth 100000 in
theorem nil_none (w : World) (q kb lo : Nat) (lv : Value) (z : Nat) (xs : List Value) (hK : Kept w kb lo lv z xs) (hS : Short xs) (hlo : lo ≤ w.heap.size) (most : BitVec 64) (size : Int)
    (K : Int) (h1 : ¬ K = 1) (h2 : ¬ K = 2) (h3 : ¬ K = 3) (h4 : ¬ K = 4) (h5 : ¬ K = 5) (h6 : ¬ K = 6) : Calls Try.prog 34 #[.pointer none, .pointer (some ⟨q, 0, none⟩), .agg #[.int .i64 K, .int .u64 (bv most), .int .i64 size], .pointer (some ⟨kb, 0, none⟩)] w (NilB w q kb lo) := by
  have hbA : Below w.heap.size w (w.alloc (.cells #[.int .i64 K, .int .u64 (bv most), .int .i64 size] 59)) := below_alloc w _
  have K1 := Lib.hid (hK.keep hbA)
  have T1 := Lib.hid (show Touch q q lo w _ from touch_below (hbA.mono hlo))
  clear hK hbA
  go_enter Try.func34, Try.ntmps34
  go_wp2_with fail
  go_ret
  exact ⟨rfl, lv, z, xs, K1.out, hS, T1.out⟩
theorem nil_any (w : World) (q kb lo : Nat) (lv : Value) (z : Nat) (xs : List Value) (hQ : QAt w q none 0 [] 0 0) (hK : Kept w kb lo lv z xs) (hS : Short xs) (hq : IsQ w q) (hlo : lo ≤ w.heap.size) (most : BitVec 64) (size : Int)
    (K : Int) (hz : -9223372036854775808 ≤ size ∧ size ≤ 9223372036854775807) : Calls Try.prog 34 #[.pointer none, .pointer (some ⟨q, 0, none⟩), .agg #[.int .i64 K, .int .u64 (bv most), .int .i64 size], .pointer (some ⟨kb, 0, none⟩)] w (NilB w q kb lo) := by
  by_cases h1 : K = 1
  · subst h1; exact nil_varint w q kb lo lv z xs hQ hK hS hq hlo most size
  by_cases h2 : K = 2
  · subst h2; exact nil_signed w q kb lo lv z xs hQ hK hS hq hlo most size
  by_cases h3 : K = 3
  · subst h3; exact nil_fixed32 w q kb lo lv z xs hQ hK hS hq hlo most size
  by_cases h4 : K = 4
  · subst h4; exact nil_fixed64 w q kb lo lv z xs hQ hK hS hq hlo most size
  by_cases h5 : K = 5
  · subst h5; exact nil_string w q kb lo lv z xs hQ hK hS hq hlo most size hz
  by_cases h6 : K = 6
  · subst h6; exact nil_byte w q kb lo lv z xs hQ hK hS hq hlo most size
  exact nil_none w q kb lo lv z xs hK hS hlo most size K h1 h2 h3 h4 h5 h6
end Go.Proofs.Ytggbhakkgbfneaa

/- A reading call on both readers. -/
import Derived.Test.YtggbhakkgbfneaaKept
import Derived.Test.YtggbhakkgbfneaaWireRuns
namespace Go.Proofs.Ytggbhakkgbfneaa
open Go.RowKit

theorem BytesAt.congr {w w' : World} {ao : Option Addr} {bs : List (BitVec 8)} (h : BytesAt w ao bs) (hb : ∀ g off, ao = some ⟨g, off, none⟩ → bs ≠ [] → w'.heap[g]? = w.heap[g]?) : BytesAt w' ao bs := fun i hi => by
  obtain ⟨g, off, e, hc⟩ := h i hi
  exact ⟨g, off, e, (World.cell?_of_block (a := ⟨g, off + i, none⟩) (hb g off e (by intro h0; subst h0; simp at hi))).trans hc⟩
theorem RdAt.congr {w w' : World} {b k bad : Nat} {bs : List (BitVec 8)} (h : RdAt w b bs k bad) (hb : w'.heap[b]? = w.heap[b]?) (hg : ∀ ao c, w.cell? ⟨b, 0, none⟩ = some (.slice ao bs.length c) → ∀ g off, ao = some ⟨g, off, none⟩ → bs ≠ [] → w'.heap[g]? = w.heap[g]?) : RdAt w' b bs k bad := by
  have hc : ∀ j, w'.cell? ⟨b, j, none⟩ = w.cell? ⟨b, j, none⟩ := fun j => World.cell?_of_block (a := ⟨b, j, none⟩) hb
  have hf : ∀ j, w'.frozen? ⟨b, j, none⟩ = w.frozen? ⟨b, j, none⟩ := fun j => World.frozen?_of_block (a := ⟨b, j, none⟩) hb
  obtain ⟨ao, c, h0, hbs, r⟩ := h.bytes
  exact ⟨⟨ao, c, (hc 0).trans h0, hbs.congr (hg ao c h0), r⟩, (hc 1).trans h.at1, (hc 2).trans h.at2, (hf 1).trans h.free1, (hf 2).trans h.free2, h.le⟩
theorem QAt.congr {w w' : World} {q cap k bad : Nat} {ao : Option Addr} {bs : List (BitVec 8)} (h : QAt w q ao cap bs k bad) (hb : w'.heap[q]? = w.heap[q]?) (hg : ∀ g off, ao = some ⟨g, off, none⟩ → bs ≠ [] → w'.heap[g]? = w.heap[g]?) : QAt w' q ao cap bs k bad := by
  have hc : ∀ j, w'.cell? ⟨q, j, none⟩ = w.cell? ⟨q, j, none⟩ := fun j => World.cell?_of_block (a := ⟨q, j, none⟩) hb
  have hf : ∀ j, w'.frozen? ⟨q, j, none⟩ = w.frozen? ⟨q, j, none⟩ := fun j => World.frozen?_of_block (a := ⟨q, j, none⟩) hb
  exact ⟨(hc 0).trans h.at0, (hc 1).trans h.at1, (hc 2).trans h.at2, (hf 1).trans h.free1, (hf 2).trans h.free2, h.le, h.bytes.congr hg, h.nil, h.hcap, h.mcap, h.off⟩

/-- What a call of the program's reader leaves. -/
structure INow (w w' : World) (b : Nat) (bs : List (BitVec 8)) (k' bad' : Nat) : Prop where
  rd : RdAt w' b bs k' bad'
  but : But b w w'
  same : w'.cell? ⟨b, 0, none⟩ = w.cell? ⟨b, 0, none⟩
theorem inow_moved {w w' : World} {b k bad : Nat} {bs : List (BitVec 8)} (h : RdAt w b bs k bad) {j : Nat} (hj : j ≤ bs.length) (hu : Upd b 1 (.int .i64 j) w w') : INow w w' b bs j bad := ⟨h.moved j hj hu, hu.but, hu.others 0 (by omega)⟩
theorem inow_stopped {w w' : World} {b k bad : Nat} {bs : List (BitVec 8)} (h : RdAt w b bs k bad) {e : Nat} (hu : Upd b 2 (.int .i64 e) w w') : INow w w' b bs k e := ⟨h.stopped e hu, hu.but, hu.others 0 (by omega)⟩

section
variable (b : Nat) (bs : List (BitVec 8)) (k bad : Nat) (w : World) (hR : RdAt w b bs k bad) (hm : bs.length ≤ 140737488355328) (k' bad' : Nat)
include hR hm
theorem i_varint (most : BitVec 64) (v : BitVec 64) (H : VarH bs k bad most v k' bad') :
    Calls Try.prog 39 #[.pointer (some ⟨b, 0, none⟩), .int .u64 (bv most)] w fun x w' => x = .returned (.int .u64 (bv v)) ∧ INow w w' b bs k' bad' := by
  rcases H with ⟨rfl, j, hr, hmo, rfl, rfl⟩ | ⟨rfl, rfl, hb', h⟩
  · have := rv_le (bs.drop k); rw [hr] at this; have hk := hR.le
    exact (varint_ok b bs k most w hR hm v j hr hmo).mono fun _ _ ⟨he, hu⟩ => ⟨he, inow_moved hR (by simp at this; omega) hu⟩
  · exact (varint_stop b bs k' bad most w hR bad' hb' h hm).mono fun _ _ ⟨he, hu⟩ => ⟨he, inow_stopped hR hu⟩
theorem i_signed (v : BitVec 64) (H : VarH bs k bad 18446744073709551615#64 v k' bad') :
    Calls Try.prog 40 #[.pointer (some ⟨b, 0, none⟩)] w fun x w' => x = .returned (.int .i64 (zag (bv v))) ∧ INow w w' b bs k' bad' := by
  rcases H with ⟨rfl, j, hr, hmo, rfl, rfl⟩ | ⟨rfl, rfl, hb', h⟩
  · have := rv_le (bs.drop k); rw [hr] at this; have hk := hR.le
    exact (signed_ok b bs k w hR hm v j hr).mono fun _ _ ⟨he, hu⟩ => ⟨he, inow_moved hR (by simp at this; omega) hu⟩
  · exact (signed_stop b bs k' bad w hR bad' hb' h hm).mono fun _ _ ⟨he, hu⟩ => ⟨he, inow_stopped hR hu⟩
theorem i_fixed64 (v : BitVec 64) (H : FixH bs k bad 8 v k' bad') :
    Calls Try.prog 42 #[.pointer (some ⟨b, 0, none⟩)] w fun x w' => x = .returned (.int .u64 (bv v)) ∧ INow w w' b bs k' bad' := by
  rcases H with ⟨rfl, hs, rfl, rfl, rfl⟩ | ⟨rfl, rfl, hb', h⟩
  · exact (fixed64_ok b bs k w hR hm hs).mono fun _ _ ⟨he, hu⟩ => ⟨he, inow_moved hR hs hu⟩
  · exact (fixed64_stop b bs k bad w hR bad' hb' h).mono fun _ _ ⟨he, hu⟩ => ⟨he, inow_stopped hR hu⟩
theorem i_fixed32 (v : BitVec 64) (n : BitVec 32) (hn : v.setWidth 32 = n) (H : FixH bs k bad 4 v k' bad') :
    Calls Try.prog 41 #[.pointer (some ⟨b, 0, none⟩)] w fun x w' => x = .returned (.int .u32 (bv n)) ∧ INow w w' b bs k' bad' := by
  subst hn
  rcases H with ⟨rfl, hs, rfl, rfl, rfl⟩ | ⟨rfl, rfl, hb', h⟩
  · exact (fixed32_ok b bs k w hR hm hs).mono fun _ _ ⟨he, hu⟩ => ⟨he, inow_moved hR hs hu⟩
  · exact (fixed32_stop b bs k bad w hR bad' hb' h).mono fun _ _ ⟨he, hu⟩ => ⟨he, inow_stopped hR hu⟩
theorem i_byte (v : BitVec 64) (n : BitVec 8) (hn : v.setWidth 8 = n) (H : FixH bs k bad 1 v k' bad') :
    Calls Try.prog 50 #[.pointer (some ⟨b, 0, none⟩)] w fun x w' => x = .returned (.int .u8 (bv n)) ∧ INow w w' b bs k' bad' := by
  subst hn
  rcases H with ⟨rfl, hs, rfl, rfl, rfl⟩ | ⟨rfl, rfl, hb', h⟩
  · exact (byte_ok b bs k w hR hm hs).mono fun _ _ ⟨he, hu⟩ => ⟨he, inow_moved hR hs hu⟩
  · exact (byte_stop b bs k bad w hR bad' hb' h).mono fun _ _ ⟨he, hu⟩ => ⟨he, inow_stopped hR hu⟩
theorem i_string (most : Int) (hmost : -9223372036854775808 ≤ most ∧ most ≤ 9223372036854775807) (s : List (BitVec 8)) (H : StrH bs k bad most s k' bad') :
    Calls Try.prog 43 #[.pointer (some ⟨b, 0, none⟩), .int .i64 most] w fun x w' => ∃ v, x = .returned v ∧ OwnB w' w.heap.size v s ∧ INow w w' b bs k' bad' := by
  rcases H with ⟨rfl, j, hr, rfl, rfl⟩ | ⟨rfl, rfl, hb', h⟩
  · have := rs_end hr; have hk := hR.le
    exact (string_ok b bs k most w hR hm hmost s j hr).mono fun _ _ ⟨v, he, ho, hu⟩ => ⟨v, he, ho, inow_moved hR (by simp at this; omega) hu⟩
  · exact (string_stop b bs k bad most w hR hm hmost bad' hb' h).mono fun _ _ ⟨he, hu⟩ => ⟨_, he, OwnB.nil _ _, inow_stopped hR hu⟩
end

/-- Both readers, and what is kept. -/
structure Duo (w : World) (b q : Nat) (ao : Option Addr) (cap : Nat) (bs : List (BitVec 8)) (kb lo k bad kq bq : Nat) (lv : Value) (z : Nat) (xs : List Value) : Prop where
  rd : RdAt w b bs k bad
  far : ∀ ao' c, w.cell? ⟨b, 0, none⟩ = some (.slice ao' bs.length c) → ∀ g off, ao' = some ⟨g, off, none⟩ → bs ≠ [] → g ≠ q ∧ g < lo
  qd : QAt w q ao cap bs kq bq
  qfar : ∀ g off, ao = some ⟨g, off, none⟩ → bs ≠ [] → g ≠ b ∧ g < lo
  kept : Kept w kb lo lv z xs
  short : Short xs
  ne : b ≠ q
  bl : b < lo
  ql : q < lo
  size : lo ≤ w.heap.size
/-- All old memory but for two blocks is as it was. -/
structure Touch (b q lo : Nat) (w w' : World) : Prop where
  os : w'.os = w.os
  tape : w'.tape = w.tape
  output : w'.output = w.output
  size : w.heap.size ≤ w'.heap.size
  block : ∀ i, i < lo → i ≠ b → i ≠ q → w'.heap[i]? = w.heap[i]?
theorem Touch.trans {b q lo : Nat} {w w1 w2 : World} (h : Touch b q lo w w1) (k : Touch b q lo w1 w2) : Touch b q lo w w2 :=
  ⟨k.os.trans h.os, k.tape.trans h.tape, k.output.trans h.output, Nat.le_trans h.size k.size, fun i hi h1 h2 => (k.block i hi h1 h2).trans (h.block i hi h1 h2)⟩
theorem touch_but {b q lo : Nat} {w w' : World} (h : But b w w') (hl : lo ≤ w.heap.size) : Touch b q lo w w' := ⟨h.os, h.tape, h.output, h.size, fun i hi h1 _ => h.block i (by omega) h1⟩
theorem touch_but' {b q lo : Nat} {w w' : World} (h : But q w w') (hl : lo ≤ w.heap.size) : Touch b q lo w w' := ⟨h.os, h.tape, h.output, h.size, fun i hi _ h2 => h.block i (by omega) h2⟩
theorem touch_below {b q lo : Nat} {w w' : World} (h : Below lo w w') : Touch b q lo w w' := ⟨h.os, h.tape, h.output, h.size, fun i hi _ _ => h.block i hi⟩

section
variable {w w' : World} {b q : Nat} {ao : Option Addr} {cap : Nat} {bs : List (BitVec 8)} {kb lo k bad kq bq : Nat} {lv : Value} {z : Nat} {xs : List Value}
/-- Old blocks are as they were, and what is kept is. -/
theorem Duo.low (h : Duo w b q ao cap bs kb lo k bad kq bq lv z xs) (hb : Below lo w w') {lv' : Value} {z' : Nat} {xs' : List Value} (hk : Kept w' kb lo lv' z' xs') (hs : Short xs') : Duo w' b q ao cap bs kb lo k bad kq bq lv' z' xs' :=
  ⟨h.rd.congr (hb.block b h.bl) (fun ao' c hc g off e hn => hb.block g (h.far ao' c hc g off e hn).2), fun ao' c hc => h.far ao' c ((World.cell?_of_block (a := ⟨b, 0, none⟩) (hb.block b h.bl)).symm.trans hc),
    h.qd.congr (hb.block q h.ql) (fun g off e hn => hb.block g (h.qfar g off e hn).2), h.qfar, hk, hs, h.ne, h.bl, h.ql, Nat.le_trans h.size hb.size⟩
theorem Duo.on (h : Duo w b q ao cap bs kb lo k bad kq bq lv z xs) (hb : Below w.heap.size w w') : Duo w' b q ao cap bs kb lo k bad kq bq lv z xs :=
  h.low (hb.mono h.size) (h.kept.keep hb) h.short
/-- The program's reader has been called. -/
theorem Duo.imp (h : Duo w b q ao cap bs kb lo k bad kq bq lv z xs) {k' bad' : Nat} (hn : INow w w' b bs k' bad') : Duo w' b q ao cap bs kb lo k' bad' kq bq lv z xs :=
  ⟨hn.rd, fun ao' c hc => h.far ao' c (hn.same.symm.trans hc), h.qd.congr (hn.but.block q h.qd.lt h.ne.symm) (fun g off e hne => hn.but.block g (Nat.lt_of_lt_of_le (h.qfar g off e hne).2 h.size) (h.qfar g off e hne).1),
    h.qfar, h.kept.but hn.but h.bl, h.short, h.ne, h.bl, h.ql, Nat.le_trans h.size hn.but.size⟩
/-- The document's reader has been called. -/
theorem Duo.ref (h : Duo w b q ao cap bs kb lo k bad kq bq lv z xs) {k' bad' : Nat} (hn : QNow w w' q ao cap bs k' bad') : Duo w' b q ao cap bs kb lo k bad k' bad' lv z xs :=
  have hb := hn.but.block b h.rd.lt h.ne
  ⟨h.rd.congr hb (fun ao' c hc g off e hne => hn.but.block g (Nat.lt_of_lt_of_le (h.far ao' c hc g off e hne).2 h.size) (h.far ao' c hc g off e hne).1),
    fun ao' c hc => h.far ao' c ((World.cell?_of_block (a := ⟨b, 0, none⟩) hb).symm.trans hc), hn.at', h.qfar, h.kept.but hn.but h.ql, h.short, h.ne, h.bl, h.ql, Nat.le_trans h.size hn.but.size⟩
end
/-- What a call on both leaves. -/
def OneB (w : World) (b q : Nat) (ao : Option Addr) (cap : Nat) (bs : List (BitVec 8)) (kb lo : Nat) (e : Ending) (w' : World) : Prop :=
  e = .returned (.bool true) ∧ ∃ k' bad' lv' z' xs', Duo w' b q ao cap bs kb lo k' bad' k' bad' lv' z' xs' ∧ Touch b q lo w w'

theorem fixH_small32 {bs : List (BitVec 8)} {k bad k' bad' size : Nat} {v : BitVec 64} (h : FixH bs k bad size v k' bad') (hs : size ≤ 4) : (v.setWidth 32).setWidth 64 = v := by
  rcases h with ⟨_, _, rfl, _, _⟩ | ⟨rfl, _⟩
  · apply BitVec.eq_of_toNat_eq
    have h1 := leN_lt ((bs.drop k).take size)
    have h2 : 256 ^ ((bs.drop k).take size).length ≤ 256 ^ 4 := Nat.pow_le_pow_right (by decide) (by simp; omega)
    rw [BitVec.toNat_setWidth, BitVec.toNat_setWidth, leB_lt (by simp; omega)]
    omega
  · rfl
theorem fixH_small8 {bs : List (BitVec 8)} {k bad k' bad' size : Nat} {v : BitVec 64} (h : FixH bs k bad size v k' bad') (hs : size ≤ 1) : (v.setWidth 8).setWidth 64 = v := by
  rcases h with ⟨_, _, rfl, _, _⟩ | ⟨rfl, _⟩
  · apply BitVec.eq_of_toNat_eq
    have h1 := leN_lt ((bs.drop k).take size)
    have h2 : 256 ^ ((bs.drop k).take size).length ≤ 256 ^ 1 := Nat.pow_le_pow_right (by decide) (by simp; omega)
    rw [BitVec.toNat_setWidth, BitVec.toNat_setWidth, leB_lt (by simp; omega)]
    omega
  · rfl
theorem strH_len {bs s : List (BitVec 8)} {k bad k' bad' : Nat} {most : Int} (h : StrH bs k bad most s k' bad') (hm : bs.length ≤ 140737488355328) : s.length ≤ 140737488355328 := by
  rcases h with ⟨_, j, hr, _, _⟩ | ⟨rfl, _⟩
  · have := rs_len (bs.drop k) most (by simp; omega)
    rw [hr] at this; exact this
  · simp
set_option maxHeartbeats 1000000 in
set_option maxRecDepth 100000 in
theorem one_none (w : World) (b q : Nat) (ao : Option Addr) (cap : Nat) (bs : List (BitVec 8)) (kb lo k bad : Nat) (lv : Value) (z : Nat) (xs : List Value) (hD : Duo w b q ao cap bs kb lo k bad k bad lv z xs) (most : BitVec 64) (size : Int) (K : Int) (h1 : ¬ K = 1) (h2 : ¬ K = 2) (h3 : ¬ K = 3) (h4 : ¬ K = 4) (h5 : ¬ K = 5) (h6 : ¬ K = 6) : Calls Try.prog 34 #[.pointer (some ⟨b, 0, none⟩), .pointer (some ⟨q, 0, none⟩), .agg #[.int .i64 K, .int .u64 (bv most), .int .i64 size], .pointer (some ⟨kb, 0, none⟩)] w (OneB w b q ao cap bs kb lo) := by
  have HD := Lib.hid (hD.on (below_alloc w (.cells #[.int .i64 K, .int .u64 (bv most), .int .i64 size] 59)))
  have HT := Lib.hid (show Touch b q lo w (w.alloc (.cells #[.int .i64 K, .int .u64 (bv most), .int .i64 size] 59)) from touch_below ((below_alloc w _).mono hD.size))
  clear hD
  go_enter Try.func34, Try.ntmps34
  go_wp2_with fail
  go_ret
  exact ⟨rfl, k, bad, lv, z, xs, HD.out, HT.out⟩
section
variable (w : World) (b q : Nat) (ao : Option Addr) (cap : Nat) (bs : List (BitVec 8)) (kb lo k bad : Nat) (lv : Value) (z : Nat) (xs : List Value) (hD : Duo w b q ao cap bs kb lo k bad k bad lv z xs) (hm : bs.length ≤ 140737488355328) (most : BitVec 64) (size : Int)
include hD hm
set_option maxHeartbeats 1000000 in
set_option maxRecDepth 100000 in
theorem one_varint : Calls Try.prog 34 #[.pointer (some ⟨b, 0, none⟩), .pointer (some ⟨q, 0, none⟩), .agg #[.int .i64 1, .int .u64 (bv most), .int .i64 size], .pointer (some ⟨kb, 0, none⟩)] w (OneB w b q ao cap bs kb lo) := by
  have HD := Lib.hid (hD.on (below_alloc w (.cells #[.int .i64 1, .int .u64 (bv most), .int .i64 size] 59)))
  have HT := Lib.hid (show Touch b q lo w (w.alloc (.cells #[.int .i64 1, .int .u64 (bv most), .int .i64 size] 59)) from touch_below ((below_alloc w _).mono hD.size))
  have HBQ := Lib.hid (show b < w.heap.size ∧ q < w.heap.size from ⟨hD.rd.lt, hD.qd.lt⟩)
  have HC := Lib.hid (cell_of_row (w.alloc (.cells #[.int .i64 1, .int .u64 (bv most), .int .i64 size] 59)) _ 1 _ _ _ (heap_alloc_new w _))
  obtain ⟨v, k', bad', hv⟩ := varH_some bs k bad most
  have HV := Lib.hid hv
  clear hD hv
  go_enter Try.func34, Try.ntmps34
  go_wp2_with fail
  have kc : ∀ p : In (fun w' => w'.cell? ⟨w.heap.size, 1, none⟩ = some (.int .u64 (bv most))), p.w.cell? ⟨w.heap.size, 1, none⟩ = some (.int .u64 (bv most)) := fun p => p.h
  refine wp_region_mixed [0, 1, 2, 4, 5, 6, 3, 7, 8, 9] (fun w' => w'.cell? ⟨w.heap.size, 1, none⟩ = some (.int .u64 (bv most))) (by kernel_rfl) (by kernel_rfl) (by intro c a d v w h; cases d <;> exact h) HC.out ?_
  intro hne
  simp only [pick, List.map_cons, List.map_nil, List.getD_cons_zero, List.getD_cons_succ]
  refine wpMix_reads 6 _ (by kernel_rfl) ?_
  simp only [List.take_succ_cons, List.take_zero, List.drop_succ_cons, List.drop_zero]
  repeat (go_big_quiet_step (fail))
  refine wpQuiet_nil ?_
  have D1 := Lib.hid (HD.out.on (below_drew _))
  have T1 := Lib.hid (HT.out.trans (touch_below ((below_drew _).mono HD.out.size)))
  refine wpMix_act rfl ?_ rfl
  go_wp2_with fail
  refine (i_varint b bs k bad _ D1.out.rd hm k' bad' most v HV.out).mono ?_
  rintro x w2 ⟨rfl, hN⟩
  have D2 := Lib.hid (D1.out.imp hN)
  have T2 := Lib.hid (T1.out.trans (touch_but hN.but D1.out.size))
  have C2 := Lib.hid (hN.but.cell (show (World.drew _).cell? ⟨w.heap.size, 1, none⟩ = _ from HC.out) (show w.heap.size ≠ b by have := HBQ.out; omega))
  clear hN
  go_wp2_with fail
  refine ⟨⟨⟨_, C2.out⟩, rfl⟩, ?_⟩
  refine wpMix_act rfl ?_ rfl
  go_wp2_with fail
  refine (q_varint q ao cap bs k bad most _ D2.out.qd hm v k' bad' HV.out).mono ?_
  rintro x w3 ⟨rfl, hN⟩
  have D3 := Lib.hid (D2.out.ref hN)
  have T3 := Lib.hid (T2.out.trans (touch_but' hN.but D2.out.size))
  have C3 := Lib.hid (hN.but.cell C2.out (show w.heap.size ≠ q by have := HBQ.out; omega))
  clear hN
  go_wp2_with fail
  refine ⟨⟨⟨_, C3.out⟩, rfl⟩, ?_⟩
  refine wpMix_reads 2 _ (by kernel_rfl) ?_
  simp only [List.take_succ_cons, List.take_zero, List.drop_succ_cons, List.drop_zero]
  repeat (go_big_quiet_step (fail))
  refine wpQuiet_nil ?_
  refine wpMix_nil ?_
  clear hne kc
  go_wp2_with fail
  go_ret
  exact ⟨rfl, k', bad', lv, z, xs, D3.out, T3.out⟩
set_option maxHeartbeats 1000000 in
set_option maxRecDepth 100000 in
theorem one_signed : Calls Try.prog 34 #[.pointer (some ⟨b, 0, none⟩), .pointer (some ⟨q, 0, none⟩), .agg #[.int .i64 2, .int .u64 (bv most), .int .i64 size], .pointer (some ⟨kb, 0, none⟩)] w (OneB w b q ao cap bs kb lo) := by
  have HD := Lib.hid (hD.on (below_alloc w (.cells #[.int .i64 2, .int .u64 (bv most), .int .i64 size] 59)))
  have HT := Lib.hid (show Touch b q lo w (w.alloc (.cells #[.int .i64 2, .int .u64 (bv most), .int .i64 size] 59)) from touch_below ((below_alloc w _).mono hD.size))
  obtain ⟨v, k', bad', hv⟩ := varH_some bs k bad 18446744073709551615#64
  have HV := Lib.hid hv
  clear hv
  clear hD
  go_enter Try.func34, Try.ntmps34
  go_wp2_with fail
  refine (i_signed b bs k bad _ HD.out.rd hm k' bad' v HV.out).mono ?_
  rintro x w2 ⟨rfl, hN⟩
  have D2 := Lib.hid (HD.out.imp hN)
  have T2 := Lib.hid (HT.out.trans (touch_but hN.but HD.out.size))
  clear hN
  go_wp2_with fail
  refine (q_signed q ao cap bs k bad _ D2.out.qd hm v k' bad' HV.out).mono ?_
  rintro x w3 ⟨rfl, hN⟩
  have D3 := Lib.hid (D2.out.ref hN)
  have T3 := Lib.hid (T2.out.trans (touch_but' hN.but D2.out.size))
  clear hN
  go_wp2_with fail
  go_ret
  exact ⟨rfl, k', bad', lv, z, xs, D3.out, T3.out⟩
set_option maxHeartbeats 1000000 in
set_option maxRecDepth 100000 in
theorem one_fixed64 : Calls Try.prog 34 #[.pointer (some ⟨b, 0, none⟩), .pointer (some ⟨q, 0, none⟩), .agg #[.int .i64 4, .int .u64 (bv most), .int .i64 size], .pointer (some ⟨kb, 0, none⟩)] w (OneB w b q ao cap bs kb lo) := by
  have HD := Lib.hid (hD.on (below_alloc w (.cells #[.int .i64 4, .int .u64 (bv most), .int .i64 size] 59)))
  have HT := Lib.hid (show Touch b q lo w (w.alloc (.cells #[.int .i64 4, .int .u64 (bv most), .int .i64 size] 59)) from touch_below ((below_alloc w _).mono hD.size))
  obtain ⟨v, k', bad', hv⟩ := fixH_some bs k bad 8 hD.rd.le
  have HV := Lib.hid hv
  clear hv
  clear hD
  go_enter Try.func34, Try.ntmps34
  go_wp2_with fail
  refine (i_fixed64 b bs k bad _ HD.out.rd hm k' bad' v HV.out).mono ?_
  rintro x w2 ⟨rfl, hN⟩
  have D2 := Lib.hid (HD.out.imp hN)
  have T2 := Lib.hid (HT.out.trans (touch_but hN.but HD.out.size))
  clear hN
  go_wp2_with fail
  refine (q_fixed q ao cap bs k bad 8 _ D2.out.qd hm (by omega) (by omega) v k' bad' HV.out).mono ?_
  rintro x w3 ⟨rfl, hN⟩
  have D3 := Lib.hid (D2.out.ref hN)
  have T3 := Lib.hid (T2.out.trans (touch_but' hN.but D2.out.size))
  clear hN
  go_wp2_with fail
  go_ret
  exact ⟨rfl, k', bad', lv, z, xs, D3.out, T3.out⟩
set_option maxHeartbeats 1000000 in
set_option maxRecDepth 100000 in
theorem one_fixed32 : Calls Try.prog 34 #[.pointer (some ⟨b, 0, none⟩), .pointer (some ⟨q, 0, none⟩), .agg #[.int .i64 3, .int .u64 (bv most), .int .i64 size], .pointer (some ⟨kb, 0, none⟩)] w (OneB w b q ao cap bs kb lo) := by
  have HD := Lib.hid (hD.on (below_alloc w (.cells #[.int .i64 3, .int .u64 (bv most), .int .i64 size] 59)))
  have HT := Lib.hid (show Touch b q lo w (w.alloc (.cells #[.int .i64 3, .int .u64 (bv most), .int .i64 size] 59)) from touch_below ((below_alloc w _).mono hD.size))
  obtain ⟨v, k', bad', hv⟩ := fixH_some bs k bad 4 hD.rd.le
  obtain ⟨n, hn⟩ : ∃ n : BitVec 32, v = n.setWidth 64 := ⟨v.setWidth 32, (fixH_small32 hv (by omega)).symm⟩
  subst hn
  have HV := Lib.hid hv
  have HW := Lib.hid (show (n.setWidth 64).setWidth 32 = n from by simp)
  clear hv
  clear hD
  go_enter Try.func34, Try.ntmps34
  go_wp2_with fail
  refine (i_fixed32 b bs k bad _ HD.out.rd hm k' bad' (n.setWidth 64) n HW.out HV.out).mono ?_
  rintro x w2 ⟨rfl, hN⟩
  have D2 := Lib.hid (HD.out.imp hN)
  have T2 := Lib.hid (HT.out.trans (touch_but hN.but HD.out.size))
  clear hN
  go_wp2_with fail
  refine (q_fixed q ao cap bs k bad 4 _ D2.out.qd hm (by omega) (by omega) (n.setWidth 64) k' bad' HV.out).mono ?_
  rintro x w3 ⟨rfl, hN⟩
  have D3 := Lib.hid (D2.out.ref hN)
  have T3 := Lib.hid (T2.out.trans (touch_but' hN.but D2.out.size))
  clear hN
  go_wp2_with fail
  go_ret
  exact ⟨rfl, k', bad', lv, z, xs, D3.out, T3.out⟩
set_option maxHeartbeats 1000000 in
set_option maxRecDepth 100000 in
theorem one_byte : Calls Try.prog 34 #[.pointer (some ⟨b, 0, none⟩), .pointer (some ⟨q, 0, none⟩), .agg #[.int .i64 6, .int .u64 (bv most), .int .i64 size], .pointer (some ⟨kb, 0, none⟩)] w (OneB w b q ao cap bs kb lo) := by
  have HD := Lib.hid (hD.on (below_alloc w (.cells #[.int .i64 6, .int .u64 (bv most), .int .i64 size] 59)))
  have HT := Lib.hid (show Touch b q lo w (w.alloc (.cells #[.int .i64 6, .int .u64 (bv most), .int .i64 size] 59)) from touch_below ((below_alloc w _).mono hD.size))
  obtain ⟨v, k', bad', hv⟩ := fixH_some bs k bad 1 hD.rd.le
  obtain ⟨n, hn⟩ : ∃ n : BitVec 8, v = n.setWidth 64 := ⟨v.setWidth 8, (fixH_small8 hv (by omega)).symm⟩
  subst hn
  have HV := Lib.hid hv
  have HW := Lib.hid (show (n.setWidth 64).setWidth 8 = n from by simp)
  clear hv
  clear hD
  go_enter Try.func34, Try.ntmps34
  go_wp2_with fail
  refine (i_byte b bs k bad _ HD.out.rd hm k' bad' (n.setWidth 64) n HW.out HV.out).mono ?_
  rintro x w2 ⟨rfl, hN⟩
  have D2 := Lib.hid (HD.out.imp hN)
  have T2 := Lib.hid (HT.out.trans (touch_but hN.but HD.out.size))
  clear hN
  go_wp2_with fail
  refine (q_fixed q ao cap bs k bad 1 _ D2.out.qd hm (by omega) (by omega) (n.setWidth 64) k' bad' HV.out).mono ?_
  rintro x w3 ⟨rfl, hN⟩
  have D3 := Lib.hid (D2.out.ref hN)
  have T3 := Lib.hid (T2.out.trans (touch_but' hN.but D2.out.size))
  clear hN
  go_wp2_with fail
  go_ret
  exact ⟨rfl, k', bad', lv, z, xs, D3.out, T3.out⟩
set_option maxHeartbeats 1000000 in
set_option maxRecDepth 100000 in
theorem one_string (hz : -9223372036854775808 ≤ size ∧ size ≤ 9223372036854775807) : Calls Try.prog 34 #[.pointer (some ⟨b, 0, none⟩), .pointer (some ⟨q, 0, none⟩), .agg #[.int .i64 5, .int .u64 (bv most), .int .i64 size], .pointer (some ⟨kb, 0, none⟩)] w (OneB w b q ao cap bs kb lo) := by
  have HD := Lib.hid (hD.on (below_alloc w (.cells #[.int .i64 5, .int .u64 (bv most), .int .i64 size] 59)))
  have HT := Lib.hid (show Touch b q lo w (w.alloc (.cells #[.int .i64 5, .int .u64 (bv most), .int .i64 size] 59)) from touch_below ((below_alloc w _).mono hD.size))
  have HBQ := Lib.hid (show b < w.heap.size ∧ q < w.heap.size from ⟨hD.rd.lt, hD.qd.lt⟩)
  have HC := Lib.hid (cell_of_row (w.alloc (.cells #[.int .i64 5, .int .u64 (bv most), .int .i64 size] 59)) _ 2 _ _ _ (heap_alloc_new w _))
  obtain ⟨s, k', bad', hv⟩ := strH_some bs k bad size
  have HV := Lib.hid hv
  have HZ := Lib.hid hz
  have HSL := Lib.hid (strH_len hv hm)
  have HK0 := Lib.hid (heap_lt hD.kept.box)
  have HL0 := Lib.hid hD.kept.list
  clear hD hv hz
  go_enter Try.func34, Try.ntmps34
  go_wp2_with fail
  refine (i_string b bs k bad _ HD.out.rd hm k' bad' size HZ.out s HV.out).mono ?_
  rintro x w2 ⟨v, rfl, hO, hN⟩
  have D2 := Lib.hid (HD.out.imp hN)
  have T2 := Lib.hid (HT.out.trans (touch_but hN.but HD.out.size))
  have C2 := Lib.hid (hN.but.cell HC.out (show w.heap.size ≠ b by have := HBQ.out; omega))
  have hNE : ∀ y ∈ xs, ∀ g, v.ownBlock = some g → y.ownBlock ≠ some g := fun y hy g hg e => by
    obtain ⟨⟨_, ho⟩, _⟩ := HD.out.kept.elem y hy
    obtain ⟨_, _, hc⟩ := rows_blk ho e
    have h1 := heap_lt hc
    have h2 := (rows_blk hO hg).1
    omega
  have NE := Lib.hid hNE
  have O2 := Lib.hid (hO.base HD.out.size)
  obtain ⟨a2, c2, hv2, -, -, -, -, -⟩ := hO.slice
  subst hv2
  have S2 := Lib.hid (show w.heap.size + 1 ≤ w2.heap.size from by have := hN.but.size; simpa using this)
  clear hN hO hNE
  go_wp2_with fail
  have hbA : Below w2.heap.size w2 (w2.alloc (.cells #[.slice a2 s.length c2] 25 (0, 0))) := below_alloc _ _
  have D3 := Lib.hid (D2.out.on hbA)
  have T3 := Lib.hid (T2.out.trans (touch_below (hbA.mono D2.out.size)))
  have C3 := Lib.hid (cell_keep hbA C2.out)
  have O3 := Lib.hid (O2.out.keep hbA)
  have NW := Lib.hid (news_one w2 (.slice a2 s.length c2) 25 (0, 0))
  have KB := Lib.hid (show kb ≠ w2.heap.size by have := heap_lt D2.out.kept.box; omega)
  have KL := Lib.hid (show lv.ownBlock ≠ some w2.heap.size from fun e => by obtain ⟨_, _, hc⟩ := rows_blk D2.out.kept.list e; have := heap_lt hc; omega)
  have LO := Lib.hid (show lv.ownBlock ≠ some w.heap.size from fun e => by
    obtain ⟨_, _, hc⟩ := rows_blk HL0.out e
    have := heap_lt hc
    omega)
  have KO := Lib.hid (show w.heap.size ≠ kb by have := HK0.out; omega)
  clear hbA
  refine (keep kb lo w2.heap.size 1 lv z xs [.slice a2 s.length c2] _ D3.out.kept ⟨fun j v _ hv => by have := NW.out j v hv; rwa [Addr.add_mid, Nat.zero_add] at this, fun j v _ hv => ?_, fun j v _ hv g hg x hx => ?_, fun i j x y hij hx hy => ?_⟩ KB.out KL.out (by simp) D3.out.size D3.out.short).mono ?_
  · have hv := List.mem_of_getElem? hv
    obtain rfl := List.mem_singleton.1 hv
    exact ⟨s, O3.out, by have := HSL.out; omega⟩
  · have hv := List.mem_of_getElem? hv
    obtain rfl := List.mem_singleton.1 hv
    exact NE.out x hx g hg
  · have h1 := (List.getElem?_eq_some_iff.1 hy).1
    simp at h1
    omega
  rintro e w4 ⟨rfl, lv', z', xs', hK, hB, hP, hF, hS⟩
  have D4 := Lib.hid (D3.out.low hB hK hS)
  have T4 := Lib.hid (T3.out.trans (touch_below hB))
  have O4 := Lib.hid (hP _ _ O3.out)
  have C4 := Lib.hid ((World.cell?_of_block (a := ⟨w.heap.size, 2, none⟩) (hF w.heap.size (by have := S2.out; simp; omega) KO.out LO.out)).trans C3.out)
  obtain ⟨a4, c4, hv4, x4, -, -, -, g4⟩ := O4.out.slice
  injection hv4 with e1 e2 e3
  subst e1 e3
  have X4 := Lib.hid x4
  have G4 := Lib.hid g4
  clear hK hB hP hF hS e2 x4 g4
  have kc := C4.out
  go_wp2_with fail
  refine (q_string q ao cap bs k bad size _ D4.out.qd hm HZ.out s k' bad' HV.out).mono ?_
  rintro x w5 ⟨v5, rfl, hO, hN⟩
  have D5 := Lib.hid (D4.out.ref hN)
  have T5 := Lib.hid (T4.out.trans (touch_but' hN.but D4.out.size))
  obtain ⟨a5, c5, rfl, x5, -, -, -, -⟩ := hO.slice
  have X5 := Lib.hid x5
  have Y5 := Lib.hid (hN.but.bytes X4.out (fun g off e h => by have := (G4.out g off e).1; have := D4.out.ql; omega))
  clear hN hO x5 kc
  go_wp2_with fail
  refine (eq_bytes_of a2 a5 s s _ _ c2 c5 true _ Y5.out X5.out rfl rfl HSL.out (decide_eq_true rfl)).mono ?_
  rintro x w6 ⟨rfl, n6, hw6⟩
  have hb6 : Below w5.heap.size w5 w6 := by rw [hw6]; exact below_drewN _ _
  have D6 := Lib.hid (D5.out.on hb6)
  have T6 := Lib.hid (T5.out.trans (touch_below (hb6.mono D5.out.size)))
  clear hw6 hb6
  go_wp2_with fail
  go_ret
  exact ⟨rfl, k', bad', lv', z', xs', D6.out, T6.out⟩
theorem one_any (K : Int) (hz : -9223372036854775808 ≤ size ∧ size ≤ 9223372036854775807) : Calls Try.prog 34 #[.pointer (some ⟨b, 0, none⟩), .pointer (some ⟨q, 0, none⟩), .agg #[.int .i64 K, .int .u64 (bv most), .int .i64 size], .pointer (some ⟨kb, 0, none⟩)] w (OneB w b q ao cap bs kb lo) := by
  by_cases h1 : K = 1
  · subst h1; exact one_varint w b q ao cap bs kb lo k bad lv z xs hD hm most size
  by_cases h2 : K = 2
  · subst h2; exact one_signed w b q ao cap bs kb lo k bad lv z xs hD hm most size
  by_cases h3 : K = 3
  · subst h3; exact one_fixed32 w b q ao cap bs kb lo k bad lv z xs hD hm most size
  by_cases h4 : K = 4
  · subst h4; exact one_fixed64 w b q ao cap bs kb lo k bad lv z xs hD hm most size
  by_cases h5 : K = 5
  · subst h5; exact one_string w b q ao cap bs kb lo k bad lv z xs hD hm most size hz
  by_cases h6 : K = 6
  · subst h6; exact one_byte w b q ao cap bs kb lo k bad lv z xs hD hm most size
  exact one_none w b q ao cap bs kb lo k bad lv z xs hD most size K h1 h2 h3 h4 h5 h6
end
end Go.Proofs.Ytggbhakkgbfneaa

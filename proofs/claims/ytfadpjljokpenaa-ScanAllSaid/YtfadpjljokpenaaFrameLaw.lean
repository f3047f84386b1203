/- The walks of Size, of flumelaw6's Eq and begun. -/
import Derived.Test.YtfadpjljokpenaaFrameReadHead
namespace Go.Proofs.Ytfadpjljokpenaa
open Go.RowKit

/-- A frame's size, or 0. -/
def sizeI (n : Int) : Int := if n < 0 ∨ 4096 < n then 0 else 16 + n
set_option maxRecDepth 100000 in
theorem frame_size (n : Int) (w : World) :
    Calls Try.prog 16 #[.int .i64 n] w fun e w' => e = .returned (.int .i64 (sizeI n)) ∧ w = w' := by
  by_cases h1 : n < 0
  · have E : sizeI n = 0 := by unfold sizeI; rw [if_pos (.inl h1)]
    rw [E]
    go_enter Try.func16, Try.ntmps16
    go_wp2_with fail
    go_ret
    exact ⟨rfl, rfl⟩
  by_cases h2 : 4096 < n
  · have E : sizeI n = 0 := by unfold sizeI; rw [if_pos (.inr h2)]
    rw [E]
    go_enter Try.func16, Try.ntmps16
    go_wp2_with fail
    go_ret
    exact ⟨rfl, rfl⟩
  · have E : sizeI n = 16 + n := by unfold sizeI; rw [if_neg (by omega)]
    rw [E]
    clear E
    go_enter Try.func16, Try.ntmps16
    go_wp2_with fail
    go_ret
    exact ⟨rfl, rfl⟩
set_option maxRecDepth 100000 in
theorem ref_size (n : Int) (w : World) :
    Calls Try.prog 17 #[.int .i64 n] w fun e w' => e = .returned (.int .i64 (sizeI n)) ∧ w = w' := by
  by_cases h1 : n < 0
  · have E : sizeI n = 0 := by unfold sizeI; rw [if_pos (.inl h1)]
    rw [E]
    go_enter Try.func17, Try.ntmps17
    go_wp2_with fail
    go_ret
    exact ⟨rfl, rfl⟩
  by_cases h2 : 4096 < n
  · have E : sizeI n = 0 := by unfold sizeI; rw [if_pos (.inr h2)]
    rw [E]
    go_enter Try.func17, Try.ntmps17
    go_wp2_with fail
    go_ret
    exact ⟨rfl, rfl⟩
  · have E : sizeI n = 16 + n := by unfold sizeI; rw [if_neg (by omega)]
    rw [E]
    clear E
    go_enter Try.func17, Try.ntmps17
    go_wp2_with fail
    go_ret
    exact ⟨rfl, rfl⟩

set_option maxRecDepth 100000 in
/-- Two records that are the same. -/
theorem rec_same (x : Int) (a b : Option Addr) (xs : List (BitVec 8)) (n ca cb : Nat) (w : World) (ha : BytesAt w a xs) (hb : BytesAt w b xs) (hn : xs.length = n) (hm : xs.length ≤ 140737488355328) :
    Calls Try.prog 27 #[.agg #[.int .i64 x, .slice a n ca], .agg #[.int .i64 x, .slice b n cb]] w fun e w' => e = .returned (.bool true) ∧ Below w.heap.size w w' := by
  have s1 : (w.alloc (.cells #[.int .i64 x, .slice a n ca] 34)).heap.size = w.heap.size + 1 := by show (w.heap.push _).size = _; rw [Array.size_push]
  have b2 := below_alloc (w.alloc (.cells #[.int .i64 x, .slice a n ca] 34)) (.cells #[.int .i64 x, .slice b n cb] 34)
  have h1 := heap_alloc_new w (.cells #[.int .i64 x, .slice a n ca] 34)
  have h2 := heap_alloc_new (w.alloc (.cells #[.int .i64 x, .slice a n ca] 34)) (.cells #[.int .i64 x, .slice b n cb] 34)
  rw [s1] at h2
  have c0 := cell_keep b2 (cell_of_row _ _ 0 _ _ _ h1)
  have c1 := cell_keep b2 (cell_of_row _ _ 1 _ _ _ h1)
  have d0 := cell_of_row _ _ 0 _ _ _ h2
  have d1 := cell_of_row _ _ 1 _ _ _ h2
  have B := Lib.hid (below_trans (below_alloc w (.cells #[.int .i64 x, .slice a n ca] 34)) b2)
  have HA := Lib.hid (ha.below B.out)
  have HB := Lib.hid (hb.below B.out)
  have HN := Lib.hid hn
  clear ha hb hn s1 b2 h1 h2
  go_enter Try.func27, Try.ntmps27
  go_wp2_with fail
  refine (eq_bytes_of a b xs xs n n ca cb true _ HA.out HB.out HN.out HN.out (by have := HN.out; omega) (decide_eq_true rfl)).mono ?_
  rintro e w3 ⟨rfl, n3, hw3⟩
  have B3 := Lib.hid (show Below w.heap.size w w3 by rw [hw3]; exact below_trans B.out (below_drewN _ _))
  clear hw3 HA HB
  go_wp2_with fail
  go_ret
  exact ⟨rfl, B3.out⟩

theorem frame_write_x (s : Int) (seed : BitVec 32) (lsn : Int) (ao : Option Addr) (data : List (BitVec 8)) (n cap : Nat) (w : World) (hs : s = bv seed) (hb : BytesAt w ao data) (hl : data.length = n) (hn : ao = none → cap = 0) (hr : -9223372036854775808 ≤ lsn ∧ lsn ≤ 9223372036854775807) (hm : n ≤ 140737488355328)
    (bytes : List (BitVec 8)) (sum : BitVec 32) (err : Nat) (h : wF seed lsn data = (bytes, sum, err)) :
    Calls Try.prog 19 #[.int .u32 s, .int .i64 lsn, .slice ao n cap] w (WriteB w bytes sum err) := by
  subst hs hl; exact frame_write seed lsn ao data cap w hb hn hr hm bytes sum err h
theorem frame_read_x (s : Int) (seed : BitVec 32) (ao : Option Addr) (bs : List (BitVec 8)) (n cap : Nat) (w : World) (hs : s = bv seed) (hb : BytesAt w ao bs) (hl : bs.length = n) (hn : ao = none → cap = 0) (hc : n ≤ cap) (hm : cap ≤ 9223372036854775807) (r : Rd) (h : rF seed bs = r) :
    Calls Try.prog 25 #[.int .u32 s, .slice ao n cap] w (ReadB w r) := by
  subst hs hl h; exact frame_read seed ao bs cap w hb hn hc hm
theorem write_head_x (num base s : Int) (seed : BitVec 32) (w : World) (hs : s = bv seed) (h1 : -9223372036854775808 ≤ num ∧ num ≤ 9223372036854775807) (h2 : -9223372036854775808 ≤ base ∧ base ≤ 9223372036854775807) (bytes : List (BitVec 8)) (sum : BitVec 32) (err : Nat) (he : wH ⟨num, base, seed⟩ = (bytes, sum, err)) :
    Calls Try.prog 28 #[.agg #[.int .i64 num, .int .i64 base, .int .u32 s]] w (WriteB w bytes sum err) := by
  subst hs; exact write_head ⟨num, base, seed⟩ ⟨h1, h2⟩ w bytes sum err he
theorem read_head_x (ao : Option Addr) (bs : List (BitVec 8)) (n cap : Nat) (w : World) (hb : BytesAt w ao bs) (hl : bs.length = n) (hc : n ≤ cap) (hm : cap ≤ 9223372036854775807) (r : Hd) (h : rH bs = r) :
    Calls Try.prog 30 #[.slice ao n cap] w (ReadHeadB w r) := by
  subst hl h; exact frame_read_head ao bs cap w hb hc hm

/-- What is made has no more room than the machine lends. -/
theorem cap_of_own {w : World} {base : Nat} {a : Option Addr} {n c : Nat} {bs : List (BitVec 8)} (h : OwnB w base (.slice a n c) bs) : c ≤ maxLen := by
  obtain ⟨ao, cap, hv, -, -, hm, -, -⟩ := h.shape
  injection hv with _ _ e
  subst e; exact hm
end Go.Proofs.Ytfadpjljokpenaa

/-! The walk of flumelaw6's begun. -/
namespace Go.Proofs.Ytfadpjljokpenaa
open Go.RowKit

theorem zeros_made (w : World) (size : Nat) (hs : size ≤ 4096) : OwnB (w.alloc (.cells (madeCells #[.int .u8 0] size) 5)) w.heap.size (.slice (some ⟨w.heap.size, 0, none⟩) size size) (List.replicate size 0#8) := by
  have h := World.ownsRow_lit (base := w.heap.size) (e := 5) (size := 1) w (madeCells #[.int .u8 0] size) size (Nat.le_refl _) (by simp only [maxLen]; omega) (by simp [madeCells])
  rw [toList_madeCells_one] at h
  unfold OwnB
  rw [List.length_replicate, show bvals (List.replicate size 0#8) = List.replicate size (.int .u8 0) from by simp [bvals, bval, bv]]
  exact h
theorem rF_zeros : rF 0#32 (List.replicate 16 0#8) = Rd.bad 4 := by
  unfold rF
  rw [if_neg (by decide), if_neg (by decide), if_pos (by decide)]
theorem wF_one : wF 0#32 1 [] = (frameF 0#32 1#64 [], sumF 0#32 1#64 [], 0) := by
  unfold wF
  rw [if_neg (by decide), if_neg (by decide)]; rfl
theorem wH_one : wH ⟨1, 5, 0#32⟩ = (headH 1#64 5#64 0#32, Crc.sum (bareH 1#64 5#64 0#32), 0) := by
  unfold wH
  rw [if_neg (by decide)]; rfl
theorem rH_one : rH (headH 1#64 5#64 0#32) = ⟨1#64, 5#64, 0#32, Crc.sum (bareH 1#64 5#64 0#32), 0⟩ := by
  have h := rH_front 1#64 5#64 0#32 [] (by decide) (by decide)
  rwa [List.append_nil] at h

set_option maxHeartbeats 1000000 in
set_option maxRecDepth 100000 in
theorem frame_begun (w : World) :
    Calls Try.prog 15 #[] w fun e w' => e = .returned (.bool true) ∧ Below w.heap.size w w' := by
  obtain ⟨i0, hi, hz0, hz1, hz2⟩ := info_parts Try.infoByte
  have hmk : ∀ u : World, (Instr.makeSlice 31 (.int .i64 16) (.int .i64 16)).run Try.prog u =
      .ok (.slice (some ⟨u.heap.size, 0, none⟩) 16 16) (u.alloc (.cells (madeCells #[.int .u8 0] 16) 5)) := fun u => by
    have h := run_make (P := Try.prog) u 31 5 i0 (.int .u8 0) Try.underlying31 hi hz0 .i64 .i64 (16 : Int) (16 : Int) (by omega) (Int.le_refl _) (by rw [hz2]; omega) (by omega)
    simpa [hz1, Value.cells] using h
  clear hi hz0 hz1 hz2
  go_enter Try.func15, Try.ntmps15
  go_wp2_with fail
  refine (frame_write_x _ 0#32 1 none [] 0 0 _ (by first | rfl | simp) (fun i hi => by simp at hi) rfl (fun _ => rfl) (by decide) (by decide) _ _ _ wF_one).mono ?_
  rintro e w1 ⟨v1, rfl, hO, hb⟩
  obtain ⟨a1, c1, rfl, x1, n1, -, -, -⟩ := hO.slice
  have B1 := Lib.hid hb
  have L1 := Lib.hid (show (frameF 0#32 1#64 []).length = 16 from frameF_len _ _ _)
  clear hO hb x1 n1
  go_wp2_with fail
  have Z := Lib.hid (zeros_made w1 16 (by omega))
  obtain ⟨a2, c2, hv2, x2, -, -, -, -⟩ := Z.out.slice
  injection hv2 with e1 e0 e2
  clear e0
  subst e1 e2
  have B2 := Lib.hid (below_trans B1.out (below_alloc w1 (.cells (madeCells #[.int .u8 0] 16) 5)))
  refine (frame_read_x _ 0#32 _ (List.replicate 16 0#8) 16 16 _ (by first | rfl | simp) x2 rfl (fun h => by cases h) (by decide) (by decide) _ rF_zeros).mono ?_
  rintro e w3 ⟨v3, he, hO, hb⟩
  obtain ⟨a3, c3, rfl, -, -, -, -, -⟩ := hO.slice
  obtain rfl : e = .returned (.tuple #[.agg #[.int .i64 0, .slice a3 0 c3], .int .i64 0, .int .u32 0, .int .i64 4]) := he
  have B3 := Lib.hid (below_trans (below_trans B2.out hb) (below_alloc w3 (.cells #[.int .i64 0, .slice a3 0 c3] 34)))
  clear hO hb x2 Z hmk
  go_wp2_with fail
  refine (write_head_x 1 5 _ 0#32 _ (by first | rfl | simp) (by decide) (by decide) _ _ _ wH_one).mono ?_
  rintro e w4 ⟨v4, rfl, hO, hb⟩
  obtain ⟨a4, c4, rfl, x4, -, l4, m4, -⟩ := hO.slice
  have B4 := Lib.hid (below_trans B3.out hb)
  have X4 := Lib.hid x4
  have L4 := Lib.hid (headH_len 1#64 5#64 0#32)
  have M4 := Lib.hid (show (headH 1#64 5#64 0#32).length ≤ c4 ∧ c4 ≤ 9223372036854775807 from ⟨l4, m4⟩)
  clear hO hb x4 l4 m4
  go_wp2_with fail
  refine (read_head_x a4 _ _ c4 _ X4.out rfl M4.out.1 M4.out.2 _ rH_one).mono ?_
  rintro e w5 ⟨he, hb⟩
  obtain ⟨cs, hcs⟩ : ∃ cs, Crc.sum (bareH 1#64 5#64 0#32) = cs := ⟨_, rfl⟩
  rw [hcs] at he
  obtain rfl : e = .returned (.tuple #[.agg #[.int .i64 1, .int .i64 5, .int .u32 0], .int .u32 (bv cs), .int .i64 0]) := he
  have B5 := Lib.hid (below_trans (below_trans B4.out hb) (below_alloc w5 (.cells #[.int .i64 1, .int .i64 5, .int .u32 0] 50)))
  clear hb
  have l1 := L1.out
  have l4 := L4.out
  go_wp2_with fail
  refine (frame_size 4096 _).mono ?_
  rintro e w6 ⟨rfl, rfl⟩
  rw [show sizeI 4096 = 4112 from rfl]
  go_wp2_with fail
  go_ret
  exact ⟨rfl, B5.out⟩
end Go.Proofs.Ytfadpjljokpenaa

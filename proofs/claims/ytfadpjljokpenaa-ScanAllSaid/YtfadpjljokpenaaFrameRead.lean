/- The walks of the reading of frames, the program's and the document's. -/
import Derived.Test.YtfadpjljokpenaaFixedOwn
import Derived.Test.YtfadpjljokpenaaRefReader
import Derived.Test.YtfadpjljokpenaaKept
namespace Go.Proofs.Ytfadpjljokpenaa
open Go.RowKit

theorem new_reader_n (ao : Option Addr) (bs : List (BitVec 8)) (n ca : Nat) (w : World) (hb : BytesAt w ao bs) (hl : bs.length = n) (hn : ao = none → ca = 0) (hm : n ≤ 70368744177664) :
    Calls Try.prog 52 #[.slice ao n ca] w fun e w' => ∃ b, e = .returned (.pointer (some ⟨b, 0, none⟩)) ∧ w.heap.size ≤ b ∧ RdAt w' b bs 0 0 ∧ Below w.heap.size w w' := by
  subst hl; exact new_reader ao bs ca w hb hn hm

/-- A number has been read. -/
structure NumAt (w w' : World) (b : Nat) (bs : List (BitVec 8)) (k : Nat) : Prop where
  rd : RdAt w' b bs k 0
  but : But b w w'
theorem num_at {w w1 : World} {b k : Nat} {bs : List (BitVec 8)} {o : Obj} (hR : RdAt w b bs k 0) (hs : k + 8 ≤ bs.length) (hu : Upd b 1 (.int .i64 (k + 8 : Nat)) (w.alloc o) w1) : NumAt w w1 b bs (k + 8) :=
  ⟨(hR.on (below_alloc w o)).moved (k + 8) hs hu, ((But.refl b w).of_below (below_alloc w o)).trans hu.but⟩
set_option maxHeartbeats 1000000 in
set_option maxRecDepth 100000 in
theorem frame_number_ok (b : Nat) (bs : List (BitVec 8)) (k : Nat) (w : World) (hR : RdAt w b bs k 0) (hm : bs.length ≤ 140737488355328) (hs : k + 8 ≤ bs.length) (most : Int) (h0 : 0 ≤ most) (hmo : most ≤ 9223372036854775807) (n : BitVec 64) (hn : leB ((bs.drop k).take 8) = n) (h1 : 1 ≤ bv n) (h2 : bv n ≤ most) :
    Calls Try.prog 68 #[.agg #[.pointer (some ⟨b, 0, none⟩)], .int .i64 most] w fun x w' => x = .returned (.tuple #[.int .i64 (bv n), .bool true]) ∧ NumAt w w' b bs (k + 8) := by
  have HR := Lib.hid hR
  have HM := Lib.hid hm
  have HS := Lib.hid hs
  have HN := Lib.hid hn
  have c0 : (w.alloc (.cells #[.pointer (some ⟨b, 0, none⟩)] 107)).cell? ⟨w.heap.size, 0, none⟩ = some (.pointer (some ⟨b, 0, none⟩)) := cell_of_row _ _ 0 _ _ _ (heap_alloc_new w _)
  have w1 : IntKind.i64.wrap (bv n) = bv n := by rw [IntKind.wrap_i64]; omega
  have w2 : IntKind.u64.wrap most = most := by rw [IntKind.wrap_u64]; omega
  have t1 : decide (1 ≤ bv n) = true := decide_eq_true h1
  have t2 : decide (bv n ≤ most) = true := decide_eq_true h2
  clear hR hm hs hn
  go_enter Try.func68, Try.ntmps68
  go_wp2_with fail
  refine (fixed64_ok b bs k _ (HR.out.on (below_alloc _ _)) HM.out HS.out).mono ?_
  rintro x w3 ⟨rfl, hu⟩
  have HQ := Lib.hid (num_at HR.out HS.out hu)
  rw [HN.out]
  clear hu c0
  go_wp2_with fail
  go_ret2
  exact ⟨rfl, HQ.out⟩
set_option maxHeartbeats 1000000 in
set_option maxRecDepth 100000 in
theorem frame_number_bad (b : Nat) (bs : List (BitVec 8)) (k : Nat) (w : World) (hR : RdAt w b bs k 0) (hm : bs.length ≤ 140737488355328) (hs : k + 8 ≤ bs.length) (most : Int) (h0 : 0 ≤ most) (hmo : most ≤ 9223372036854775807) (n : BitVec 64) (hn : leB ((bs.drop k).take 8) = n) (h1 : bv n < 1 ∨ most < bv n) :
    Calls Try.prog 68 #[.agg #[.pointer (some ⟨b, 0, none⟩)], .int .i64 most] w fun x w' => ∃ z, x = .returned (.tuple #[.int .i64 z, .bool false]) ∧ NumAt w w' b bs (k + 8) := by
  have HR := Lib.hid hR
  have HM := Lib.hid hm
  have HS := Lib.hid hs
  have HN := Lib.hid hn
  have c0 : (w.alloc (.cells #[.pointer (some ⟨b, 0, none⟩)] 107)).cell? ⟨w.heap.size, 0, none⟩ = some (.pointer (some ⟨b, 0, none⟩)) := cell_of_row _ _ 0 _ _ _ (heap_alloc_new w _)
  have w2 : IntKind.u64.wrap most = most := by rw [IntKind.wrap_u64]; omega
  clear hR hm hs hn
  by_cases h3 : bv n < 1
  · have t1 : decide (1 ≤ bv n) = false := decide_eq_false (by omega)
    clear h1 h3
    go_enter Try.func68, Try.ntmps68
    go_wp2_with fail
    refine (fixed64_ok b bs k _ (HR.out.on (below_alloc _ _)) HM.out HS.out).mono ?_
    rintro x w3 ⟨rfl, hu⟩
    have HQ := Lib.hid (num_at HR.out HS.out hu)
    rw [HN.out]
    clear hu c0
    go_wp2_with fail
    go_ret2
    exact ⟨_, rfl, HQ.out⟩
  · have t1 : decide (1 ≤ bv n) = true := decide_eq_true (by omega)
    have t2 : decide (bv n ≤ most) = false := decide_eq_false (by omega)
    clear h1 h3
    go_enter Try.func68, Try.ntmps68
    go_wp2_with fail
    refine (fixed64_ok b bs k _ (HR.out.on (below_alloc _ _)) HM.out HS.out).mono ?_
    rintro x w3 ⟨rfl, hu⟩
    have HQ := Lib.hid (num_at HR.out HS.out hu)
    rw [HN.out]
    clear hu c0
    go_wp2_with fail
    go_ret2
    exact ⟨_, rfl, HQ.out⟩
/-- What reading a frame answers, as values. -/
def ReadB (w : World) (r : Rd) (e : Ending) (w' : World) : Prop :=
  ∃ v, e = .returned (.tuple #[.agg #[.int .i64 (bv r.lsn), v], .int .i64 r.n, .int .u32 (bv r.sum), .int .i64 r.err]) ∧ OwnB w' w.heap.size v r.data ∧ Below w.heap.size w w'

theorem results_rec3 {fn : Func} {p t u v : Tmp} (h : fn.results = #[.cell p 34, .tmp t, .tmp u, .tmp v]) (tmps : Array Value) (w : World) (b : Nat) (x y : Value)
    (hp : tmps.getD p undef = .pointer (some ⟨b, 0, none⟩)) (c0 : w.cell? ⟨b, 0, none⟩ = some x) (c1 : w.cell? ⟨b, 1, none⟩ = some y) :
    (results fn tmps).run Try.prog w = .ok (.tuple #[.agg #[x, y], tmps.getD t undef, tmps.getD u undef, tmps.getD v undef]) w := by
  have hp' : tmps[p]?.getD undef = .pointer (some ⟨b, 0, none⟩) := by simpa using hp
  simp [results, h, hp', go_sem, c0, c1, asAddr, loadVar, Result.andThen, Sem.run_bind]
theorem results_head2 {fn : Func} {p u v : Tmp} (h : fn.results = #[.cell p 50, .tmp u, .tmp v]) (tmps : Array Value) (w : World) (b : Nat) (x y z : Value)
    (hp : tmps.getD p undef = .pointer (some ⟨b, 0, none⟩)) (c0 : w.cell? ⟨b, 0, none⟩ = some x) (c1 : w.cell? ⟨b, 1, none⟩ = some y) (c2 : w.cell? ⟨b, 2, none⟩ = some z) :
    (results fn tmps).run Try.prog w = .ok (.tuple #[.agg #[x, y, z], tmps.getD u undef, tmps.getD v undef]) w := by
  have hp' : tmps[p]?.getD undef = .pointer (some ⟨b, 0, none⟩) := by simpa using hp
  simp [results, h, hp', go_sem, c0, c1, c2, asAddr, loadVar, Result.andThen, Sem.run_bind]
/-- The two boxes of records that Read makes: the answer's and the empty one. -/
structure Boxes (w w' : World) : Prop where
  a0 : w'.cell? ⟨w.heap.size, 0, none⟩ = some (.int .i64 0)
  a1 : w'.cell? ⟨w.heap.size, 1, none⟩ = some (.slice none 0 0)
  fa : ∀ i, w'.frozen? ⟨w.heap.size, i, none⟩ = false
  n0 : w'.cell? ⟨w.heap.size + 1, 0, none⟩ = some (.int .i64 0)
  n1 : w'.cell? ⟨w.heap.size + 1, 1, none⟩ = some (.slice none 0 0)
  below : Below w.heap.size w w'
  size : w.heap.size + 2 ≤ w'.heap.size
theorem boxes_new (w : World) : Boxes w ((w.alloc (.cells #[.int .i64 0, .slice none 0 0] 34)).alloc (.cells #[.int .i64 0, .slice none 0 0] 34)) := by
  have s1 : (w.alloc (.cells #[.int .i64 0, .slice none 0 0] 34)).heap.size = w.heap.size + 1 := by show (w.heap.push _).size = _; rw [Array.size_push]
  have b2 := below_alloc (w.alloc (.cells #[.int .i64 0, .slice none 0 0] 34)) (.cells #[.int .i64 0, .slice none 0 0] 34)
  have h1 := heap_alloc_new w (.cells #[.int .i64 0, .slice none 0 0] 34)
  have h2 := heap_alloc_new (w.alloc (.cells #[.int .i64 0, .slice none 0 0] 34)) (.cells #[.int .i64 0, .slice none 0 0] 34)
  rw [s1] at h2
  refine ⟨cell_keep b2 (cell_of_row _ _ 0 _ _ _ h1), cell_keep b2 (cell_of_row _ _ 1 _ _ _ h1), fun i => (b2.frozen (p := ⟨w.heap.size, i, none⟩) (by simp only; omega)).trans (frozen_of_row _ _ i _ _ h1), cell_of_row _ _ 0 _ _ _ h2, cell_of_row _ _ 1 _ _ _ h2, below_trans (below_alloc _ _) b2, ?_⟩
  show _ ≤ ((w.alloc _).heap.push _).size
  rw [Array.size_push, s1]; omega
theorem Boxes.on {w w1 w2 : World} (h : Boxes w w1) (hb : Below w1.heap.size w1 w2) : Boxes w w2 :=
  ⟨cell_keep hb h.a0, cell_keep hb h.a1, fun i => (hb.frozen (p := ⟨w.heap.size, i, none⟩) (by have := h.size; simp only; omega)).trans (h.fa i), cell_keep hb h.n0, cell_keep hb h.n1, below_trans h.below hb, by have := h.size; have := hb.size; omega⟩
theorem Boxes.but {w w1 w2 : World} {b : Nat} (h : Boxes w w1) (hb : But b w1 w2) (hw : w.heap.size + 2 ≤ b) : Boxes w w2 :=
  ⟨hb.cell h.a0 (by simp only; omega), hb.cell h.a1 (by simp only; omega), fun i => (hb.frozen (a := ⟨w.heap.size, i, none⟩) (by have := h.size; simp only; omega) (by simp only; omega)).trans (h.fa i), hb.cell h.n0 (by simp only; omega), hb.cell h.n1 (by simp only; omega), hb.below h.below (by omega) (by have := h.size; omega), by have := h.size; have := hb.size; omega⟩


/-- Read's memory: its boxes, its reader (in block b, its box in block g) at k. -/
structure FR (w w' : World) (b g : Nat) (xs : List (BitVec 8)) (k : Nat) : Prop where
  box : Boxes w w'
  rd : RdAt w' b xs k 0
  ptr : w'.cell? ⟨g, 0, none⟩ = some (.pointer (some ⟨b, 0, none⟩))
  hb : w.heap.size + 2 ≤ b
  ne : g ≠ b
theorem FR.on {w w1 w2 : World} {b g k : Nat} {xs : List (BitVec 8)} (h : FR w w1 b g xs k) (hb : Below w1.heap.size w1 w2) : FR w w2 b g xs k :=
  ⟨h.box.on hb, h.rd.on hb, cell_keep hb h.ptr, h.hb, h.ne⟩
theorem FR.go {w w1 w2 : World} {b g k j : Nat} {xs : List (BitVec 8)} (h : FR w w1 b g xs k) (hb : But b w1 w2) (hr : RdAt w2 b xs j 0) : FR w w2 b g xs j :=
  ⟨h.box.but hb h.hb, hr, hb.cell h.ptr h.ne, h.hb, h.ne⟩
/-- The answer's box is written. -/
theorem Boxes.put {w w1 : World} (h : Boxes w w1) (x y : Value) :
    ((w1.setCell ⟨w.heap.size, 0, none⟩ x).setCell ⟨w.heap.size, 1, none⟩ y).cell? ⟨w.heap.size, 0, none⟩ = some x ∧ ((w1.setCell ⟨w.heap.size, 0, none⟩ x).setCell ⟨w.heap.size, 1, none⟩ y).cell? ⟨w.heap.size, 1, none⟩ = some y ∧ Below w.heap.size w ((w1.setCell ⟨w.heap.size, 0, none⟩ x).setCell ⟨w.heap.size, 1, none⟩ y) := by
  have c1 : (w1.setCell ⟨w.heap.size, 0, none⟩ x).cell? ⟨w.heap.size, 1, none⟩ = some (.slice none 0 0) := by
    rw [World.cell?_setCell_other _ _ _ _ (by intro e; injection e; omega)]; exact h.a1
  refine ⟨?_, World.cell?_setCell_same _ _ _ c1, (h.below.setCell (p := ⟨w.heap.size, 0, none⟩) (Nat.le_refl _) _).setCell (p := ⟨w.heap.size, 1, none⟩) (Nat.le_refl _) _⟩
  rw [World.cell?_setCell_other _ _ _ _ (by intro e; injection e; omega)]
  exact World.cell?_setCell_same _ _ _ h.a0
theorem own_off {w w' : World} {base : Nat} {v : Value} {bs : List (BitVec 8)} (h : OwnB w base v bs) (hb : ∀ g, base ≤ g → g < w.heap.size → w'.heap[g]? = w.heap[g]?) : OwnB w' base v bs :=
  rows_congr h fun g hg => let ⟨h1, _, h2⟩ := rows_blk h hg; hb g h1 (heap_lt h2)
theorem OwnB.set {w : World} {base : Nat} {v u : Value} {p : Addr} {bs : List (BitVec 8)} (h : OwnB w base v bs) (hl : p.block < base) : OwnB (w.setCell p u) base v bs :=
  own_off h fun g h1 h2 => Below.heap_setCell _ _ _ _ (by omega)
theorem fixed32_nat (b : Nat) (xs : List (BitVec 8)) (k : Nat) (w : World) (hR : RdAt w b xs k 0) (hm : xs.length ≤ 140737488355328) (hs : k + 4 ≤ xs.length) (N : Nat) (h : leN ((xs.drop k).take 4) = N) :
    Calls Try.prog 60 #[.pointer (some ⟨b, 0, none⟩)] w fun x w' => x = .returned (.int .u32 (N : Nat)) ∧ Upd b 1 (.int .i64 (k + 4 : Nat)) w w' := by
  refine (fixed32_ok b xs k w hR hm hs).mono fun _ _ ⟨he, hu⟩ => ⟨?_, hu⟩
  rw [he, ← h]
  have l4 : ((xs.drop k).take 4).length = 4 := by simp; omega
  have h1 := leN_lt ((xs.drop k).take 4)
  rw [l4] at h1
  unfold bv
  rw [BitVec.toNat_setWidth, leB_lt (by omega), Nat.mod_eq_of_lt (by omega)]
theorem front_cut (bs : List (BitVec 8)) (j k m : Nat) (h : k + m ≤ j) : ((bs.take j).drop k).take m = (bs.drop k).take m := by
  rw [List.drop_take, List.take_take, Nat.min_eq_left (by omega)]

set_option maxHeartbeats 4000000 in
set_option maxRecDepth 100000 in
theorem frame_read (seed : BitVec 32) (ao : Option Addr) (bs : List (BitVec 8)) (cap : Nat) (w : World) (hb : BytesAt w ao bs) (hn : ao = none → cap = 0) (hc : bs.length ≤ cap) (hm : cap ≤ 9223372036854775807) :
    Calls Try.prog 25 #[.int .u32 (bv seed), .slice ao bs.length cap] w (ReadB w (rF seed bs)) := by
  by_cases h0 : bs.length < 16
  · have E : Hid (rF seed bs = Rd.bad 2) := Lib.hid (by unfold rF; rw [if_pos h0])
    have X := Lib.hid (boxes_new w)
    clear hb hn
    go_enter Try.func25, Try.ntmps25
    go_wp2_with fail
    refine bodyPost_ret (results_rec3 rfl _ _ w.heap.size _ _ rfl X.out.a0 X.out.a1) rfl ?_
    rw [E.out]
    exact ⟨_, rfl, OwnB.nil _ _, X.out.below⟩
  · obtain ⟨gb, off, rfl, -⟩ := hb 0 (by omega)
    have HB0 := Lib.hid hb
    have HB := Lib.hid (show BytesAt w (some ⟨gb, off, none⟩) (bs.take 16) from hb.take 16)
    have HN := Lib.hid hn
    have X := Lib.hid (boxes_new w)
    have hl : (bs.take 16).length = 16 := by simp; omega
    have HL := Lib.hid hl
    have C4 := Lib.hid (show (((bs.take 16).drop 0).take 4) = bs.take 4 from front_cut bs 16 0 4 (by omega))
    have C12 := Lib.hid (front_cut bs 16 4 8 (by omega))
    have C16 := Lib.hid (front_cut bs 16 12 4 (by omega))
    obtain ⟨N, hN⟩ : ∃ N : Nat, leN (bs.take 4) = N := ⟨_, rfl⟩
    obtain ⟨x, hx⟩ : ∃ x : BitVec 64, leB ((bs.drop 4).take 8) = x := ⟨_, rfl⟩
    obtain ⟨M, hM⟩ : ∃ M : Nat, leN ((bs.drop 12).take 4) = M := ⟨_, rfl⟩
    have HNn := Lib.hid hN
    have HX := Lib.hid hx
    have HXn := Lib.hid (show leN ((bs.drop 4).take 8) = x.toNat by rw [← hx, leB_lt (by simp; omega)])
    have HMm := Lib.hid hM
    have hn32 : N < 4294967296 := by have := leN_lt (bs.take 4); rw [hN, show (bs.take 4).length = 4 by simp; omega] at this; omega
    clear hb hn hl hN hx hM
    go_enter Try.func25, Try.ntmps25
    go_wp2_with fail
    refine (new_reader_n (some ⟨gb, off, none⟩) (bs.take 16) 16 cap _ (HB.out.below X.out.below) HL.out HN.out (by omega)).mono ?_
    rintro e w1 ⟨b, rfl, hbb, hR, hb1⟩
    have F1 := Lib.hid (show FR w (w1.alloc (.cells #[.pointer (some ⟨b, 0, none⟩)] 107)) b w1.heap.size (bs.take 16) 0 from
      ⟨(X.out.on hb1).on (below_alloc _ _), hR.on (below_alloc _ _), cell_of_row _ _ 0 _ _ _ (heap_alloc_new w1 _), Nat.le_trans X.out.size hbb, by have := hR.lt; omega⟩)
    have G1 := Lib.hid (show w1.heap.size < (w1.alloc (.cells #[.pointer (some ⟨b, 0, none⟩)] 107)).heap.size by show _ < (w1.heap.push _).size; rw [Array.size_push]; omega)
    clear hR hb1 hbb X
    go_wp2_with fail
    refine (fixed32_nat b (bs.take 16) 0 _ F1.out.rd (by rw [HL.out]; omega) (by rw [HL.out]; omega) N (by rw [C4.out]; exact HNn.out)).mono ?_
    rintro e w2 ⟨rfl, hu⟩
    have F2 := Lib.hid (F1.out.go hu.but (F1.out.rd.moved 4 (by rw [HL.out]; omega) hu))
    clear hu
    by_cases hL : 4096 < N
    · have E : Hid (rF seed bs = Rd.bad 3) := Lib.hid (by unfold rF; rw [if_neg h0, HNn.out, if_pos hL])
      have n0 := F2.out.box.n0
      have n1 := F2.out.box.n1
      have a0 := F2.out.box.a0
      have a1 := F2.out.box.a1
      have fa0 := F2.out.box.fa 0
      have fa1 := F2.out.box.fa 1
      go_wp2_with fail
      refine bodyPost_ret (results_rec3 rfl _ _ w.heap.size (.int .i64 0) (.slice none 0 0) rfl (F2.out.box.put _ _).1 (F2.out.box.put _ _).2.1) rfl ?_
      rw [E.out]
      exact ⟨_, rfl, OwnB.nil _ _, (F2.out.box.put _ _).2.2⟩
    · have hle : (N : Int) ≤ 4096 := by omega
      have p2 := F2.out.ptr
      by_cases hX : bv x < 1 ∨ 9223372036854775806 < bv x
      · have E : Hid (rF seed bs = Rd.bad 4) := Lib.hid (by
          unfold rF; rw [if_neg h0, HNn.out, if_neg hL, HXn.out, if_pos]
          unfold bv at hX; omega)
        have HXX := Lib.hid hX
        clear hX
        go_wp2_with fail
        refine (frame_number_bad b (bs.take 16) 4 _ F2.out.rd (by rw [HL.out]; omega) (by rw [HL.out]; omega) 9223372036854775806 (by decide) (by decide) x (by rw [C12.out]; exact HX.out) HXX.out).mono ?_
        rintro e w3 ⟨z, rfl, hu⟩
        have F3 := Lib.hid (F2.out.go hu.but hu.rd)
        clear hu p2
        have n0 := F3.out.box.n0
        have n1 := F3.out.box.n1
        have a0 := F3.out.box.a0
        have a1 := F3.out.box.a1
        have fa0 := F3.out.box.fa 0
        have fa1 := F3.out.box.fa 1
        go_wp2_with fail
        refine bodyPost_ret (results_rec3 rfl _ _ w.heap.size (.int .i64 0) (.slice none 0 0) rfl (F3.out.box.put _ _).1 (F3.out.box.put _ _).2.1) rfl ?_
        rw [E.out]
        exact ⟨_, rfl, OwnB.nil _ _, (F3.out.box.put _ _).2.2⟩
      · have HXX := Lib.hid (show 1 ≤ bv x ∧ bv x ≤ 9223372036854775806 by omega)
        have XE : Hid (¬ ¬ (1 ≤ x.toNat ∧ x.toNat ≤ 9223372036854775806)) := Lib.hid (by have := HXX.out; unfold bv at this; omega)
        clear hX
        go_wp2_with fail
        refine (frame_number_ok b (bs.take 16) 4 _ F2.out.rd (by rw [HL.out]; omega) (by rw [HL.out]; omega) 9223372036854775806 (by decide) (by decide) x (by rw [C12.out]; exact HX.out) HXX.out.1 HXX.out.2).mono ?_
        rintro e w3 ⟨rfl, hu⟩
        have F3 := Lib.hid (F2.out.go hu.but hu.rd)
        clear hu p2
        by_cases hS : bs.length < 16 + N
        · have E : Hid (rF seed bs = Rd.bad 2) := Lib.hid (by
            unfold rF; rw [if_neg h0, HNn.out, if_neg hL, HXn.out, if_neg XE.out, if_pos hS])
          have hS' : (bs.length : Int) < 16 + (N : Int) := by omega
          have n0 := F3.out.box.n0
          have n1 := F3.out.box.n1
          have a0 := F3.out.box.a0
          have a1 := F3.out.box.a1
          have fa0 := F3.out.box.fa 0
          have fa1 := F3.out.box.fa 1
          go_wp2_with fail
          refine bodyPost_ret (results_rec3 rfl _ _ w.heap.size (.int .i64 0) (.slice none 0 0) rfl (F3.out.box.put _ _).1 (F3.out.box.put _ _).2.1) rfl ?_
          rw [E.out]
          exact ⟨_, rfl, OwnB.nil _ _, (F3.out.box.put _ _).2.2⟩
        · have hS' : 16 + (N : Int) ≤ (bs.length : Int) := by omega
          obtain ⟨D, hDD⟩ : ∃ D, (bs.drop 16).take N = D := ⟨_, rfl⟩
          have hbl := Lib.hid (show D.length = N by rw [← hDD]; simp; omega)
          have HDD := Lib.hid hDD
          clear hDD
          by_cases hck : cap = 16
          · obtain rfl : N = 0 := by omega
            subst hck
            have HD := Lib.hid (show BytesAt w3 (some ⟨gb, off, none⟩) D from fun i hi => by have := hbl.out; omega)
            go_wp2_with (refine wpList_append_bytes (o := ⟨some 50, _, _, _, _, _⟩) rfl _ _ rfl w3.heap.size _ [] rfl (OwnB.nil _ _) (some ⟨gb, off, none⟩) _ _ D rfl (by rw [hbl.out]; try omega) HD.out (fun h => nomatch h) (by rw [hbl.out]; simp; try omega) (Nat.le_refl _) ?_)
            intro v4 w4 hv hg hi
            have F4 := Lib.hid (F3.out.on ((OwnB.nil w3 w3.heap.size).below hg (Nat.le_refl _) (Nat.le_refl _)))
            have O4 := Lib.hid (show OwnB w4 w3.heap.size v4 D from hv)
            have S4 := Lib.hid (show w3.heap.size ≤ w4.heap.size from ((OwnB.nil w3 w3.heap.size).below hg (Nat.le_refl _) (Nat.le_refl _)).size)
            clear hv hg hi
            obtain ⟨a4, c4, rfl, x4, n4, -, -, -⟩ := O4.out.slice
            have X4 := Lib.hid x4
            have N4 := Lib.hid n4
            clear x4 n4
            go_wp2_with fail
            refine (frame_sums seed x a4 _ c4 _ X4.out N4.out (by rw [hbl.out]; omega)).mono ?_
            rintro e w5 ⟨rfl, hb⟩
            have F5 := Lib.hid (F4.out.on hb)
            have O5 := Lib.hid (O4.out.keep hb)
            have p5 := F5.out.ptr
            clear hb X4 N4
            go_wp2_with fail
            refine (fixed32_nat b (bs.take 16) 12 _ F5.out.rd (by rw [HL.out]; omega) (by rw [HL.out]; omega) M (by rw [C16.out]; exact HMm.out)).mono ?_
            rintro e w6 ⟨rfl, hu⟩
            have F6 := Lib.hid (F5.out.go hu.but (F5.out.rd.moved 16 (by rw [HL.out]; omega) hu))
            have O6 := Lib.hid (O5.out.but hu.but F3.out.rd.lt)
            clear hu p5
            go_wp2_with fail
            refine (crc_mask _ _).mono ?_
            rintro e w7 ⟨rfl, rfl⟩
            by_cases hQ : M = (Crc.mask (sumF seed x D)).toNat
            · have E : Hid (rF seed bs = ⟨x, D, 16 + 0, sumF seed x D, 0⟩) := Lib.hid (by
                unfold rF; rw [if_neg h0, HNn.out, if_neg hL, HXn.out, if_neg XE.out, if_neg hS, HMm.out, HX.out, HDD.out, if_neg (fun h => h hQ)])
              have t : ((M : Int) != bv (Crc.mask (sumF seed x D))) = false := by rw [hQ]; unfold bv; simp
              clear hQ
              have a0 := F6.out.box.a0
              have a1 := F6.out.box.a1
              have fa0 := F6.out.box.fa 0
              have fa1 := F6.out.box.fa 1
              go_wp2_with fail
              refine bodyPost_ret (results_rec3 rfl _ _ w.heap.size (.int .i64 (bv x)) (.slice a4 D.length c4) rfl (F6.out.box.put _ _).1 (F6.out.box.put _ _).2.1) rfl ?_
              rw [E.out]
              exact ⟨_, rfl, ((O6.out.set (p := ⟨w.heap.size, 0, none⟩) (by have := F3.out.box.size; simp only; omega)).set (p := ⟨w.heap.size, 1, none⟩) (by have := F3.out.box.size; simp only; omega)).base (by have := F3.out.box.size; omega), (F6.out.box.put _ _).2.2⟩
            · have E : Hid (rF seed bs = Rd.bad 5) := Lib.hid (by
                unfold rF; rw [if_neg h0, HNn.out, if_neg hL, HXn.out, if_neg XE.out, if_neg hS, HMm.out, HX.out, HDD.out, if_pos hQ])
              have t : ((M : Int) != bv (Crc.mask (sumF seed x D))) = true := by unfold bv; simp; omega
              clear hQ
              have n0 := F6.out.box.n0
              have n1 := F6.out.box.n1
              have a0 := F6.out.box.a0
              have a1 := F6.out.box.a1
              have fa0 := F6.out.box.fa 0
              have fa1 := F6.out.box.fa 1
              go_wp2_with fail
              refine bodyPost_ret (results_rec3 rfl _ _ w.heap.size (.int .i64 0) (.slice none 0 0) rfl (F6.out.box.put _ _).1 (F6.out.box.put _ _).2.1) rfl ?_
              rw [E.out]
              exact ⟨_, rfl, OwnB.nil _ _, (F6.out.box.put _ _).2.2⟩
          · have HD := Lib.hid (show BytesAt w3 (some ⟨gb, off + 16, none⟩) D from HDD.out ▸ (HB0.out.sub 16 N).below F3.out.box.below)
            go_wp2_with (refine wpList_append_bytes (o := ⟨some 50, _, _, _, _, _⟩) rfl _ _ rfl w3.heap.size _ [] rfl (OwnB.nil _ _) (some ⟨gb, off + 16, none⟩) _ _ D rfl (by rw [hbl.out]; try omega) HD.out (fun h => nomatch h) (by rw [hbl.out]; simp; try omega) (Nat.le_refl _) ?_)
            intro v4 w4 hv hg hi
            have F4 := Lib.hid (F3.out.on ((OwnB.nil w3 w3.heap.size).below hg (Nat.le_refl _) (Nat.le_refl _)))
            have O4 := Lib.hid (show OwnB w4 w3.heap.size v4 D from hv)
            have S4 := Lib.hid (show w3.heap.size ≤ w4.heap.size from ((OwnB.nil w3 w3.heap.size).below hg (Nat.le_refl _) (Nat.le_refl _)).size)
            clear hv hg hi
            obtain ⟨a4, c4, rfl, x4, n4, -, -, -⟩ := O4.out.slice
            have X4 := Lib.hid x4
            have N4 := Lib.hid n4
            clear x4 n4
            go_wp2_with fail
            refine (frame_sums seed x a4 _ c4 _ X4.out N4.out (by rw [hbl.out]; omega)).mono ?_
            rintro e w5 ⟨rfl, hb⟩
            have F5 := Lib.hid (F4.out.on hb)
            have O5 := Lib.hid (O4.out.keep hb)
            have p5 := F5.out.ptr
            clear hb X4 N4
            go_wp2_with fail
            refine (fixed32_nat b (bs.take 16) 12 _ F5.out.rd (by rw [HL.out]; omega) (by rw [HL.out]; omega) M (by rw [C16.out]; exact HMm.out)).mono ?_
            rintro e w6 ⟨rfl, hu⟩
            have F6 := Lib.hid (F5.out.go hu.but (F5.out.rd.moved 16 (by rw [HL.out]; omega) hu))
            have O6 := Lib.hid (O5.out.but hu.but F3.out.rd.lt)
            clear hu p5
            go_wp2_with fail
            refine (crc_mask _ _).mono ?_
            rintro e w7 ⟨rfl, rfl⟩
            by_cases hQ : M = (Crc.mask (sumF seed x D)).toNat
            · have E : Hid (rF seed bs = ⟨x, D, 16 + N, sumF seed x D, 0⟩) := Lib.hid (by
                unfold rF; rw [if_neg h0, HNn.out, if_neg hL, HXn.out, if_neg XE.out, if_neg hS, HMm.out, HX.out, HDD.out, if_neg (fun h => h hQ)])
              have t : ((M : Int) != bv (Crc.mask (sumF seed x D))) = false := by rw [hQ]; unfold bv; simp
              clear hQ
              have a0 := F6.out.box.a0
              have a1 := F6.out.box.a1
              have fa0 := F6.out.box.fa 0
              have fa1 := F6.out.box.fa 1
              go_wp2_with fail
              refine bodyPost_ret (results_rec3 rfl _ _ w.heap.size (.int .i64 (bv x)) (.slice a4 D.length c4) rfl (F6.out.box.put _ _).1 (F6.out.box.put _ _).2.1) rfl ?_
              rw [E.out]
              exact ⟨_, rfl, ((O6.out.set (p := ⟨w.heap.size, 0, none⟩) (by have := F3.out.box.size; simp only; omega)).set (p := ⟨w.heap.size, 1, none⟩) (by have := F3.out.box.size; simp only; omega)).base (by have := F3.out.box.size; omega), (F6.out.box.put _ _).2.2⟩
            · have E : Hid (rF seed bs = Rd.bad 5) := Lib.hid (by
                unfold rF; rw [if_neg h0, HNn.out, if_neg hL, HXn.out, if_neg XE.out, if_neg hS, HMm.out, HX.out, HDD.out, if_pos hQ])
              have t : ((M : Int) != bv (Crc.mask (sumF seed x D))) = true := by unfold bv; simp; omega
              clear hQ
              have n0 := F6.out.box.n0
              have n1 := F6.out.box.n1
              have a0 := F6.out.box.a0
              have a1 := F6.out.box.a1
              have fa0 := F6.out.box.fa 0
              have fa1 := F6.out.box.fa 1
              go_wp2_with fail
              refine bodyPost_ret (results_rec3 rfl _ _ w.heap.size (.int .i64 0) (.slice none 0 0) rfl (F6.out.box.put _ _).1 (F6.out.box.put _ _).2.1) rfl ?_
              rw [E.out]
              exact ⟨_, rfl, OwnB.nil _ _, (F6.out.box.put _ _).2.2⟩
end Go.Proofs.Ytfadpjljokpenaa

/-! The walk of the document's reading of frames. -/
namespace Go.Proofs.Ytfadpjljokpenaa
open Go.RowKit

/-- The answer's box. -/
structure Box (w w' : World) : Prop where
  a0 : w'.cell? ⟨w.heap.size, 0, none⟩ = some (.int .i64 0)
  a1 : w'.cell? ⟨w.heap.size, 1, none⟩ = some (.slice none 0 0)
  fa : ∀ i, w'.frozen? ⟨w.heap.size, i, none⟩ = false
  below : Below w.heap.size w w'
  size : w.heap.size + 1 ≤ w'.heap.size
theorem box_new (w : World) : Box w (w.alloc (.cells #[.int .i64 0, .slice none 0 0] 34)) := by
  have h1 := heap_alloc_new w (.cells #[.int .i64 0, .slice none 0 0] 34)
  refine ⟨cell_of_row _ _ 0 _ _ _ h1, cell_of_row _ _ 1 _ _ _ h1, fun i => frozen_of_row _ _ i _ _ h1, below_alloc _ _, ?_⟩
  show _ ≤ (w.heap.push _).size
  rw [Array.size_push]; omega
theorem Box.on {w w1 w2 : World} (h : Box w w1) (hb : Below w1.heap.size w1 w2) : Box w w2 :=
  ⟨cell_keep hb h.a0, cell_keep hb h.a1, fun i => (hb.frozen (p := ⟨w.heap.size, i, none⟩) (by have := h.size; simp only; omega)).trans (h.fa i), below_trans h.below hb, by have := h.size; have := hb.size; omega⟩
theorem Box.put {w w1 : World} (h : Box w w1) (x y : Value) :
    ((w1.setCell ⟨w.heap.size, 0, none⟩ x).setCell ⟨w.heap.size, 1, none⟩ y).cell? ⟨w.heap.size, 0, none⟩ = some x ∧ ((w1.setCell ⟨w.heap.size, 0, none⟩ x).setCell ⟨w.heap.size, 1, none⟩ y).cell? ⟨w.heap.size, 1, none⟩ = some y ∧ Below w.heap.size w ((w1.setCell ⟨w.heap.size, 0, none⟩ x).setCell ⟨w.heap.size, 1, none⟩ y) := by
  have c1 : (w1.setCell ⟨w.heap.size, 0, none⟩ x).cell? ⟨w.heap.size, 1, none⟩ = some (.slice none 0 0) := by
    rw [World.cell?_setCell_other _ _ _ _ (by intro e; injection e; omega)]; exact h.a1
  refine ⟨?_, World.cell?_setCell_same _ _ _ c1, (h.below.setCell (p := ⟨w.heap.size, 0, none⟩) (Nat.le_refl _) _).setCell (p := ⟨w.heap.size, 1, none⟩) (Nat.le_refl _) _⟩
  rw [World.cell?_setCell_other _ _ _ _ (by intro e; injection e; omega)]
  exact World.cell?_setCell_same _ _ _ h.a0
theorem ref_number_nat (ao : Option Addr) (xs : List (BitVec 8)) (n cap : Nat) (w : World) (hb : BytesAt w ao xs) (hn : xs.length = n) (hl : n ≤ 8) (N : Nat) (h : leN xs = N) :
    Calls Try.prog 69 #[.slice ao n cap] w fun x w' => x = .returned (.int .u64 (N : Nat)) ∧ w = w' := by
  refine (ref_number_to ao xs n cap w hb hn (by omega)).mono fun _ _ ⟨he, hw⟩ => ⟨?_, hw⟩
  rw [he, ← h]
  unfold bv
  rw [leB_lt (by omega)]
theorem ref_number_bv (ao : Option Addr) (xs : List (BitVec 8)) (n cap : Nat) (w : World) (hb : BytesAt w ao xs) (hn : xs.length = n) (hl : n ≤ 8) (x : BitVec 64) (h : leB xs = x) :
    Calls Try.prog 69 #[.slice ao n cap] w fun e w' => e = .returned (.int .u64 (bv x)) ∧ w = w' := by
  subst h; exact ref_number_to ao xs n cap w hb hn (by omega)

set_option maxHeartbeats 4000000 in
set_option maxRecDepth 100000 in
theorem ref_read (seed : BitVec 32) (ao : Option Addr) (bs : List (BitVec 8)) (cap : Nat) (w : World) (hb : BytesAt w ao bs) (hn : ao = none → cap = 0) (hc : bs.length ≤ cap) (hm : cap ≤ 9223372036854775807) :
    Calls Try.prog 26 #[.int .u32 (bv seed), .slice ao bs.length cap] w (ReadB w (rF seed bs)) := by
  by_cases h0 : bs.length < 16
  · have E : Hid (rF seed bs = Rd.bad 2) := Lib.hid (by unfold rF; rw [if_pos h0])
    have X := Lib.hid (box_new w)
    clear hb hn
    go_enter Try.func26, Try.ntmps26
    go_wp2_with fail
    refine bodyPost_ret (results_rec3 rfl _ _ w.heap.size _ _ rfl X.out.a0 X.out.a1) rfl ?_
    rw [E.out]
    exact ⟨_, rfl, OwnB.nil _ _, X.out.below⟩
  · obtain ⟨gb, off, rfl, -⟩ := hb 0 (by omega)
    have HB := Lib.hid hb
    have X := Lib.hid (box_new w)
    obtain ⟨N, hN⟩ : ∃ N : Nat, leN (bs.take 4) = N := ⟨_, rfl⟩
    obtain ⟨x, hx⟩ : ∃ x : BitVec 64, leB ((bs.drop 4).take 8) = x := ⟨_, rfl⟩
    obtain ⟨M, hM⟩ : ∃ M : Nat, leN ((bs.drop 12).take 4) = M := ⟨_, rfl⟩
    have HNn := Lib.hid hN
    have HX := Lib.hid hx
    have HXn := Lib.hid (show leN ((bs.drop 4).take 8) = x.toNat by rw [← hx, leB_lt (by simp; omega)])
    have HMm := Lib.hid hM
    have hn32 : N < 4294967296 := by have := leN_lt (bs.take 4); rw [hN, show (bs.take 4).length = 4 by simp; omega] at this; omega
    have L4 : Hid ((bs.take 4).length = 4) := Lib.hid (by simp; omega)
    have L8 : Hid (((bs.drop 4).take 8).length = 8) := Lib.hid (by simp; omega)
    have L12 : Hid (((bs.drop 12).take 4).length = 4) := Lib.hid (by simp; omega)
    have k4 : ¬ cap = 4 := by omega
    have k12 : ¬ cap = 12 := by omega
    clear hb hn hN hx hM
    go_enter Try.func26, Try.ntmps26
    go_wp2_with fail
    refine (ref_number_nat (some ⟨gb, off, none⟩) (bs.take 4) _ _ _ ((HB.out.take 4).below X.out.below) L4.out (by omega) N HNn.out).mono ?_
    rintro e w1 ⟨rfl, rfl⟩
    go_wp2_with fail
    refine (ref_number_bv (some ⟨gb, off + 4, none⟩) ((bs.drop 4).take 8) _ _ _ ((HB.out.sub 4 8).below X.out.below) L8.out (by omega) x HX.out).mono ?_
    rintro e w1 ⟨rfl, rfl⟩
    go_wp2_with fail
    refine (ref_number_nat (some ⟨gb, off + 12, none⟩) ((bs.drop 12).take 4) _ _ _ ((HB.out.sub 12 4).below X.out.below) L12.out (by omega) M HMm.out).mono ?_
    rintro e w1 ⟨rfl, rfl⟩
    obtain ⟨w3, hw3⟩ : ∃ w3, w.alloc (.cells #[.int .i64 0, .slice none 0 0] 34) = w3 := ⟨_, rfl⟩
    rw [hw3] at X
    try rw [hw3]
    clear hw3
    by_cases hL : 4096 < N
    · have E : Hid (rF seed bs = Rd.bad 3) := Lib.hid (by unfold rF; rw [if_neg h0, HNn.out, if_pos hL])
      have a0 := X.out.a0
      have a1 := X.out.a1
      have fa0 := X.out.fa 0
      have fa1 := X.out.fa 1
      go_wp2_with fail
      refine bodyPost_ret (results_rec3 rfl _ _ w.heap.size (.int .i64 0) (.slice none 0 0) rfl (X.out.put _ _).1 (X.out.put _ _).2.1) rfl ?_
      rw [E.out]
      exact ⟨_, rfl, OwnB.nil _ _, (X.out.put _ _).2.2⟩
    · have hle : (N : Int) ≤ 4096 := by omega
      by_cases hX : bv x < 1 ∨ 9223372036854775806 < bv x
      · have E : Hid (rF seed bs = Rd.bad 4) := Lib.hid (by
          unfold rF; rw [if_neg h0, HNn.out, if_neg hL, HXn.out, if_pos]
          unfold bv at hX; omega)
        have a0 := X.out.a0
        have a1 := X.out.a1
        have fa0 := X.out.fa 0
        have fa1 := X.out.fa 1
        rcases hX with hX | hX
        · go_wp2_with fail
          refine bodyPost_ret (results_rec3 rfl _ _ w.heap.size (.int .i64 0) (.slice none 0 0) rfl (X.out.put _ _).1 (X.out.put _ _).2.1) rfl ?_
          rw [E.out]
          exact ⟨_, rfl, OwnB.nil _ _, (X.out.put _ _).2.2⟩
        · have hX2 : ¬ bv x < 1 := by omega
          go_wp2_with fail
          refine bodyPost_ret (results_rec3 rfl _ _ w.heap.size (.int .i64 0) (.slice none 0 0) rfl (X.out.put _ _).1 (X.out.put _ _).2.1) rfl ?_
          rw [E.out]
          exact ⟨_, rfl, OwnB.nil _ _, (X.out.put _ _).2.2⟩
      · have hX1 : ¬ bv x < 1 := by omega
        have hX2 : ¬ 9223372036854775806 < bv x := by omega
        have XE : Hid (¬ ¬ (1 ≤ x.toNat ∧ x.toNat ≤ 9223372036854775806)) := Lib.hid (by unfold bv at hX; omega)
        have wx : IntKind.i64.wrap (bv x) = bv x := by rw [IntKind.wrap_i64]; omega
        clear hX
        by_cases hS : bs.length < 16 + N
        · have E : Hid (rF seed bs = Rd.bad 2) := Lib.hid (by
            unfold rF; rw [if_neg h0, HNn.out, if_neg hL, HXn.out, if_neg XE.out, if_pos hS])
          have hS' : (bs.length : Int) - 16 < (N : Int) := by omega
          have a0 := X.out.a0
          have a1 := X.out.a1
          have fa0 := X.out.fa 0
          have fa1 := X.out.fa 1
          go_wp2_with fail
          refine bodyPost_ret (results_rec3 rfl _ _ w.heap.size (.int .i64 0) (.slice none 0 0) rfl (X.out.put _ _).1 (X.out.put _ _).2.1) rfl ?_
          rw [E.out]
          exact ⟨_, rfl, OwnB.nil _ _, (X.out.put _ _).2.2⟩
        · have hS' : (N : Int) ≤ (bs.length : Int) - 16 := by omega
          obtain ⟨D, hDD⟩ : ∃ D, (bs.drop 16).take N = D := ⟨_, rfl⟩
          have hbl := Lib.hid (show D.length = N by rw [← hDD]; simp; omega)
          have HDD := Lib.hid hDD
          clear hDD
          by_cases hck : cap = 16
          · obtain rfl : N = 0 := by omega
            subst hck
            have HD := Lib.hid (show BytesAt w3 (some ⟨gb, off, none⟩) D from fun i hi => by have := hbl.out; omega)
            go_wp2_with (refine wpList_append_bytes (o := ⟨some 48, _, _, _, _, _⟩) rfl _ _ rfl w3.heap.size _ [] rfl (OwnB.nil _ _) (some ⟨gb, off, none⟩) _ _ D rfl (by rw [hbl.out]; try omega) HD.out (fun h => nomatch h) (by rw [hbl.out]; simp; try omega) (Nat.le_refl _) ?_)
            intro v4 w4 hv hg hi
            have X4 := Lib.hid (X.out.on ((OwnB.nil w3 w3.heap.size).below hg (Nat.le_refl _) (Nat.le_refl _)))
            have O4 := Lib.hid (show OwnB w4 w3.heap.size v4 D from hv)
            clear hv hg hi
            obtain ⟨a4, c4, rfl, x4, n4, -, -, -⟩ := O4.out.slice
            have Y4 := Lib.hid x4
            have N4 := Lib.hid n4
            clear x4 n4
            go_wp2_with fail
            refine (ref_sumF seed x a4 _ c4 _ Y4.out N4.out (by rw [hbl.out]; omega)).mono ?_
            rintro e w5 ⟨rfl, hb⟩
            have X5 := Lib.hid (X4.out.on hb)
            have O5 := Lib.hid (O4.out.keep hb)
            clear hb Y4 N4
            go_wp2_with fail
            refine (ref_mask _ _).mono ?_
            rintro e w7 ⟨rfl, rfl⟩
            by_cases hQ : M = (Crc.mask (sumF seed x D)).toNat
            · have E : Hid (rF seed bs = ⟨x, D, 16 + 0, sumF seed x D, 0⟩) := Lib.hid (by
                unfold rF; rw [if_neg h0, HNn.out, if_neg hL, HXn.out, if_neg XE.out, if_neg hS, HMm.out, HX.out, HDD.out, if_neg (fun h => h hQ)])
              have t : (bv ((Crc.mask (sumF seed x D)).setWidth 64) != (M : Int)) = false := by rw [hQ]; unfold bv; simp [BitVec.toNat_setWidth]; omega
              clear hQ
              have a0 := X5.out.a0
              have a1 := X5.out.a1
              have fa0 := X5.out.fa 0
              have fa1 := X5.out.fa 1
              go_wp2_with fail
              refine bodyPost_ret (results_rec3 rfl _ _ w.heap.size (.int .i64 (bv x)) (.slice a4 D.length c4) rfl (X5.out.put _ _).1 (X5.out.put _ _).2.1) rfl ?_
              rw [E.out]
              exact ⟨_, rfl, ((O5.out.set (p := ⟨w.heap.size, 0, none⟩) (by have := X.out.size; simp only; omega)).set (p := ⟨w.heap.size, 1, none⟩) (by have := X.out.size; simp only; omega)).base (by have := X.out.size; omega), (X5.out.put _ _).2.2⟩
            · have E : Hid (rF seed bs = Rd.bad 5) := Lib.hid (by
                unfold rF; rw [if_neg h0, HNn.out, if_neg hL, HXn.out, if_neg XE.out, if_neg hS, HMm.out, HX.out, HDD.out, if_pos hQ])
              have t : (bv ((Crc.mask (sumF seed x D)).setWidth 64) != (M : Int)) = true := by unfold bv; have := (Crc.mask (sumF seed x D)).isLt; simp [BitVec.toNat_setWidth]; omega
              clear hQ
              have a0 := X5.out.a0
              have a1 := X5.out.a1
              have fa0 := X5.out.fa 0
              have fa1 := X5.out.fa 1
              go_wp2_with fail
              refine bodyPost_ret (results_rec3 rfl _ _ w.heap.size (.int .i64 0) (.slice none 0 0) rfl (X5.out.put _ _).1 (X5.out.put _ _).2.1) rfl ?_
              rw [E.out]
              exact ⟨_, rfl, OwnB.nil _ _, (X5.out.put _ _).2.2⟩
          · have HD := Lib.hid (show BytesAt w3 (some ⟨gb, off + 16, none⟩) D from HDD.out ▸ (HB.out.sub 16 N).below X.out.below)
            go_wp2_with (refine wpList_append_bytes (o := ⟨some 48, _, _, _, _, _⟩) rfl _ _ rfl w3.heap.size _ [] rfl (OwnB.nil _ _) (some ⟨gb, off + 16, none⟩) _ _ D rfl (by rw [hbl.out]; try omega) HD.out (fun h => nomatch h) (by rw [hbl.out]; simp; try omega) (Nat.le_refl _) ?_)
            intro v4 w4 hv hg hi
            have X4 := Lib.hid (X.out.on ((OwnB.nil w3 w3.heap.size).below hg (Nat.le_refl _) (Nat.le_refl _)))
            have O4 := Lib.hid (show OwnB w4 w3.heap.size v4 D from hv)
            clear hv hg hi
            obtain ⟨a4, c4, rfl, x4, n4, -, -, -⟩ := O4.out.slice
            have Y4 := Lib.hid x4
            have N4 := Lib.hid n4
            clear x4 n4
            go_wp2_with fail
            refine (ref_sumF seed x a4 _ c4 _ Y4.out N4.out (by rw [hbl.out]; omega)).mono ?_
            rintro e w5 ⟨rfl, hb⟩
            have X5 := Lib.hid (X4.out.on hb)
            have O5 := Lib.hid (O4.out.keep hb)
            clear hb Y4 N4
            go_wp2_with fail
            refine (ref_mask _ _).mono ?_
            rintro e w7 ⟨rfl, rfl⟩
            by_cases hQ : M = (Crc.mask (sumF seed x D)).toNat
            · have E : Hid (rF seed bs = ⟨x, D, 16 + N, sumF seed x D, 0⟩) := Lib.hid (by
                unfold rF; rw [if_neg h0, HNn.out, if_neg hL, HXn.out, if_neg XE.out, if_neg hS, HMm.out, HX.out, HDD.out, if_neg (fun h => h hQ)])
              have t : (bv ((Crc.mask (sumF seed x D)).setWidth 64) != (M : Int)) = false := by rw [hQ]; unfold bv; simp [BitVec.toNat_setWidth]; omega
              clear hQ
              have a0 := X5.out.a0
              have a1 := X5.out.a1
              have fa0 := X5.out.fa 0
              have fa1 := X5.out.fa 1
              go_wp2_with fail
              refine bodyPost_ret (results_rec3 rfl _ _ w.heap.size (.int .i64 (bv x)) (.slice a4 D.length c4) rfl (X5.out.put _ _).1 (X5.out.put _ _).2.1) rfl ?_
              rw [E.out]
              exact ⟨_, rfl, ((O5.out.set (p := ⟨w.heap.size, 0, none⟩) (by have := X.out.size; simp only; omega)).set (p := ⟨w.heap.size, 1, none⟩) (by have := X.out.size; simp only; omega)).base (by have := X.out.size; omega), (X5.out.put _ _).2.2⟩
            · have E : Hid (rF seed bs = Rd.bad 5) := Lib.hid (by
                unfold rF; rw [if_neg h0, HNn.out, if_neg hL, HXn.out, if_neg XE.out, if_neg hS, HMm.out, HX.out, HDD.out, if_pos hQ])
              have t : (bv ((Crc.mask (sumF seed x D)).setWidth 64) != (M : Int)) = true := by unfold bv; have := (Crc.mask (sumF seed x D)).isLt; simp [BitVec.toNat_setWidth]; omega
              clear hQ
              have a0 := X5.out.a0
              have a1 := X5.out.a1
              have fa0 := X5.out.fa 0
              have fa1 := X5.out.fa 1
              go_wp2_with fail
              refine bodyPost_ret (results_rec3 rfl _ _ w.heap.size (.int .i64 0) (.slice none 0 0) rfl (X5.out.put _ _).1 (X5.out.put _ _).2.1) rfl ?_
              rw [E.out]
              exact ⟨_, rfl, OwnB.nil _ _, (X5.out.put _ _).2.2⟩
end Go.Proofs.Ytfadpjljokpenaa

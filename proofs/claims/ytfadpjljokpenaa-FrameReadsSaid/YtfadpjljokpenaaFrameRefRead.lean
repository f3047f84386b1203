/- The walk of the document's reading of frames. -/
import Derived.Test.YtfadpjljokpenaaFrameRead
namespace Go.Proofs.Ytfadpjljokpenaa
open Go.RowKit

/-- The answer's box. -/
structure Box (w w' : World) : Prop where
  a0 : w'.cell? ⟨w.heap.size, 0, none⟩ = some (.int .i64 0)
  a1 : w'.cell? ⟨w.heap.size, 1, none⟩ = some (.slice none 0 0)
  fa : ∀ i, w'.frozen? ⟨w.heap.size, i, none⟩ = false
  below : Below w.heap.size w w'
  size : w.heap.size + 1 ≤ w'.heap.size
theorem box_new (w : World) : Box w (w.alloc (.cells #[.int .i64 0, .slice none 0 0] 34)) := by
  have h1 := heap_alloc_new w (.cells #[.int .i64 0, .slice none 0 0] 34)
  refine ⟨cell_of_row _ _ 0 _ _ _ h1, cell_of_row _ _ 1 _ _ _ h1, fun i => frozen_of_row _ _ i _ _ h1, below_alloc _ _, ?_⟩
  show _ ≤ (w.heap.push _).size
  rw [Array.size_push]; omega
theorem Box.on {w w1 w2 : World} (h : Box w w1) (hb : Below w1.heap.size w1 w2) : Box w w2 :=
  ⟨cell_keep hb h.a0, cell_keep hb h.a1, fun i => (hb.frozen (p := ⟨w.heap.size, i, none⟩) (by have := h.size; simp only; omega)).trans (h.fa i), below_trans h.below hb, by have := h.size; have := hb.size; omega⟩
theorem Box.put {w w1 : World} (h : Box w w1) (x y : Value) :
    ((w1.setCell ⟨w.heap.size, 0, none⟩ x).setCell ⟨w.heap.size, 1, none⟩ y).cell? ⟨w.heap.size, 0, none⟩ = some x ∧ ((w1.setCell ⟨w.heap.size, 0, none⟩ x).setCell ⟨w.heap.size, 1, none⟩ y).cell? ⟨w.heap.size, 1, none⟩ = some y ∧ Below w.heap.size w ((w1.setCell ⟨w.heap.size, 0, none⟩ x).setCell ⟨w.heap.size, 1, none⟩ y) := by
  have c1 : (w1.setCell ⟨w.heap.size, 0, none⟩ x).cell? ⟨w.heap.size, 1, none⟩ = some (.slice none 0 0) := by
    rw [World.cell?_setCell_other _ _ _ _ (by intro e; injection e; omega)]; exact h.a1
  refine ⟨?_, World.cell?_setCell_same _ _ _ c1, (h.below.setCell (p := ⟨w.heap.size, 0, none⟩) (Nat.le_refl _) _).setCell (p := ⟨w.heap.size, 1, none⟩) (Nat.le_refl _) _⟩
  rw [World.cell?_setCell_other _ _ _ _ (by intro e; injection e; omega)]
  exact World.cell?_setCell_same _ _ _ h.a0
theorem ref_number_nat (ao : Option Addr) (xs : List (BitVec 8)) (n cap : Nat) (w : World) (hb : BytesAt w ao xs) (hn : xs.length = n) (hl : n ≤ 8) (N : Nat) (h : leN xs = N) :
    Calls Try.prog 69 #[.slice ao n cap] w fun x w' => x = .returned (.int .u64 (N : Nat)) ∧ w = w' := by
  refine (ref_number_to ao xs n cap w hb hn (by omega)).mono fun _ _ ⟨he, hw⟩ => ⟨?_, hw⟩
  rw [he, ← h]
  unfold bv
  rw [leB_lt (by omega)]
theorem ref_number_bv (ao : Option Addr) (xs : List (BitVec 8)) (n cap : Nat) (w : World) (hb : BytesAt w ao xs) (hn : xs.length = n) (hl : n ≤ 8) (x : BitVec 64) (h : leB xs = x) :
    Calls Try.prog 69 #[.slice ao n cap] w fun e w' => e = .returned (.int .u64 (bv x)) ∧ w = w' := by
  subst h; exact ref_number_to ao xs n cap w hb hn (by omega)

set_option maxHeartbeats 4000000 in
set_option maxRecDepth 100000 in
theorem ref_read (seed : BitVec 32) (ao : Option Addr) (bs : List (BitVec 8)) (cap : Nat) (w : World) (hb : BytesAt w ao bs) (hn : ao = none → cap = 0) (hc : bs.length ≤ cap) (hm : cap ≤ 9223372036854775807) :
    Calls Try.prog 26 #[.int .u32 (bv seed), .slice ao bs.length cap] w (ReadB w (rF seed bs)) := by
  by_cases h0 : bs.length < 16
  · have E : Hid (rF seed bs = Rd.bad 2) := Lib.hid (by unfold rF; rw [if_pos h0])
    have X := Lib.hid (box_new w)
    clear hb hn
    go_enter Try.func26, Try.ntmps26
    go_wp2_with fail
    refine bodyPost_ret (results_rec3 rfl _ _ w.heap.size _ _ rfl X.out.a0 X.out.a1) rfl ?_
    rw [E.out]
    exact ⟨_, rfl, OwnB.nil _ _, X.out.below⟩
  · obtain ⟨gb, off, rfl, -⟩ := hb 0 (by omega)
    have HB := Lib.hid hb
    have X := Lib.hid (box_new w)
    obtain ⟨N, hN⟩ : ∃ N : Nat, leN (bs.take 4) = N := ⟨_, rfl⟩
    obtain ⟨x, hx⟩ : ∃ x : BitVec 64, leB ((bs.drop 4).take 8) = x := ⟨_, rfl⟩
    obtain ⟨M, hM⟩ : ∃ M : Nat, leN ((bs.drop 12).take 4) = M := ⟨_, rfl⟩
    have HNn := Lib.hid hN
    have HX := Lib.hid hx
    have HXn := Lib.hid (show leN ((bs.drop 4).take 8) = x.toNat by rw [← hx, leB_lt (by simp; omega)])
    have HMm := Lib.hid hM
    have hn32 : N < 4294967296 := by have := leN_lt (bs.take 4); rw [hN, show (bs.take 4).length = 4 by simp; omega] at this; omega
    have L4 : Hid ((bs.take 4).length = 4) := Lib.hid (by simp; omega)
    have L8 : Hid (((bs.drop 4).take 8).length = 8) := Lib.hid (by simp; omega)
    have L12 : Hid (((bs.drop 12).take 4).length = 4) := Lib.hid (by simp; omega)
    have k4 : ¬ cap = 4 := by omega
    have k12 : ¬ cap = 12 := by omega
    clear hb hn hN hx hM
    go_enter Try.func26, Try.ntmps26
    go_wp2_with fail
    refine (ref_number_nat (some ⟨gb, off, none⟩) (bs.take 4) _ _ _ ((HB.out.take 4).below X.out.below) L4.out (by omega) N HNn.out).mono ?_
    rintro e w1 ⟨rfl, rfl⟩
    go_wp2_with fail
    refine (ref_number_bv (some ⟨gb, off + 4, none⟩) ((bs.drop 4).take 8) _ _ _ ((HB.out.sub 4 8).below X.out.below) L8.out (by omega) x HX.out).mono ?_
    rintro e w1 ⟨rfl, rfl⟩
    go_wp2_with fail
    refine (ref_number_nat (some ⟨gb, off + 12, none⟩) ((bs.drop 12).take 4) _ _ _ ((HB.out.sub 12 4).below X.out.below) L12.out (by omega) M HMm.out).mono ?_
    rintro e w1 ⟨rfl, rfl⟩
    obtain ⟨w3, hw3⟩ : ∃ w3, w.alloc (.cells #[.int .i64 0, .slice none 0 0] 34) = w3 := ⟨_, rfl⟩
    rw [hw3] at X
    try rw [hw3]
    clear hw3
    by_cases hL : 4096 < N
    · have E : Hid (rF seed bs = Rd.bad 3) := Lib.hid (by unfold rF; rw [if_neg h0, HNn.out, if_pos hL])
      have a0 := X.out.a0
      have a1 := X.out.a1
      have fa0 := X.out.fa 0
      have fa1 := X.out.fa 1
      go_wp2_with fail
      refine bodyPost_ret (results_rec3 rfl _ _ w.heap.size (.int .i64 0) (.slice none 0 0) rfl (X.out.put _ _).1 (X.out.put _ _).2.1) rfl ?_
      rw [E.out]
      exact ⟨_, rfl, OwnB.nil _ _, (X.out.put _ _).2.2⟩
    · have hle : (N : Int) ≤ 4096 := by omega
      by_cases hX : bv x < 1 ∨ 9223372036854775806 < bv x
      · have E : Hid (rF seed bs = Rd.bad 4) := Lib.hid (by
          unfold rF; rw [if_neg h0, HNn.out, if_neg hL, HXn.out, if_pos]
          unfold bv at hX; omega)
        have a0 := X.out.a0
        have a1 := X.out.a1
        have fa0 := X.out.fa 0
        have fa1 := X.out.fa 1
        rcases hX with hX | hX
        · go_wp2_with fail
          refine bodyPost_ret (results_rec3 rfl _ _ w.heap.size (.int .i64 0) (.slice none 0 0) rfl (X.out.put _ _).1 (X.out.put _ _).2.1) rfl ?_
          rw [E.out]
          exact ⟨_, rfl, OwnB.nil _ _, (X.out.put _ _).2.2⟩
        · have hX2 : ¬ bv x < 1 := by omega
          go_wp2_with fail
          refine bodyPost_ret (results_rec3 rfl _ _ w.heap.size (.int .i64 0) (.slice none 0 0) rfl (X.out.put _ _).1 (X.out.put _ _).2.1) rfl ?_
          rw [E.out]
          exact ⟨_, rfl, OwnB.nil _ _, (X.out.put _ _).2.2⟩
      · have hX1 : ¬ bv x < 1 := by omega
        have hX2 : ¬ 9223372036854775806 < bv x := by omega
        have XE : Hid (¬ ¬ (1 ≤ x.toNat ∧ x.toNat ≤ 9223372036854775806)) := Lib.hid (by unfold bv at hX; omega)
        have wx : IntKind.i64.wrap (bv x) = bv x := by rw [IntKind.wrap_i64]; omega
        clear hX
        by_cases hS : bs.length < 16 + N
        · have E : Hid (rF seed bs = Rd.bad 2) := Lib.hid (by
            unfold rF; rw [if_neg h0, HNn.out, if_neg hL, HXn.out, if_neg XE.out, if_pos hS])
          have hS' : (bs.length : Int) - 16 < (N : Int) := by omega
          have a0 := X.out.a0
          have a1 := X.out.a1
          have fa0 := X.out.fa 0
          have fa1 := X.out.fa 1
          go_wp2_with fail
          refine bodyPost_ret (results_rec3 rfl _ _ w.heap.size (.int .i64 0) (.slice none 0 0) rfl (X.out.put _ _).1 (X.out.put _ _).2.1) rfl ?_
          rw [E.out]
          exact ⟨_, rfl, OwnB.nil _ _, (X.out.put _ _).2.2⟩
        · have hS' : (N : Int) ≤ (bs.length : Int) - 16 := by omega
          obtain ⟨D, hDD⟩ : ∃ D, (bs.drop 16).take N = D := ⟨_, rfl⟩
          have hbl := Lib.hid (show D.length = N by rw [← hDD]; simp; omega)
          have HDD := Lib.hid hDD
          clear hDD
          by_cases hck : cap = 16
          · obtain rfl : N = 0 := by omega
            subst hck
            have HD := Lib.hid (show BytesAt w3 (some ⟨gb, off, none⟩) D from fun i hi => by have := hbl.out; omega)
            go_wp2_with (refine wpList_append_bytes (o := ⟨some 48, _, _, _, _, _⟩) rfl _ _ rfl w3.heap.size _ [] rfl (OwnB.nil _ _) (some ⟨gb, off, none⟩) _ _ D rfl (by rw [hbl.out]; try omega) HD.out (fun h => nomatch h) (by rw [hbl.out]; simp; try omega) (Nat.le_refl _) ?_)
            intro v4 w4 hv hg hi
            have X4 := Lib.hid (X.out.on ((OwnB.nil w3 w3.heap.size).below hg (Nat.le_refl _) (Nat.le_refl _)))
            have O4 := Lib.hid (show OwnB w4 w3.heap.size v4 D from hv)
            clear hv hg hi
            obtain ⟨a4, c4, rfl, x4, n4, -, -, -⟩ := O4.out.slice
            have Y4 := Lib.hid x4
            have N4 := Lib.hid n4
            clear x4 n4
            go_wp2_with fail
            refine (ref_sumF seed x a4 _ c4 _ Y4.out N4.out (by rw [hbl.out]; omega)).mono ?_
            rintro e w5 ⟨rfl, hb⟩
            have X5 := Lib.hid (X4.out.on hb)
            have O5 := Lib.hid (O4.out.keep hb)
            clear hb Y4 N4
            go_wp2_with fail
            refine (ref_mask _ _).mono ?_
            rintro e w7 ⟨rfl, rfl⟩
            by_cases hQ : M = (Crc.mask (sumF seed x D)).toNat
            · have E : Hid (rF seed bs = ⟨x, D, 16 + 0, sumF seed x D, 0⟩) := Lib.hid (by
                unfold rF; rw [if_neg h0, HNn.out, if_neg hL, HXn.out, if_neg XE.out, if_neg hS, HMm.out, HX.out, HDD.out, if_neg (fun h => h hQ)])
              have t : (bv ((Crc.mask (sumF seed x D)).setWidth 64) != (M : Int)) = false := by rw [hQ]; unfold bv; simp [BitVec.toNat_setWidth]; omega
              clear hQ
              have a0 := X5.out.a0
              have a1 := X5.out.a1
              have fa0 := X5.out.fa 0
              have fa1 := X5.out.fa 1
              go_wp2_with fail
              refine bodyPost_ret (results_rec3 rfl _ _ w.heap.size (.int .i64 (bv x)) (.slice a4 D.length c4) rfl (X5.out.put _ _).1 (X5.out.put _ _).2.1) rfl ?_
              rw [E.out]
              exact ⟨_, rfl, ((O5.out.set (p := ⟨w.heap.size, 0, none⟩) (by have := X.out.size; simp only; omega)).set (p := ⟨w.heap.size, 1, none⟩) (by have := X.out.size; simp only; omega)).base (by have := X.out.size; omega), (X5.out.put _ _).2.2⟩
            · have E : Hid (rF seed bs = Rd.bad 5) := Lib.hid (by
                unfold rF; rw [if_neg h0, HNn.out, if_neg hL, HXn.out, if_neg XE.out, if_neg hS, HMm.out, HX.out, HDD.out, if_pos hQ])
              have t : (bv ((Crc.mask (sumF seed x D)).setWidth 64) != (M : Int)) = true := by unfold bv; have := (Crc.mask (sumF seed x D)).isLt; simp [BitVec.toNat_setWidth]; omega
              clear hQ
              have a0 := X5.out.a0
              have a1 := X5.out.a1
              have fa0 := X5.out.fa 0
              have fa1 := X5.out.fa 1
              go_wp2_with fail
              refine bodyPost_ret (results_rec3 rfl _ _ w.heap.size (.int .i64 0) (.slice none 0 0) rfl (X5.out.put _ _).1 (X5.out.put _ _).2.1) rfl ?_
              rw [E.out]
              exact ⟨_, rfl, OwnB.nil _ _, (X5.out.put _ _).2.2⟩
          · have HD := Lib.hid (show BytesAt w3 (some ⟨gb, off + 16, none⟩) D from HDD.out ▸ (HB.out.sub 16 N).below X.out.below)
            go_wp2_with (refine wpList_append_bytes (o := ⟨some 48, _, _, _, _, _⟩) rfl _ _ rfl w3.heap.size _ [] rfl (OwnB.nil _ _) (some ⟨gb, off + 16, none⟩) _ _ D rfl (by rw [hbl.out]; try omega) HD.out (fun h => nomatch h) (by rw [hbl.out]; simp; try omega) (Nat.le_refl _) ?_)
            intro v4 w4 hv hg hi
            have X4 := Lib.hid (X.out.on ((OwnB.nil w3 w3.heap.size).below hg (Nat.le_refl _) (Nat.le_refl _)))
            have O4 := Lib.hid (show OwnB w4 w3.heap.size v4 D from hv)
            clear hv hg hi
            obtain ⟨a4, c4, rfl, x4, n4, -, -, -⟩ := O4.out.slice
            have Y4 := Lib.hid x4
            have N4 := Lib.hid n4
            clear x4 n4
            go_wp2_with fail
            refine (ref_sumF seed x a4 _ c4 _ Y4.out N4.out (by rw [hbl.out]; omega)).mono ?_
            rintro e w5 ⟨rfl, hb⟩
            have X5 := Lib.hid (X4.out.on hb)
            have O5 := Lib.hid (O4.out.keep hb)
            clear hb Y4 N4
            go_wp2_with fail
            refine (ref_mask _ _).mono ?_
            rintro e w7 ⟨rfl, rfl⟩
            by_cases hQ : M = (Crc.mask (sumF seed x D)).toNat
            · have E : Hid (rF seed bs = ⟨x, D, 16 + N, sumF seed x D, 0⟩) := Lib.hid (by
                unfold rF; rw [if_neg h0, HNn.out, if_neg hL, HXn.out, if_neg XE.out, if_neg hS, HMm.out, HX.out, HDD.out, if_neg (fun h => h hQ)])
              have t : (bv ((Crc.mask (sumF seed x D)).setWidth 64) != (M : Int)) = false := by rw [hQ]; unfold bv; simp [BitVec.toNat_setWidth]; omega
              clear hQ
              have a0 := X5.out.a0
              have a1 := X5.out.a1
              have fa0 := X5.out.fa 0
              have fa1 := X5.out.fa 1
              go_wp2_with fail
              refine bodyPost_ret (results_rec3 rfl _ _ w.heap.size (.int .i64 (bv x)) (.slice a4 D.length c4) rfl (X5.out.put _ _).1 (X5.out.put _ _).2.1) rfl ?_
              rw [E.out]
              exact ⟨_, rfl, ((O5.out.set (p := ⟨w.heap.size, 0, none⟩) (by have := X.out.size; simp only; omega)).set (p := ⟨w.heap.size, 1, none⟩) (by have := X.out.size; simp only; omega)).base (by have := X.out.size; omega), (X5.out.put _ _).2.2⟩
            · have E : Hid (rF seed bs = Rd.bad 5) := Lib.hid (by
                unfold rF; rw [if_neg h0, HNn.out, if_neg hL, HXn.out, if_neg XE.out, if_neg hS, HMm.out, HX.out, HDD.out, if_pos hQ])
              have t : (bv ((Crc.mask (sumF seed x D)).setWidth 64) != (M : Int)) = true := by unfold bv; have := (Crc.mask (sumF seed x D)).isLt; simp [BitVec.toNat_setWidth]; omega
              clear hQ
              have a0 := X5.out.a0
              have a1 := X5.out.a1
              have fa0 := X5.out.fa 0
              have fa1 := X5.out.fa 1
              go_wp2_with fail
              refine bodyPost_ret (results_rec3 rfl _ _ w.heap.size (.int .i64 0) (.slice none 0 0) rfl (X5.out.put _ _).1 (X5.out.put _ _).2.1) rfl ?_
              rw [E.out]
              exact ⟨_, rfl, OwnB.nil _ _, (X5.out.put _ _).2.2⟩
end Go.Proofs.Ytfadpjljokpenaa

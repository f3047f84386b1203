/- What reading a catalog answers, in plain words; the reader's calls in these words. -/
import Derived.Test.YtmkljmljbbijeaaCatNext
import Derived.Test.YtmkljmljbbijeaaCatNumber
import Derived.Test.YtmkljmljbbijeaaWireMore
import Derived.Test.YtmkljmljbbijeaaRefReader
namespace Go.Proofs.Ytmkljmljbbijeaa
open Go.RowKit

abbrev RS := List (BitVec 8) × Nat
/-- A number of at most so much is read; the state: what is left, why it stopped. -/
def stp (most : BitVec 64) (s : RS) : BitVec 64 × RS :=
  if s.2 = 0 then (if (rv s.1).2.2 = 0 then (if bv (rv s.1).1 ≤ bv most then ((rv s.1).1, (s.1.drop (rv s.1).2.1, 0)) else (0#64, (s.1, 3))) else (0#64, (s.1, (rv s.1).2.2))) else (0#64, s)
def fx4 (s : RS) : BitVec 64 × RS :=
  if s.2 = 0 then (if 4 ≤ s.1.length then (leB (s.1.take 4), (s.1.drop 4, 0)) else (0#64, (s.1, 2))) else (0#64, s)
theorem stp_bad (most : BitVec 64) {s : RS} (h : s.2 ≠ 0) : stp most s = (0#64, s) := by unfold stp; rw [if_neg h]
theorem fx4_bad {s : RS} (h : s.2 ≠ 0) : fx4 s = (0#64, s) := by unfold fx4; rw [if_neg h]
theorem varH_stp {bs : List (BitVec 8)} {k bad k' bad' : Nat} {most v : BitVec 64} (h : VarH bs k bad most v k' bad') : stp most (bs.drop k, bad) = (v, (bs.drop k', bad')) := by
  rcases h with ⟨rfl, j, hr, hm, rfl, rfl⟩ | ⟨rfl, rfl, hb, ⟨rfl, h⟩ | rfl⟩
  · unfold stp
    simp only [hr, if_pos, hm, List.drop_drop]
  · unfold stp
    unfold rn at h
    simp only [if_pos]
    split at h
    · rename_i hc
      rw [if_pos hc.1, if_neg (by omega)]
      simp only at h
      rw [h]
    · rename_i hc
      by_cases h0 : (rv (bs.drop k')).2.2 = 0
      · exact absurd (h0.symm.trans h) (Ne.symm hb)
      · rw [if_neg h0, h]
  · rw [stp_bad _ (by exact hb)]
theorem fixH_fx {bs : List (BitVec 8)} {k bad k' bad' : Nat} {v : BitVec 64} (h : FixH bs k bad 4 v k' bad') : fx4 (bs.drop k, bad) = (v, (bs.drop k', bad')) := by
  rcases h with ⟨rfl, hl, rfl, rfl, rfl⟩ | ⟨rfl, rfl, hb, ⟨rfl, h, rfl⟩ | rfl⟩
  · unfold fx4
    simp only [if_pos, List.length_drop, List.drop_drop]
    rw [if_pos (by omega)]
  · unfold fx4
    simp only [if_pos, List.length_drop]
    rw [if_neg (by omega)]
  · rw [fx4_bad (by exact hb)]
def topN : BitVec 64 := 9223372036854775807#64
/-- A segment is read. -/
def segR (s : RS) : SegV × RS :=
  let a := stp topN s
  let b := stp topN a.2
  let c := fx4 b.2
  let d := stp topN c.2
  let e := stp topN d.2
  (⟨bv a.1, bv b.1, c.1.setWidth 32, bv d.1, bv e.1⟩, e.2)
def segsR : Nat → RS → List SegV × RS
  | 0, s => ([], s)
  | n + 1, s => let r := segR s; let t := segsR n r.2; (r.1 :: t.1, t.2)
theorem segsR_snoc : ∀ (n : Nat) (s : RS), segsR (n + 1) s = ((segsR n s).1 ++ [(segR (segsR n s).2).1], (segR (segsR n s).2).2)
  | 0, s => rfl
  | n + 1, s => by
    rw [segsR, segsR_snoc n (segR s).2]
    rfl
theorem segsR_len : ∀ (n : Nat) (s : RS), (segsR n s).1.length = n
  | 0, _ => rfl
  | n + 1, s => by rw [segsR]; simp [segsR_len n]
theorem top_le {v : BitVec 64} {s : RS} {t : RS} (h : stp topN s = (v, t)) : bv v ≤ 9223372036854775807 := by
  have e : bv topN = 9223372036854775807 := rfl
  unfold stp at h
  split at h
  · split at h
    · split at h
      · rename_i hm
        injection h with h1 _
        rw [← h1, ← e]; exact hm
      · injection h with h1 _; rw [← h1]; decide
    · injection h with h1 _; rw [← h1]; decide
  · injection h with h1 _; rw [← h1]; decide
theorem top_r64 {v : BitVec 64} {s : RS} {t : RS} (h : stp topN s = (v, t)) : R64 (bv v) := ⟨by have := bv_nonneg v; omega, top_le h⟩
theorem segR_ok (s : RS) : SegOk (segR s).1 := ⟨top_r64 (s := s) rfl, top_r64 (s := (stp topN s).2) rfl, top_r64 (s := (fx4 (stp topN (stp topN s).2).2).2) rfl, top_r64 (s := (stp topN (fx4 (stp topN (stp topN s).2).2).2).2) rfl⟩
theorem segsR_ok : ∀ (n : Nat) (s : RS), OkL (segsR n s).1
  | 0, _ => fun i hi => absurd hi (by simp [segsR])
  | n + 1, s => fun i hi => by
    rw [segsR]
    match i with
    | 0 => exact segR_ok s
    | i + 1 =>
      have := segsR_ok n (segR s).2 i (by rw [segsR_len] at hi ⊢; omega)
      simpa [nthS] using this
open Classical in
noncomputable def endR (g f : Int) (l : List SegV × RS) : CatV × Int :=
  if l.2.2 = 2 then (catZ, 2) else if l.2.2 ≠ 0 ∨ l.2.1 ≠ [] ∨ ¬ MayC ⟨g, f, l.1⟩ then (catZ, 4) else (⟨g, f, l.1⟩, 0)
/-- What stands between the mark and the sum. -/
noncomputable def bodyR (P : List (BitVec 8)) : CatV × Int :=
  let a := stp topN (P, 0)
  let b := stp topN a.2
  let c := stp 64#64 b.2
  endR (bv a.1) (bv b.1) (segsR c.1.toNat c.2)
theorem endR_short {g f : Int} {l : List SegV × RS} (h : l.2.2 = 2) : endR g f l = (catZ, 2) := by unfold endR; rw [if_pos h]
theorem endR_bad {g f : Int} {l : List SegV × RS} (h2 : l.2.2 ≠ 2) (h : l.2.2 ≠ 0 ∨ l.2.1 ≠ [] ∨ ¬ MayC ⟨g, f, l.1⟩) : endR g f l = (catZ, 4) := by unfold endR; rw [if_neg h2, if_pos h]
theorem endR_ok {g f : Int} {l : List SegV × RS} (h0 : l.2.2 = 0) (h1 : l.2.1 = []) (h2 : MayC ⟨g, f, l.1⟩) : endR g f l = (⟨g, f, l.1⟩, 0) := by
  unfold endR
  rw [if_neg (by omega), if_neg]
  rintro (h | h | h)
  · exact h h0
  · exact h h1
  · exact h h2
/-- What reading answers. -/
noncomputable def catR (bs : List (BitVec 8)) : CatV × Int :=
  if bs.length < 8 then (catZ, 2) else if bs.take 4 ≠ fcatL then (catZ, 4)
  else if (leB ((bs.drop (bs.length - 4)))).setWidth 32 ≠ Crc.sum (bs.take (bs.length - 4)) then (catZ, 5)
  else bodyR ((bs.take (bs.length - 4)).drop 4)

set_option maxRecDepth 100000 in
theorem new_reader_far (ao : Option Addr) (bs : List (BitVec 8)) (ca : Nat) (w : World) (hb : BytesAt w ao bs) (hn : ao = none → ca = 0) (hm : bs.length ≤ 140737488351232) :
    Calls Try.prog 66 #[.slice ao bs.length ca] w fun e w' => ∃ b, e = .returned (.pointer (some ⟨b, 0, none⟩)) ∧ w.heap.size ≤ b ∧ RdAt w' b bs 0 0 ∧ Below w.heap.size w w' := by
  have HB := Lib.hid hb
  have HN := Lib.hid hn
  clear hb hn
  go_enter Try.func66, Try.ntmps66
  go_wp2_with (refine wpList_append_bytes (o := ⟨some 4, _, _, _, _, _⟩) rfl _ _ rfl w.heap.size _ [] rfl (OwnB.nil _ _) ao bs.length ca bs rfl rfl HB.out HN.out (by simp; omega) (Nat.le_refl _) ?_)
  intro v2 w2 hv2 hg2 hi2
  have H2 : Hid (Below w.heap.size w w2) := (OwnB.nil w w.heap.size).below hg2 (Nat.le_refl _) (Nat.le_refl _)
  have V2 : Hid (OwnB w2 w.heap.size v2 bs) := hv2
  clear hv2 hg2 hi2
  obtain ⟨ao3, cap, rfl, hnil, hlc, hcm, hbs, hsh⟩ := V2.out.shape
  have HW : Hid (w2.heap.size ≤ w2.heap.size ∧ w.heap.size ≤ w2.heap.size) := ⟨Nat.le_refl _, H2.out.size⟩
  have HB3 := Lib.hid (hbs.below (below_alloc w2 (.cells #[.slice ao3 bs.length cap, .int .i64 0, .int .i64 0] 136)))
  have HA : Hid (ao3 = none ∧ cap = 0 ∨ ∃ g, ao3 = some ⟨g, 0, none⟩ ∧ g ≠ w2.heap.size) := by
    rcases hsh with rfl | ⟨g, rfl, _, hg, _⟩
    · exact .inl ⟨rfl, hnil rfl⟩
    · exact .inr ⟨g, rfl, by omega⟩
  have HC := Lib.hid hcm
  clear hnil hcm hbs hsh
  go_wp2_with fail
  go_ret
  exact ⟨_, rfl, HW.out.2, ⟨⟨ao3, cap, cell_of_row _ _ 0 _ _ _ (heap_alloc_new w2 _), HB3.out, HA.out, hlc, by have := HC.out; unfold maxLen at this; omega⟩, cell_of_row _ _ 1 _ _ _ (heap_alloc_new w2 _), cell_of_row _ _ 2 _ _ _ (heap_alloc_new w2 _), frozen_of_row _ _ _ _ _ (heap_alloc_new w2 _), frozen_of_row _ _ _ _ _ (heap_alloc_new w2 _), by omega⟩, below_trans H2.out (below_alloc _ _)⟩

/-- What a reading call of the program leaves. -/
structure RNow (w w' : World) (b : Nat) (P : List (BitVec 8)) (k bad : Nat) : Prop where
  at' : RdAt w' b P k bad
  but : But b w w'
theorem rd_varint (b : Nat) (P : List (BitVec 8)) (k bad : Nat) (most : BitVec 64) (w : World) (hR : RdAt w b P k bad) (hm : P.length ≤ 140737488355328) (v : BitVec 64) (k' bad' : Nat) (H : VarH P k bad most v k' bad') :
    Calls Try.prog 92 #[.pointer (some ⟨b, 0, none⟩), .int .u64 (bv most)] w fun x w' => x = .returned (.int .u64 (bv v)) ∧ RNow w w' b P k' bad' := by
  rcases H with ⟨rfl, j, hr, hmo, rfl, rfl⟩ | ⟨rfl, rfl, hb', h⟩
  · refine (varint_ok b P k most w hR hm v j hr hmo).mono ?_
    rintro e w' ⟨rfl, hu⟩
    have hj : k + j ≤ P.length := by have := rv_le (P.drop k); rw [hr, List.length_drop] at this; have := hR.le; dsimp only at *; omega
    exact ⟨rfl, hR.moved _ hj hu, hu.but⟩
  · refine (varint_stop b P k' bad most w hR bad' hb' h hm).mono ?_
    rintro e w' ⟨rfl, hu⟩
    exact ⟨rfl, hR.stopped _ hu, hu.but⟩
theorem rd_fixed32 (b : Nat) (P : List (BitVec 8)) (k bad : Nat) (w : World) (hR : RdAt w b P k bad) (hm : P.length ≤ 140737488355328) (v : BitVec 64) (k' bad' : Nat) (H : FixH P k bad 4 v k' bad') :
    Calls Try.prog 82 #[.pointer (some ⟨b, 0, none⟩)] w fun x w' => x = .returned (.int .u32 (bv (v.setWidth 32))) ∧ RNow w w' b P k' bad' := by
  rcases H with ⟨rfl, hl, rfl, rfl, rfl⟩ | ⟨rfl, rfl, hb', h⟩
  · refine (fixed32_ok b P k w hR hm hl).mono ?_
    rintro e w' ⟨rfl, hu⟩
    exact ⟨rfl, hR.moved _ hl hu, hu.but⟩
  · refine (fixed32_stop b P k bad w hR bad' hb' h).mono ?_
    rintro e w' ⟨rfl, hu⟩
    exact ⟨rfl, hR.stopped _ hu, hu.but⟩
theorem i64_of_bv (v : BitVec 64) (h : bv v ≤ 9223372036854775807) : IntKind.i64.wrap (bv v) = bv v := by
  have := bv_nonneg v
  rw [IntKind.wrap_i64]; omega
set_option maxRecDepth 100000 in
theorem rd_number (b : Nat) (P : List (BitVec 8)) (k bad : Nat) (w : World) (hR : RdAt w b P k bad) (hm : P.length ≤ 140737488355328) (v : BitVec 64) (k' bad' : Nat) (H : VarH P k bad topN v k' bad') :
    Calls Try.prog 105 #[.pointer (some ⟨b, 0, none⟩)] w fun x w' => x = .returned (.int .i64 (bv v)) ∧ RNow w w' b P k' bad' := by
  have HR := Lib.hid hR
  have HH := Lib.hid H
  have HM := Lib.hid hm
  have hv := i64_of_bv v (top_le (varH_stp H))
  clear hR H hm
  go_enter Try.func105, Try.ntmps105
  go_wp2_with fail
  refine (rd_varint b P k bad topN w HR.out HM.out v k' bad' HH.out).mono ?_
  rintro e w' ⟨rfl, hN⟩
  have HN := Lib.hid hN
  clear hN
  go_wp2_with fail
  go_ret
  exact ⟨rfl, HN.out⟩
end Go.Proofs.Ytmkljmljbbijeaa

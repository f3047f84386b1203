/- Lists of bytes that were made one behind the other lie in blocks of their own. -/
import Derived.Test.YtfadpjljokpenaaApart
import Derived.Test.YtfadpjljokpenaaWireForms
namespace Go.Proofs.Ytfadpjljokpenaa
open Go.RowKit

def Unlike (x y : Value) : Prop := x.ownBlock = none ∨ y.ownBlock = none ∨ x.ownBlock ≠ y.ownBlock
theorem Unlike.symm {x y : Value} (h : Unlike x y) : Unlike y x := by
  rcases h with h | h | h
  · exact .inr (.inl h)
  · exact .inl h
  · exact .inr (.inr (Ne.symm h))
structure Fresh (B : Nat) (w : World) (vs : List Value) : Prop where
  own : ∀ v ∈ vs, ∃ bs, OwnB w B v bs ∧ bs.length ≤ 281474976710656
  apart : vs.Pairwise Unlike
  size : B ≤ w.heap.size
theorem Fresh.nil (w : World) : Fresh w.heap.size w [] := ⟨fun _ hv => absurd hv (by simp), List.Pairwise.nil, Nat.le_refl _⟩
theorem Fresh.keep {B : Nat} {w w' : World} {vs : List Value} (h : Fresh B w vs) (hb : Below w.heap.size w w') : Fresh B w' vs :=
  ⟨fun v hv => let ⟨bs, ho, hl⟩ := h.own v hv; ⟨bs, ho.keep hb, hl⟩, h.apart, Nat.le_trans h.size hb.size⟩
theorem Fresh.snoc {B : Nat} {w w' : World} {vs : List Value} {v : Value} {bs : List (BitVec 8)} (h : Fresh B w vs) (hb : Below w.heap.size w w') (ho : OwnB w' w.heap.size v bs) (hl : bs.length ≤ 281474976710656) : Fresh B w' (vs ++ [v]) := by
  refine ⟨fun x hx => ?_, List.pairwise_append.2 ⟨h.apart, by simp, fun x hx y hy => ?_⟩, Nat.le_trans h.size hb.size⟩
  · rcases List.mem_append.1 hx with hx | hx
    · exact (h.keep hb).own x hx
    · obtain rfl := List.mem_singleton.1 hx
      exact ⟨bs, ho.base h.size, hl⟩
  · obtain rfl := List.mem_singleton.1 hy
    obtain ⟨b', ho', _⟩ := h.own x hx
    cases hxo : x.ownBlock with
    | none => exact .inl hxo
    | some g =>
      refine .inr (.inr fun e => ?_)
      rw [hxo] at e
      obtain ⟨_, _, hc⟩ := rows_blk ho' hxo
      have h1 := heap_lt hc
      have h2 := (rows_blk ho e.symm).1
      omega
theorem Fresh.perm {B : Nat} {w : World} {vs us : List Value} (h : Fresh B w vs) (hp : vs.Perm us) : Fresh B w us :=
  ⟨fun v hv => h.own v (hp.mem_iff.2 hv), (hp.pairwise_iff (fun h => h.symm)).1 h.apart, h.size⟩
/-- The lists, laid side by side, as Keep takes them. -/
theorem Fresh.come {B lo kb z : Nat} {w wk : World} {vs xs : List Value} {lv : Value} {t : TypeId} (h : Fresh B w vs) (hK : Kept wk kb lo lv z xs) (hB : wk.heap.size ≤ B) (hlo : lo ≤ B) :
    Come (w.alloc (.cells vs.toArray t (0, 0))) lo w.heap.size xs vs 0 := by
  have hb : Below w.heap.size w (w.alloc (.cells vs.toArray t (0, 0))) := below_alloc _ _
  refine ⟨fun j v _ hv => ?_, fun j v _ hv => ?_, fun j v _ hv g hg x hx e => ?_, fun i j x y hij hx hy => ?_⟩
  · rw [cell_of_row _ _ j _ _ _ (heap_alloc_new w _)]
    simpa using hv
  · obtain ⟨bs, ho, hl⟩ := h.own v (List.mem_of_getElem? hv)
    exact ⟨bs, (ho.keep hb).base hlo, hl⟩
  · obtain ⟨bs, ho, _⟩ := h.own v (List.mem_of_getElem? hv)
    have h1 := (rows_blk ho hg).1
    obtain ⟨⟨b', ho'⟩, _⟩ := hK.elem x hx
    obtain ⟨_, _, hc⟩ := rows_blk ho' e
    have := heap_lt hc
    omega
  · obtain ⟨hi, rfl⟩ := List.getElem?_eq_some_iff.1 hx
    obtain ⟨hj, rfl⟩ := List.getElem?_eq_some_iff.1 hy
    rcases List.pairwise_iff_getElem.1 h.apart i j hi hj hij with h | h | h
    · exact .inl h
    · rw [h]
      cases (vs[i]).ownBlock with
      | none => exact .inl rfl
      | some g => exact .inr (by simp)
    · exact .inr h

set_option maxRecDepth 100000 in
theorem fixed_own (n : BitVec 64) (size : Nat) (w : World) (hs : size ≤ 8) :
    Calls Try.prog 77 #[.int .u64 (bv n), .int .i64 size] w fun e w' => ∃ v bs, e = .returned v ∧ OwnB w' w.heap.size v bs ∧ bs.length = size ∧ Below w.heap.size w w' := by
  obtain ⟨i0, hi, hz0, hz1, hz2⟩ := info_parts Try.infoByte
  have hmk : ∀ u : World, (Instr.makeSlice 31 (.int .i64 (size : Int)) (.int .i64 (size : Int))).run Try.prog u =
      .ok (.slice (some ⟨u.heap.size, 0, none⟩) size size) (u.alloc (.cells (madeCells #[.int .u8 0] size) 5)) := fun u => by
    have h := run_make (P := Try.prog) u 31 5 i0 (.int .u8 0) Try.underlying31 hi hz0 .i64 .i64 (size : Int) (size : Int) (by omega) (Int.le_refl _) (by rw [hz2]; omega) (by omega)
    simpa [hz1, Value.cells] using h
  have H0 : Hid (OwnB (w.alloc (.cells (madeCells #[.int .u8 0] size) 5)) w.heap.size (.slice (some ⟨w.heap.size, 0, none⟩) size size) (List.replicate size 0#8)) := Lib.hid (by
    have h := World.ownsRow_lit (base := w.heap.size) (e := 5) (size := 1) w (madeCells #[.int .u8 0] size) size (Nat.le_refl _) (by simp only [maxLen]; omega) (by simp [madeCells])
    rw [toList_madeCells_one] at h
    unfold OwnB
    rw [List.length_replicate, show bvals (List.replicate size 0#8) = List.replicate size (.int .u8 0) from by simp [bvals, bval, bv]]
    exact h)
  clear hi hz0 hz1 hz2
  go_enter Try.func77, Try.ntmps77
  go_wp2_with fail
  go_loopw [11] (fun i wr => ∃ (k : Nat) (bs : List (BitVec 8)), k ≤ size ∧ i = .int .i64 k ∧ Hid (OwnB wr w.heap.size (.slice (some ⟨w.heap.size, 0, none⟩) size size) bs) ∧ Hid (bs.length = size) ∧ Below w.heap.size w wr) (fun i _ => size - (intOf i).toNat)
  case atStart => exact ⟨0, _, by omega, rfl, H0, Lib.hid (by simp), below_alloc _ _⟩
  case round =>
    obtain ⟨k, bs, hk, rfl, hO, hL, hB⟩ := hrel
    have HB := Lib.hid hB
    clear hB
    by_cases hlt : k < size
    · obtain ⟨hc, hf⟩ := own_cell hO.out hL.out hlt
      have T : ∀ b8 : BitVec 8, OwnB (wr.setCell ⟨w.heap.size, k, none⟩ (.int .u8 (bv b8))) w.heap.size (.slice (some ⟨w.heap.size, 0, none⟩) size size) (bs.set k b8) := fun b8 => by
        have h := (World.ownsRow.stored (show wr.ownsRow w.heap.size 5 1 (.slice (some ⟨w.heap.size, 0, none⟩) size size) size (bvals bs) by have := hO.out; unfold OwnB at this; rwa [hL.out] at this) k (.int .u8 (bv b8))).1
        unfold OwnB
        rw [List.length_set, hL.out, show bvals (bs.set k b8) = (bvals bs).set k (.int .u8 (bv b8)) from List.map_set (f := bval)]
        exact h
      go_wp2_with fail
      go_roundw
      case rel => exact ⟨k + 1, _, by omega, by go_num, Lib.hid (T _), Lib.hid (by rw [List.length_set]; exact hL.out), HB.out.setCell (p := ⟨w.heap.size, k, none⟩) (Nat.le_refl _) _⟩
      case measure => simp [intOf]; omega
    · obtain rfl : k = size := by omega
      go_wp2_with fail
      go_ret
      exact ⟨_, bs, rfl, hO.out, hL.out, HB.out⟩
theorem fixed64_own (n : BitVec 64) (w : World) :
    Calls Try.prog 42 #[.int .u64 (bv n)] w fun e w' => ∃ v bs, e = .returned v ∧ OwnB w' w.heap.size v bs ∧ bs.length = 8 ∧ Below w.heap.size w w' := by
  go_enter Try.func42, Try.ntmps42
  go_wp2_with fail
  refine (fixed_own n 8 _ (by omega)).mono ?_
  rintro e w1 ⟨v, bs, rfl, hO, hl, hb⟩
  have HH := Lib.hid (show OwnB w1 w.heap.size v bs ∧ bs.length = 8 ∧ Below w.heap.size w w1 from ⟨hO, hl, hb⟩)
  clear hO hl hb
  go_wp2_with fail
  go_ret
  exact ⟨_, bs, rfl, HH.out⟩
theorem fixed32_own (n : BitVec 32) (w : World) :
    Calls Try.prog 41 #[.int .u32 (bv n)] w fun e w' => ∃ v bs, e = .returned v ∧ OwnB w' w.heap.size v bs ∧ bs.length = 4 ∧ Below w.heap.size w w' := by
  go_enter Try.func41, Try.ntmps41
  go_wp2_with fail
  refine (fixed_own (n.setWidth 64) 4 _ (by omega)).mono ?_
  rintro e w1 ⟨v, bs, rfl, hO, hl, hb⟩
  have HH := Lib.hid (show OwnB w1 w.heap.size v bs ∧ bs.length = 4 ∧ Below w.heap.size w w1 from ⟨hO, hl, hb⟩)
  clear hO hl hb
  go_wp2_with fail
  go_ret
  exact ⟨_, bs, rfl, HH.out⟩
end Go.Proofs.Ytfadpjljokpenaa

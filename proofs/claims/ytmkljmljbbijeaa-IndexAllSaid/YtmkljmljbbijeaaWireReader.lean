/- The walks of the reader's inner methods: rest, took, number, low; and of NewReader, Err, Left, At. -/
import Derived.Test.YtmkljmljbbijeaaWireVarint
import Derived.Test.YtmkljmljbbijeaaLent
import Derived.Test.YtmkljmljbbijeaaWireRecover
namespace Go.Proofs.Ytmkljmljbbijeaa
open Go.RowKit

/-- A reader in block b: its bytes, where it stands, why it stopped (0: it has not). -/
structure RdAt (w : World) (b : Nat) (bs : List (BitVec 8)) (k bad : Nat) : Prop where
  bytes : ∃ ao cap, w.cell? ⟨b, 0, none⟩ = some (.slice ao bs.length cap) ∧ BytesAt w ao bs ∧ (ao = none ∧ cap = 0 ∨ ∃ g, ao = some ⟨g, 0, none⟩ ∧ g ≠ b) ∧ bs.length ≤ cap ∧ cap ≤ 9223372036854775807
  at1 : w.cell? ⟨b, 1, none⟩ = some (.int .i64 k)
  at2 : w.cell? ⟨b, 2, none⟩ = some (.int .i64 bad)
  free1 : w.frozen? ⟨b, 1, none⟩ = false
  free2 : w.frozen? ⟨b, 2, none⟩ = false
  le : k ≤ bs.length
theorem RdAt.lt {w : World} {b k bad : Nat} {bs : List (BitVec 8)} (h : RdAt w b bs k bad) : b < w.heap.size := block_lt_of_cell h.at1
theorem RdAt.on {w w' : World} {b k bad : Nat} {bs : List (BitVec 8)} (h : RdAt w b bs k bad) (hb : Below w.heap.size w w') : RdAt w' b bs k bad := by
  obtain ⟨ao, cap, hc, hbs, r⟩ := h.bytes
  exact ⟨⟨ao, cap, cell_keep hb hc, hbs.below hb, r⟩, cell_keep hb h.at1, cell_keep hb h.at2, (hb.frozen (p := ⟨b, 1, none⟩) h.lt).trans h.free1, (hb.frozen (p := ⟨b, 2, none⟩) h.lt).trans h.free2, h.le⟩
/-- It has gone on. -/
theorem RdAt.moved {w w' : World} {b k bad : Nat} {bs : List (BitVec 8)} (h : RdAt w b bs k bad) (j : Nat) (hj : j ≤ bs.length) (hu : Upd b 1 (.int .i64 j) w w') : RdAt w' b bs j bad := by
  obtain ⟨ao, cap, hc, hbs, hn, hl, hm⟩ := h.bytes
  have hg : ∀ g off, ao = some ⟨g, off, none⟩ → g ≠ b := fun g off e => by
    rcases hn with ⟨rfl, _⟩ | ⟨g', rfl, hg⟩
    · cases e
    · injection e with e; injection e with e; subst e; exact hg
  exact ⟨⟨ao, cap, (hu.others 0 (by omega)).trans hc, hu.but.bytes hbs hg, hn, hl, hm⟩, hu.val, (hu.others 2 (by omega)).trans h.at2, (hu.frozen 1).trans h.free1, (hu.frozen 2).trans h.free2, hj⟩
/-- It has stopped. -/
theorem RdAt.stopped {w w' : World} {b k bad : Nat} {bs : List (BitVec 8)} (h : RdAt w b bs k bad) (e : Nat) (hu : Upd b 2 (.int .i64 e) w w') : RdAt w' b bs k e := by
  obtain ⟨ao, cap, hc, hbs, hn, hl, hm⟩ := h.bytes
  have hg : ∀ g off, ao = some ⟨g, off, none⟩ → g ≠ b := fun g off e => by
    rcases hn with ⟨rfl, _⟩ | ⟨g', rfl, hg⟩
    · cases e
    · injection e with e; injection e with e; subst e; exact hg
  exact ⟨⟨ao, cap, (hu.others 0 (by omega)).trans hc, hu.but.bytes hbs hg, hn, hl, hm⟩, (hu.others 1 (by omega)).trans h.at1, hu.val, (hu.frozen 1).trans h.free1, (hu.frozen 2).trans h.free2, h.le⟩

set_option maxRecDepth 100000 in
theorem new_reader (ao : Option Addr) (bs : List (BitVec 8)) (ca : Nat) (w : World) (hb : BytesAt w ao bs) (hn : ao = none → ca = 0) (hm : bs.length ≤ 70368744177664) :
    Calls Try.prog 66 #[.slice ao bs.length ca] w fun e w' => ∃ b, e = .returned (.pointer (some ⟨b, 0, none⟩)) ∧ w.heap.size ≤ b ∧ RdAt w' b bs 0 0 ∧ Below w.heap.size w w' := by
  have HB := Lib.hid hb
  have HN := Lib.hid hn
  clear hb hn
  go_enter Try.func66, Try.ntmps66
  go_wp2_with (refine wpList_append_bytes (o := ⟨some 4, _, _, _, _, _⟩) rfl _ _ rfl w.heap.size _ [] rfl (OwnB.nil _ _) ao bs.length ca bs rfl rfl HB.out HN.out (by simp; omega) (Nat.le_refl _) ?_)
  intro v2 w2 hv2 hg2 hi2
  have H2 : Hid (Below w.heap.size w w2) := (OwnB.nil w w.heap.size).below hg2 (Nat.le_refl _) (Nat.le_refl _)
  have V2 : Hid (OwnB w2 w.heap.size v2 bs) := hv2
  clear hv2 hg2 hi2
  obtain ⟨ao3, cap, rfl, hnil, hlc, hcm, hbs, hsh⟩ := V2.out.shape
  have HW : Hid (w2.heap.size ≤ w2.heap.size ∧ w.heap.size ≤ w2.heap.size) := ⟨Nat.le_refl _, H2.out.size⟩
  have HB3 := Lib.hid (hbs.below (below_alloc w2 (.cells #[.slice ao3 bs.length cap, .int .i64 0, .int .i64 0] 136)))
  have HA : Hid (ao3 = none ∧ cap = 0 ∨ ∃ g, ao3 = some ⟨g, 0, none⟩ ∧ g ≠ w2.heap.size) := by
    rcases hsh with rfl | ⟨g, rfl, _, hg, _⟩
    · exact .inl ⟨rfl, hnil rfl⟩
    · exact .inr ⟨g, rfl, by omega⟩
  have HC := Lib.hid hcm
  clear hnil hcm hbs hsh
  go_wp2_with fail
  go_ret
  exact ⟨_, rfl, HW.out.2, ⟨⟨ao3, cap, cell_of_row _ _ 0 _ _ _ (heap_alloc_new w2 _), HB3.out, HA.out, hlc, by have := HC.out; unfold maxLen at this; omega⟩, cell_of_row _ _ 1 _ _ _ (heap_alloc_new w2 _), cell_of_row _ _ 2 _ _ _ (heap_alloc_new w2 _), frozen_of_row _ _ _ _ _ (heap_alloc_new w2 _), frozen_of_row _ _ _ _ _ (heap_alloc_new w2 _), by omega⟩, below_trans H2.out (below_alloc _ _)⟩

/-- What is left of the bytes, as a slice. -/
def RestB (w : World) (bs : List (BitVec 8)) (k : Nat) (e : Ending) (w' : World) : Prop :=
  ∃ ao cap, e = .returned (.slice ao (bs.length - k) cap) ∧ BytesAt w ao (bs.drop k) ∧ (ao = none → cap = 0) ∧ bs.length - k ≤ cap ∧ cap ≤ 9223372036854775807 ∧ ∃ n, w' = w.drewN n
theorem BytesAt.drop {w : World} {b off : Nat} {bs : List (BitVec 8)} (h : BytesAt w (some ⟨b, off, none⟩) bs) (k : Nat) : BytesAt w (some ⟨b, off + k, none⟩) (bs.drop k) := by
  have := h.sub k (bs.drop k).length
  rwa [List.take_length] at this
set_option maxRecDepth 100000 in
theorem reader_rest (b : Nat) (bs : List (BitVec 8)) (k : Nat) (w : World) (hR : RdAt w b bs k 0) :
    Calls Try.prog 116 #[.pointer (some ⟨b, 0, none⟩)] w (RestB w bs k) := by
  obtain ⟨ao, cap, hc, hbs, hn, hl, hm⟩ := hR.bytes
  have h1 := hR.at1
  have h2 := hR.at2
  have hk := hR.le
  have HB := Lib.hid hbs
  clear hR hbs
  by_cases hck : cap = k
  · have HN : Hid (ao = none → cap - k = 0) := fun _ => by omega
    have hz : bs.length - k = 0 := by omega
    have HD : Hid (bs.drop k = []) := List.drop_eq_nil_of_le (by omega)
    subst hck
    clear hn
    go_enter Try.func116, Try.ntmps116
    go_wp2_with fail
    go_quiet (fail)
    go_wp2_with fail
    go_ret
    exact ⟨ao, 0, by rw [hz]; rfl, by rw [HD.out]; exact fun i hi => by simp at hi, fun _ => rfl, by omega, by omega, nq, rfl⟩
  · obtain ⟨g, rfl, -⟩ : ∃ g, ao = some ⟨g, 0, none⟩ ∧ g ≠ b := by
      rcases hn with ⟨rfl, h0⟩ | h
      · omega
      · exact h
    have HD := Lib.hid (Nat.zero_add k ▸ HB.out.drop k)
    clear hn
    go_enter Try.func116, Try.ntmps116
    go_wp2_with fail
    go_quiet (fail)
    go_wp2_with fail
    go_ret
    exact ⟨_, _, rfl, HD.out, (fun h => by cases h), by omega, by omega, nq, rfl⟩
set_option maxRecDepth 100000 in
theorem reader_rest_bad (b : Nat) (bs : List (BitVec 8)) (k bad : Nat) (w : World) (hR : RdAt w b bs k bad) (hb : bad ≠ 0) :
    Calls Try.prog 116 #[.pointer (some ⟨b, 0, none⟩)] w fun e w' => e = .panicked [{ v := faultV bad, recovered := false }] ∧ w = w' := by
  have h2 := hR.at2
  have hb0 : ¬ (bad : Int) = 0 := by omega
  clear hR
  go_enter Try.func116, Try.ntmps116
  go_wp2_with fail
  exact ⟨rfl, rfl, rfl⟩
set_option maxRecDepth 100000 in
theorem reader_took (b : Nat) (bs : List (BitVec 8)) (k n bad : Nat) (w : World) (hR : RdAt w b bs k bad) (hk : k + n ≤ bs.length) (hm : bs.length ≤ 140737488355328) :
    Calls Try.prog 117 #[.pointer (some ⟨b, 0, none⟩), .int .i64 n, .int .i64 0] w fun e w' => e = .returned (.tuple #[]) ∧ Upd b 1 (.int .i64 (k + n : Nat)) w w' := by
  have h1 := hR.at1
  have h1f := hR.free1
  clear hR
  go_enter Try.func117, Try.ntmps117
  go_wp2_with fail
  refine ⟨rfl, _, results_none rfl _ _ _, rfl, ?_⟩
  rw [← Int.natCast_add]
  exact Upd.of (Below.refl _ _) h1
set_option maxRecDepth 100000 in
theorem reader_took_bad (p : Option Addr) (n : Int) (e : Nat) (w : World) (he : e ≠ 0) :
    Calls Try.prog 117 #[.pointer p, .int .i64 n, .int .i64 e] w fun e' w' => e' = .panicked [{ v := faultV e, recovered := false }] ∧ w = w' := by
  have he0 : ¬ (e : Int) = 0 := by omega
  go_enter Try.func117, Try.ntmps117
  go_wp2_with fail
  exact ⟨rfl, rfl, rfl⟩
set_option maxRecDepth 100000 in
theorem reader_err (b : Nat) (bs : List (BitVec 8)) (k bad : Nat) (w : World) (hR : RdAt w b bs k bad) :
    Calls Try.prog 68 #[.pointer (some ⟨b, 0, none⟩)] w fun e w' => e = .returned (.tuple #[.int .i64 (if bad = 0 then 0 else k), .int .i64 bad]) ∧ ∃ n, w' = w.drewN n := by
  have h1 := hR.at1
  have h2 := hR.at2
  clear hR
  by_cases hb : bad = 0
  · subst hb
    go_enter Try.func68, Try.ntmps68
    go_wp2_with fail
    go_ret2
    exact ⟨rfl, 0, rfl⟩
  · rw [if_neg hb]
    have hb0 : ¬ (bad : Int) = 0 := by omega
    clear hb
    go_enter Try.func68, Try.ntmps68
    go_wp2_with fail
    go_quiet (fail)
    go_wp2_with fail
    go_ret2
    exact ⟨rfl, nq, rfl⟩
set_option maxRecDepth 100000 in
theorem reader_left (b : Nat) (bs : List (BitVec 8)) (k bad : Nat) (w : World) (hR : RdAt w b bs k bad) (hm : bs.length ≤ 140737488355328) :
    Calls Try.prog 71 #[.pointer (some ⟨b, 0, none⟩)] w fun e w' => e = .returned (.int .i64 (bs.length - k : Nat)) ∧ ∃ n, w' = w.drewN n := by
  obtain ⟨ao, cap, hc, hbs, hn, hl, hm'⟩ := hR.bytes
  have h1 := hR.at1
  have hk := hR.le
  clear hR hbs hn hm'
  go_enter Try.func71, Try.ntmps71
  go_wp2_with fail
  go_quiet (fail)
  go_wp2_with fail
  go_ret
  exact ⟨by rw [← Int.ofNat_sub hk]; rfl, nq, rfl⟩
end Go.Proofs.Ytmkljmljbbijeaa

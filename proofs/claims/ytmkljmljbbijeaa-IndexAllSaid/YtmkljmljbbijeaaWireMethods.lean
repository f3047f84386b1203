/- The walks of the reader's methods number and low, Varint and Fixed32. -/
import Derived.Test.YtmkljmljbbijeaaWireReader
import Derived.Defers
namespace Go.Proofs.Ytmkljmljbbijeaa
open Go.RowKit

/-- What reading a varint of at most so much answers: the number, its length, the error. -/
def rn (bs : List (BitVec 8)) (k : Nat) (most : BitVec 64) : BitVec 64 × Nat × Nat :=
  if (rv (bs.drop k)).2.2 = 0 ∧ bv most < bv (rv (bs.drop k)).1 then (0#64, 0, 3) else rv (bs.drop k)

/-- An inner method's end: it has gone on, or what stopped it goes up. -/
def InnerB (w : World) (b : Nat) (v : Value) (j e : Nat) (x : Ending) (w' : World) : Prop :=
  if e = 0 then x = .returned v ∧ Upd b 1 (.int .i64 j) w w' else x = .panicked [{ v := faultV e, recovered := false }] ∧ Below w.heap.size w w'

set_option maxHeartbeats 1000000 in
set_option maxRecDepth 100000 in
theorem number_ok (b : Nat) (bs : List (BitVec 8)) (k : Nat) (most : BitVec 64) (w : World) (hR : RdAt w b bs k 0) (hm : bs.length ≤ 140737488355328) (n : BitVec 64) (j : Nat) (hr : rv (bs.drop k) = (n, j, 0)) (h1 : bv n ≤ bv most) :
    Calls Try.prog 112 #[.pointer (some ⟨b, 0, none⟩), .int .u64 (bv most)] w fun x w' => x = .returned (.int .u64 (bv n)) ∧ Upd b 1 (.int .i64 (k + j : Nat)) w w' := by
  have HR := Lib.hid hR
  have hk := hR.le
  have hl := rv_le (bs.drop k)
  rw [List.length_drop, hr] at hl
  simp only at hl
  have HV : Hid (rvVal (rv (bs.drop k)) = .tuple #[.int .u64 (bv n), .int .i64 j, .int .i64 (0 : Nat)]) := by rw [hr]; rfl
  have HL : Hid ((bs.drop k).length = bs.length - k) := List.length_drop ..
  clear hR hr
  go_enter Try.func112, Try.ntmps112
  go_wp2_with fail
  refine (reader_rest b bs k _ HR.out).mono ?_
  rintro x w1 ⟨ao, cap, rfl, hB, -, -, -, nd, rfl⟩
  have HB : Hid (BytesAt (w.drewN nd) ao (bs.drop k)) := hB
  clear hB
  go_wp2_with fail
  refine (read_varint_to ao (bs.drop k) _ cap _ _ HB.out HL.out HV.out).mono ?_
  rintro x w2 ⟨rfl, rfl⟩
  clear HB
  go_wp2_with fail
  refine (reader_took b bs k j 0 _ (HR.out.on (below_drewN _ _)) (by omega) hm).mono ?_
  rintro x w3 ⟨rfl, hU⟩
  have HU := Lib.hid hU
  clear hU
  go_wp2_with fail
  go_ret
  exact ⟨rfl, HU.out.from' (below_drewN _ _) HR.out.lt⟩

set_option maxHeartbeats 1000000 in
set_option maxRecDepth 100000 in
theorem number_long (b : Nat) (bs : List (BitVec 8)) (k : Nat) (most : BitVec 64) (w : World) (hR : RdAt w b bs k 0) (n : BitVec 64) (j : Nat) (hr : rv (bs.drop k) = (n, j, 0)) (h1 : bv most < bv n) :
    Calls Try.prog 112 #[.pointer (some ⟨b, 0, none⟩), .int .u64 (bv most)] w fun x w' => x = .panicked [{ v := faultV (3 : Nat), recovered := false }] ∧ Below w.heap.size w w' := by
  have HR := Lib.hid hR
  have hk := hR.le
  have hl := rv_le (bs.drop k)
  rw [List.length_drop, hr] at hl
  simp only at hl
  have HV : Hid (rvVal (rv (bs.drop k)) = .tuple #[.int .u64 (bv n), .int .i64 j, .int .i64 (0 : Nat)]) := by rw [hr]; rfl
  have HL : Hid ((bs.drop k).length = bs.length - k) := List.length_drop ..
  clear hR hr
  go_enter Try.func112, Try.ntmps112
  go_wp2_with fail
  refine (reader_rest b bs k _ HR.out).mono ?_
  rintro x w1 ⟨ao, cap, rfl, hB, -, -, -, nd, rfl⟩
  have HB : Hid (BytesAt (w.drewN nd) ao (bs.drop k)) := hB
  clear hB
  go_wp2_with fail
  refine (read_varint_to ao (bs.drop k) _ cap _ _ HB.out HL.out HV.out).mono ?_
  rintro x w2 ⟨rfl, rfl⟩
  clear HB
  go_wp2_with fail
  refine (reader_took_bad _ _ 3 _ (by omega)).mono ?_
  rintro x w3 ⟨rfl, rfl⟩
  go_wp2_with fail
  exact ⟨rfl, rfl, below_drewN _ _⟩

set_option maxHeartbeats 1000000 in
set_option maxRecDepth 100000 in
theorem number_err (b : Nat) (bs : List (BitVec 8)) (k : Nat) (most : BitVec 64) (w : World) (hR : RdAt w b bs k 0) (n : BitVec 64) (j : Nat) (e : Nat) (hr : rv (bs.drop k) = (n, j, e)) (he : e ≠ 0) :
    Calls Try.prog 112 #[.pointer (some ⟨b, 0, none⟩), .int .u64 (bv most)] w fun x w' => x = .panicked [{ v := faultV e, recovered := false }] ∧ Below w.heap.size w w' := by
  have HR := Lib.hid hR
  have hk := hR.le
  have hl := rv_le (bs.drop k)
  rw [List.length_drop, hr] at hl
  simp only at hl
  have HV : Hid (rvVal (rv (bs.drop k)) = .tuple #[.int .u64 (bv n), .int .i64 j, .int .i64 e]) := by rw [hr]; rfl
  have HL : Hid ((bs.drop k).length = bs.length - k) := List.length_drop ..
  clear hR hr
  have he0 : ¬ (e : Int) = 0 := by omega
  have HE := Lib.hid he
  clear he
  go_enter Try.func112, Try.ntmps112
  go_wp2_with fail
  refine (reader_rest b bs k _ HR.out).mono ?_
  rintro x w1 ⟨ao, cap, rfl, hB, -, -, -, nd, rfl⟩
  have HB : Hid (BytesAt (w.drewN nd) ao (bs.drop k)) := hB
  clear hB
  go_wp2_with fail
  refine (read_varint_to ao (bs.drop k) _ cap _ _ HB.out HL.out HV.out).mono ?_
  rintro x w2 ⟨rfl, rfl⟩
  clear HB
  go_wp2_with fail
  refine (reader_took_bad _ _ e _ HE.out).mono ?_
  rintro x w3 ⟨rfl, rfl⟩
  go_wp2_with fail
  exact ⟨rfl, rfl, below_drewN _ _⟩

theorem reader_number (b : Nat) (bs : List (BitVec 8)) (k : Nat) (most : BitVec 64) (w : World) (hR : RdAt w b bs k 0) (hm : bs.length ≤ 140737488355328) :
    Calls Try.prog 112 #[.pointer (some ⟨b, 0, none⟩), .int .u64 (bv most)] w (InnerB w b (.int .u64 (bv (rn bs k most).1)) (k + (rn bs k most).2.1) (rn bs k most).2.2) := by
  obtain ⟨n, j, e, hr⟩ : ∃ n j e, rv (bs.drop k) = (n, j, e) := ⟨_, _, _, rfl⟩
  by_cases he : e = 0
  · subst he
    by_cases h1 : bv most < bv n
    · refine (number_long b bs k most w hR n j hr h1).mono fun x w' h => ?_
      have e1 : rn bs k most = (0#64, 0, 3) := by unfold rn; rw [hr]; exact if_pos ⟨rfl, h1⟩
      unfold InnerB
      rw [e1, if_neg (by decide)]
      exact h
    · refine (number_ok b bs k most w hR hm n j hr (by omega)).mono fun x w' h => ?_
      have e1 : rn bs k most = (n, j, 0) := by unfold rn; rw [hr]; exact if_neg (fun h => h1 h.2)
      unfold InnerB
      rw [e1, if_pos rfl]
      exact h
  · refine (number_err b bs k most w hR n j e hr he).mono fun x w' h => ?_
    have e1 : rn bs k most = (n, j, e) := by unfold rn; rw [hr]; exact if_neg (fun h => he h.1)
    unfold InnerB
    rw [e1, if_neg he]
    exact h

set_option maxRecDepth 100000 in
theorem reader_number_bad (b : Nat) (bs : List (BitVec 8)) (k bad : Nat) (most : BitVec 64) (w : World) (hR : RdAt w b bs k bad) (hb : bad ≠ 0) :
    Calls Try.prog 112 #[.pointer (some ⟨b, 0, none⟩), .int .u64 (bv most)] w fun x w' => x = .panicked [{ v := faultV bad, recovered := false }] ∧ w = w' := by
  go_enter Try.func112, Try.ntmps112
  go_wp2_with fail
  refine (reader_rest_bad b bs k bad _ hR hb).mono ?_
  rintro e w1 ⟨rfl, rfl⟩
  go_wp2_with fail
  exact ⟨rfl, rfl, rfl⟩

/-- What the calls' two new variables hold: the receiver, the named result. -/
structure Two (w w2 : World) (p : Option Addr) (z : Value) : Prop where
  below : Below w.heap.size w w2
  recv : w2.cell? ⟨w.heap.size, 0, none⟩ = some (.pointer p)
  res : w2.cell? ⟨w.heap.size + 1, 0, none⟩ = some z
  free : w2.frozen? ⟨w.heap.size + 1, 0, none⟩ = false
theorem two_new (w : World) (p : Option Addr) (z : Value) (t1 t2 : TypeId) : Two w ((w.alloc (.cells #[.pointer p] t1)).alloc (.cells #[z] t2)) p z := by
  have h2 := heap_alloc_new (w.alloc (.cells #[.pointer p] t1)) (.cells #[z] t2)
  have e : (w.alloc (.cells #[.pointer p] t1)).heap.size = w.heap.size + 1 := by show (w.heap.push _).size = _; simp
  refine ⟨below_trans (below_alloc _ _) (below_alloc _ _), cell_keep (below_alloc _ _) (cell_of_row _ _ 0 _ _ _ (heap_alloc_new w _)), ?_, ?_⟩
  · rw [← e]; exact cell_of_row _ _ 0 _ _ _ h2
  · rw [← e]; exact frozen_of_row _ _ 0 _ _ h2
/-- The two variables, behind what turned the reader alone. -/
theorem Two.but {b : Nat} {w w2 w3 : World} {p : Option Addr} {z : Value} (h : Two w w2 p z) (hb : b < w.heap.size) (hu : But b w2 w3) :
    w3.cell? ⟨w.heap.size, 0, none⟩ = some (.pointer p) ∧ w3.cell? ⟨w.heap.size + 1, 0, none⟩ = some z ∧ w3.frozen? ⟨w.heap.size + 1, 0, none⟩ = false :=
  ⟨hu.cell h.recv (by simp; omega), hu.cell h.res (by simp; omega), (hu.frozen (block_lt_of_cell h.res) (by simp; omega)).trans h.free⟩
theorem Upd.wrap {b k : Nat} {v u : Value} {w w2 w3 : World} {p : Addr} (h : Upd b k v w2 w3) (hb : Below w.heap.size w w2) (hl : b < w.heap.size) (hp : w.heap.size ≤ p.block) : Upd b k v w (w3.setCell p u) := by
  have h' := h.from' hb hl
  have hne : ∀ j, p ≠ ⟨b, j, none⟩ := fun j e => by subst e; simp at hp; omega
  exact ⟨h'.but.setNew p hp u, (World.cell?_setCell_other _ _ _ _ (hne _)).trans h'.val, fun j hj => (World.cell?_setCell_other _ _ _ _ (hne _)).trans (h'.others j hj), fun j => by rw [World.frozen?_setCell]; exact h'.frozen j⟩
theorem Upd.drew {b k : Nat} {v : Value} {w w' : World} (h : Upd b k v w w') : Upd b k v w w'.drew := ⟨h.but.of_below (below_drew _), h.val, h.others, h.frozen⟩

set_option maxHeartbeats 1000000 in
set_option maxRecDepth 100000 in
/-- A reader that reads a number. -/
theorem varint_ok (b : Nat) (bs : List (BitVec 8)) (k : Nat) (most : BitVec 64) (w : World) (hR : RdAt w b bs k 0) (hm : bs.length ≤ 140737488355328) (n : BitVec 64) (j : Nat) (hr : rv (bs.drop k) = (n, j, 0)) (h1 : bv n ≤ bv most) :
    Calls Try.prog 92 #[.pointer (some ⟨b, 0, none⟩), .int .u64 (bv most)] w fun x w' => x = .returned (.int .u64 (bv n)) ∧ Upd b 1 (.int .i64 (k + j : Nat)) w w' := by
  have HR := Lib.hid hR
  have HV := Lib.hid hr
  have hmf : ∀ (fn : Fn) (first cap : Array Value) (w : World), (Instr.makeFunc fn first cap).run Try.prog w = .ok (.func fn first cap) w := fun _ _ _ _ => rfl
  have HM := Lib.hid hm
  have HT := Lib.hid (two_new w (some ⟨b, 0, none⟩) (.int .u64 0) 106 96)
  clear hR hm hr
  go_enter_defers Try.func92, Try.ntmps92
  go_wp2_with fail
  refine (number_ok b bs k most _ (HR.out.on HT.out.below) HM.out n j HV.out h1).mono ?_
  rintro x w1 ⟨rfl, hu⟩
  have HU := Lib.hid hu
  obtain ⟨cr, cn, cf⟩ := HT.out.but HR.out.lt hu.but
  clear hu
  go_wp2_with fail
  have cr' : (w1.setCell ⟨w.heap.size + 1, 0, none⟩ (.int .u64 (bv n))).cell? ⟨w.heap.size, 0, none⟩ = some (.pointer (some ⟨b, 0, none⟩)) := by
    rw [World.cell?_setCell_other _ _ _ _ (by intro e; injection e; omega)]; exact cr
  refine leaves_cons (f := 111) (args := #[.pointer (some ⟨w.heap.size, 0, none⟩), .pointer (some ⟨w.heap.size + 1, 0, none⟩)]) (by simp) (by simp [go_sem]) ?_
  refine (idle_varint _ _ _ _ cr').mono ?_
  rintro e u' w'' ⟨rfl, rfl, rfl⟩
  have cn' : (w1.setCell ⟨w.heap.size + 1, 0, none⟩ (.int .u64 (bv n))).cell? ⟨w.heap.size + 1, 0, none⟩ = some (.int .u64 (bv n)) := World.cell?_setCell_same _ _ _ cn
  have HF : Upd b 1 (.int .i64 (k + j : Nat)) w (w1.setCell ⟨w.heap.size + 1, 0, none⟩ (.int .u64 (bv n))).drew := (HU.out.wrap HT.out.below HR.out.lt (by simp)).drew
  simp [Leaves, settle, results, Try.results92, go_sem, cn']
  rw [← Int.natCast_add]
  exact HF

/-- What stops a reading of a number: the reader has stopped already, or this one does. -/
theorem number_stop (b : Nat) (bs : List (BitVec 8)) (k bad : Nat) (most : BitVec 64) (w : World) (hR : RdAt w b bs k bad) (e : Nat) (he : e ≠ 0) (h : bad = 0 ∧ (rn bs k most).2.2 = e ∨ bad = e) (hm : bs.length ≤ 140737488355328) :
    Calls Try.prog 112 #[.pointer (some ⟨b, 0, none⟩), .int .u64 (bv most)] w fun x w' => x = .panicked [{ v := faultV e, recovered := false }] ∧ Below w.heap.size w w' := by
  rcases h with ⟨rfl, h⟩ | rfl
  · refine (reader_number b bs k most w hR hm).mono fun x w' hx => ?_
    unfold InnerB at hx
    rw [h, if_neg he] at hx
    exact hx
  · exact (reader_number_bad b bs k bad most w hR he).mono fun x w' ⟨hx, hw⟩ => ⟨hx, hw ▸ Below.refl _ _⟩

set_option maxHeartbeats 1000000 in
set_option maxRecDepth 100000 in
/-- A reader that stops, or has stopped. -/
theorem varint_stop (b : Nat) (bs : List (BitVec 8)) (k bad : Nat) (most : BitVec 64) (w : World) (hR : RdAt w b bs k bad) (e : Nat) (he : e ≠ 0) (h : bad = 0 ∧ (rn bs k most).2.2 = e ∨ bad = e) (hm : bs.length ≤ 140737488355328) :
    Calls Try.prog 92 #[.pointer (some ⟨b, 0, none⟩), .int .u64 (bv most)] w fun x w' => x = .returned (.int .u64 0) ∧ Upd b 2 (.int .i64 e) w w' := by
  have HR := Lib.hid hR
  have HE := Lib.hid he
  have HH := Lib.hid h
  have hmf : ∀ (fn : Fn) (first cap : Array Value) (w : World), (Instr.makeFunc fn first cap).run Try.prog w = .ok (.func fn first cap) w := fun _ _ _ _ => rfl
  have HM := Lib.hid hm
  have HT := Lib.hid (two_new w (some ⟨b, 0, none⟩) (.int .u64 0) 106 96)
  clear hR hm he h
  go_enter_defers Try.func92, Try.ntmps92
  go_wp2_with fail
  refine (number_stop b bs k bad most _ (HR.out.on HT.out.below) e HE.out HH.out HM.out).mono ?_
  rintro x w1 ⟨rfl, hb⟩
  have B1 := Lib.hid hb
  have hu : But b _ w1 := (But.refl b _).of_below hb
  obtain ⟨cr, cn, cf⟩ := HT.out.but HR.out.lt hu
  have R1 := Lib.hid ((HR.out.on HT.out.below).on hb)
  clear hu hb
  go_wp2_with fail
  have hne : (⟨w.heap.size + 1, 0, none⟩ : Addr).block ≠ b := by have := HR.out.lt; simp; omega
  refine leaves_cons (f := 111) (args := #[.pointer (some ⟨w.heap.size, 0, none⟩), .pointer (some ⟨w.heap.size + 1, 0, none⟩)]) (by simp) (by simp [go_sem]) ?_
  refine (catch_varint _ _ b e _ _ [] w1 cr R1.out.at2 R1.out.free2 cn cf hne).mono ?_
  rintro x u' w'' ⟨rfl, rfl, ⟨⟨w2, hU, rfl⟩⟩⟩
  have cn2 : (w2.setCell ⟨w.heap.size + 1, 0, none⟩ (.int .u64 0)).cell? ⟨w.heap.size + 1, 0, none⟩ = some (.int .u64 0) := World.cell?_setCell_same _ _ _ (hU.but.cell (show w1.drew.cell? _ = _ from cn) hne)
  have HF : Upd b 2 (.int .i64 e) w (w2.setCell ⟨w.heap.size + 1, 0, none⟩ (.int .u64 0)) := hU.wrap ((below_trans HT.out.below B1.out).drew) HR.out.lt (by simp)
  simp [Leaves, settle, results, Try.results92, go_sem, cn2]
  exact HF

/-- What stops a reading of so many bytes. -/
def LowStop (bs : List (BitVec 8)) (k bad size e : Nat) : Prop := bad = 0 ∧ bs.length - k < size ∧ e = 2 ∨ bad = e
set_option maxRecDepth 100000 in
theorem low_short (b : Nat) (bs : List (BitVec 8)) (k size : Nat) (w : World) (hR : RdAt w b bs k 0) (hs : bs.length - k < size) :
    Calls Try.prog 104 #[.pointer (some ⟨b, 0, none⟩), .int .i64 size] w fun x w' => x = .panicked [{ v := faultV (2 : Nat), recovered := false }] ∧ Below w.heap.size w w' := by
  have HR := Lib.hid hR
  clear hR
  go_enter Try.func104, Try.ntmps104
  go_wp2_with fail
  refine (reader_rest b bs k _ HR.out).mono ?_
  rintro x w1 ⟨ao, cap, rfl, -, -, -, -, nd, rfl⟩
  go_wp2_with fail
  exact ⟨rfl, rfl, below_drewN _ _⟩
set_option maxRecDepth 100000 in
theorem low_bad (b : Nat) (bs : List (BitVec 8)) (k bad size : Nat) (w : World) (hR : RdAt w b bs k bad) (hb : bad ≠ 0) :
    Calls Try.prog 104 #[.pointer (some ⟨b, 0, none⟩), .int .i64 size] w fun x w' => x = .panicked [{ v := faultV bad, recovered := false }] ∧ w = w' := by
  go_enter Try.func104, Try.ntmps104
  go_wp2_with fail
  refine (reader_rest_bad b bs k bad _ hR hb).mono ?_
  rintro e w1 ⟨rfl, rfl⟩
  go_wp2_with fail
  exact ⟨rfl, rfl, rfl⟩
theorem low_stop (b : Nat) (bs : List (BitVec 8)) (k bad size : Nat) (w : World) (hR : RdAt w b bs k bad) (e : Nat) (he : e ≠ 0) (h : LowStop bs k bad size e) :
    Calls Try.prog 104 #[.pointer (some ⟨b, 0, none⟩), .int .i64 size] w fun x w' => x = .panicked [{ v := faultV e, recovered := false }] ∧ Below w.heap.size w w' := by
  rcases h with ⟨rfl, h, rfl⟩ | rfl
  · exact low_short b bs k size w hR h
  · exact (low_bad b bs k bad size w hR he).mono fun x w' ⟨hx, hw⟩ => ⟨hx, hw ▸ Below.refl _ _⟩

set_option maxHeartbeats 1000000 in
set_option maxRecDepth 100000 in
theorem fixed32_stop (b : Nat) (bs : List (BitVec 8)) (k bad : Nat) (w : World) (hR : RdAt w b bs k bad) (e : Nat) (he : e ≠ 0) (h : LowStop bs k bad 4 e) :
    Calls Try.prog 82 #[.pointer (some ⟨b, 0, none⟩)] w fun x w' => x = .returned (.int .u32 0) ∧ Upd b 2 (.int .i64 e) w w' := by
  have HR := Lib.hid hR
  have HE := Lib.hid he
  have HH := Lib.hid h
  have hmf : ∀ (fn : Fn) (first cap : Array Value) (w : World), (Instr.makeFunc fn first cap).run Try.prog w = .ok (.func fn first cap) w := fun _ _ _ _ => rfl
  have HT := Lib.hid (two_new w (some ⟨b, 0, none⟩) (.int .u32 0) 106 23)
  clear hR he h
  go_enter_defers Try.func82, Try.ntmps82
  go_wp2_with fail
  refine (low_stop b bs k bad 4 _ (HR.out.on HT.out.below) e HE.out HH.out).mono ?_
  rintro x w1 ⟨rfl, hb⟩
  have B1 := Lib.hid hb
  have hu : But b _ w1 := (But.refl b _).of_below hb
  obtain ⟨cr, cn, cf⟩ := HT.out.but HR.out.lt hu
  have R1 := Lib.hid ((HR.out.on HT.out.below).on hb)
  clear hu hb
  go_wp2_with fail
  have hne : (⟨w.heap.size + 1, 0, none⟩ : Addr).block ≠ b := by have := HR.out.lt; simp; omega
  refine leaves_cons (f := 102) (args := #[.pointer (some ⟨w.heap.size, 0, none⟩), .pointer (some ⟨w.heap.size + 1, 0, none⟩)]) (by simp) (by simp [go_sem]) ?_
  refine (catch_fixed32 _ _ b e _ _ [] w1 cr R1.out.at2 R1.out.free2 cn cf hne).mono ?_
  rintro x u' w'' ⟨rfl, rfl, ⟨⟨w2, hU, rfl⟩⟩⟩
  have cn2 : (w2.setCell ⟨w.heap.size + 1, 0, none⟩ (.int .u32 0)).cell? ⟨w.heap.size + 1, 0, none⟩ = some (.int .u32 0) := World.cell?_setCell_same _ _ _ (hU.but.cell (show w1.drew.cell? _ = _ from cn) hne)
  have HF : Upd b 2 (.int .i64 e) w (w2.setCell ⟨w.heap.size + 1, 0, none⟩ (.int .u32 0)) := hU.wrap ((below_trans HT.out.below B1.out).drew) HR.out.lt (by simp)
  simp [Leaves, settle, results, Try.results82, go_sem, cn2]
  exact HF
end Go.Proofs.Ytmkljmljbbijeaa
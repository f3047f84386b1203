/- Memory in plain words: slices of bytes, rows of registers; what is kept when only new blocks are made and written. -/
import Derived.Test.YtfadpjljokpenaaBits
import Derived.Deep.MidRow
import Derived.Lib.QuietBelow
import Derived.Lib.Hide
namespace Go.Proofs.Ytfadpjljokpenaa
open Go.RowKit

/-- Byte i of a list (0 behind its end). -/
def at8 (bs : List (BitVec 8)) (i : Nat) : BitVec 8 := bs.getD i 0#8
theorem at8_get {bs : List (BitVec 8)} {i : Nat} (h : i < bs.length) : at8 bs i = bs[i] := by simp [at8, h]

/-- The bytes that stand at an address (none: no bytes are asked of it). -/
def BytesAt (w : World) (ao : Option Addr) (bs : List (BitVec 8)) : Prop :=
  ∀ i, i < bs.length → ∃ b off, ao = some ⟨b, off, none⟩ ∧ w.cell? ⟨b, off + i, none⟩ = some (.int .u8 (bv (at8 bs i)))

theorem BytesAt.below {w w' : World} {ao : Option Addr} {bs : List (BitVec 8)} (h : BytesAt w ao bs) (hb : Below w.heap.size w w') : BytesAt w' ao bs := fun i hi => by
  obtain ⟨b, off, e, hc⟩ := h i hi
  exact ⟨b, off, e, (hb.cell (block_lt_of_cell hc)).trans hc⟩
theorem BytesAt.below' {B : Nat} {w w' : World} {ao : Option Addr} {bs : List (BitVec 8)} (h : BytesAt w ao bs) (hB : w.heap.size ≤ B) (hb : Below B w w') : BytesAt w' ao bs := h.below (hb.mono hB)

theorem BytesAt.drew {w : World} {ao : Option Addr} {bs : List (BitVec 8)} (h : BytesAt w ao bs) : BytesAt w.drew ao bs := h
theorem BytesAt.drewN {w : World} {ao : Option Addr} {bs : List (BitVec 8)} (h : BytesAt w ao bs) (n : Nat) : BytesAt (w.drewN n) ao bs := h
theorem below_drew (w : World) : Below w.heap.size w w.drew := ⟨rfl, rfl, rfl, Nat.le_refl _, fun _ _ => rfl⟩
/-- What holds below the size at the start holds on, over a later start. -/
theorem below_trans {w w1 w2 : World} (h : Below w.heap.size w w1) (k : Below w1.heap.size w1 w2) : Below w.heap.size w w2 := h.trans (k.mono h.size)
theorem below_alloc (w : World) (o : Obj) : Below w.heap.size w (w.alloc o) := (Below.refl _ _).alloc (Nat.le_refl _) _
theorem cell_keep {w w' : World} (hb : Below w.heap.size w w') {a : Addr} {v : Value} (h : w.cell? a = some v) : w'.cell? a = some v := (hb.cell (block_lt_of_cell h)).trans h
theorem below_drewN (w : World) (n : Nat) : Below w.heap.size w (w.drewN n) := ⟨rfl, rfl, rfl, Nat.le_refl _, fun _ _ => rfl⟩

theorem there_keep {w w' : World} (hb : Below w.heap.size w w') {b o n : Nat} (h : w.there b o n) : w'.there b o n := fun j hj => by
  obtain ⟨h1, h2⟩ := h j hj
  obtain ⟨u, hu⟩ := Option.isSome_iff_exists.1 h1
  have := block_lt_of_cell hu
  exact ⟨by rw [hb.cell (p := ⟨b, o + j, none⟩) this]; exact h1, by rw [hb.frozen (p := ⟨b, o + j, none⟩) this]; exact h2⟩
theorem there_setCell {w : World} {b o n : Nat} (h : w.there b o n) (a : Addr) (v : Value) : (w.setCell a v).there b o n := fun j hj => by
  obtain ⟨h1, h2⟩ := h j hj
  obtain ⟨u, hu⟩ := Option.isSome_iff_exists.1 h1
  refine ⟨?_, by rw [World.frozen?_setCell]; exact h2⟩
  by_cases e : a = ⟨b, o + j, none⟩
  · subst e; rw [World.cell?_setCell_same _ _ _ hu]; rfl
  · rw [World.cell?_setCell_other _ _ _ _ e, hu]; rfl
theorem there_new (w : World) (cs : Array Value) (t : TypeId) : (w.alloc (.cells cs t)).there w.heap.size 0 cs.size := fun j hj => by
  have hb := heap_alloc_new w (.cells cs t)
  constructor
  · rw [cell_of_row _ _ _ _ _ _ hb]; simp [hj]
  · exact frozen_of_row _ _ _ _ _ hb

/-- A result that lies in memory, as a whole row. -/
theorem results_cell_mid {P : Program} {fn : Func} {p : Tmp} {ty : TypeId} (h : fn.results = #[.cell p ty]) (tmps : Array Value) (w : World) (b o : Nat) (cs : List Value) (d : TypeDesc)
    (hp : tmps.getD p undef = .pointer (some ⟨b, o, none⟩)) (hc : w.rangeAt b o cs)
    (hu : P.underlying ty = some d) (hd : d.isRow = true) (hi : (P.info? ty).map (·.size) = some cs.length) :
    (results fn tmps).run P w = .ok (.agg cs.toArray) w := by
  have hp' : tmps[p]?.getD undef = .pointer (some ⟨b, o, none⟩) := by simpa using hp
  simp [results, h, hp', asAddr, run_loadVar_mid w b o ty cs d hc hu hd hi]
theorem below_setCells {B : Nat} {w : World} (b : Nat) : ∀ (cs : List Value) (o : Nat) (w1 : World), B ≤ b → Below B w w1 → Below B w (w1.setCells b o cs)
  | [], _, _, _, h => h
  | v :: r, o, _, hB, h => by rw [World.setCells]; exact below_setCells b r (o + 1) _ hB (h.setCell hB v)

/-- A row of n cells of the call's own (block b), of which the first k are filled: cell i with 'val i'. -/
structure Fill (w wr : World) (b n : Nat) (val : Nat → Value) (k : Nat) : Prop where
  below : Below w.heap.size w wr
  own : w.heap.size ≤ b
  there : wr.there b 0 n
  cells : ∀ i, i < k → wr.cell? ⟨b, i, none⟩ = some (val i)
theorem Fill.start {w : World} (cs : Array Value) (t : TypeId) (n : Nat) (hn : cs.size = n) (val : Nat → Value) : Fill w (w.alloc (.cells cs t)) w.heap.size n val 0 :=
  ⟨(Below.refl _ _).alloc (Nat.le_refl _) _, Nat.le_refl _, hn ▸ there_new w cs t, fun i hi => by omega⟩
theorem Fill.next {w wr : World} {b n : Nat} {val : Nat → Value} {k : Nat} (h : Fill w wr b n val k) (hk : k < n) : Fill w (wr.setCell ⟨b, k, none⟩ (val k)) b n val (k + 1) := by
  refine ⟨h.below.setCell h.own _, h.own, there_setCell h.there _ _, fun i hi => ?_⟩
  by_cases e : i = k
  · subst e
    obtain ⟨u, hu⟩ := Option.isSome_iff_exists.1 (h.there i hk).1
    rw [Nat.zero_add] at hu
    exact World.cell?_setCell_same _ _ _ hu
  · rw [World.cell?_setCell_other _ _ _ _ (by intro h; injection h; omega)]
    exact h.cells i (by omega)
theorem Fill.on {w wr w' : World} {b n : Nat} {val : Nat → Value} {k : Nat} (h : Fill w wr b n val k) (hb : Below wr.heap.size wr w') : Fill w w' b n val k :=
  ⟨below_trans h.below hb, h.own, there_keep hb h.there, fun i hi => cell_keep hb (h.cells i hi)⟩
theorem Fill.at {w wr : World} {b n : Nat} {val : Nat → Value} {k i : Nat} (h : Fill w wr b n val k) (hi : i < n) : ∃ u, wr.cell? ⟨b, i, none⟩ = some u ∧ wr.frozen? ⟨b, i, none⟩ = false := by
  obtain ⟨h1, h2⟩ := h.there i hi
  rw [Nat.zero_add] at h1 h2
  obtain ⟨u, hu⟩ := Option.isSome_iff_exists.1 h1
  exact ⟨u, hu, h2⟩

end Go.Proofs.Ytfadpjljokpenaa

/- Slices of reading calls among the arguments. -/
import Derived.Test.YtggbhakkgbfneaaOpen
import Derived.Deep.Strs
import Derived.Deep.SlicePairs
namespace Go.Proofs.Ytggbhakkgbfneaa
open Go.ChangeShapes Go.WideShapes Go.ChangeAt Go.RowKit Go.Deep

/-- A reading call: its kind, its most, its size. -/
structure OpV where
  kind : Int
  most : BitVec 64
  size : Int
def opV (o : OpV) : Value := .agg #[.int .i64 o.kind, .int .u64 (bv o.most), .int .i64 o.size]
def OpsAt (w : World) (ao : Option Addr) (L : List OpV) : Prop :=
  ∀ i o, L[i]? = some o → (-9223372036854775808 ≤ o.size ∧ o.size ≤ 9223372036854775807) ∧ ∃ b off, ao = some ⟨b, off, none⟩ ∧ w.cell? ⟨b, off + i * 3, none⟩ = some (.int .i64 o.kind) ∧ w.cell? ⟨b, off + i * 3 + 1, none⟩ = some (.int .u64 (bv o.most)) ∧ w.cell? ⟨b, off + i * 3 + 2, none⟩ = some (.int .i64 o.size)
theorem OpsAt.below {w w' : World} {ao : Option Addr} {L : List OpV} (h : OpsAt w ao L) (hb : Below w.heap.size w w') : OpsAt w' ao L := fun i o hi => by
  obtain ⟨hr, b, off, e, h0, h1, h2⟩ := h i o hi
  exact ⟨hr, b, off, e, cell_keep hb h0, cell_keep hb h1, cell_keep hb h2⟩
section
variable {H : Type} {enc : TypeId × Value → H}
theorem cellsOp : Try.prog.cellsOf 59 = 3 := by kernel_rfl
theorem bytesOp : Try.prog.bytesOf 59 = 24 := by kernel_rfl
theorem cellsIntOp : Try.prog.cellsOf 3 = 1 := by kernel_rfl
theorem cellsU64Op : Try.prog.cellsOf 27 = 1 := by kernel_rfl
theorem u64_wf {z : Int} (h : (Lit.int .u64 z).wf = true) : ∃ x : BitVec 64, z = bv x := by
  have hb : 0 ≤ z ∧ z ≤ 18446744073709551615 := by
    simp [Lit.wf, IntKind.min, IntKind.max, IntKind.signed, IntKind.bits] at h; omega
  refine ⟨BitVec.ofInt 64 z, ?_⟩
  unfold bv
  rw [BitVec.toNat_ofInt]
  have : ((2 ^ 64 : Nat) : Int) = 18446744073709551616 := rfl
  omega
theorem read_ops {W : World} {fuel : Nat} {v : Value} {d : DataW H} {p : List MemPlace} (h : DataW.trod enc Try.prog W 0 (fun _ => true) true fuel 51 [v] = some (d, p)) (hr : Reach 51 d) :
    ∃ (ao : Option Addr) (L : List OpV) (cap : Nat), v = .slice ao L.length cap ∧ OpsAt W ao L ∧ (ao = none → cap = 0) ∧ L.length ≤ cap ∧ cap ≤ 5864062014806 := by
  rcases open_slice Try.underlying51 h with ⟨hcs, hx⟩ | ⟨x, len, cap, m, n, D, Pl, hcs, _, hl, hm, hmm, hx, hall⟩
  · injection hcs with hcs; subst hcs
    exact ⟨none, [], 0, rfl, fun i o hi => by simp at hi, fun _ => rfl, Nat.le_refl _, by omega⟩
  · injection hcs with hcs; subst hcs
    injection hx with hd hp; subst hd
    have hmc : m = cap := by simpa using hmm
    subst hmc
    have hrl := reach_len Try.underlying51 hr
    have htot : ((List.range len).map D).length + ((List.range (m - len)).map fun j => D (len + j)).length = m := by simp; omega
    rw [htot, bytesOp] at hrl
    have hreach : reachBytes = 140737488351232 := by decide
    rw [cellsOp] at hall
    have each : ∀ i, i < len → ∃ o : OpV, (-9223372036854775808 ≤ o.size ∧ o.size ≤ 9223372036854775807) ∧ W.cell? (x.add (i * 3)) = some (.int .i64 o.kind) ∧ W.cell? (x.add (i * 3 + 1)) = some (.int .u64 (bv o.most)) ∧ W.cell? (x.add (i * 3 + 2)) = some (.int .i64 o.size) := fun i hi => by
      obtain ⟨cs', h1, h2⟩ := hall i (by omega)
      obtain ⟨_, hlen, hcell⟩ := World.cells?_some h1
      obtain ⟨y0, y1, y2, k, hxy, _, g0, g1, g2⟩ := trod_struct3 Try.underlying59 h2
      match cs', hlen with
      | [v0, v1, v2], _ =>
        have e0 := hcell 0 (by omega)
        have e1 := hcell 1 (by omega)
        have e2 := hcell 2 (by omega)
        rw [add_add] at e0 e1 e2
        simp [cellsIntOp, cellsU64Op] at g0 g1 g2 e0 e1 e2
        obtain ⟨z0, hz0, _, _⟩ := DataW.trod_int Try.underlying3 g0
        obtain ⟨z1, hz1, _, hw1⟩ := DataW.trod_int Try.underlying27 g1
        obtain ⟨z2, hz2, _, hw2⟩ := DataW.trod_int Try.underlying3 g2
        injection hz0 with hz0; injection hz1 with hz1; injection hz2 with hz2
        subst hz0 hz1 hz2
        obtain ⟨b1, rfl⟩ := u64_wf hw1
        exact ⟨⟨z0, b1, z2⟩, i64_range hw2, e0, e1, e2⟩
    haveI : Inhabited OpV := ⟨⟨0, 0#64, 0⟩⟩
    obtain ⟨B, hB⟩ := choose_lt each
    have hlen : ((List.range len).map B).length = len := by simp
    refine ⟨some x, (List.range len).map B, m, by rw [hlen], fun i o hi => ?_, (fun h => by cases h), by rw [hlen]; exact hl, by omega⟩
    have hil : i < len := by have := (List.getElem?_eq_some_iff.1 hi).1; rwa [hlen] at this
    have hoi : B i = o := by simpa [hil] using hi
    obtain ⟨hr, h0, h1, h2⟩ := hB i hil
    rw [hoi] at hr h0 h1 h2
    obtain ⟨b, off, spot⟩ := x
    have hspot : spot = none := by simpa [Addr.add] using World.cell?_spot (hB 0 (by omega)).2.1
    subst hspot
    rw [Addr.add_mid] at h0 h1 h2
    exact ⟨hr, b, off, rfl, h0, h1, h2⟩
end
end Go.Proofs.Ytggbhakkgbfneaa

/- Slices of uint64 and of int64 among the arguments. -/
import Derived.Test.YtmkljmljbbijeaaOpen
namespace Go.Proofs.Ytmkljmljbbijeaa
open Go.ChangeShapes Go.WideShapes Go.ChangeAt Go.RowKit Go.Deep

def at64 (L : List (BitVec 64)) (i : Nat) : BitVec 64 := L.getD i 0#64
def U64sAt (w : World) (ao : Option Addr) (L : List (BitVec 64)) : Prop :=
  ∀ i, i < L.length → ∃ b off, ao = some ⟨b, off, none⟩ ∧ w.cell? ⟨b, off + i, none⟩ = some (.int .u64 (bv (at64 L i)))
theorem U64sAt.below {w w' : World} {ao : Option Addr} {L : List (BitVec 64)} (h : U64sAt w ao L) (hb : Below w.heap.size w w') : U64sAt w' ao L := fun i hi => by
  obtain ⟨b, off, e, hc⟩ := h i hi
  exact ⟨b, off, e, cell_keep hb hc⟩
section
variable {H : Type} {enc : TypeId × Value → H}
theorem cellsU64 : Try.prog.cellsOf 96 = 1 := by kernel_rfl
theorem bytesU64 : Try.prog.bytesOf 96 = 8 := by kernel_rfl
theorem read_u64s {W : World} {fuel : Nat} {v : Value} {d : DataW H} {p : List MemPlace} (h : DataW.trod enc Try.prog W 0 (fun _ => true) true fuel 90 [v] = some (d, p)) (hr : Reach 90 d) :
    ∃ (ao : Option Addr) (L : List (BitVec 64)) (cap : Nat), v = .slice ao L.length cap ∧ U64sAt W ao L ∧ (ao = none → cap = 0) ∧ L.length ≤ cap ∧ cap ≤ 17592186043904 := by
  obtain ⟨ao, zs, cap, rfl, hc, hn, hl, hb, hm, hw⟩ := read_ints Try.underlying90 Try.underlying96 cellsU64 h hr
  rw [bytesU64] at hb
  have hreach : reachBytes = 140737488351232 := by decide
  have hlen : (zs.map fun z => BitVec.ofInt 64 z).length = zs.length := by simp
  refine ⟨ao, zs.map fun z => BitVec.ofInt 64 z, cap, by rw [hlen], fun i hi => ?_, hn, by rw [hlen]; exact hl, by omega⟩
  rw [hlen] at hi
  obtain ⟨b, off, e, hc⟩ := hc i hi
  refine ⟨b, off, e, hc.trans ?_⟩
  have hz : zs.getD i 0 = zs[i] := by simp [hi]
  have hb : 0 ≤ zs[i] ∧ zs[i] ≤ 18446744073709551615 := by
    have h := hw _ (List.getElem_mem hi)
    simp [Lit.wf, IntKind.min, IntKind.max, IntKind.signed, IntKind.bits] at h; omega
  have e : at64 (zs.map fun z => BitVec.ofInt 64 z) i = BitVec.ofInt 64 zs[i] := by unfold at64; simp [hi]
  rw [hz, e]
  congr 2
  unfold bv
  rw [BitVec.toNat_ofInt]
  have : ((2 ^ 64 : Nat) : Int) = 18446744073709551616 := rfl
  omega

theorem cellsI64 : Try.prog.cellsOf 2 = 1 := by kernel_rfl
theorem bytesI64 : Try.prog.bytesOf 2 = 8 := by kernel_rfl
theorem read_i64s {W : World} {fuel : Nat} {v : Value} {d : DataW H} {p : List MemPlace} (h : DataW.trod enc Try.prog W 0 (fun _ => true) true fuel 41 [v] = some (d, p)) (hr : Reach 41 d) :
    ∃ (ao : Option Addr) (L : List Int) (cap : Nat), v = .slice ao L.length cap ∧ IntsAt W ao L ∧ (ao = none → cap = 0) ∧ L.length ≤ cap ∧ cap ≤ 17592186043904 := by
  obtain ⟨ao, zs, cap, rfl, hc, hn, hl, hb, hm, hw⟩ := read_ints Try.underlying41 Try.underlying2 cellsI64 h hr
  rw [bytesI64] at hb
  have hreach : reachBytes = 140737488351232 := by decide
  refine ⟨ao, zs, cap, rfl, fun i hi => ?_, hn, hl, by omega⟩
  obtain ⟨b, off, e, hc⟩ := hc i hi
  refine ⟨?_, b, off, e, hc⟩
  have hz : atI zs i = zs[i] := by unfold atI; simp [hi]
  rw [hz]; exact i64_range (hw _ (List.getElem_mem hi))
end
end Go.Proofs.Ytmkljmljbbijeaa

/- Slices of uint32 among the arguments. -/
import Derived.Test.YtfadpjljokpenaaOpen
namespace Go.Proofs.Ytfadpjljokpenaa
open Go.ChangeShapes Go.WideShapes Go.ChangeAt Go.RowKit Go.Deep

def at32 (L : List (BitVec 32)) (i : Nat) : BitVec 32 := L.getD i 0#32
def U32sAt (w : World) (ao : Option Addr) (L : List (BitVec 32)) : Prop :=
  ∀ i, i < L.length → ∃ b off, ao = some ⟨b, off, none⟩ ∧ w.cell? ⟨b, off + i, none⟩ = some (.int .u32 (bv (at32 L i)))
theorem U32sAt.below {w w' : World} {ao : Option Addr} {L : List (BitVec 32)} (h : U32sAt w ao L) (hb : Below w.heap.size w w') : U32sAt w' ao L := fun i hi => by
  obtain ⟨b, off, e, hc⟩ := h i hi
  exact ⟨b, off, e, cell_keep hb hc⟩
section
variable {H : Type} {enc : TypeId × Value → H}
theorem cellsU32 : Try.prog.cellsOf 35 = 1 := by kernel_rfl
theorem bytesU32 : Try.prog.bytesOf 35 = 4 := by kernel_rfl
theorem read_u32s {W : World} {fuel : Nat} {v : Value} {d : DataW H} {p : List MemPlace} (h : DataW.trod enc Try.prog W 0 (fun _ => true) true fuel 23 [v] = some (d, p)) (hr : Reach 23 d) :
    ∃ (ao : Option Addr) (L : List (BitVec 32)) (cap : Nat), v = .slice ao L.length cap ∧ U32sAt W ao L ∧ (ao = none → cap = 0) ∧ L.length ≤ cap ∧ cap ≤ 35184372087808 := by
  obtain ⟨ao, zs, cap, rfl, hc, hn, hl, hb, hm, hw⟩ := read_ints Try.underlying23 Try.underlying35 cellsU32 h hr
  rw [bytesU32] at hb
  have hreach : reachBytes = 140737488351232 := by decide
  have hlen : (zs.map fun z => BitVec.ofInt 32 z).length = zs.length := by simp
  refine ⟨ao, zs.map fun z => BitVec.ofInt 32 z, cap, by rw [hlen], fun i hi => ?_, hn, by rw [hlen]; exact hl, by omega⟩
  rw [hlen] at hi
  obtain ⟨b, off, e, hc⟩ := hc i hi
  refine ⟨b, off, e, hc.trans ?_⟩
  have hz : zs.getD i 0 = zs[i] := by simp [hi]
  have hb : 0 ≤ zs[i] ∧ zs[i] ≤ 4294967295 := by
    have h := hw _ (List.getElem_mem hi)
    simp [Lit.wf, IntKind.min, IntKind.max, IntKind.signed, IntKind.bits] at h; omega
  have e : at32 (zs.map fun z => BitVec.ofInt 32 z) i = BitVec.ofInt 32 zs[i] := by unfold at32; simp [hi]
  rw [hz, e]
  congr 2
  unfold bv
  rw [BitVec.toNat_ofInt]
  have : ((2 ^ 32 : Nat) : Int) = 4294967296 := rfl
  omega
end
end Go.Proofs.Ytfadpjljokpenaa

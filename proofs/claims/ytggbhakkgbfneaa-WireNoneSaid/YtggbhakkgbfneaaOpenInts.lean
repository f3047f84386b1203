/- Slices of int among the arguments. -/
import Derived.Test.YtggbhakkgbfneaaOpen
namespace Go.Proofs.Ytggbhakkgbfneaa
open Go.ChangeShapes Go.WideShapes Go.ChangeAt Go.RowKit Go.Deep

def atI (L : List Int) (i : Nat) : Int := L.getD i 0
def IntsAt (w : World) (ao : Option Addr) (L : List Int) : Prop :=
  ∀ i, i < L.length → (-9223372036854775808 ≤ atI L i ∧ atI L i ≤ 9223372036854775807) ∧ ∃ b off, ao = some ⟨b, off, none⟩ ∧ w.cell? ⟨b, off + i, none⟩ = some (.int .i64 (atI L i))
theorem IntsAt.below {w w' : World} {ao : Option Addr} {L : List Int} (h : IntsAt w ao L) (hb : Below w.heap.size w w') : IntsAt w' ao L := fun i hi => by
  obtain ⟨hr, b, off, e, hc⟩ := h i hi
  exact ⟨hr, b, off, e, cell_keep hb hc⟩
section
variable {H : Type} {enc : TypeId × Value → H}
theorem cellsInt : Try.prog.cellsOf 3 = 1 := by kernel_rfl
theorem bytesInt : Try.prog.bytesOf 3 = 8 := by kernel_rfl
theorem read_ints64 {W : World} {fuel : Nat} {v : Value} {d : DataW H} {p : List MemPlace} (h : DataW.trod enc Try.prog W 0 (fun _ => true) true fuel 23 [v] = some (d, p)) (hr : Reach 23 d) :
    ∃ (ao : Option Addr) (L : List Int) (cap : Nat), v = .slice ao L.length cap ∧ IntsAt W ao L ∧ (ao = none → cap = 0) ∧ L.length ≤ cap ∧ cap ≤ 17592186043904 := by
  obtain ⟨ao, zs, cap, rfl, hc, hn, hl, hb, hm, hw⟩ := read_ints Try.underlying23 Try.underlying3 cellsInt h hr
  rw [bytesInt] at hb
  have hreach : reachBytes = 140737488351232 := by decide
  refine ⟨ao, zs, cap, rfl, fun i hi => ?_, hn, hl, by omega⟩
  obtain ⟨b, off, e, hc⟩ := hc i hi
  refine ⟨?_, b, off, e, hc⟩
  have hz : atI zs i = zs[i] := by unfold atI; simp [hi]
  rw [hz]; exact i64_range (hw _ (List.getElem_mem hi))
end
end Go.Proofs.Ytggbhakkgbfneaa

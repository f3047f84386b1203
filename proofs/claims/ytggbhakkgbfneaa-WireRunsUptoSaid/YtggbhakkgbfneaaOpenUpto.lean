/- What the bound on the bulk says of slices of bytes, and of slices of these. -/
import Derived.Test.YtggbhakkgbfneaaOpenLists
import Derived.Test.YtggbhakkgbfneaaBulk
namespace Go.Proofs.Ytggbhakkgbfneaa
open Go.ChangeShapes Go.WideShapes Go.ChangeAt Go.RowKit Go.Deep

section
variable {H : Type} {enc : TypeId × Value → H}
theorem bytes_bulk {W : World} {fuel : Nat} {ao : Option Addr} {n cap : Nat} {d : DataW H} {p : List MemPlace} (h : DataW.trod enc Try.prog W 0 (fun _ => true) true fuel 25 [.slice ao n cap] = some (d, p)) : n ≤ Rows.uptoBulk d := by
  rcases open_ints Try.underlying25 Try.underlying5 cellsByte h with ⟨hcs, hx⟩ | ⟨x, l, c, zs, hcs, _, hl, hm, hz, hx, hcell, hwz⟩
  · injection hcs with hcs; injection hcs with h1 h2 h3; omega
  · injection hcs with hcs; injection hcs with h1 h2 h3
    have hzl : zs.length = c := by simpa using hz
    injection hx with hd hp; subst hd
    have := bulks.slice_le (lits (H := H) .u8 (zs.take l)) (lits (H := H) .u8 (zs.drop l))
    have hlen : (lits (H := H) .u8 (zs.take l)).length = l := by simp [lits]; omega
    omega
theorem lists_bulk {W : World} {fuel : Nat} {ao : Option Addr} {n cap : Nat} {d : DataW H} {p : List MemPlace} (h : DataW.trod enc Try.prog W 0 (fun _ => true) true fuel 22 [.slice ao n cap] = some (d, p)) :
    n ≤ Rows.uptoBulk d ∧ ∀ i, i < n → ∀ b off ai li ci, ao = some ⟨b, off, none⟩ → W.cell? ⟨b, off + i, none⟩ = some (.slice ai li ci) → li ≤ Rows.uptoBulk d := by
  rcases open_slice1 Try.underlying22 cellsBytes h with ⟨hcs, hx⟩ | ⟨x, len, c, m, k, V, D, Pl, hcs, _, hl, hm, hmm, hx, hall⟩
  · injection hcs with hcs; injection hcs with h1 h2 h3; exact ⟨by omega, fun i hi => by omega⟩
  · injection hcs with hcs; injection hcs with h1 h2 h3
    subst h1 h2 h3
    injection hx with hd hp; subst hd
    have h1 := bulks.slice_le ((List.range n).map D) ((List.range (m - n)).map fun j => D (n + j))
    have h2 := bulks.slice_elems ((List.range n).map D) ((List.range (m - n)).map fun j => D (n + j))
    have hlen : ((List.range n).map D).length = n := by simp
    refine ⟨by omega, fun i hi b off ai li ci e hc => ?_⟩
    injection e with e
    subst e
    have hmc : m = cap := by simpa using hmm
    have hc' := (hall i (by omega)).1
    rw [Addr.add_mid, hc] at hc'
    have ht := (hall i (by omega)).2
    rw [← Option.some.inj hc'] at ht
    have h3 := bytes_bulk ht
    have h4 : Rows.uptoBulk (D i) ≤ Rows.uptoBulkAll ((List.range n).map D) := bulks.part_le (List.mem_map.2 ⟨i, by simpa using hi, rfl⟩)
    omega
end
end Go.Proofs.Ytggbhakkgbfneaa

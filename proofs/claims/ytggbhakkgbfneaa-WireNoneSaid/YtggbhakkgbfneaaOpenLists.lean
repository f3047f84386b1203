/- Slices of slices of bytes among the arguments. -/
import Derived.Test.YtggbhakkgbfneaaOpen
namespace Go.Proofs.Ytggbhakkgbfneaa
open Go.ChangeShapes Go.WideShapes Go.ChangeAt Go.RowKit Go.Deep

/-- List i of some lists (empty behind the end). -/
def nth (L : List (List (BitVec 8))) (i : Nat) : List (BitVec 8) := L.getD i []
/-- The lists that stand at an address: each a slice of bytes. -/
def ListsAt (w : World) (ao : Option Addr) (L : List (List (BitVec 8))) : Prop :=
  ∀ i, i < L.length → ∃ b off ai ci, ao = some ⟨b, off, none⟩ ∧ w.cell? ⟨b, off + i, none⟩ = some (.slice ai (nth L i).length ci) ∧ BytesAt w ai (nth L i) ∧ (ai = none → ci = 0) ∧ (nth L i).length ≤ ci ∧ ci ≤ 140737488351232
theorem ListsAt.below {w w' : World} {ao : Option Addr} {L : List (List (BitVec 8))} (h : ListsAt w ao L) (hb : Below w.heap.size w w') : ListsAt w' ao L := fun i hi => by
  obtain ⟨b, off, ai, ci, e, hc, hbs, r⟩ := h i hi
  exact ⟨b, off, ai, ci, e, cell_keep hb hc, hbs.below hb, r⟩

section
variable {H : Type} {enc : TypeId × Value → H}
theorem cellsBytes : Try.prog.cellsOf 25 = 1 := by kernel_rfl
theorem bytesBytes : Try.prog.bytesOf 25 = 24 := by kernel_rfl

theorem read_lists {W : World} {fuel : Nat} {v : Value} {d : DataW H} {p : List MemPlace} (h : DataW.trod enc Try.prog W 0 (fun _ => true) true fuel 22 [v] = some (d, p)) (hr : Reach 22 d) :
    ∃ (ao : Option Addr) (L : List (List (BitVec 8))) (cap : Nat), v = .slice ao L.length cap ∧ ListsAt W ao L ∧ (ao = none → cap = 0) ∧ L.length ≤ cap ∧ cap ≤ 5864062014806 := by
  rcases open_slice1 Try.underlying22 cellsBytes h with ⟨hcs, hx⟩ | ⟨x, len, cap, m, n, V, D, Pl, hcs, _, hl, hm, hmm, hx, hall⟩
  · injection hcs with hcs; subst hcs
    exact ⟨none, [], 0, rfl, fun i hi => by simp at hi, fun _ => rfl, Nat.le_refl _, by omega⟩
  · injection hcs with hcs; subst hcs
    injection hx with hd hp; subst hd
    have hmc : m = cap := by simpa using hmm
    subst hmc
    have hrl := reach_len Try.underlying22 hr
    have htot : ((List.range len).map D).length + ((List.range (m - len)).map fun j => D (len + j)).length = m := by simp; omega
    rw [htot, bytesBytes] at hrl
    have hreach : reachBytes = 140737488351232 := by decide
    have each : ∀ i, i < len → ∃ (ai : Option Addr) (bs : List (BitVec 8)) (ci : Nat), V i = .slice ai bs.length ci ∧ BytesAt W ai bs ∧ (ai = none → ci = 0) ∧ bs.length ≤ ci ∧ ci ≤ 140737488351232 := fun i hi =>
      read_bytes (hall i (by omega)).2 (reach_elem Try.underlying22 hr (List.mem_map.2 ⟨i, by simpa using hi, rfl⟩))
    obtain ⟨B, hB⟩ : ∃ B : Nat → List (BitVec 8), ∀ i, i < len → ∃ (ai : Option Addr) (ci : Nat), V i = .slice ai (B i).length ci ∧ BytesAt W ai (B i) ∧ (ai = none → ci = 0) ∧ (B i).length ≤ ci ∧ ci ≤ 140737488351232 := by
      refine ⟨fun i => if hi : i < len then Classical.choose (Classical.choose_spec (each i hi)) else [], fun i hi => ?_⟩
      simp only [hi, dif_pos]
      exact ⟨_, Classical.choose_spec (Classical.choose_spec (each i hi))⟩
    have hlen : ((List.range len).map B).length = len := by simp
    refine ⟨some x, (List.range len).map B, m, by rw [hlen], fun i hi => ?_, (fun h => by cases h), by rw [hlen]; exact hl, by omega⟩
    rw [hlen] at hi
    obtain ⟨b, off, spot⟩ := x
    have hspot : spot = none := by simpa [Addr.add] using World.cell?_spot (hall 0 (by omega)).1
    subst hspot
    have hc := (hall i (by omega)).1
    rw [Addr.add_mid] at hc
    obtain ⟨ai, ci, hv, r⟩ := hB i hi
    have hn : nth ((List.range len).map B) i = B i := by simp [nth, hi]
    rw [hn]
    exact ⟨b, off, ai, ci, rfl, hc.trans (by rw [hv]), r⟩
end
end Go.Proofs.Ytggbhakkgbfneaa

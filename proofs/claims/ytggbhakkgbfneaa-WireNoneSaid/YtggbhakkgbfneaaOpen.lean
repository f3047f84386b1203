/- What is read of slices among the arguments: bytes, in plain words, with the form's own reach. -/
import Derived.Test.YtggbhakkgbfneaaFrame
import Derived.Deep.Slices
namespace Go.Proofs.Ytggbhakkgbfneaa
open Go.ChangeShapes Go.WideShapes Go.ChangeAt Go.RowKit Go.Deep

section
variable {H : Type} {enc : TypeId × Value → H}

/-- The form's own reach, of one datum. -/
def Reach (t : TypeId) (d : DataW H) : Prop := ∀ m ∈ d.weights Try.prog t, m ≤ reachBytes
theorem reach_of {ts : List TypeId} {ds : List (DataW H)} (h : (DataW.weightsEach Try.prog ts ds).all (· ≤ reachBytes) = true) {j : Nat} {t : TypeId} {d : DataW H} (ht : ts[j]? = some t) (hd : ds[j]? = some d) : Reach t d := fun m hm => by
  have := List.all_eq_true.1 h _ (DataW.weights_mem_each ht hd m hm)
  simpa using this
theorem mem_weightsAll {e : TypeId} {d : DataW H} {m : Nat} (hm : m ∈ d.weights Try.prog e) : ∀ {l : List (DataW H)}, d ∈ l → m ∈ DataW.weightsAll Try.prog e l
  | [], h => by cases h
  | x :: r, h => by
    simp only [DataW.weightsAll, List.mem_append]
    rcases List.mem_cons.1 h with rfl | h
    · exact .inl hm
    · exact .inr (mem_weightsAll hm h)
theorem reach_len {t e : TypeId} (hu : Try.prog.underlying t = some (.slice e)) {elems spare : List (DataW H)} (h : Reach t (.slice elems spare)) : (elems.length + spare.length) * Try.prog.bytesOf e ≤ reachBytes :=
  h _ (by simp [DataW.weights, hu])
theorem reach_elem {t e : TypeId} (hu : Try.prog.underlying t = some (.slice e)) {elems spare : List (DataW H)} (h : Reach t (.slice elems spare)) {d : DataW H} (hd : d ∈ elems) : Reach e d := fun m hm =>
  h _ (by simp only [DataW.weights, hu, List.mem_cons, List.mem_append]; exact .inr (.inl (mem_weightsAll hm hd)))

/-- What a row of one-cell integers reads as. -/
theorem read_ints {W : World} {t e : TypeId} {k : IntKind} {fuel : Nat} {v : Value} {d : DataW H} {p : List MemPlace} (ht : Try.prog.underlying t = some (.slice e)) (he : Try.prog.underlying e = some (.int k)) (hc : Try.prog.cellsOf e = 1)
    (h : DataW.trod enc Try.prog W 0 (fun _ => true) true fuel t [v] = some (d, p)) (hr : Reach t d) :
    ∃ (ao : Option Addr) (zs : List Int) (cap : Nat), v = .slice ao zs.length cap ∧ (∀ i, i < zs.length → ∃ b off, ao = some ⟨b, off, none⟩ ∧ W.cell? ⟨b, off + i, none⟩ = some (.int k (zs.getD i 0))) ∧ (ao = none → cap = 0) ∧ zs.length ≤ cap ∧ cap * Try.prog.bytesOf e ≤ reachBytes ∧ cap ≤ maxLen ∧ ∀ z ∈ zs, (Lit.int k z).wf = true := by
  rcases open_ints ht he hc h with ⟨hcs, hx⟩ | ⟨x, l, c, zs, hcs, _, hl, hm, hz, hx, hcell, hwz⟩
  · injection hcs with hcs; subst hcs
    exact ⟨none, [], 0, rfl, fun i hi => by simp at hi, fun _ => rfl, Nat.le_refl _, by omega, by simp [maxLen], fun z hz => by simp at hz⟩
  · injection hcs with hcs; subst hcs
    have hzl : zs.length = c := by simpa using hz
    injection hx with hd hp; subst hd
    have hrl := reach_len ht hr
    have hlen : (zs.take l).length = l := by simp; omega
    have htot : (lits (H := H) k (zs.take l)).length + (lits (H := H) k (zs.drop l)).length = c := by simp [lits]; omega
    rw [htot] at hrl
    refine ⟨some x, zs.take l, c, by rw [hlen], fun i hi => ?_, (fun h => by cases h), by rw [hlen]; exact hl, hrl, hm, fun z hz => hwz z (List.mem_of_mem_take hz)⟩
    rw [hlen] at hi
    obtain ⟨b, off, spot⟩ := x
    have hspot : spot = none := by simpa [Addr.add] using World.cell?_spot (hcell 0 (by omega))
    subst hspot
    have hc := hcell i (by omega)
    rw [Addr.add_mid] at hc
    refine ⟨b, off, rfl, hc.trans ?_⟩
    simp [hi]

theorem read_bytes {W : World} {fuel : Nat} {v : Value} {d : DataW H} {p : List MemPlace} (h : DataW.trod enc Try.prog W 0 (fun _ => true) true fuel 25 [v] = some (d, p)) (hr : Reach 25 d) :
    ∃ (ao : Option Addr) (bs : List (BitVec 8)) (cap : Nat), v = .slice ao bs.length cap ∧ BytesAt W ao bs ∧ (ao = none → cap = 0) ∧ bs.length ≤ cap ∧ cap ≤ 140737488351232 := by
  obtain ⟨ao, zs, cap, rfl, hc, hn, hl, hb, hm, hw⟩ := read_ints Try.underlying25 Try.underlying5 cellsByte h hr
  rw [bytesByte, Nat.mul_one] at hb
  have hlen : (zs.map fun z => BitVec.ofInt 8 z).length = zs.length := by simp
  refine ⟨ao, zs.map fun z => BitVec.ofInt 8 z, cap, by rw [hlen], fun i hi => ?_, hn, by rw [hlen]; exact hl, hb⟩
  rw [hlen] at hi
  obtain ⟨b, off, e, hc⟩ := hc i hi
  refine ⟨b, off, e, hc.trans ?_⟩
  have hz : zs.getD i 0 = zs[i] := by simp [hi]
  have hb := bounds_u8 (hw _ (List.getElem_mem hi))
  have e : at8 (zs.map fun z => BitVec.ofInt 8 z) i = BitVec.ofInt 8 zs[i] := by rw [at8_get (by rw [hlen]; exact hi)]; simp
  rw [hz, e]
  congr 2
  unfold bv
  rw [BitVec.toNat_ofInt]
  have : ((2 ^ 8 : Nat) : Int) = 256 := rfl
  omega
end
end Go.Proofs.Ytggbhakkgbfneaa

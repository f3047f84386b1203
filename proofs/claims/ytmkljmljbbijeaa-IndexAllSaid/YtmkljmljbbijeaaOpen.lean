/- What is read of slices among the arguments: bytes, in plain words, with the form's own reach. -/
import Derived.Test.YtmkljmljbbijeaaFrame
import Derived.Deep.Slices
namespace Go.Proofs.Ytmkljmljbbijeaa
open Go.ChangeShapes Go.WideShapes Go.ChangeAt Go.RowKit Go.Deep

section
variable {H : Type} {enc : TypeId × Value → H}

/-- The form's own reach, of one datum. -/
def Reach (t : TypeId) (d : DataW H) : Prop := ∀ m ∈ d.weights Try.prog t, m ≤ reachBytes
theorem reach_of {ts : List TypeId} {ds : List (DataW H)} (h : (DataW.weightsEach Try.prog ts ds).all (· ≤ reachBytes) = true) {j : Nat} {t : TypeId} {d : DataW H} (ht : ts[j]? = some t) (hd : ds[j]? = some d) : Reach t d := fun m hm => by
  have := List.all_eq_true.1 h _ (DataW.weights_mem_each ht hd m hm)
  simpa using this
theorem mem_weightsAll {e : TypeId} {d : DataW H} {m : Nat} (hm : m ∈ d.weights Try.prog e) : ∀ {l : List (DataW H)}, d ∈ l → m ∈ DataW.weightsAll Try.prog e l
  | [], h => by cases h
  | x :: r, h => by
    simp only [DataW.weightsAll, List.mem_append]
    rcases List.mem_cons.1 h with rfl | h
    · exact .inl hm
    · exact .inr (mem_weightsAll hm h)
theorem reach_len {t e : TypeId} (hu : Try.prog.underlying t = some (.slice e)) {elems spare : List (DataW H)} (h : Reach t (.slice elems spare)) : (elems.length + spare.length) * Try.prog.bytesOf e ≤ reachBytes :=
  h _ (by simp [DataW.weights, hu])
theorem reach_elem {t e : TypeId} (hu : Try.prog.underlying t = some (.slice e)) {elems spare : List (DataW H)} (h : Reach t (.slice elems spare)) {d : DataW H} (hd : d ∈ elems) : Reach e d := fun m hm =>
  h _ (by simp only [DataW.weights, hu, List.mem_cons, List.mem_append]; exact .inr (.inl (mem_weightsAll hm hd)))

/-- What a row of one-cell integers reads as. -/
theorem read_ints {W : World} {t e : TypeId} {k : IntKind} {fuel : Nat} {v : Value} {d : DataW H} {p : List MemPlace} (ht : Try.prog.underlying t = some (.slice e)) (he : Try.prog.underlying e = some (.int k)) (hc : Try.prog.cellsOf e = 1)
    (h : DataW.trod enc Try.prog W 0 (fun _ => true) true fuel t [v] = some (d, p)) (hr : Reach t d) :
    ∃ (ao : Option Addr) (zs : List Int) (cap : Nat), v = .slice ao zs.length cap ∧ (∀ i, i < zs.length → ∃ b off, ao = some ⟨b, off, none⟩ ∧ W.cell? ⟨b, off + i, none⟩ = some (.int k (zs.getD i 0))) ∧ (ao = none → cap = 0) ∧ zs.length ≤ cap ∧ cap * Try.prog.bytesOf e ≤ reachBytes ∧ cap ≤ maxLen ∧ ∀ z ∈ zs, (Lit.int k z).wf = true := by
  rcases open_ints ht he hc h with ⟨hcs, hx⟩ | ⟨x, l, c, zs, hcs, _, hl, hm, hz, hx, hcell, hwz⟩
  · injection hcs with hcs; subst hcs
    exact ⟨none, [], 0, rfl, fun i hi => by simp at hi, fun _ => rfl, Nat.le_refl _, by omega, by simp [maxLen], fun z hz => by simp at hz⟩
  · injection hcs with hcs; subst hcs
    have hzl : zs.length = c := by simpa using hz
    injection hx with hd hp; subst hd
    have hrl := reach_len ht hr
    have hlen : (zs.take l).length = l := by simp; omega
    have htot : (lits (H := H) k (zs.take l)).length + (lits (H := H) k (zs.drop l)).length = c := by simp [lits]; omega
    rw [htot] at hrl
    refine ⟨some x, zs.take l, c, by rw [hlen], fun i hi => ?_, (fun h => by cases h), by rw [hlen]; exact hl, hrl, hm, fun z hz => hwz z (List.mem_of_mem_take hz)⟩
    rw [hlen] at hi
    obtain ⟨b, off, spot⟩ := x
    have hspot : spot = none := by simpa [Addr.add] using World.cell?_spot (hcell 0 (by omega))
    subst hspot
    have hc := hcell i (by omega)
    rw [Addr.add_mid] at hc
    refine ⟨b, off, rfl, hc.trans ?_⟩
    simp [hi]

theorem read_bytes {W : World} {fuel : Nat} {v : Value} {d : DataW H} {p : List MemPlace} (h : DataW.trod enc Try.prog W 0 (fun _ => true) true fuel 31 [v] = some (d, p)) (hr : Reach 31 d) :
    ∃ (ao : Option Addr) (bs : List (BitVec 8)) (cap : Nat), v = .slice ao bs.length cap ∧ BytesAt W ao bs ∧ (ao = none → cap = 0) ∧ bs.length ≤ cap ∧ cap ≤ 140737488351232 := by
  obtain ⟨ao, zs, cap, rfl, hc, hn, hl, hb, hm, hw⟩ := read_ints Try.underlying31 Try.underlying5 cellsByte h hr
  rw [bytesByte, Nat.mul_one] at hb
  have hlen : (zs.map fun z => BitVec.ofInt 8 z).length = zs.length := by simp
  refine ⟨ao, zs.map fun z => BitVec.ofInt 8 z, cap, by rw [hlen], fun i hi => ?_, hn, by rw [hlen]; exact hl, hb⟩
  rw [hlen] at hi
  obtain ⟨b, off, e, hc⟩ := hc i hi
  refine ⟨b, off, e, hc.trans ?_⟩
  have hz : zs.getD i 0 = zs[i] := by simp [hi]
  have hb := bounds_u8 (hw _ (List.getElem_mem hi))
  have e : at8 (zs.map fun z => BitVec.ofInt 8 z) i = BitVec.ofInt 8 zs[i] := by rw [at8_get (by rw [hlen]; exact hi)]; simp
  rw [hz, e]
  congr 2
  unfold bv
  rw [BitVec.toNat_ofInt]
  have : ((2 ^ 8 : Nat) : Int) = 256 := rfl
  omega
end
end Go.Proofs.Ytmkljmljbbijeaa

/-! Slices of int among the arguments. -/
namespace Go.Proofs.Ytmkljmljbbijeaa
open Go.ChangeShapes Go.WideShapes Go.ChangeAt Go.RowKit Go.Deep

def atI (L : List Int) (i : Nat) : Int := L.getD i 0
def IntsAt (w : World) (ao : Option Addr) (L : List Int) : Prop :=
  ∀ i, i < L.length → (-9223372036854775808 ≤ atI L i ∧ atI L i ≤ 9223372036854775807) ∧ ∃ b off, ao = some ⟨b, off, none⟩ ∧ w.cell? ⟨b, off + i, none⟩ = some (.int .i64 (atI L i))
theorem IntsAt.below {w w' : World} {ao : Option Addr} {L : List Int} (h : IntsAt w ao L) (hb : Below w.heap.size w w') : IntsAt w' ao L := fun i hi => by
  obtain ⟨hr, b, off, e, hc⟩ := h i hi
  exact ⟨hr, b, off, e, cell_keep hb hc⟩
section
variable {H : Type} {enc : TypeId × Value → H}
theorem cellsInt : Try.prog.cellsOf 3 = 1 := by kernel_rfl
theorem bytesInt : Try.prog.bytesOf 3 = 8 := by kernel_rfl
theorem read_ints64 {W : World} {fuel : Nat} {v : Value} {d : DataW H} {p : List MemPlace} (h : DataW.trod enc Try.prog W 0 (fun _ => true) true fuel 60 [v] = some (d, p)) (hr : Reach 60 d) :
    ∃ (ao : Option Addr) (L : List Int) (cap : Nat), v = .slice ao L.length cap ∧ IntsAt W ao L ∧ (ao = none → cap = 0) ∧ L.length ≤ cap ∧ cap ≤ 17592186043904 := by
  obtain ⟨ao, zs, cap, rfl, hc, hn, hl, hb, hm, hw⟩ := read_ints Try.underlying60 Try.underlying3 cellsInt h hr
  rw [bytesInt] at hb
  have hreach : reachBytes = 140737488351232 := by decide
  refine ⟨ao, zs, cap, rfl, fun i hi => ?_, hn, hl, by omega⟩
  obtain ⟨b, off, e, hc⟩ := hc i hi
  refine ⟨?_, b, off, e, hc⟩
  have hz : atI zs i = zs[i] := by unfold atI; simp [hi]
  rw [hz]; exact i64_range (hw _ (List.getElem_mem hi))
end
end Go.Proofs.Ytmkljmljbbijeaa

/-! Slices of slices of bytes among the arguments. -/
namespace Go.Proofs.Ytmkljmljbbijeaa
open Go.ChangeShapes Go.WideShapes Go.ChangeAt Go.RowKit Go.Deep

/-- List i of some lists (empty behind the end). -/
def nth (L : List (List (BitVec 8))) (i : Nat) : List (BitVec 8) := L.getD i []
/-- The lists that stand at an address: each a slice of bytes. -/
def ListsAt (w : World) (ao : Option Addr) (L : List (List (BitVec 8))) : Prop :=
  ∀ i, i < L.length → ∃ b off ai ci, ao = some ⟨b, off, none⟩ ∧ w.cell? ⟨b, off + i, none⟩ = some (.slice ai (nth L i).length ci) ∧ BytesAt w ai (nth L i) ∧ (ai = none → ci = 0) ∧ (nth L i).length ≤ ci ∧ ci ≤ 140737488351232
theorem ListsAt.below {w w' : World} {ao : Option Addr} {L : List (List (BitVec 8))} (h : ListsAt w ao L) (hb : Below w.heap.size w w') : ListsAt w' ao L := fun i hi => by
  obtain ⟨b, off, ai, ci, e, hc, hbs, r⟩ := h i hi
  exact ⟨b, off, ai, ci, e, cell_keep hb hc, hbs.below hb, r⟩

section
variable {H : Type} {enc : TypeId × Value → H}
theorem cellsBytes : Try.prog.cellsOf 31 = 1 := by kernel_rfl
theorem bytesBytes : Try.prog.bytesOf 31 = 24 := by kernel_rfl

theorem read_lists {W : World} {fuel : Nat} {v : Value} {d : DataW H} {p : List MemPlace} (h : DataW.trod enc Try.prog W 0 (fun _ => true) true fuel 47 [v] = some (d, p)) (hr : Reach 47 d) :
    ∃ (ao : Option Addr) (L : List (List (BitVec 8))) (cap : Nat), v = .slice ao L.length cap ∧ ListsAt W ao L ∧ (ao = none → cap = 0) ∧ L.length ≤ cap ∧ cap ≤ 5864062014806 := by
  rcases open_slice1 Try.underlying47 cellsBytes h with ⟨hcs, hx⟩ | ⟨x, len, cap, m, n, V, D, Pl, hcs, _, hl, hm, hmm, hx, hall⟩
  · injection hcs with hcs; subst hcs
    exact ⟨none, [], 0, rfl, fun i hi => by simp at hi, fun _ => rfl, Nat.le_refl _, by omega⟩
  · injection hcs with hcs; subst hcs
    injection hx with hd hp; subst hd
    have hmc : m = cap := by simpa using hmm
    subst hmc
    have hrl := reach_len Try.underlying47 hr
    have htot : ((List.range len).map D).length + ((List.range (m - len)).map fun j => D (len + j)).length = m := by simp; omega
    rw [htot, bytesBytes] at hrl
    have hreach : reachBytes = 140737488351232 := by decide
    have each : ∀ i, i < len → ∃ (ai : Option Addr) (bs : List (BitVec 8)) (ci : Nat), V i = .slice ai bs.length ci ∧ BytesAt W ai bs ∧ (ai = none → ci = 0) ∧ bs.length ≤ ci ∧ ci ≤ 140737488351232 := fun i hi =>
      read_bytes (hall i (by omega)).2 (reach_elem Try.underlying47 hr (List.mem_map.2 ⟨i, by simpa using hi, rfl⟩))
    obtain ⟨B, hB⟩ : ∃ B : Nat → List (BitVec 8), ∀ i, i < len → ∃ (ai : Option Addr) (ci : Nat), V i = .slice ai (B i).length ci ∧ BytesAt W ai (B i) ∧ (ai = none → ci = 0) ∧ (B i).length ≤ ci ∧ ci ≤ 140737488351232 := by
      refine ⟨fun i => if hi : i < len then Classical.choose (Classical.choose_spec (each i hi)) else [], fun i hi => ?_⟩
      simp only [hi, dif_pos]
      exact ⟨_, Classical.choose_spec (Classical.choose_spec (each i hi))⟩
    have hlen : ((List.range len).map B).length = len := by simp
    refine ⟨some x, (List.range len).map B, m, by rw [hlen], fun i hi => ?_, (fun h => by cases h), by rw [hlen]; exact hl, by omega⟩
    rw [hlen] at hi
    obtain ⟨b, off, spot⟩ := x
    have hspot : spot = none := by simpa [Addr.add] using World.cell?_spot (hall 0 (by omega)).1
    subst hspot
    have hc := (hall i (by omega)).1
    rw [Addr.add_mid] at hc
    obtain ⟨ai, ci, hv, r⟩ := hB i hi
    have hn : nth ((List.range len).map B) i = B i := by simp [nth, hi]
    rw [hn]
    exact ⟨b, off, ai, ci, rfl, hc.trans (by rw [hv]), r⟩
end
end Go.Proofs.Ytmkljmljbbijeaa

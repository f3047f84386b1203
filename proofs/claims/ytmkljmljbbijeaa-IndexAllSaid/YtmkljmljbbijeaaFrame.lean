/- The frame round every law of this seat: what is read of the arguments, and what is owed when the walk has ended: true; below the old heap all is as it was. -/
import Derived.Test.YtmkljmljbbijeaaRows
import Derived.Test.YtmkljmljbbijeaaBytes
import Derived.WalkKit
import Derived.ProofKit
import Derived.OpenShut
import Derived.ChangeOld
import Derived.Below
import Derived.SizedLaws
import Derived.Deep.DeepHandedRow
import Derived.Lib.LaidTab
namespace Go.Proofs.Ytmkljmljbbijeaa
open Go.ChangeShapes Go.WideShapes Go.ChangeAt Go.RowKit

set_option maxRecDepth 100000 in
theorem frame_own : ownKnob Try.prog.godebug = none := by kernel_rfl
set_option maxRecDepth 100000 in
theorem frame_laidOut : laidOutB Try.prog = true := by kernel_rfl
set_option maxRecDepth 100000 in
theorem cellsByte : Try.prog.cellsOf 5 = 1 := by kernel_rfl
set_option maxRecDepth 100000 in
theorem bytesByte : Try.prog.bytesOf 5 = 1 := by kernel_rfl

/-- The end of every walk: true; what was there is as it was. -/
def TrueBelow (w : World) (e : Ending) (w' : World) : Prop := e = .returned (.bool true) ∧ Below w.heap.size w w'

set_option maxRecDepth 100000 in
theorem u32_bv {x : Int} (h : (Lit.int .u32 x).wf = true) : ∃ s : BitVec 32, x = bv s := by
  have hb : 0 ≤ x ∧ x ≤ 4294967295 := by
    simp [Lit.wf, IntKind.min, IntKind.max, IntKind.signed, IntKind.bits] at h; omega
  refine ⟨BitVec.ofNat 32 x.toNat, ?_⟩
  rw [bv_ofNat (by omega)]; omega
set_option maxRecDepth 100000 in
theorem u64_bv {x : Int} (h : (Lit.int .u64 x).wf = true) : ∃ s : BitVec 64, x = bv s := by
  have hb : 0 ≤ x ∧ x ≤ 18446744073709551615 := by
    simp [Lit.wf, IntKind.min, IntKind.max, IntKind.signed, IntKind.bits] at h; omega
  refine ⟨BitVec.ofNat 64 x.toNat, ?_⟩
  rw [bv_ofNat (by omega)]; omega
set_option maxRecDepth 100000 in
theorem i64_range {x : Int} (h : (Lit.int .i64 x).wf = true) : -9223372036854775808 ≤ x ∧ x ≤ 9223372036854775807 := by
  simp [Lit.wf, IntKind.min, IntKind.max, IntKind.signed, IntKind.bits] at h; omega
section
variable {H : Type} {enc : TypeId × Value → H}

set_option maxRecDepth 100000 in
theorem trodAll_below {W W' : World} (hb : Below W.heap.size W W') : ∀ (ts : List TypeId) (vs : List Value) (ds : List (DataW H)) (p : List MemPlace), (∀ t ∈ ts, Try.prog.readableRec t = true ∧ t < Try.prog.types.size) →
    DataW.TrodAll enc Try.prog W 0 (fun _ => true) true ts vs ds p → (∀ x ∈ p, x.block < W.heap.size) → DataW.TrodAll enc Try.prog W' 0 (fun b => decide (b < W.heap.size)) true ts vs ds p
  | [], [], [], _, _, h, _ => h
  | t :: ts, v :: vs, d :: ds, _, hr, h, hl => by
    obtain ⟨p, q, h1, h2, rfl⟩ := h
    exact ⟨p, q, Below.trod frame_laidOut (hr t (by simp)).1 (hr t (by simp)).2 h1 hb (fun x hx => hl x (by simp [hx])),
      trodAll_below hb ts vs ds q (fun t ht => hr t (by simp [ht])) h2 (fun x hx => hl x (by simp [hx])), rfl⟩
  | [], _ :: _, _, _, _, h, _ => h.elim
  | [], [], _ :: _, _, _, h, _ => h.elim
  | _ :: _, [], _, _, _, h, _ => h.elim
  | _ :: _, _ :: _, [], _, _, h, _ => h.elim

set_option maxRecDepth 100000 in
theorem law_post (f : Func) (s : ChangeSpec) (hv : s.vars = []) (hrt : f.resultTypes = #[4]) (hread : ∀ t ∈ f.params.toList, Try.prog.readableRec t = true ∧ t < Try.prog.types.size)
    {W W' : World} {args : Array Value} {ds gs : List (DataW H)} {before : List MemPlace} (hW : DataW.Whole enc Try.prog f.params.toList s.vars false W args.toList ds gs before)
    (hr : (s.fn H (ds ++ gs)).results = [.lit (.bool true)]) (ha : (s.fn H (ds ++ gs)).args = ds) (hvs : (s.fn H (ds ++ gs)).vars = []) (hb : Below W.heap.size W W') :
    s.post enc Try.prog f false true false false W args (.bool true) W' := by
  have hlt : ∀ x ∈ before, x.block < W.heap.size := fun x hx => hW.lt x hx
  have hW' := hW
  obtain ⟨p, q, hA, hV, rfl, hfz, hnd⟩ := hW
  refine ⟨ds, gs, p ++ q, [], p, [], hW', ?_, ?_, ?_, hb.frame _, fun h => by cases h⟩
  · rw [hr, hrt]
    exact trodAll_mk1 (shut_bool Try.underlying4 _)
  · rw [ha]
    exact trodAll_below hb _ _ _ _ hread hA (fun x hx => hlt x (by simp [hx]))
  · rw [hvs, hv]; exact rfl

set_option maxRecDepth 100000 in
/-- A slice of bytes among the arguments. -/
theorem open_bytes {W : World} {base : Nat} {v : Value} {d : DataW H} {p : List MemPlace} (hok : Value.okWide Try.prog W .any base 31 v) (h : DataW.Trod enc Try.prog W 0 (fun _ => true) true 31 v d p) :
    ∃ ao bs cap, v = .slice ao bs.length cap ∧ BytesAt W ao bs ∧ (ao = none → cap = 0) ∧ bs.length ≤ cap ∧ cap ≤ maxLen ∧ (d = .nil ∧ cap = 0 ∨ ∃ elems spare, d = .slice elems spare ∧ elems.length + spare.length = cap) := by
  obtain ⟨a, len, cap, rfl⟩ := okWide_slice Try.underlying31 hok
  obtain ⟨fuel, hf⟩ := h
  rcases open_ints Try.underlying31 Try.underlying5 cellsByte hf with ⟨hcs, hx⟩ | ⟨x, l, c, zs, hcs, _, hl, hm, hz, hx, hcell, hwz⟩
  · simp [Value.cells] at hcs
    obtain ⟨rfl, rfl, rfl⟩ := hcs
    refine ⟨none, [], 0, rfl, fun i hi => by simp at hi, fun _ => rfl, Nat.le_refl _, by simp [maxLen], .inl ⟨?_, rfl⟩⟩
    exact congrArg Prod.fst hx
  · simp [Value.cells] at hcs
    obtain ⟨rfl, rfl, rfl⟩ := hcs
    have hzl : zs.length = cap := by simpa using hz
    have hbl : ((zs.take len).map fun z => BitVec.ofInt 8 z).length = len := by simp; omega
    refine ⟨some x, (zs.take len).map fun z => BitVec.ofInt 8 z, cap, by rw [hbl], fun i hi => ?_, (fun h => by cases h), by rw [hbl]; exact hl, hm, .inr ⟨_, _, congrArg Prod.fst hx, by simp [lits]; omega⟩⟩
    have hi2 : i < len := by rwa [hbl] at hi
    obtain ⟨b, off, spot⟩ := x
    have hspot : spot = none := by simpa [Addr.add] using World.cell?_spot (hcell 0 (by omega))
    subst hspot
    have hc := hcell i (by omega)
    rw [Addr.add_mid] at hc
    refine ⟨b, off, rfl, hc.trans ?_⟩
    have hmem : zs.getD i 0 = zs[i]'(by omega) := by simp [show i < zs.length by omega]
    have hw := bounds_u8 (hwz _ (List.getElem_mem (show i < zs.length by omega)))
    have e : at8 ((zs.take len).map fun z => BitVec.ofInt 8 z) i = BitVec.ofInt 8 (zs[i]'(by omega)) := by
      rw [at8_get hi]; simp
    rw [hmem, e]
    congr 2
    unfold bv
    rw [BitVec.toNat_ofInt]
    have : ((2 ^ 8 : Nat) : Int) = 256 := rfl
    omega
end
end Go.Proofs.Ytmkljmljbbijeaa

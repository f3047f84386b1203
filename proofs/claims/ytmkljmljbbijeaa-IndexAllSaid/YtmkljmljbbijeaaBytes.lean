/- Slices of bytes that the call itself made; append onto them, from whatever slice of bytes. -/
import Derived.Test.YtmkljmljbbijeaaChecked
import Derived.Test.YtmkljmljbbijeaaBits
import Derived.Laws.AppendOwnNone
import Derived.WalkSpells
import Derived.WalkLawsBesides
namespace Go.Proofs.Ytmkljmljbbijeaa
open Go.RowKit

def bval (x : BitVec 8) : Value := .int .u8 (bv x)
def bvals (bs : List (BitVec 8)) : List Value := bs.map bval
theorem bvals_length (bs : List (BitVec 8)) : (bvals bs).length = bs.length := by simp [bvals]
theorem bvals_append (a b : List (BitVec 8)) : bvals (a ++ b) = bvals a ++ bvals b := by simp [bvals]
theorem bvals_get {bs : List (BitVec 8)} {i : Nat} (h : i < bs.length) : (bvals bs)[i]? = some (.int .u8 (bv (at8 bs i))) := by
  simp [bvals, bval, h, at8_get h]
theorem bvals_one (bs : List (BitVec 8)) : ∀ v ∈ bvals bs, v.oneCell' = true := by
  intro v hv
  obtain ⟨i, _, rfl⟩ := List.mem_map.1 hv
  rfl

theorem Try.infoByte : (Try.prog.info? 5).map (fun i => (i.zero, i.size, i.bytes)) = some (some (.int .u8 0), 1, 1) := by kernel_rfl

/-- The slice value v, of the call's own (its block from 'base' on), holds the bytes. -/
def OwnB (w : World) (base : Nat) (v : Value) (bs : List (BitVec 8)) : Prop := w.ownsRow base 5 1 v bs.length (bvals bs)

theorem OwnB.nil (w : World) (base : Nat) : OwnB w base (.slice none 0 0) [] := World.ownsRow_nil w base _ 1
theorem OwnB.shape {w : World} {base : Nat} {v : Value} {bs : List (BitVec 8)} (h : OwnB w base v bs) :
    ∃ ao cap, v = .slice ao bs.length cap ∧ (ao = none → cap = 0) ∧ bs.length ≤ cap ∧ cap ≤ maxLen ∧ BytesAt w ao bs ∧ (ao = none ∨ ∃ g, ao = some ⟨g, 0, none⟩ ∧ base ≤ g ∧ g < w.heap.size ∧ w.there g 0 cap) := by
  obtain ⟨_, h⟩ := h
  rcases h with ⟨rfl, h0⟩ | ⟨g, cap, cur, rfl, hg, hh, hn, hm, hs, ht⟩
  · exact ⟨none, 0, by rw [h0], fun _ => rfl, by omega, by simp [maxLen], fun i hi => by omega, .inl rfl⟩
  · refine ⟨some ⟨g, 0, none⟩, cap, rfl, (fun h => by cases h), hn, hm, fun i hi => ⟨g, 0, rfl, ?_⟩, .inr ⟨g, rfl, hg, (Array.getElem?_eq_some_iff.1 hh).1, fun j hj => ?_⟩⟩
    · rw [Nat.zero_add, cell_of_row w g i cur _ _ hh]
      have e := bvals_get hi
      rw [← ht, List.getElem?_take] at e
      rw [if_pos (by omega)] at e
      simpa using e
    · rw [Nat.zero_add]
      constructor
      · rw [cell_of_row w g j cur _ _ hh]; simp; omega
      · exact frozen_of_row w g j cur _ hh
theorem OwnB.keep {w w' : World} {base : Nat} {v : Value} {bs : List (BitVec 8)} (h : OwnB w base v bs) (hb : Below w.heap.size w w') : OwnB w' base v bs := by
  refine ⟨h.1, ?_⟩
  rcases h.2 with h0 | ⟨g, cap, cur, hv, hg, hh, r⟩
  · exact .inl h0
  · exact .inr ⟨g, cap, cur, hv, hg, (hb.block g (Array.getElem?_eq_some_iff.1 hh).1).trans hh, r⟩
theorem OwnB.base {w : World} {base base' : Nat} {v : Value} {bs : List (BitVec 8)} (h : OwnB w base v bs) (hb : base' ≤ base) : OwnB w base' v bs := by
  refine ⟨h.1, ?_⟩
  rcases h.2 with h0 | ⟨g, cap, cur, hv, hg, r⟩
  · exact .inl h0
  · exact .inr ⟨g, cap, cur, hv, by omega, r⟩
/-- What an append leaves of older memory. -/
theorem OwnB.below {w w' : World} {base B : Nat} {v : Value} {bs : List (BitVec 8)} (h : OwnB w base v bs) (hg : w.grownBy w' v.ownBlock) (hB : B ≤ base) (hs : B ≤ w.heap.size) : Below B w w' :=
  (Below.refl B w).grown hg hs (fun k hk => by have := (h.lt k hk).1; omega)

/-- append onto bytes of the call's own, from whatever slice of bytes. -/
theorem wpList_append_bytes {w : World} {ops : Array Oper} {rest : List Oper} {o : Oper} {a : Act} {Q : Exit → Act → World → Prop} (hgd : o.guard = none) (s x : Operand)
    (ho : o.op = .call { callee := .builtin .append, args := #[s, x], argTypes := #[31, 31] })
    (base : Nat) (v : Value) (xs : List (BitVec 8)) (hs : a.eval s = v) (hown : OwnB w base v xs)
    (ao : Option Addr) (n cap : Nat) (bs : List (BitVec 8)) (hx : a.eval x = .slice ao n cap) (hn : n = bs.length) (hb : BytesAt w ao bs) (hnil : ao = none → cap = 0)
    (hlen : xs.length + bs.length ≤ 140737488355328) (hbase : base ≤ w.heap.size)
    (h : ∀ v' w', OwnB w' base v' (xs ++ bs) → w.grownBy w' v.ownBlock → (v' = .slice none 0 0 ↔ v = .slice none 0 0 ∧ n = 0) → wpList Try.prog ops Q rest (a.put o.dst v') w') : wpList Try.prog ops Q (o :: rest) a w := by
  subst hn
  obtain ⟨i, hi, hz0, hz1, hz2⟩ := info_parts Try.infoByte
  cases ao with
  | none =>
    have h0 : bs.length = 0 := by
      rcases Nat.eq_zero_or_pos bs.length with h | h
      · exact h
      · obtain ⟨b, off, e, _⟩ := hb 0 h; cases e
    have hbs : bs = [] := List.eq_nil_of_length_eq_zero h0
    subst hbs
    rw [hnil rfl] at hx
    refine wpList_append_own_none hgd s x 31 ho base 5 i 1 Try.underlying31 hi v xs.length (bvals xs) hs hown hx ?_
    exact h v w (by simpa using hown) (World.grownBy.refl _ _) (by simp)
  | some ad =>
    have hnews : ∀ j u, (bvals bs)[j]? = some u → w.cell? (ad.add j) = some u := by
      intro j u hu
      have hj : j < bs.length := by have := (List.getElem?_eq_some_iff.1 hu).1; rwa [bvals_length] at this
      obtain ⟨b, off, e, hc⟩ := hb j hj
      obtain rfl := Option.some.inj e
      rw [Addr.add_mid, hc, ← bvals_get hj, hu]
    refine wpList_append_own (w := w) hgd s x 31 ho base 5 i (.int .u8 0) 1 1 Try.underlying31 hi hz0 hz1 hz2 rfl (by decide) v xs.length (bvals xs) hs hown ad bs.length cap (bvals bs) hx (by rw [bvals_length, Nat.mul_one]) hnews (bvals_one bs)
      (by simp only [maxLen]; omega) (by omega) hbase ?_
    intro v' w' h1 h2 h3
    refine h v' w' ?_ h2 h3
    unfold OwnB
    rw [List.length_append, bvals_append]
    exact h1
theorem bytes_new (w : World) (bs : List (BitVec 8)) (t : TypeId) (fr : Nat × Nat) : BytesAt (w.alloc (.cells (bvals bs).toArray t fr)) (some ⟨w.heap.size, 0, none⟩) bs := fun i hi => by
  refine ⟨w.heap.size, 0, rfl, ?_⟩
  rw [Nat.zero_add, cell_of_row _ _ _ _ _ _ (heap_alloc_new w _)]
  have h := bvals_get hi
  simp only [List.getElem?_toArray]
  exact h
end Go.Proofs.Ytmkljmljbbijeaa

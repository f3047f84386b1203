/- Lists of int in the call's own memory; slices of uint16 among the arguments. -/
import Derived.Test.YtmkljmljbbijeaaSegsOwn
import Derived.Test.YtmkljmljbbijeaaOpen
namespace Go.Proofs.Ytmkljmljbbijeaa
open Go.RowKit

set_option maxRecDepth 100000 in
theorem Try.infoInt : (Try.prog.info? 3).map (fun i => (i.zero, i.size, i.bytes)) = some (some (.int .i64 0), 1, 8) := by kernel_rfl
def OwnN (w : World) (base : Nat) (v : Value) (l : List Int) : Prop := w.ownsRow base 3 1 v l.length (ints l)
theorem OwnN.nil (w : World) (base : Nat) : OwnN w base (.slice none 0 0) [] := World.ownsRow_nil w base _ 1
theorem OwnN.keep {w w' : World} {base : Nat} {v : Value} {L : List Int} (h : OwnN w base v L) (hb : Below w.heap.size w w') : OwnN w' base v L :=
  rows_congr h fun g hg => by
    obtain ⟨-, cur, hc⟩ := rows_blk h hg
    exact hb.block g (heap_lt hc)
theorem OwnN.base {w : World} {base base' : Nat} {v : Value} {L : List Int} (h : OwnN w base v L) (hb : base' ≤ base) : OwnN w base' v L :=
  ⟨h.1, by
    rcases h.2 with h0 | ⟨g, cap, cur, e, hg, r⟩
    · exact .inl h0
    · exact .inr ⟨g, cap, cur, e, Nat.le_trans hb hg, r⟩⟩
/-- Append: one number, laid in a block of its own. -/
theorem wpList_append_int {w : World} {ops : Array Oper} {rest : List Oper} {o : Oper} {a : Act} {Q : Exit → Act → World → Prop} (hgd : o.guard = none) (s x : Operand)
    (ho : o.op = .call { callee := .builtin .append, args := #[s, x], argTypes := #[60, 60] })
    (base : Nat) (v : Value) (l : List Int) (hs : a.eval s = v) (hown : OwnN w base v l)
    (ad : Addr) (y : Int) (hx : a.eval x = .slice (some ad) 1 1) (hy : ∀ j u, [Value.int .i64 y][j]? = some u → w.cell? (ad.add j) = some u)
    (hlen : l.length ≤ 1099511627776) (hbase : base ≤ w.heap.size)
    (h : ∀ v' w', OwnN w' base v' (l ++ [y]) → w.grownBy w' v.ownBlock → wpList Try.prog ops Q rest (a.put o.dst v') w') : wpList Try.prog ops Q (o :: rest) a w := by
  obtain ⟨i, hi, hz0, hz1, hz2⟩ := info_parts Try.infoInt
  refine wpList_append_own_at (w := w) hgd s x 60 ho base 3 i (.int .i64 0) 1 8 Try.underlying60 hi hz0 hz1 hz2 rfl (by decide) v l.length (ints l) hs hown ad 1 1 [.int .i64 y] hx rfl hy (by intro u hu; rw [List.mem_singleton.1 hu]; rfl)
    (by simp only [maxLen]; omega) (by omega) hbase ?_
  intro v' w' h1 h2 h3 h4
  refine h v' w' ?_ h2
  unfold OwnN
  rw [List.length_append]
  simpa [ints] using h1
theorem OwnN.there {w : World} {base : Nat} {v : Value} {l : List Int} (h : OwnN w base v l) : ∃ ao ca, v = .slice ao l.length ca ∧ ∀ i, i < l.length → ∃ g, ao = some ⟨g, 0, none⟩ ∧ base ≤ g ∧ g < w.heap.size ∧ w.cell? ⟨g, i, none⟩ = some (.int .i64 (l.getD i 0)) ∧ w.frozen? ⟨g, i, none⟩ = false := by
  rcases h.2 with ⟨rfl, h0⟩ | ⟨g, cap, cur, rfl, hb, hc, hle, -, hsz, htk⟩
  · exact ⟨none, 0, by rw [h0], fun i hi => absurd hi (by omega)⟩
  · refine ⟨some ⟨g, 0, none⟩, cap, rfl, fun i hi => ⟨g, rfl, hb, heap_lt hc, ?_, frozen_of_row _ _ _ _ _ hc⟩⟩
    have h1 : (cur.toList.take l.length)[i]? = (ints l)[i]? := by rw [← htk, Nat.mul_one]
    rw [List.getElem?_take, if_pos hi] at h1
    rw [cell_of_row _ _ _ _ _ _ hc, ← Array.getElem?_toList, h1]
    simp [ints, hi, List.getD_eq_getElem?_getD]
theorem OwnN.elem {w : World} {base : Nat} {an : Option Addr} {n cn : Nat} {l : List Int} (h : OwnN w base (.slice an n cn) l) {i : Nat} (hi : i < l.length) : ∃ g, an = some ⟨g, 0, none⟩ ∧ base ≤ g ∧ w.cell? ⟨g, i, none⟩ = some (.int .i64 (l.getD i 0)) := by
  obtain ⟨ao, ca, e, hg⟩ := h.there
  injection e with e
  obtain ⟨g, e2, hb, -, hc, hf⟩ := hg i hi
  exact ⟨g, e.trans e2, hb, hc⟩
end Go.Proofs.Ytmkljmljbbijeaa
namespace Go.Proofs.Ytmkljmljbbijeaa
open Go.ChangeShapes Go.WideShapes Go.ChangeAt Go.RowKit Go.Deep

def at16 (L : List Nat) (i : Nat) : Nat := L.getD i 0
def U16sAt (w : World) (ao : Option Addr) (L : List Nat) : Prop :=
  ∀ i, i < L.length → at16 L i ≤ 65535 ∧ ∃ b off, ao = some ⟨b, off, none⟩ ∧ w.cell? ⟨b, off + i, none⟩ = some (.int .u16 (at16 L i : Nat))
theorem U16sAt.below {w w' : World} {ao : Option Addr} {L : List Nat} (h : U16sAt w ao L) (hb : Below w.heap.size w w') : U16sAt w' ao L := fun i hi => by
  obtain ⟨hr, b, off, e, hc⟩ := h i hi
  exact ⟨hr, b, off, e, cell_keep hb hc⟩
section
variable {H : Type} {enc : TypeId × Value → H}
theorem cellsU16 : Try.prog.cellsOf 62 = 1 := by kernel_rfl
theorem bytesU16 : Try.prog.bytesOf 62 = 2 := by kernel_rfl
theorem read_u16s {W : World} {fuel : Nat} {v : Value} {d : DataW H} {p : List MemPlace} (h : DataW.trod enc Try.prog W 0 (fun _ => true) true fuel 56 [v] = some (d, p)) (hr : Reach 56 d) :
    ∃ (ao : Option Addr) (L : List Nat) (cap : Nat), v = .slice ao L.length cap ∧ U16sAt W ao L ∧ (ao = none → cap = 0) ∧ L.length ≤ cap ∧ cap ≤ 70368744175616 := by
  obtain ⟨ao, zs, cap, rfl, hc, hn, hl, hb, hm, hw⟩ := read_ints Try.underlying56 Try.underlying62 cellsU16 h hr
  rw [bytesU16] at hb
  have hreach : reachBytes = 140737488351232 := by decide
  have hlen : (zs.map Int.toNat).length = zs.length := by simp
  refine ⟨ao, zs.map Int.toNat, cap, by rw [hlen], fun i hi => ?_, hn, by rw [hlen]; exact hl, by omega⟩
  rw [hlen] at hi
  obtain ⟨b, off, e, hc⟩ := hc i hi
  have hz : zs.getD i 0 = zs[i] := by simp [hi]
  have hb : 0 ≤ zs[i] ∧ zs[i] ≤ 65535 := by
    have h := hw _ (List.getElem_mem hi)
    simp [Lit.wf, IntKind.min, IntKind.max, IntKind.signed, IntKind.bits] at h; omega
  have e2 : at16 (zs.map Int.toNat) i = zs[i].toNat := by unfold at16; simp [hi]
  rw [hz] at hc
  rw [e2]
  refine ⟨by omega, b, off, e, hc.trans ?_⟩
  congr 2
  omega
end
end Go.Proofs.Ytmkljmljbbijeaa

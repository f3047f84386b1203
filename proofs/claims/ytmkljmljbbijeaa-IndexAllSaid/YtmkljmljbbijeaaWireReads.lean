/- The walk of flumelaw1's WireReads. -/
import Derived.Test.YtmkljmljbbijeaaWireBegun
import Derived.Test.YtmkljmljbbijeaaWireString
import Derived.Test.YtmkljmljbbijeaaBackBut
import Derived.Test.YtmkljmljbbijeaaOpen
namespace Go.Proofs.Ytmkljmljbbijeaa
open Go.RowKit

theorem Mine.front {w wr : World} {g : Nat} {bs x : List (BitVec 8)} (h : Mine w wr g (bs ++ x)) : BytesAt wr (some ⟨g, 0, none⟩) bs := fun i hi => by
  refine ⟨g, 0, rfl, ?_⟩
  rw [Nat.zero_add, h.bytes i (by simp; omega), at8_left hi]
theorem ref_read_string_to (ao : Option Addr) (bs : List (BitVec 8)) (n cap : Nat) (most : Int) (w : World) (r : List (BitVec 8) × Nat × Nat) (hb : BytesAt w ao bs) (hl : bs.length = n) (hc : n ≤ cap) (hn : ao = none → cap = 0) (hm : cap ≤ 9223372036854775807) (hlen : n ≤ 140737488355328) (hmost : -9223372036854775808 ≤ most ∧ most ≤ 9223372036854775807) (hr : rs bs most = r) :
    Calls Try.prog 118 #[.slice ao n cap, .int .i64 most] w (RsOut w r) := by
  subst hl hr; exact ref_read_string ao bs cap most w hb hc hn hm hlen hmost
theorem rs_len (bs : List (BitVec 8)) (most : Int) (h : bs.length ≤ 140737488355328) : (rs bs most).1.length ≤ 140737488355328 := by
  unfold rs
  split
  · simp
  split
  · simp
  split
  · simp
  split
  · simp
  · simp; omega

theorem BytesAt.but {w0 w w' : World} {g : Nat} {ao : Option Addr} {bs : List (BitVec 8)} (h : BytesAt w0 ao bs) (hb : Below w0.heap.size w0 w) (hu : But g w w') (hg : w0.heap.size ≤ g) : BytesAt w' ao bs := fun i hi => by
  obtain ⟨b, off, e, hc⟩ := h i hi
  have hl := block_lt_of_cell hc
  exact ⟨b, off, e, hu.cell (cell_keep hb hc) (by simp only at hl ⊢; omega)⟩

end Go.Proofs.Ytmkljmljbbijeaa

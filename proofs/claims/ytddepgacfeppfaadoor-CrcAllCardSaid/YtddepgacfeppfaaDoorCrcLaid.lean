/- The library's table of lowest bits: what the rows list of it, and a world for the witnesses. -/
import Derived.Test.YtddepgacfeppfaaDoorFrame
import Derived.Test.YtddepgacfeppfaaDoorCrcOf
namespace Go.Proofs.YtddepgacfeppfaaDoor
open Go.ChangeShapes Go.WideShapes Go.ChangeAt Go.RowKit

theorem gTab : Tryd.prog.globalNamed "math/bits.deBruijn32tab" = some 0 := by kernel_rfl
theorem gTabType : (Tryd.prog.globals[0]?).map (·.type) = some 48 := by kernel_rfl
theorem cellsTab : Tryd.prog.cellsOf 48 = 32 := by kernel_rfl
theorem deB_of_laid {W : World} (h : laidMetH Tryd.prog [("math/bits.deBruijn32tab", Rows.laid_math_bits_deBruijn32tab)] W) : DeB W := by
  have ht : Lib.TabIs Tryd.prog W "math/bits.deBruijn32tab" .u8 (Lib.deBruijn32tab.map fun (n : Nat) => (n : Int)) :=
    Lib.tabIs_of_head (rest := []) gTab gTabType Tryd.underlying48 Tryd.underlying5 cellsByte cellsTab h
  intro i hi
  have hc := ht.cell gTab i (by simpa [Lib.deBruijn32tab] using hi)
  rw [hc]
  congr 2
  have : i < Lib.deBruijn32tab.length := hi
  simp [this]
/-- The settled world, the table holding what its initialiser lays. -/
noncomputable def laidWorld (os : Os) : World :=
  { World.holding Tryd.prog os ⟨#[], #[], []⟩ with heap := (World.holding Tryd.prog os ⟨#[], #[], []⟩).heap.modify 0 fun
      | .cells _ t frozen => .cells (Lib.deBruijn32tab.map fun (n : Nat) => Value.int .u8 (n : Int)).toArray t frozen
      | o => o }
end Go.Proofs.YtddepgacfeppfaaDoor

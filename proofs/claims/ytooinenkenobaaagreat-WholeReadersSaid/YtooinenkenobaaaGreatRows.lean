/-
  No cell of these rows narrows 'for every input' (looked for: loops, veiled, ifaces, maps, wideKeys, modest, calm, conditions, laid).
  DERIVED. THE GIVEN ROWS OF THIS SEAT. 5 by the template 'for every input the law returns true; each argument reads behind the call as it read before'; 0 by the template 'total and deterministic' (their statements: YtooinenkenobaaaGreatTotals.lean).
  GIVEN WITH THE SEED: the statements are not yours to turn. If you find one false, say at which input.
  Laid BY PROGRAM, IN A SANDBOX (cutbox-rows.mjs): the forced cells as the released guide's own fill.sh prints them over the translation cedce2c488a10c0e… (all of the seat's roots in one cut). By AI agents, Wed Nov 11 2026. No macro, syntax, notation, axiom, sorry.
-/
import Derived.Test.YtooinenkenobaaaGreatChecked
import GoSem.Claim
import GoSem.ClaimJoined
import GoSem.ClaimMapViews
import Derived.JoinedTies
import Derived.KernelRfl
namespace Go.Proofs.YtooinenkenobaaaGreat
/- THE CELL 'sum', in the pinned program and in every row, IS THE sha256 OF THE DUMP (.gsa) THAT YtooinenkenobaaaGreatProg.lean LOADS. Nothing in Lean hashes anything: it is a label: what it is worth is what the hold of that sum in a sandbox is worth. -/
noncomputable def Tryz.pinned : Pinned := { name := "ytooinenkenobaaagreat", sum := "cedce2c488a10c0e41c917c36f4db7025fe5fb3d8ad2a86d3427016f7d4ee6a1", checked := Tryz.checked }
namespace Rows
def none {H : Type} : Left H := { results := [], args := [] }

/-- 'flumetop.WholeFailed': WHATEVER THE INPUT: true; the input reads as it did. -/
def wholeFailedSpec : ChangeSpec := { name := "wholeFailed", fn := fun _ => fun
  | [d] => { results := [.lit (.bool true)], args := [d] }
  | _ => none }
def wholeFailedRow : OpenClaim := { program := "ytooinenkenobaaagreat", sum := "cedce2c488a10c0e41c917c36f4db7025fe5fb3d8ad2a86d3427016f7d4ee6a1", func := "flume/flumetop.WholeFailed", spec := "wholeFailed", inPlace := ["math.Float64bits", "math.Float64frombits"], unfollowed := true, recurses := true, apart := false }
def WholeFailedSaid : Prop := wholeFailedRow.holds Tryz.pinned (OpenSpec.ofChange wholeFailedSpec)

/-- ITS FALSE NEIGHBOUR: 'it returns false'. Refute it at one input. -/
def wholeFailedWrong : ChangeSpec := { name := "wholeFailed", fn := fun _ => fun
  | [d] => { results := [.lit (.bool false)], args := [d] }
  | _ => none }
def WholeFailedWrongFalsely : Prop := wholeFailedRow.holds Tryz.pinned (OpenSpec.ofChange wholeFailedWrong)

/-- 'flumetop.WholeEnds': WHATEVER THE INPUT: true; the input reads as it did. -/
def wholeEndsSpec : ChangeSpec := { name := "wholeEnds", fn := fun _ => fun
  | [d] => { results := [.lit (.bool true)], args := [d] }
  | _ => none }
def wholeEndsRow : OpenClaim := { program := "ytooinenkenobaaagreat", sum := "cedce2c488a10c0e41c917c36f4db7025fe5fb3d8ad2a86d3427016f7d4ee6a1", func := "flume/flumetop.WholeEnds", spec := "wholeEnds", inPlace := ["math.Float64bits", "math.Float64frombits"], unfollowed := true, recurses := true, apart := false }
def WholeEndsSaid : Prop := wholeEndsRow.holds Tryz.pinned (OpenSpec.ofChange wholeEndsSpec)

/-- ITS FALSE NEIGHBOUR: 'it returns false'. Refute it at one input. -/
def wholeEndsWrong : ChangeSpec := { name := "wholeEnds", fn := fun _ => fun
  | [d] => { results := [.lit (.bool false)], args := [d] }
  | _ => none }
def WholeEndsWrongFalsely : Prop := wholeEndsRow.holds Tryz.pinned (OpenSpec.ofChange wholeEndsWrong)

/-- 'flumetop.WholeBounds': WHATEVER THE INPUT: true; the input reads as it did. -/
def wholeBoundsSpec : ChangeSpec := { name := "wholeBounds", fn := fun _ => fun
  | [d] => { results := [.lit (.bool true)], args := [d] }
  | _ => none }
def wholeBoundsRow : OpenClaim := { program := "ytooinenkenobaaagreat", sum := "cedce2c488a10c0e41c917c36f4db7025fe5fb3d8ad2a86d3427016f7d4ee6a1", func := "flume/flumetop.WholeBounds", spec := "wholeBounds", inPlace := ["math.Float64bits", "math.Float64frombits"], unfollowed := true, recurses := true, apart := false }
def WholeBoundsSaid : Prop := wholeBoundsRow.holds Tryz.pinned (OpenSpec.ofChange wholeBoundsSpec)

/-- ITS FALSE NEIGHBOUR: 'it returns false'. Refute it at one input. -/
def wholeBoundsWrong : ChangeSpec := { name := "wholeBounds", fn := fun _ => fun
  | [d] => { results := [.lit (.bool false)], args := [d] }
  | _ => none }
def WholeBoundsWrongFalsely : Prop := wholeBoundsRow.holds Tryz.pinned (OpenSpec.ofChange wholeBoundsWrong)

/-- 'flumetop.WholeWriters': WHATEVER THE INPUT: true; the input reads as it did. -/
def wholeWritersSpec : ChangeSpec := { name := "wholeWriters", fn := fun _ => fun
  | [d1, d2, d3, d4, d5] => { results := [.lit (.bool true)], args := [d1, d2, d3, d4, d5] }
  | _ => none }
def wholeWritersRow : OpenClaim := { program := "ytooinenkenobaaagreat", sum := "cedce2c488a10c0e41c917c36f4db7025fe5fb3d8ad2a86d3427016f7d4ee6a1", func := "flume/flumetop.WholeWriters", spec := "wholeWriters", inPlace := ["math.Float64bits", "math.Float64frombits"], unfollowed := true, recurses := true, apart := false }
def WholeWritersSaid : Prop := wholeWritersRow.holds Tryz.pinned (OpenSpec.ofChange wholeWritersSpec)

/-- ITS FALSE NEIGHBOUR: 'it returns false'. Refute it at one input. -/
def wholeWritersWrong : ChangeSpec := { name := "wholeWriters", fn := fun _ => fun
  | [d1, d2, d3, d4, d5] => { results := [.lit (.bool false)], args := [d1, d2, d3, d4, d5] }
  | _ => none }
def WholeWritersWrongFalsely : Prop := wholeWritersRow.holds Tryz.pinned (OpenSpec.ofChange wholeWritersWrong)

/-- 'flumetop.WholeReaders': WHATEVER THE INPUT: true; the input reads as it did. -/
def wholeReadersSpec : ChangeSpec := { name := "wholeReaders", fn := fun _ => fun
  | [d1, d2, d3, d4, d5] => { results := [.lit (.bool true)], args := [d1, d2, d3, d4, d5] }
  | _ => none }
def wholeReadersRow : OpenClaim := { program := "ytooinenkenobaaagreat", sum := "cedce2c488a10c0e41c917c36f4db7025fe5fb3d8ad2a86d3427016f7d4ee6a1", func := "flume/flumetop.WholeReaders", spec := "wholeReaders", inPlace := ["math.Float64bits", "math.Float64frombits"], unfollowed := true, recurses := true, apart := false }
def WholeReadersSaid : Prop := wholeReadersRow.holds Tryz.pinned (OpenSpec.ofChange wholeReadersSpec)

/-- ITS FALSE NEIGHBOUR: 'it returns false'. Refute it at one input. -/
def wholeReadersWrong : ChangeSpec := { name := "wholeReaders", fn := fun _ => fun
  | [d1, d2, d3, d4, d5] => { results := [.lit (.bool false)], args := [d1, d2, d3, d4, d5] }
  | _ => none }
def WholeReadersWrongFalsely : Prop := wholeReadersRow.holds Tryz.pinned (OpenSpec.ofChange wholeReadersWrong)

/- THE SECOND FORM. 'bulk': how many values and letters a reading holds, each counted each time it is reached (what is shared counts as often as it is met; a slice's spare places count too). A statement '..UptoSaid' is the law's where the arguments, and the package variables that the reading takes, are together of bulk at most 1048576: NARROWER than '..Said'. Prove '..Said' where nothing that the law and all that it calls make is longer than what came in: it says more and counts as full. Else prove '..UptoSaid'. A law counts once. -/
mutual
def uptoBulk {H : Type} : DataW H → Nat
  | .lit (.string bytes) => bytes.length + 1
  | .lit _ => 1
  | .nil => 1
  | .ptr d => uptoBulk d + 1
  | .slice elems spare => uptoBulkAll elems + uptoBulkAll spare + 1
  | .agg parts => uptoBulkAll parts + 1
  | .iface _ d => uptoBulk d + 1
  | .map entries => uptoBulkEntries entries + 1
  | .held _ => 1
def uptoBulkAll {H : Type} : List (DataW H) → Nat
  | [] => 0
  | d :: r => uptoBulk d + uptoBulkAll r
def uptoBulkEntries {H : Type} : List (Lit × DataW H) → Nat
  | [] => 0
  | x :: r => uptoBulkEntry x + uptoBulkEntries r
def uptoBulkEntry {H : Type} : Lit × DataW H → Nat
  | (.string bytes, d) => bytes.length + uptoBulk d + 1
  | (_, d) => uptoBulk d + 1
 end
def uptoSmall : (H : Type) → List (DataW H) → Bool := fun _ ds => decide (uptoBulkAll ds ≤ 1048576)
def OpenSpec.upto (s : _root_.Go.ChangeSpec) : _root_.Go.OpenSpec := { _root_.Go.OpenSpec.ofChange s with cond := some uptoSmall }

/-- 'flumetop.WholeFailed', WHERE WHAT IT READS IS OF BULK AT MOST 1048576: true; the input reads as it did. -/
def wholeFailedUptoRow : OpenClaim := { program := "ytooinenkenobaaagreat", sum := "cedce2c488a10c0e41c917c36f4db7025fe5fb3d8ad2a86d3427016f7d4ee6a1", func := "flume/flumetop.WholeFailed", spec := "wholeFailed", inPlace := ["math.Float64bits", "math.Float64frombits"], unfollowed := true, recurses := true, apart := false, narrowed := true }
def WholeFailedUptoSaid : Prop := wholeFailedUptoRow.holds Tryz.pinned (OpenSpec.upto wholeFailedSpec)

/-- 'flumetop.WholeEnds', WHERE WHAT IT READS IS OF BULK AT MOST 1048576: true; the input reads as it did. -/
def wholeEndsUptoRow : OpenClaim := { program := "ytooinenkenobaaagreat", sum := "cedce2c488a10c0e41c917c36f4db7025fe5fb3d8ad2a86d3427016f7d4ee6a1", func := "flume/flumetop.WholeEnds", spec := "wholeEnds", inPlace := ["math.Float64bits", "math.Float64frombits"], unfollowed := true, recurses := true, apart := false, narrowed := true }
def WholeEndsUptoSaid : Prop := wholeEndsUptoRow.holds Tryz.pinned (OpenSpec.upto wholeEndsSpec)

/-- 'flumetop.WholeBounds', WHERE WHAT IT READS IS OF BULK AT MOST 1048576: true; the input reads as it did. -/
def wholeBoundsUptoRow : OpenClaim := { program := "ytooinenkenobaaagreat", sum := "cedce2c488a10c0e41c917c36f4db7025fe5fb3d8ad2a86d3427016f7d4ee6a1", func := "flume/flumetop.WholeBounds", spec := "wholeBounds", inPlace := ["math.Float64bits", "math.Float64frombits"], unfollowed := true, recurses := true, apart := false, narrowed := true }
def WholeBoundsUptoSaid : Prop := wholeBoundsUptoRow.holds Tryz.pinned (OpenSpec.upto wholeBoundsSpec)

/-- 'flumetop.WholeWriters', WHERE WHAT IT READS IS OF BULK AT MOST 1048576: true; the input reads as it did. -/
def wholeWritersUptoRow : OpenClaim := { program := "ytooinenkenobaaagreat", sum := "cedce2c488a10c0e41c917c36f4db7025fe5fb3d8ad2a86d3427016f7d4ee6a1", func := "flume/flumetop.WholeWriters", spec := "wholeWriters", inPlace := ["math.Float64bits", "math.Float64frombits"], unfollowed := true, recurses := true, apart := false, narrowed := true }
def WholeWritersUptoSaid : Prop := wholeWritersUptoRow.holds Tryz.pinned (OpenSpec.upto wholeWritersSpec)

/-- 'flumetop.WholeReaders', WHERE WHAT IT READS IS OF BULK AT MOST 1048576: true; the input reads as it did. -/
def wholeReadersUptoRow : OpenClaim := { program := "ytooinenkenobaaagreat", sum := "cedce2c488a10c0e41c917c36f4db7025fe5fb3d8ad2a86d3427016f7d4ee6a1", func := "flume/flumetop.WholeReaders", spec := "wholeReaders", inPlace := ["math.Float64bits", "math.Float64frombits"], unfollowed := true, recurses := true, apart := false, narrowed := true }
def WholeReadersUptoSaid : Prop := wholeReadersUptoRow.holds Tryz.pinned (OpenSpec.upto wholeReadersSpec)

end Rows
end Go.Proofs.YtooinenkenobaaaGreat

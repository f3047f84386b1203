/-
  No cell of these rows narrows 'for every input' (looked for: loops, veiled, ifaces, maps, wideKeys, modest, calm, conditions, laid).
  DERIVED. THE GIVEN ROWS OF THIS SEAT. 12 by the template 'for every input the law returns true; each argument reads behind the call as it read before'; 0 by the template 'total and deterministic' (their statements: YtmkljmljbbijeaaTotals.lean).
  GIVEN WITH THE SEED: the statements are not yours to turn. If you find one false, say at which input.
  Laid BY PROGRAM, IN A SANDBOX (cutbox-rows.mjs): the forced cells as the released guide's own fill.sh prints them over the translation b4dd5c26c2403fd0… (all of the seat's roots in one cut). By AI agents, Wed Nov 11 2026. No macro, syntax, notation, axiom, sorry.
-/
import Derived.Test.YtmkljmljbbijeaaChecked
import GoSem.Claim
import GoSem.ClaimJoined
import GoSem.ClaimMapViews
import Derived.JoinedTies
import Derived.KernelRfl
namespace Go.Proofs.Ytmkljmljbbijeaa
/- THE CELL 'sum', in the pinned program and in every row, IS THE sha256 OF THE DUMP (.gsa) THAT YtmkljmljbbijeaaProg.lean LOADS. Nothing in Lean hashes anything: it is a label: what it is worth is what the hold of that sum in a sandbox is worth. -/
noncomputable def Try.pinned : Pinned := { name := "ytmkljmljbbijeaa", sum := "b4dd5c26c2403fd069eca723473d79572ad8afea151327f6d6b81573598c9dd5", checked := Try.checked }
namespace Rows
def none {H : Type} : Left H := { results := [], args := [] }

/-- 'flumelaw10.CatalogAll': WHATEVER THE INPUT: true; the input reads as it did. -/
def catalogAllSpec : ChangeSpec := { name := "catalogAll", fn := fun _ => fun
  | [d1, d2] => { results := [.lit (.bool true)], args := [d1, d2] }
  | _ => none }
def catalogAllRow : OpenClaim := { program := "ytmkljmljbbijeaa", sum := "b4dd5c26c2403fd069eca723473d79572ad8afea151327f6d6b81573598c9dd5", func := "flume/flumelaw10.CatalogAll", spec := "catalogAll", unfollowed := true, recurses := true, apart := false }
def CatalogAllSaid : Prop := catalogAllRow.holds Try.pinned (OpenSpec.ofChange catalogAllSpec)

/-- ITS FALSE NEIGHBOUR: 'it returns false'. Refute it at one input. -/
def catalogAllWrong : ChangeSpec := { name := "catalogAll", fn := fun _ => fun
  | [d1, d2] => { results := [.lit (.bool false)], args := [d1, d2] }
  | _ => none }
def CatalogAllWrongFalsely : Prop := catalogAllRow.holds Try.pinned (OpenSpec.ofChange catalogAllWrong)

/-- 'flumelaw10.CatalogReads': WHATEVER THE INPUT: true; the input reads as it did. -/
def catalogReadsSpec : ChangeSpec := { name := "catalogReads", fn := fun _ => fun
  | [d] => { results := [.lit (.bool true)], args := [d] }
  | _ => none }
def catalogReadsRow : OpenClaim := { program := "ytmkljmljbbijeaa", sum := "b4dd5c26c2403fd069eca723473d79572ad8afea151327f6d6b81573598c9dd5", func := "flume/flumelaw10.CatalogReads", spec := "catalogReads", unfollowed := true, recurses := true, apart := false }
def CatalogReadsSaid : Prop := catalogReadsRow.holds Try.pinned (OpenSpec.ofChange catalogReadsSpec)

/-- ITS FALSE NEIGHBOUR: 'it returns false'. Refute it at one input. -/
def catalogReadsWrong : ChangeSpec := { name := "catalogReads", fn := fun _ => fun
  | [d] => { results := [.lit (.bool false)], args := [d] }
  | _ => none }
def CatalogReadsWrongFalsely : Prop := catalogReadsRow.holds Try.pinned (OpenSpec.ofChange catalogReadsWrong)

/-- 'flumelaw10.CatalogRuns': WHATEVER THE INPUT: true; the input reads as it did. -/
def catalogRunsSpec : ChangeSpec := { name := "catalogRuns", fn := fun _ => fun
  | [d1, d2] => { results := [.lit (.bool true)], args := [d1, d2] }
  | _ => none }
def catalogRunsRow : OpenClaim := { program := "ytmkljmljbbijeaa", sum := "b4dd5c26c2403fd069eca723473d79572ad8afea151327f6d6b81573598c9dd5", func := "flume/flumelaw10.CatalogRuns", spec := "catalogRuns", unfollowed := true, recurses := true, apart := false }
def CatalogRunsSaid : Prop := catalogRunsRow.holds Try.pinned (OpenSpec.ofChange catalogRunsSpec)

/-- ITS FALSE NEIGHBOUR: 'it returns false'. Refute it at one input. -/
def catalogRunsWrong : ChangeSpec := { name := "catalogRuns", fn := fun _ => fun
  | [d1, d2] => { results := [.lit (.bool false)], args := [d1, d2] }
  | _ => none }
def CatalogRunsWrongFalsely : Prop := catalogRunsRow.holds Try.pinned (OpenSpec.ofChange catalogRunsWrong)

/-- 'flumelaw10.CatalogAts': WHATEVER THE INPUT: true; the input reads as it did. -/
def catalogAtsSpec : ChangeSpec := { name := "catalogAts", fn := fun _ => fun
  | [d1, d2] => { results := [.lit (.bool true)], args := [d1, d2] }
  | _ => none }
def catalogAtsRow : OpenClaim := { program := "ytmkljmljbbijeaa", sum := "b4dd5c26c2403fd069eca723473d79572ad8afea151327f6d6b81573598c9dd5", func := "flume/flumelaw10.CatalogAts", spec := "catalogAts", unfollowed := true, recurses := true, apart := false }
def CatalogAtsSaid : Prop := catalogAtsRow.holds Try.pinned (OpenSpec.ofChange catalogAtsSpec)

/-- ITS FALSE NEIGHBOUR: 'it returns false'. Refute it at one input. -/
def catalogAtsWrong : ChangeSpec := { name := "catalogAts", fn := fun _ => fun
  | [d1, d2] => { results := [.lit (.bool false)], args := [d1, d2] }
  | _ => none }
def CatalogAtsWrongFalsely : Prop := catalogAtsRow.holds Try.pinned (OpenSpec.ofChange catalogAtsWrong)

/-- 'flumelaw9.IndexFound': WHATEVER THE INPUT: true; the input reads as it did. -/
def indexFoundSpec : ChangeSpec := { name := "indexFound", fn := fun _ => fun
  | [d1, d2] => { results := [.lit (.bool true)], args := [d1, d2] }
  | _ => none }
def indexFoundRow : OpenClaim := { program := "ytmkljmljbbijeaa", sum := "b4dd5c26c2403fd069eca723473d79572ad8afea151327f6d6b81573598c9dd5", func := "flume/flumelaw9.IndexFound", spec := "indexFound", unfollowed := true, recurses := true, apart := false }
def IndexFoundSaid : Prop := indexFoundRow.holds Try.pinned (OpenSpec.ofChange indexFoundSpec)

/-- ITS FALSE NEIGHBOUR: 'it returns false'. Refute it at one input. -/
def indexFoundWrong : ChangeSpec := { name := "indexFound", fn := fun _ => fun
  | [d1, d2] => { results := [.lit (.bool false)], args := [d1, d2] }
  | _ => none }
def IndexFoundWrongFalsely : Prop := indexFoundRow.holds Try.pinned (OpenSpec.ofChange indexFoundWrong)

/-- 'flumelaw9.IndexLoads': WHATEVER THE INPUT: true; the input reads as it did. -/
def indexLoadsSpec : ChangeSpec := { name := "indexLoads", fn := fun _ => fun
  | [d] => { results := [.lit (.bool true)], args := [d] }
  | _ => none }
def indexLoadsRow : OpenClaim := { program := "ytmkljmljbbijeaa", sum := "b4dd5c26c2403fd069eca723473d79572ad8afea151327f6d6b81573598c9dd5", func := "flume/flumelaw9.IndexLoads", spec := "indexLoads", unfollowed := true, recurses := true, apart := false }
def IndexLoadsSaid : Prop := indexLoadsRow.holds Try.pinned (OpenSpec.ofChange indexLoadsSpec)

/-- ITS FALSE NEIGHBOUR: 'it returns false'. Refute it at one input. -/
def indexLoadsWrong : ChangeSpec := { name := "indexLoads", fn := fun _ => fun
  | [d] => { results := [.lit (.bool false)], args := [d] }
  | _ => none }
def IndexLoadsWrongFalsely : Prop := indexLoadsRow.holds Try.pinned (OpenSpec.ofChange indexLoadsWrong)

/-- 'flumelaw9.IndexAll': WHATEVER THE INPUT: true; the input reads as it did. -/
def indexAllSpec : ChangeSpec := { name := "indexAll", fn := fun _ => fun
  | [d1, d2] => { results := [.lit (.bool true)], args := [d1, d2] }
  | _ => none }
def indexAllRow : OpenClaim := { program := "ytmkljmljbbijeaa", sum := "b4dd5c26c2403fd069eca723473d79572ad8afea151327f6d6b81573598c9dd5", func := "flume/flumelaw9.IndexAll", spec := "indexAll", unfollowed := true, recurses := true, apart := false }
def IndexAllSaid : Prop := indexAllRow.holds Try.pinned (OpenSpec.ofChange indexAllSpec)

/-- ITS FALSE NEIGHBOUR: 'it returns false'. Refute it at one input. -/
def indexAllWrong : ChangeSpec := { name := "indexAll", fn := fun _ => fun
  | [d1, d2] => { results := [.lit (.bool false)], args := [d1, d2] }
  | _ => none }
def IndexAllWrongFalsely : Prop := indexAllRow.holds Try.pinned (OpenSpec.ofChange indexAllWrong)

/-- 'flumelaw9.IndexNone': WHATEVER THE INPUT: true; the input reads as it did. -/
def indexNoneSpec : ChangeSpec := { name := "indexNone", fn := fun _ => fun
  | [d1, d2] => { results := [.lit (.bool true)], args := [d1, d2] }
  | _ => none }
def indexNoneRow : OpenClaim := { program := "ytmkljmljbbijeaa", sum := "b4dd5c26c2403fd069eca723473d79572ad8afea151327f6d6b81573598c9dd5", func := "flume/flumelaw9.IndexNone", spec := "indexNone", unfollowed := true, recurses := true, apart := false }
def IndexNoneSaid : Prop := indexNoneRow.holds Try.pinned (OpenSpec.ofChange indexNoneSpec)

/-- ITS FALSE NEIGHBOUR: 'it returns false'. Refute it at one input. -/
def indexNoneWrong : ChangeSpec := { name := "indexNone", fn := fun _ => fun
  | [d1, d2] => { results := [.lit (.bool false)], args := [d1, d2] }
  | _ => none }
def IndexNoneWrongFalsely : Prop := indexNoneRow.holds Try.pinned (OpenSpec.ofChange indexNoneWrong)

/-- 'flumelaw9.IndexCuts': WHATEVER THE INPUT: true; the input reads as it did. -/
def indexCutsSpec : ChangeSpec := { name := "indexCuts", fn := fun _ => fun
  | [d1, d2, d3, d4] => { results := [.lit (.bool true)], args := [d1, d2, d3, d4] }
  | _ => none }
def indexCutsRow : OpenClaim := { program := "ytmkljmljbbijeaa", sum := "b4dd5c26c2403fd069eca723473d79572ad8afea151327f6d6b81573598c9dd5", func := "flume/flumelaw9.IndexCuts", spec := "indexCuts", unfollowed := true, recurses := true, apart := false }
def IndexCutsSaid : Prop := indexCutsRow.holds Try.pinned (OpenSpec.ofChange indexCutsSpec)

/-- ITS FALSE NEIGHBOUR: 'it returns false'. Refute it at one input. -/
def indexCutsWrong : ChangeSpec := { name := "indexCuts", fn := fun _ => fun
  | [d1, d2, d3, d4] => { results := [.lit (.bool false)], args := [d1, d2, d3, d4] }
  | _ => none }
def IndexCutsWrongFalsely : Prop := indexCutsRow.holds Try.pinned (OpenSpec.ofChange indexCutsWrong)

/-- 'flumelaw1.WireApart': WHATEVER THE INPUT: true; the input reads as it did. -/
def wireApartSpec : ChangeSpec := { name := "wireApart", fn := fun _ => fun
  | [d1, d2] => { results := [.lit (.bool true)], args := [d1, d2] }
  | _ => none }
def wireApartRow : OpenClaim := { program := "ytmkljmljbbijeaa", sum := "b4dd5c26c2403fd069eca723473d79572ad8afea151327f6d6b81573598c9dd5", func := "flume/flumelaw1.WireApart", spec := "wireApart", unfollowed := true, recurses := true, apart := false }
def WireApartSaid : Prop := wireApartRow.holds Try.pinned (OpenSpec.ofChange wireApartSpec)

/-- ITS FALSE NEIGHBOUR: 'it returns false'. Refute it at one input. -/
def wireApartWrong : ChangeSpec := { name := "wireApart", fn := fun _ => fun
  | [d1, d2] => { results := [.lit (.bool false)], args := [d1, d2] }
  | _ => none }
def WireApartWrongFalsely : Prop := wireApartRow.holds Try.pinned (OpenSpec.ofChange wireApartWrong)

/-- 'flumelaw1.WireForms': WHATEVER THE INPUT: true; the input reads as it did. -/
def wireFormsSpec : ChangeSpec := { name := "wireForms", fn := fun _ => fun
  | [d1, d2, d3] => { results := [.lit (.bool true)], args := [d1, d2, d3] }
  | _ => none }
def wireFormsRow : OpenClaim := { program := "ytmkljmljbbijeaa", sum := "b4dd5c26c2403fd069eca723473d79572ad8afea151327f6d6b81573598c9dd5", func := "flume/flumelaw1.WireForms", spec := "wireForms", unfollowed := true, recurses := true, apart := false }
def WireFormsSaid : Prop := wireFormsRow.holds Try.pinned (OpenSpec.ofChange wireFormsSpec)

/-- ITS FALSE NEIGHBOUR: 'it returns false'. Refute it at one input. -/
def wireFormsWrong : ChangeSpec := { name := "wireForms", fn := fun _ => fun
  | [d1, d2, d3] => { results := [.lit (.bool false)], args := [d1, d2, d3] }
  | _ => none }
def WireFormsWrongFalsely : Prop := wireFormsRow.holds Try.pinned (OpenSpec.ofChange wireFormsWrong)

/-- 'flumelaw1.WireReader': WHATEVER THE INPUT: true; the input reads as it did. -/
def wireReaderSpec : ChangeSpec := { name := "wireReader", fn := fun _ => fun
  | [d1, d2] => { results := [.lit (.bool true)], args := [d1, d2] }
  | _ => none }
def wireReaderRow : OpenClaim := { program := "ytmkljmljbbijeaa", sum := "b4dd5c26c2403fd069eca723473d79572ad8afea151327f6d6b81573598c9dd5", func := "flume/flumelaw1.WireReader", spec := "wireReader", unfollowed := true, recurses := true, apart := false }
def WireReaderSaid : Prop := wireReaderRow.holds Try.pinned (OpenSpec.ofChange wireReaderSpec)

/-- ITS FALSE NEIGHBOUR: 'it returns false'. Refute it at one input. -/
def wireReaderWrong : ChangeSpec := { name := "wireReader", fn := fun _ => fun
  | [d1, d2] => { results := [.lit (.bool false)], args := [d1, d2] }
  | _ => none }
def WireReaderWrongFalsely : Prop := wireReaderRow.holds Try.pinned (OpenSpec.ofChange wireReaderWrong)

/- THE SECOND FORM. 'bulk': how many values and letters a reading holds, each counted each time it is reached (what is shared counts as often as it is met; a slice's spare places count too). A statement '..UptoSaid' is the law's where the arguments, and the package variables that the reading takes, are together of bulk at most 1048576: NARROWER than '..Said'. Prove '..Said' where nothing that the law and all that it calls make is longer than what came in: it says more and counts as full. Else prove '..UptoSaid'. A law counts once. -/
mutual
def uptoBulk {H : Type} : DataW H → Nat
  | .lit (.string bytes) => bytes.length + 1
  | .lit _ => 1
  | .nil => 1
  | .ptr d => uptoBulk d + 1
  | .slice elems spare => uptoBulkAll elems + uptoBulkAll spare + 1
  | .agg parts => uptoBulkAll parts + 1
  | .iface _ d => uptoBulk d + 1
  | .map entries => uptoBulkEntries entries + 1
  | .held _ => 1
def uptoBulkAll {H : Type} : List (DataW H) → Nat
  | [] => 0
  | d :: r => uptoBulk d + uptoBulkAll r
def uptoBulkEntries {H : Type} : List (Lit × DataW H) → Nat
  | [] => 0
  | x :: r => uptoBulkEntry x + uptoBulkEntries r
def uptoBulkEntry {H : Type} : Lit × DataW H → Nat
  | (.string bytes, d) => bytes.length + uptoBulk d + 1
  | (_, d) => uptoBulk d + 1
 end
def uptoSmall : (H : Type) → List (DataW H) → Bool := fun _ ds => decide (uptoBulkAll ds ≤ 1048576)
def OpenSpec.upto (s : _root_.Go.ChangeSpec) : _root_.Go.OpenSpec := { _root_.Go.OpenSpec.ofChange s with cond := some uptoSmall }

/-- 'flumelaw10.CatalogAll', WHERE WHAT IT READS IS OF BULK AT MOST 1048576: true; the input reads as it did. -/
def catalogAllUptoRow : OpenClaim := { program := "ytmkljmljbbijeaa", sum := "b4dd5c26c2403fd069eca723473d79572ad8afea151327f6d6b81573598c9dd5", func := "flume/flumelaw10.CatalogAll", spec := "catalogAll", unfollowed := true, recurses := true, apart := false, narrowed := true }
def CatalogAllUptoSaid : Prop := catalogAllUptoRow.holds Try.pinned (OpenSpec.upto catalogAllSpec)

/-- 'flumelaw10.CatalogReads', WHERE WHAT IT READS IS OF BULK AT MOST 1048576: true; the input reads as it did. -/
def catalogReadsUptoRow : OpenClaim := { program := "ytmkljmljbbijeaa", sum := "b4dd5c26c2403fd069eca723473d79572ad8afea151327f6d6b81573598c9dd5", func := "flume/flumelaw10.CatalogReads", spec := "catalogReads", unfollowed := true, recurses := true, apart := false, narrowed := true }
def CatalogReadsUptoSaid : Prop := catalogReadsUptoRow.holds Try.pinned (OpenSpec.upto catalogReadsSpec)

/-- 'flumelaw10.CatalogRuns', WHERE WHAT IT READS IS OF BULK AT MOST 1048576: true; the input reads as it did. -/
def catalogRunsUptoRow : OpenClaim := { program := "ytmkljmljbbijeaa", sum := "b4dd5c26c2403fd069eca723473d79572ad8afea151327f6d6b81573598c9dd5", func := "flume/flumelaw10.CatalogRuns", spec := "catalogRuns", unfollowed := true, recurses := true, apart := false, narrowed := true }
def CatalogRunsUptoSaid : Prop := catalogRunsUptoRow.holds Try.pinned (OpenSpec.upto catalogRunsSpec)

/-- 'flumelaw10.CatalogAts', WHERE WHAT IT READS IS OF BULK AT MOST 1048576: true; the input reads as it did. -/
def catalogAtsUptoRow : OpenClaim := { program := "ytmkljmljbbijeaa", sum := "b4dd5c26c2403fd069eca723473d79572ad8afea151327f6d6b81573598c9dd5", func := "flume/flumelaw10.CatalogAts", spec := "catalogAts", unfollowed := true, recurses := true, apart := false, narrowed := true }
def CatalogAtsUptoSaid : Prop := catalogAtsUptoRow.holds Try.pinned (OpenSpec.upto catalogAtsSpec)

/-- 'flumelaw9.IndexFound', WHERE WHAT IT READS IS OF BULK AT MOST 1048576: true; the input reads as it did. -/
def indexFoundUptoRow : OpenClaim := { program := "ytmkljmljbbijeaa", sum := "b4dd5c26c2403fd069eca723473d79572ad8afea151327f6d6b81573598c9dd5", func := "flume/flumelaw9.IndexFound", spec := "indexFound", unfollowed := true, recurses := true, apart := false, narrowed := true }
def IndexFoundUptoSaid : Prop := indexFoundUptoRow.holds Try.pinned (OpenSpec.upto indexFoundSpec)

/-- 'flumelaw9.IndexLoads', WHERE WHAT IT READS IS OF BULK AT MOST 1048576: true; the input reads as it did. -/
def indexLoadsUptoRow : OpenClaim := { program := "ytmkljmljbbijeaa", sum := "b4dd5c26c2403fd069eca723473d79572ad8afea151327f6d6b81573598c9dd5", func := "flume/flumelaw9.IndexLoads", spec := "indexLoads", unfollowed := true, recurses := true, apart := false, narrowed := true }
def IndexLoadsUptoSaid : Prop := indexLoadsUptoRow.holds Try.pinned (OpenSpec.upto indexLoadsSpec)

/-- 'flumelaw9.IndexAll', WHERE WHAT IT READS IS OF BULK AT MOST 1048576: true; the input reads as it did. -/
def indexAllUptoRow : OpenClaim := { program := "ytmkljmljbbijeaa", sum := "b4dd5c26c2403fd069eca723473d79572ad8afea151327f6d6b81573598c9dd5", func := "flume/flumelaw9.IndexAll", spec := "indexAll", unfollowed := true, recurses := true, apart := false, narrowed := true }
def IndexAllUptoSaid : Prop := indexAllUptoRow.holds Try.pinned (OpenSpec.upto indexAllSpec)

/-- 'flumelaw9.IndexNone', WHERE WHAT IT READS IS OF BULK AT MOST 1048576: true; the input reads as it did. -/
def indexNoneUptoRow : OpenClaim := { program := "ytmkljmljbbijeaa", sum := "b4dd5c26c2403fd069eca723473d79572ad8afea151327f6d6b81573598c9dd5", func := "flume/flumelaw9.IndexNone", spec := "indexNone", unfollowed := true, recurses := true, apart := false, narrowed := true }
def IndexNoneUptoSaid : Prop := indexNoneUptoRow.holds Try.pinned (OpenSpec.upto indexNoneSpec)

/-- 'flumelaw9.IndexCuts', WHERE WHAT IT READS IS OF BULK AT MOST 1048576: true; the input reads as it did. -/
def indexCutsUptoRow : OpenClaim := { program := "ytmkljmljbbijeaa", sum := "b4dd5c26c2403fd069eca723473d79572ad8afea151327f6d6b81573598c9dd5", func := "flume/flumelaw9.IndexCuts", spec := "indexCuts", unfollowed := true, recurses := true, apart := false, narrowed := true }
def IndexCutsUptoSaid : Prop := indexCutsUptoRow.holds Try.pinned (OpenSpec.upto indexCutsSpec)

/-- 'flumelaw1.WireApart', WHERE WHAT IT READS IS OF BULK AT MOST 1048576: true; the input reads as it did. -/
def wireApartUptoRow : OpenClaim := { program := "ytmkljmljbbijeaa", sum := "b4dd5c26c2403fd069eca723473d79572ad8afea151327f6d6b81573598c9dd5", func := "flume/flumelaw1.WireApart", spec := "wireApart", unfollowed := true, recurses := true, apart := false, narrowed := true }
def WireApartUptoSaid : Prop := wireApartUptoRow.holds Try.pinned (OpenSpec.upto wireApartSpec)

/-- 'flumelaw1.WireForms', WHERE WHAT IT READS IS OF BULK AT MOST 1048576: true; the input reads as it did. -/
def wireFormsUptoRow : OpenClaim := { program := "ytmkljmljbbijeaa", sum := "b4dd5c26c2403fd069eca723473d79572ad8afea151327f6d6b81573598c9dd5", func := "flume/flumelaw1.WireForms", spec := "wireForms", unfollowed := true, recurses := true, apart := false, narrowed := true }
def WireFormsUptoSaid : Prop := wireFormsUptoRow.holds Try.pinned (OpenSpec.upto wireFormsSpec)

/-- 'flumelaw1.WireReader', WHERE WHAT IT READS IS OF BULK AT MOST 1048576: true; the input reads as it did. -/
def wireReaderUptoRow : OpenClaim := { program := "ytmkljmljbbijeaa", sum := "b4dd5c26c2403fd069eca723473d79572ad8afea151327f6d6b81573598c9dd5", func := "flume/flumelaw1.WireReader", spec := "wireReader", unfollowed := true, recurses := true, apart := false, narrowed := true }
def WireReaderUptoSaid : Prop := wireReaderUptoRow.holds Try.pinned (OpenSpec.upto wireReaderSpec)

end Rows
end Go.Proofs.Ytmkljmljbbijeaa

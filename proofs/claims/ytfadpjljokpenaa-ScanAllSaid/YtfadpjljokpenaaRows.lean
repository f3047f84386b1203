/-
  No cell of these rows narrows 'for every input' (looked for: loops, veiled, ifaces, maps, wideKeys, modest, calm, conditions, laid).
  DERIVED. THE GIVEN ROWS OF THIS SEAT. 12 by the template 'for every input the law returns true; each argument reads behind the call as it read before'; 0 by the template 'total and deterministic' (their statements: YtfadpjljokpenaaTotals.lean).
  GIVEN WITH THE SEED: the statements are not yours to turn. If you find one false, say at which input.
  Laid BY PROGRAM, IN A SANDBOX (cutbox-rows.mjs): the forced cells as the released guide's own fill.sh prints them over the translation 443887ab99cf8b51… (all of the seat's roots in one cut). By AI agents, Wed Nov 11 2026. No macro, syntax, notation, axiom, sorry.
-/
import Derived.Test.YtfadpjljokpenaaChecked
import GoSem.Claim
import GoSem.ClaimJoined
import GoSem.ClaimMapViews
import Derived.JoinedTies
import Derived.KernelRfl
namespace Go.Proofs.Ytfadpjljokpenaa
/- THE CELL 'sum', in the pinned program and in every row, IS THE sha256 OF THE DUMP (.gsa) THAT YtfadpjljokpenaaProg.lean LOADS. Nothing in Lean hashes anything: it is a label: what it is worth is what the hold of that sum in a sandbox is worth. -/
noncomputable def Try.pinned : Pinned := { name := "ytfadpjljokpenaa", sum := "443887ab99cf8b51002812a83bbc9f91abb39ae9f3847bc290df4b3947d1ace8", checked := Try.checked }
namespace Rows
def none {H : Type} : Left H := { results := [], args := [] }

/-- 'flumelaw6.FrameAll': WHATEVER THE INPUT: true; the input reads as it did. -/
def frameAllSpec : ChangeSpec := { name := "frameAll", fn := fun _ => fun
  | [d1, d2, d3] => { results := [.lit (.bool true)], args := [d1, d2, d3] }
  | _ => none }
def frameAllRow : OpenClaim := { program := "ytfadpjljokpenaa", sum := "443887ab99cf8b51002812a83bbc9f91abb39ae9f3847bc290df4b3947d1ace8", func := "flume/flumelaw6.FrameAll", spec := "frameAll", unfollowed := true, recurses := true, apart := false }
def FrameAllSaid : Prop := frameAllRow.holds Try.pinned (OpenSpec.ofChange frameAllSpec)

/-- ITS FALSE NEIGHBOUR: 'it returns false'. Refute it at one input. -/
def frameAllWrong : ChangeSpec := { name := "frameAll", fn := fun _ => fun
  | [d1, d2, d3] => { results := [.lit (.bool false)], args := [d1, d2, d3] }
  | _ => none }
def FrameAllWrongFalsely : Prop := frameAllRow.holds Try.pinned (OpenSpec.ofChange frameAllWrong)

/-- 'flumelaw6.FrameReads': WHATEVER THE INPUT: true; the input reads as it did. -/
def frameReadsSpec : ChangeSpec := { name := "frameReads", fn := fun _ => fun
  | [d1, d2] => { results := [.lit (.bool true)], args := [d1, d2] }
  | _ => none }
def frameReadsRow : OpenClaim := { program := "ytfadpjljokpenaa", sum := "443887ab99cf8b51002812a83bbc9f91abb39ae9f3847bc290df4b3947d1ace8", func := "flume/flumelaw6.FrameReads", spec := "frameReads", unfollowed := true, recurses := true, apart := false }
def FrameReadsSaid : Prop := frameReadsRow.holds Try.pinned (OpenSpec.ofChange frameReadsSpec)

/-- ITS FALSE NEIGHBOUR: 'it returns false'. Refute it at one input. -/
def frameReadsWrong : ChangeSpec := { name := "frameReads", fn := fun _ => fun
  | [d1, d2] => { results := [.lit (.bool false)], args := [d1, d2] }
  | _ => none }
def FrameReadsWrongFalsely : Prop := frameReadsRow.holds Try.pinned (OpenSpec.ofChange frameReadsWrong)

/-- 'flumelaw6.FrameBack': WHATEVER THE INPUT: true; the input reads as it did. -/
def frameBackSpec : ChangeSpec := { name := "frameBack", fn := fun _ => fun
  | [d1, d2, d3] => { results := [.lit (.bool true)], args := [d1, d2, d3] }
  | _ => none }
def frameBackRow : OpenClaim := { program := "ytfadpjljokpenaa", sum := "443887ab99cf8b51002812a83bbc9f91abb39ae9f3847bc290df4b3947d1ace8", func := "flume/flumelaw6.FrameBack", spec := "frameBack", unfollowed := true, recurses := true, apart := false }
def FrameBackSaid : Prop := frameBackRow.holds Try.pinned (OpenSpec.ofChange frameBackSpec)

/-- ITS FALSE NEIGHBOUR: 'it returns false'. Refute it at one input. -/
def frameBackWrong : ChangeSpec := { name := "frameBack", fn := fun _ => fun
  | [d1, d2, d3] => { results := [.lit (.bool false)], args := [d1, d2, d3] }
  | _ => none }
def FrameBackWrongFalsely : Prop := frameBackRow.holds Try.pinned (OpenSpec.ofChange frameBackWrong)

/-- 'flumelaw6.FrameHeads': WHATEVER THE INPUT: true; the input reads as it did. -/
def frameHeadsSpec : ChangeSpec := { name := "frameHeads", fn := fun _ => fun
  | [d1, d2] => { results := [.lit (.bool true)], args := [d1, d2] }
  | _ => none }
def frameHeadsRow : OpenClaim := { program := "ytfadpjljokpenaa", sum := "443887ab99cf8b51002812a83bbc9f91abb39ae9f3847bc290df4b3947d1ace8", func := "flume/flumelaw6.FrameHeads", spec := "frameHeads", unfollowed := true, recurses := true, apart := false }
def FrameHeadsSaid : Prop := frameHeadsRow.holds Try.pinned (OpenSpec.ofChange frameHeadsSpec)

/-- ITS FALSE NEIGHBOUR: 'it returns false'. Refute it at one input. -/
def frameHeadsWrong : ChangeSpec := { name := "frameHeads", fn := fun _ => fun
  | [d1, d2] => { results := [.lit (.bool false)], args := [d1, d2] }
  | _ => none }
def FrameHeadsWrongFalsely : Prop := frameHeadsRow.holds Try.pinned (OpenSpec.ofChange frameHeadsWrong)

/-- 'flumelaw6.FrameChain': WHATEVER THE INPUT: true; the input reads as it did. -/
def frameChainSpec : ChangeSpec := { name := "frameChain", fn := fun _ => fun
  | [d1, d2] => { results := [.lit (.bool true)], args := [d1, d2] }
  | _ => none }
def frameChainRow : OpenClaim := { program := "ytfadpjljokpenaa", sum := "443887ab99cf8b51002812a83bbc9f91abb39ae9f3847bc290df4b3947d1ace8", func := "flume/flumelaw6.FrameChain", spec := "frameChain", unfollowed := true, recurses := true, apart := false }
def FrameChainSaid : Prop := frameChainRow.holds Try.pinned (OpenSpec.ofChange frameChainSpec)

/-- ITS FALSE NEIGHBOUR: 'it returns false'. Refute it at one input. -/
def frameChainWrong : ChangeSpec := { name := "frameChain", fn := fun _ => fun
  | [d1, d2] => { results := [.lit (.bool false)], args := [d1, d2] }
  | _ => none }
def FrameChainWrongFalsely : Prop := frameChainRow.holds Try.pinned (OpenSpec.ofChange frameChainWrong)

/-- 'flumelaw7.ScanAll': WHATEVER THE INPUT: true; the input reads as it did. -/
def scanAllSpec : ChangeSpec := { name := "scanAll", fn := fun _ => fun
  | [d1, d2, d3, d4, d5] => { results := [.lit (.bool true)], args := [d1, d2, d3, d4, d5] }
  | _ => none }
def scanAllRow : OpenClaim := { program := "ytfadpjljokpenaa", sum := "443887ab99cf8b51002812a83bbc9f91abb39ae9f3847bc290df4b3947d1ace8", func := "flume/flumelaw7.ScanAll", spec := "scanAll", unfollowed := true, recurses := true, apart := false }
def ScanAllSaid : Prop := scanAllRow.holds Try.pinned (OpenSpec.ofChange scanAllSpec)

/-- ITS FALSE NEIGHBOUR: 'it returns false'. Refute it at one input. -/
def scanAllWrong : ChangeSpec := { name := "scanAll", fn := fun _ => fun
  | [d1, d2, d3, d4, d5] => { results := [.lit (.bool false)], args := [d1, d2, d3, d4, d5] }
  | _ => none }
def ScanAllWrongFalsely : Prop := scanAllRow.holds Try.pinned (OpenSpec.ofChange scanAllWrong)

/-- 'flumelaw7.ScanAgain': WHATEVER THE INPUT: true; the input reads as it did. -/
def scanAgainSpec : ChangeSpec := { name := "scanAgain", fn := fun _ => fun
  | [d1, d2, d3] => { results := [.lit (.bool true)], args := [d1, d2, d3] }
  | _ => none }
def scanAgainRow : OpenClaim := { program := "ytfadpjljokpenaa", sum := "443887ab99cf8b51002812a83bbc9f91abb39ae9f3847bc290df4b3947d1ace8", func := "flume/flumelaw7.ScanAgain", spec := "scanAgain", unfollowed := true, recurses := true, apart := false }
def ScanAgainSaid : Prop := scanAgainRow.holds Try.pinned (OpenSpec.ofChange scanAgainSpec)

/-- ITS FALSE NEIGHBOUR: 'it returns false'. Refute it at one input. -/
def scanAgainWrong : ChangeSpec := { name := "scanAgain", fn := fun _ => fun
  | [d1, d2, d3] => { results := [.lit (.bool false)], args := [d1, d2, d3] }
  | _ => none }
def ScanAgainWrongFalsely : Prop := scanAgainRow.holds Try.pinned (OpenSpec.ofChange scanAgainWrong)

/-- 'flumelaw7.ScanFront': WHATEVER THE INPUT: true; the input reads as it did. -/
def scanFrontSpec : ChangeSpec := { name := "scanFront", fn := fun _ => fun
  | [d1, d2, d3, d4, d5] => { results := [.lit (.bool true)], args := [d1, d2, d3, d4, d5] }
  | _ => none }
def scanFrontRow : OpenClaim := { program := "ytfadpjljokpenaa", sum := "443887ab99cf8b51002812a83bbc9f91abb39ae9f3847bc290df4b3947d1ace8", func := "flume/flumelaw7.ScanFront", spec := "scanFront", unfollowed := true, recurses := true, apart := false }
def ScanFrontSaid : Prop := scanFrontRow.holds Try.pinned (OpenSpec.ofChange scanFrontSpec)

/-- ITS FALSE NEIGHBOUR: 'it returns false'. Refute it at one input. -/
def scanFrontWrong : ChangeSpec := { name := "scanFront", fn := fun _ => fun
  | [d1, d2, d3, d4, d5] => { results := [.lit (.bool false)], args := [d1, d2, d3, d4, d5] }
  | _ => none }
def ScanFrontWrongFalsely : Prop := scanFrontRow.holds Try.pinned (OpenSpec.ofChange scanFrontWrong)

/-- 'flumelaw1.WireApart': WHATEVER THE INPUT: true; the input reads as it did. -/
def wireApartSpec : ChangeSpec := { name := "wireApart", fn := fun _ => fun
  | [d1, d2] => { results := [.lit (.bool true)], args := [d1, d2] }
  | _ => none }
def wireApartRow : OpenClaim := { program := "ytfadpjljokpenaa", sum := "443887ab99cf8b51002812a83bbc9f91abb39ae9f3847bc290df4b3947d1ace8", func := "flume/flumelaw1.WireApart", spec := "wireApart", unfollowed := true, recurses := true, apart := false }
def WireApartSaid : Prop := wireApartRow.holds Try.pinned (OpenSpec.ofChange wireApartSpec)

/-- ITS FALSE NEIGHBOUR: 'it returns false'. Refute it at one input. -/
def wireApartWrong : ChangeSpec := { name := "wireApart", fn := fun _ => fun
  | [d1, d2] => { results := [.lit (.bool false)], args := [d1, d2] }
  | _ => none }
def WireApartWrongFalsely : Prop := wireApartRow.holds Try.pinned (OpenSpec.ofChange wireApartWrong)

/-- 'flumelaw1.WireForms': WHATEVER THE INPUT: true; the input reads as it did. -/
def wireFormsSpec : ChangeSpec := { name := "wireForms", fn := fun _ => fun
  | [d1, d2, d3] => { results := [.lit (.bool true)], args := [d1, d2, d3] }
  | _ => none }
def wireFormsRow : OpenClaim := { program := "ytfadpjljokpenaa", sum := "443887ab99cf8b51002812a83bbc9f91abb39ae9f3847bc290df4b3947d1ace8", func := "flume/flumelaw1.WireForms", spec := "wireForms", unfollowed := true, recurses := true, apart := false }
def WireFormsSaid : Prop := wireFormsRow.holds Try.pinned (OpenSpec.ofChange wireFormsSpec)

/-- ITS FALSE NEIGHBOUR: 'it returns false'. Refute it at one input. -/
def wireFormsWrong : ChangeSpec := { name := "wireForms", fn := fun _ => fun
  | [d1, d2, d3] => { results := [.lit (.bool false)], args := [d1, d2, d3] }
  | _ => none }
def WireFormsWrongFalsely : Prop := wireFormsRow.holds Try.pinned (OpenSpec.ofChange wireFormsWrong)

/-- 'flumelaw1.WireReader': WHATEVER THE INPUT: true; the input reads as it did. -/
def wireReaderSpec : ChangeSpec := { name := "wireReader", fn := fun _ => fun
  | [d1, d2] => { results := [.lit (.bool true)], args := [d1, d2] }
  | _ => none }
def wireReaderRow : OpenClaim := { program := "ytfadpjljokpenaa", sum := "443887ab99cf8b51002812a83bbc9f91abb39ae9f3847bc290df4b3947d1ace8", func := "flume/flumelaw1.WireReader", spec := "wireReader", unfollowed := true, recurses := true, apart := false }
def WireReaderSaid : Prop := wireReaderRow.holds Try.pinned (OpenSpec.ofChange wireReaderSpec)

/-- ITS FALSE NEIGHBOUR: 'it returns false'. Refute it at one input. -/
def wireReaderWrong : ChangeSpec := { name := "wireReader", fn := fun _ => fun
  | [d1, d2] => { results := [.lit (.bool false)], args := [d1, d2] }
  | _ => none }
def WireReaderWrongFalsely : Prop := wireReaderRow.holds Try.pinned (OpenSpec.ofChange wireReaderWrong)

/-- 'flumelaw1.WireRuns': WHATEVER THE INPUT: true; the input reads as it did. -/
def wireRunsSpec : ChangeSpec := { name := "wireRuns", fn := fun _ => fun
  | [d1, d2, d3] => { results := [.lit (.bool true)], args := [d1, d2, d3] }
  | _ => none }
def wireRunsRow : OpenClaim := { program := "ytfadpjljokpenaa", sum := "443887ab99cf8b51002812a83bbc9f91abb39ae9f3847bc290df4b3947d1ace8", func := "flume/flumelaw1.WireRuns", spec := "wireRuns", unfollowed := true, recurses := true, apart := false }
def WireRunsSaid : Prop := wireRunsRow.holds Try.pinned (OpenSpec.ofChange wireRunsSpec)

/-- ITS FALSE NEIGHBOUR: 'it returns false'. Refute it at one input. -/
def wireRunsWrong : ChangeSpec := { name := "wireRuns", fn := fun _ => fun
  | [d1, d2, d3] => { results := [.lit (.bool false)], args := [d1, d2, d3] }
  | _ => none }
def WireRunsWrongFalsely : Prop := wireRunsRow.holds Try.pinned (OpenSpec.ofChange wireRunsWrong)

/- THE SECOND FORM. 'bulk': how many values and letters a reading holds, each counted each time it is reached (what is shared counts as often as it is met; a slice's spare places count too). A statement '..UptoSaid' is the law's where the arguments, and the package variables that the reading takes, are together of bulk at most 1048576: NARROWER than '..Said'. Prove '..Said' where nothing that the law and all that it calls make is longer than what came in: it says more and counts as full. Else prove '..UptoSaid'. A law counts once. -/
mutual
def uptoBulk {H : Type} : DataW H → Nat
  | .lit (.string bytes) => bytes.length + 1
  | .lit _ => 1
  | .nil => 1
  | .ptr d => uptoBulk d + 1
  | .slice elems spare => uptoBulkAll elems + uptoBulkAll spare + 1
  | .agg parts => uptoBulkAll parts + 1
  | .iface _ d => uptoBulk d + 1
  | .map entries => uptoBulkEntries entries + 1
  | .held _ => 1
def uptoBulkAll {H : Type} : List (DataW H) → Nat
  | [] => 0
  | d :: r => uptoBulk d + uptoBulkAll r
def uptoBulkEntries {H : Type} : List (Lit × DataW H) → Nat
  | [] => 0
  | x :: r => uptoBulkEntry x + uptoBulkEntries r
def uptoBulkEntry {H : Type} : Lit × DataW H → Nat
  | (.string bytes, d) => bytes.length + uptoBulk d + 1
  | (_, d) => uptoBulk d + 1
 end
def uptoSmall : (H : Type) → List (DataW H) → Bool := fun _ ds => decide (uptoBulkAll ds ≤ 1048576)
def OpenSpec.upto (s : _root_.Go.ChangeSpec) : _root_.Go.OpenSpec := { _root_.Go.OpenSpec.ofChange s with cond := some uptoSmall }

/-- 'flumelaw6.FrameAll', WHERE WHAT IT READS IS OF BULK AT MOST 1048576: true; the input reads as it did. -/
def frameAllUptoRow : OpenClaim := { program := "ytfadpjljokpenaa", sum := "443887ab99cf8b51002812a83bbc9f91abb39ae9f3847bc290df4b3947d1ace8", func := "flume/flumelaw6.FrameAll", spec := "frameAll", unfollowed := true, recurses := true, apart := false, narrowed := true }
def FrameAllUptoSaid : Prop := frameAllUptoRow.holds Try.pinned (OpenSpec.upto frameAllSpec)

/-- 'flumelaw6.FrameReads', WHERE WHAT IT READS IS OF BULK AT MOST 1048576: true; the input reads as it did. -/
def frameReadsUptoRow : OpenClaim := { program := "ytfadpjljokpenaa", sum := "443887ab99cf8b51002812a83bbc9f91abb39ae9f3847bc290df4b3947d1ace8", func := "flume/flumelaw6.FrameReads", spec := "frameReads", unfollowed := true, recurses := true, apart := false, narrowed := true }
def FrameReadsUptoSaid : Prop := frameReadsUptoRow.holds Try.pinned (OpenSpec.upto frameReadsSpec)

/-- 'flumelaw6.FrameBack', WHERE WHAT IT READS IS OF BULK AT MOST 1048576: true; the input reads as it did. -/
def frameBackUptoRow : OpenClaim := { program := "ytfadpjljokpenaa", sum := "443887ab99cf8b51002812a83bbc9f91abb39ae9f3847bc290df4b3947d1ace8", func := "flume/flumelaw6.FrameBack", spec := "frameBack", unfollowed := true, recurses := true, apart := false, narrowed := true }
def FrameBackUptoSaid : Prop := frameBackUptoRow.holds Try.pinned (OpenSpec.upto frameBackSpec)

/-- 'flumelaw6.FrameHeads', WHERE WHAT IT READS IS OF BULK AT MOST 1048576: true; the input reads as it did. -/
def frameHeadsUptoRow : OpenClaim := { program := "ytfadpjljokpenaa", sum := "443887ab99cf8b51002812a83bbc9f91abb39ae9f3847bc290df4b3947d1ace8", func := "flume/flumelaw6.FrameHeads", spec := "frameHeads", unfollowed := true, recurses := true, apart := false, narrowed := true }
def FrameHeadsUptoSaid : Prop := frameHeadsUptoRow.holds Try.pinned (OpenSpec.upto frameHeadsSpec)

/-- 'flumelaw6.FrameChain', WHERE WHAT IT READS IS OF BULK AT MOST 1048576: true; the input reads as it did. -/
def frameChainUptoRow : OpenClaim := { program := "ytfadpjljokpenaa", sum := "443887ab99cf8b51002812a83bbc9f91abb39ae9f3847bc290df4b3947d1ace8", func := "flume/flumelaw6.FrameChain", spec := "frameChain", unfollowed := true, recurses := true, apart := false, narrowed := true }
def FrameChainUptoSaid : Prop := frameChainUptoRow.holds Try.pinned (OpenSpec.upto frameChainSpec)

/-- 'flumelaw7.ScanAll', WHERE WHAT IT READS IS OF BULK AT MOST 1048576: true; the input reads as it did. -/
def scanAllUptoRow : OpenClaim := { program := "ytfadpjljokpenaa", sum := "443887ab99cf8b51002812a83bbc9f91abb39ae9f3847bc290df4b3947d1ace8", func := "flume/flumelaw7.ScanAll", spec := "scanAll", unfollowed := true, recurses := true, apart := false, narrowed := true }
def ScanAllUptoSaid : Prop := scanAllUptoRow.holds Try.pinned (OpenSpec.upto scanAllSpec)

/-- 'flumelaw7.ScanAgain', WHERE WHAT IT READS IS OF BULK AT MOST 1048576: true; the input reads as it did. -/
def scanAgainUptoRow : OpenClaim := { program := "ytfadpjljokpenaa", sum := "443887ab99cf8b51002812a83bbc9f91abb39ae9f3847bc290df4b3947d1ace8", func := "flume/flumelaw7.ScanAgain", spec := "scanAgain", unfollowed := true, recurses := true, apart := false, narrowed := true }
def ScanAgainUptoSaid : Prop := scanAgainUptoRow.holds Try.pinned (OpenSpec.upto scanAgainSpec)

/-- 'flumelaw7.ScanFront', WHERE WHAT IT READS IS OF BULK AT MOST 1048576: true; the input reads as it did. -/
def scanFrontUptoRow : OpenClaim := { program := "ytfadpjljokpenaa", sum := "443887ab99cf8b51002812a83bbc9f91abb39ae9f3847bc290df4b3947d1ace8", func := "flume/flumelaw7.ScanFront", spec := "scanFront", unfollowed := true, recurses := true, apart := false, narrowed := true }
def ScanFrontUptoSaid : Prop := scanFrontUptoRow.holds Try.pinned (OpenSpec.upto scanFrontSpec)

/-- 'flumelaw1.WireApart', WHERE WHAT IT READS IS OF BULK AT MOST 1048576: true; the input reads as it did. -/
def wireApartUptoRow : OpenClaim := { program := "ytfadpjljokpenaa", sum := "443887ab99cf8b51002812a83bbc9f91abb39ae9f3847bc290df4b3947d1ace8", func := "flume/flumelaw1.WireApart", spec := "wireApart", unfollowed := true, recurses := true, apart := false, narrowed := true }
def WireApartUptoSaid : Prop := wireApartUptoRow.holds Try.pinned (OpenSpec.upto wireApartSpec)

/-- 'flumelaw1.WireForms', WHERE WHAT IT READS IS OF BULK AT MOST 1048576: true; the input reads as it did. -/
def wireFormsUptoRow : OpenClaim := { program := "ytfadpjljokpenaa", sum := "443887ab99cf8b51002812a83bbc9f91abb39ae9f3847bc290df4b3947d1ace8", func := "flume/flumelaw1.WireForms", spec := "wireForms", unfollowed := true, recurses := true, apart := false, narrowed := true }
def WireFormsUptoSaid : Prop := wireFormsUptoRow.holds Try.pinned (OpenSpec.upto wireFormsSpec)

/-- 'flumelaw1.WireReader', WHERE WHAT IT READS IS OF BULK AT MOST 1048576: true; the input reads as it did. -/
def wireReaderUptoRow : OpenClaim := { program := "ytfadpjljokpenaa", sum := "443887ab99cf8b51002812a83bbc9f91abb39ae9f3847bc290df4b3947d1ace8", func := "flume/flumelaw1.WireReader", spec := "wireReader", unfollowed := true, recurses := true, apart := false, narrowed := true }
def WireReaderUptoSaid : Prop := wireReaderUptoRow.holds Try.pinned (OpenSpec.upto wireReaderSpec)

/-- 'flumelaw1.WireRuns', WHERE WHAT IT READS IS OF BULK AT MOST 1048576: true; the input reads as it did. -/
def wireRunsUptoRow : OpenClaim := { program := "ytfadpjljokpenaa", sum := "443887ab99cf8b51002812a83bbc9f91abb39ae9f3847bc290df4b3947d1ace8", func := "flume/flumelaw1.WireRuns", spec := "wireRuns", unfollowed := true, recurses := true, apart := false, narrowed := true }
def WireRunsUptoSaid : Prop := wireRunsUptoRow.holds Try.pinned (OpenSpec.upto wireRunsSpec)

end Rows
end Go.Proofs.Ytfadpjljokpenaa

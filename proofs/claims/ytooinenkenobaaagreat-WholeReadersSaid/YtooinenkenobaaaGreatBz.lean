/- A part of the proof of what LawWholeReaders says. -/
import Derived.Test.YtooinenkenobaaaGreatAa
import Derived.Test.YtooinenkenobaaaGreatBc
import Derived.Test.YtooinenkenobaaaGreatRows
set_option maxRecDepth 100000
set_option maxHeartbeats 20000000
namespace Go.Proofs.YtooinenkenobaaaGreat
open Option renaming none->ae,some->ag
open Bool renaming false->ah,true->aj
open Go.Proofs.Tryz renaming prog->ax
open Go.Value renaming int->ay,pointer->aA,slice->aB,bool->aC,float->aD
open Go.IntKind renaming i64->az
open Go.FloatKind renaming f64->aE
open Go.Ending renaming returned->aF
open Go.Obj renaming cells->aG
open Go renaming World->am,Value->ar,TypeId->au,Calls->aw
namespace wholeReaders
open Go.ChangeShapes Go.WideShapes Go.ChangeAt Go.RowKit
theorem rf0:(Rows.wholeReadersRow.wf (OpenSpec.ofChange Rows.wholeReadersSpec))=aj:=by kernel_rfl
theorem rf1:(laidOutB Tryz.pinned.checked.prog)=aj:=by kernel_rfl
theorem rf2:(mapsRowed Tryz.pinned.checked.prog)=aj:=by kernel_rfl
theorem rf3:(Tryz.f7.params.all ((Tryz.pinned.checked.prog).readableRec ·))=aj:=by kernel_rfl
theorem rf4:(namedTie Tryz.pinned.checked.prog Rows.wholeReadersRow.named Rows.wholeReadersSpec.vars)=aj:=by kernel_rfl
theorem rf5:((Rows.wholeReadersRow.stops==[]))=aj:=by kernel_rfl
theorem rf6:(((Tryz.pinned.checked.prog).stops==[]))=aj:=by kernel_rfl
theorem rf7:((Rows.wholeReadersRow.knobs==[]))=aj:=by kernel_rfl
theorem rf8:(((Tryz.pinned.checked.prog).stopKnobs==[]))=aj:=by kernel_rfl
theorem rf9:((Rows.wholeReadersRow.inPlace==(Tryz.pinned.checked.prog).inPlace 7))=aj:=by kernel_rfl
theorem al8:((Rows.wholeReadersRow.unfollowed==(Tryz.pinned.checked.prog).unfollowed 7))=aj:=by kernel_rfl
theorem al7:((Rows.wholeReadersRow.recurses==(Tryz.pinned.checked.prog).recurses 7))=aj:=by kernel_rfl
theorem al6:((Rows.wholeReadersRow.named==(Tryz.pinned.checked.prog).varsNamed 7))=aj:=by kernel_rfl
theorem al4:((Rows.wholeReadersRow.maps==(Tryz.f7.params.toList++Rows.wholeReadersSpec.plain.varTypes Tryz.pinned.checked.prog).any ((Tryz.pinned.checked.prog).mapsRec ·)))=aj:=by kernel_rfl
theorem al3:((Rows.wholeReadersRow.ifaces==(Tryz.f7.params.toList++Rows.wholeReadersSpec.plain.varTypes Tryz.pinned.checked.prog).any ((Tryz.pinned.checked.prog).ifacesRec ·)))=aj:=by kernel_rfl
theorem al1:((Rows.wholeReadersRow.mapsOut==(Tryz.pinned.checked.prog).mapsAmong Tryz.f7.resultTypes.toList))=aj:=by kernel_rfl
theorem al0:((Rows.wholeReadersRow.loops==(Tryz.f7.params.toList++Rows.wholeReadersSpec.plain.varTypes Tryz.pinned.checked.prog).any ((Tryz.pinned.checked.prog).loopsFrom ·)))=aj:=by kernel_rfl
theorem alZ:((Rows.wholeReadersRow.wideKeys==(Tryz.f7.params.toList++Rows.wholeReadersSpec.plain.varTypes Tryz.pinned.checked.prog++Tryz.f7.resultTypes.toList).any ((Tryz.pinned.checked.prog).wideKeysFrom ·)))=aj:=by kernel_rfl
theorem alY:(Rows.wholeReadersSpec.vars.all ((Tryz.pinned.checked.prog).varReadable ·))=aj:=by kernel_rfl
theorem alX:(Tryz.f7.resultTypes.all (λt=>(Tryz.pinned.checked.prog).readableRec t&&decide (t<(Tryz.pinned.checked.prog).types.size)))=aj:=by kernel_rfl
theorem alW:((Rows.wholeReadersRow.ifacesOut==Tryz.f7.resultTypes.toList.any ((Tryz.pinned.checked.prog).ifacesRec ·)))=aj:=by kernel_rfl
theorem alV:((Rows.wholeReadersRow.loopsOut==Tryz.f7.resultTypes.toList.any ((Tryz.pinned.checked.prog).loopsFrom ·)))=aj:=by kernel_rfl
theorem alU:((Rows.wholeReadersRow.plainKeys==(Tryz.pinned.checked.prog).plainKeys))=aj:=by kernel_rfl
theorem alT:(Rows.wholeReadersRow.shortTexts.isNone)=aj:=by kernel_rfl
theorem alS:((Tryz.pinned.checked.prog).stopsHeard)=aj:=by kernel_rfl
theorem alR:((Tryz.pinned.checked.prog).mayEnter)=aj:=by kernel_rfl
theorem alQ:((Rows.wholeReadersRow.lifted==(Tryz.pinned.checked.prog).liftsFinal))=aj:=by kernel_rfl
theorem alP:(((Tryz.pinned.checked.prog).make==ag Rows.wholeReadersRow.make))=aj:=by kernel_rfl
theorem alO:((Rows.wholeReadersRow.kinds==(if Rows.wholeReadersRow.domain.isEmpty then[]else Tryz.f7.params.toList.map λt=>match(Tryz.pinned.checked.prog).underlying t with | some (.int k)=>ag k | _=>ae)))=aj:=by kernel_rfl
theorem alN:((Rows.wholeReadersRow.pinned==Rows.wholeReadersRow.pinnedBy))=aj:=by kernel_rfl
theorem alM:((Rows.wholeReadersRow.veiled==(Tryz.f7.params.toList++Rows.wholeReadersSpec.plain.varTypes Tryz.pinned.checked.prog++Tryz.f7.resultTypes.toList).any ((Tryz.pinned.checked.prog).veiledRec ·)))=aj:=by kernel_rfl
theorem alL:(Rows.wholeReadersRow.veiledFits Tryz.pinned.checked.prog Tryz.f7.params.toList (Tryz.f7.params.toList++Rows.wholeReadersSpec.plain.varTypes Tryz.pinned.checked.prog++Tryz.f7.resultTypes.toList))=aj:=by kernel_rfl
theorem named:Tryz.pinned.checked.prog.funcNamed Rows.wholeReadersRow.func=ag 7:=by kernel_rfl
theorem avg:Tryz.f7.isInstance Tryz.pinned.checked.prog Rows.wholeReadersRow.origin Rows.wholeReadersRow.targs:=dX (by kernel_rfl)
theorem wrap:Tryz.f7.isWrapper Tryz.pinned.checked.prog Rows.wholeReadersRow.wrapper Rows.wholeReadersRow.mainSum:=by unfold Func.isWrapper;first | (rw[bj (by decide +kernel)];kernel_rfl) | (rw[bf (by decide +kernel)];exact⟨rfl,rfl⟩)
end wholeReaders
end Go.Proofs.YtooinenkenobaaaGreat

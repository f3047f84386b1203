/- A part of the proof of what LawWholeReaders says. -/
import Derived.Test.YtooinenkenobaaaGreatAa
import Derived.Test.YtooinenkenobaaaGreatBz
set_option maxRecDepth 100000
set_option maxHeartbeats 20000000
namespace Go.Proofs.YtooinenkenobaaaGreat
open Option renaming none->ae,some->ag
open Bool renaming false->ah,true->aj
open Go.Proofs.Tryz renaming prog->ax
open Go.Value renaming int->ay,pointer->aA,slice->aB,bool->aC,float->aD
open Go.IntKind renaming i64->az
open Go.FloatKind renaming f64->aE
open Go.Ending renaming returned->aF
open Go.Obj renaming cells->aG
open Go renaming World->am,Value->ar,TypeId->au,Calls->aw
namespace wholeReaders
open Go.ChangeShapes Go.WideShapes Go.ChangeAt Go.RowKit
theorem gU{a b:Bool}(ha:a=aj)(c:b=aj):(a&&b)=aj:=by rw[ha,c];rfl
theorem facts:joinedFacts Tryz.pinned.checked.prog 7 Tryz.f7 Rows.wholeReadersSpec Rows.wholeReadersRow=aj:=by
 unfold joinedFacts
 exact gU (gU (gU (gU (gU (gU (gU (gU (gU (gU (gU (gU (gU (gU (gU (gU (gU (gU (gU (gU (gU (gU (gU (gU (gU (gU (gU (gU (gU (gU (gU rf0 rf1) rf2) rf3) rf4) rf5) rf6) rf7) rf8) rf9) al8) al7) al6) al4) al3) al1) al0) alZ) alY) alX) alW) alV) alU) alT) alS) alR) alQ) alP) alO) alN) alM) alL
end wholeReaders
end Go.Proofs.YtooinenkenobaaaGreat

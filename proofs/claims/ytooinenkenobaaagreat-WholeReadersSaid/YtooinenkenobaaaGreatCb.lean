/- A part of the proof of what LawWholeReaders says. -/
import Derived.Test.YtooinenkenobaaaGreatAa
import Derived.Shelf.SortM.Plain
import Derived.Shelf.SortM.SortNone
import Derived.Test.YtooinenkenobaaaGreatBr
import Derived.Test.YtooinenkenobaaaGreatBw
import Derived.Test.YtooinenkenobaaaGreatBl
import Derived.Test.YtooinenkenobaaaGreatBu
import Derived.Test.YtooinenkenobaaaGreatBq
import Derived.Test.YtooinenkenobaaaGreatBp
set_option maxRecDepth 100000
set_option maxHeartbeats 20000000
namespace Go.Proofs.YtooinenkenobaaaGreat
open Option renaming none->ae,some->ag
open Bool renaming false->ah,true->aj
open Go.Proofs.Tryz renaming prog->ax
open Go.Value renaming int->ay,pointer->aA,slice->aB,bool->aC,float->aD
open Go.IntKind renaming i64->az
open Go.FloatKind renaming f64->aE
open Go.Ending renaming returned->aF
open Go.Obj renaming cells->aG
open Go renaming World->am,Value->ar,TypeId->au,Calls->aw
section
open Go.Shelf Go.RowKit Go.Maps Go.Sort
def Tryz.yn:Go.Shelf.Ren:=⟨fun | 7=>58 | 10=>82 | n=>n,fun | 23=>135 | 26=>9 | 3=>174 | 28=>194 | 0=>0 | 27=>193 | 33=>238 | 4=>4 | n=>n,fun | n=>n⟩
theorem Tryz.Tn:Go.Proofs.SlLaysZ.n7 ax Tryz.yn:={
 mixed:=by kernel_rfl
 f7:=⟨Tryz.f58.name,by decide,Tryz.func58.trans (congrArg ag (by kernel_rfl))⟩
 f10:=⟨Tryz.f82.name,by decide,Tryz.func82.trans (congrArg ag (by kernel_rfl))⟩
 t0:=Tryz.underlying0
 a0:=Tryz.isAgg0
 z0:=Tryz.sizeOf0
 v0:=Tryz.zeroValue0
 t4:=Tryz.underlying4
 a4:=Tryz.isAgg4
 z4:=Tryz.sizeOf4
 v4:=Tryz.zeroValue4
 t23:=Tryz.underlying135
 a23:=Tryz.isAgg135
 z23:=Tryz.sizeOf135
 v23:=Tryz.zeroValue135
 t26:=Tryz.underlying9
 a26:=Tryz.isAgg9
 z26:=Tryz.sizeOf9
 v26:=Tryz.zeroValue9
 t27:=Tryz.underlying193
 a27:=Tryz.isAgg193
 z27:=Tryz.sizeOf193
 v27:=Tryz.zeroValue193
 t28:=Tryz.underlying194
 a28:=Tryz.isAgg194
 z28:=Tryz.sizeOf194
 v28:=Tryz.zeroValue194
 t33:=Tryz.underlying238
 a33:=Tryz.isAgg238
 z33:=Tryz.sizeOf238
 v33:=Tryz.zeroValue238 }
def Tryz.tN:Go.Shelf.Ren:=⟨fun | 6=>57 | 8=>80 | 9=>81 | 11=>101 | 13=>103 | 12=>102 | 23=>135 | 24=>136 | 14=>126 | 15=>127 | 16=>128 | 17=>129 | 18=>130 | 19=>131 | 20=>132 | 21=>133 | 22=>134 | 25=>161 | 26=>162 | 27=>163 | 28=>164 | 29=>165 | 30=>166 | 31=>182 | n=>n,fun | 26=>9 | 28=>194 | 24=>172 | 0=>0 | 3=>3 | 37=>251 | 48=>211 | 50=>236 | 4=>4 | 40=>290 | 39=>289 | 45=>180 | 5=>5 | 9=>9 | 51=>330 | 55=>334 | 57=>354 | 58=>355 | 33=>238 | n=>n,fun | n=>n⟩
theorem Tryz.RJ:Go.Proofs.SlLaysZ.n6 ax Tryz.tN:={
 mixed:=by kernel_rfl
 f6:=⟨Tryz.f57.name,by decide,Tryz.func57.trans (congrArg ag (by kernel_rfl))⟩
 f8:=⟨Tryz.f80.name,by decide,Tryz.func80.trans (congrArg ag (by kernel_rfl))⟩
 f11:=⟨Tryz.f101.name,by decide,Tryz.func101.trans (congrArg ag (by kernel_rfl))⟩
 t0:=Tryz.underlying0
 a0:=Tryz.isAgg0
 z0:=Tryz.sizeOf0
 v0:=Tryz.zeroValue0
 t24:=Tryz.underlying172
 a24:=Tryz.isAgg172
 z24:=Tryz.sizeOf172
 v24:=Tryz.zeroValue172
 t26:=Tryz.underlying9
 a26:=Tryz.isAgg9
 z26:=Tryz.sizeOf9
 v26:=Tryz.zeroValue9
 t28:=Tryz.underlying194
 a28:=Tryz.isAgg194
 z28:=Tryz.sizeOf194
 v28:=Tryz.zeroValue194
 i26:=by kernel_rfl }
def Tryz.IX:Go.Shelf.Ren:=⟨fun | 6=>81 | 8=>103 | 9=>102 | 19=>135 | 20=>136 | 21=>126 | 22=>127 | 23=>128 | 24=>129 | 25=>130 | 26=>131 | 27=>132 | 28=>133 | 29=>134 | 36=>161 | 31=>162 | 32=>163 | 37=>164 | 38=>165 | 39=>166 | 41=>182 | n=>n,fun | 27=>172 | 29=>9 | 3=>3 | 32=>251 | 26=>172 | 0=>0 | 44=>211 | 46=>236 | 4=>4 | 36=>290 | 35=>289 | 41=>180 | 5=>5 | 9=>9 | 53=>330 | 57=>334 | 63=>354 | 64=>355 | n=>n,fun | n=>n⟩
theorem Tryz.RK:Go.Proofs.SlLaysM.n6 ax Tryz.IX:={
 mixed:=by kernel_rfl
 f6:=⟨Tryz.f81.name,by decide,Tryz.func81.trans (congrArg ag (by kernel_rfl))⟩
 f8:=Tryz.func103.trans (congrArg ag (by kernel_rfl))
 f9:=⟨Tryz.f102.name,by decide,Tryz.func102.trans (congrArg ag (by kernel_rfl))⟩
 f19:=Tryz.func135.trans (congrArg ag (by kernel_rfl))
 f20:=Tryz.func136.trans (congrArg ag (by kernel_rfl))
 f21:=⟨Tryz.f126.name,by decide,Tryz.func126.trans (congrArg ag (by kernel_rfl))⟩
 f22:=⟨Tryz.f127.name,by decide,Tryz.func127.trans (congrArg ag (by kernel_rfl))⟩
 f23:=⟨Tryz.f128.name,by decide,Tryz.func128.trans (congrArg ag (by kernel_rfl))⟩
 f24:=⟨Tryz.f129.name,by decide,Tryz.func129.trans (congrArg ag (by kernel_rfl))⟩
 f25:=⟨Tryz.f130.name,by decide,Tryz.func130.trans (congrArg ag (by kernel_rfl))⟩
 f26:=⟨Tryz.f131.name,by decide,Tryz.func131.trans (congrArg ag (by kernel_rfl))⟩
 f27:=⟨Tryz.f132.name,by decide,Tryz.func132.trans (congrArg ag (by kernel_rfl))⟩
 f28:=⟨Tryz.f133.name,by decide,Tryz.func133.trans (congrArg ag (by kernel_rfl))⟩
 f29:=⟨Tryz.f134.name,by decide,Tryz.func134.trans (congrArg ag (by kernel_rfl))⟩
 f31:=Tryz.func162.trans (congrArg ag (by kernel_rfl))
 f32:=Tryz.func163.trans (congrArg ag (by kernel_rfl))
 f36:=⟨Tryz.f161.name,by decide,Tryz.func161.trans (congrArg ag (by kernel_rfl))⟩
 f37:=⟨Tryz.f164.name,by decide,Tryz.func164.trans (congrArg ag (by kernel_rfl))⟩
 f38:=⟨Tryz.f165.name,by decide,Tryz.func165.trans (congrArg ag (by kernel_rfl))⟩
 f39:=⟨Tryz.f166.name,by decide,Tryz.func166.trans (congrArg ag (by kernel_rfl))⟩
 f41:=⟨Tryz.f182.name,by decide,Tryz.func182.trans (congrArg ag (by kernel_rfl))⟩
 t0:=Tryz.underlying0
 a0:=Tryz.isAgg0
 z0:=Tryz.sizeOf0
 v0:=Tryz.zeroValue0
 t3:=Tryz.underlying3
 a3:=Tryz.isAgg3
 z3:=Tryz.sizeOf3
 v3:=Tryz.zeroValue3
 t4:=Tryz.underlying4
 a4:=Tryz.isAgg4
 z4:=Tryz.sizeOf4
 v4:=Tryz.zeroValue4
 t5:=Tryz.underlying5
 a5:=Tryz.isAgg5
 z5:=Tryz.sizeOf5
 v5:=Tryz.zeroValue5
 t9:=Tryz.underlying9
 a9:=Tryz.isAgg9
 z9:=Tryz.sizeOf9
 v9:=Tryz.zeroValue9
 t26:=Tryz.underlying172
 a26:=Tryz.isAgg172
 z26:=Tryz.sizeOf172
 v26:=Tryz.zeroValue172
 t27:=Tryz.underlying172
 a27:=Tryz.isAgg172
 z27:=Tryz.sizeOf172
 v27:=Tryz.zeroValue172
 t29:=Tryz.underlying9
 a29:=Tryz.isAgg9
 z29:=Tryz.sizeOf9
 v29:=Tryz.zeroValue9
 t32:=Tryz.underlying251
 a32:=Tryz.isAgg251
 z32:=Tryz.sizeOf251
 v32:=Tryz.zeroValue251
 t35:=Tryz.underlying289
 a35:=Tryz.isAgg289
 z35:=Tryz.sizeOf289
 v35:=Tryz.zeroValue289
 t36:=Tryz.underlying290
 a36:=Tryz.isAgg290
 z36:=Tryz.sizeOf290
 v36:=Tryz.zeroValue290
 t41:=Tryz.underlying180
 a41:=Tryz.isAgg180
 z41:=Tryz.sizeOf180
 v41:=Tryz.zeroValue180
 t44:=Tryz.underlying211
 a44:=Tryz.isAgg211
 z44:=Tryz.sizeOf211
 v44:=Tryz.zeroValue211
 t46:=Tryz.underlying236
 a46:=Tryz.isAgg236
 z46:=Tryz.sizeOf236
 v46:=Tryz.zeroValue236
 t53:=Tryz.underlying330
 a53:=Tryz.isAgg330
 z53:=Tryz.sizeOf330
 v53:=Tryz.zeroValue330
 t57:=Tryz.underlying334
 a57:=Tryz.isAgg334
 z57:=Tryz.sizeOf334
 v57:=Tryz.zeroValue334
 t63:=Tryz.underlying354
 a63:=Tryz.isAgg354
 z63:=Tryz.sizeOf354
 v63:=Tryz.zeroValue354
 t64:=Tryz.underlying355
 a64:=Tryz.isAgg355
 z64:=Tryz.sizeOf355
 v64:=Tryz.zeroValue355 }
theorem Tryz.Xp(m:Nat):AnyZ.SortsIn ax Tryz.tN Fence.wide m:=
 ⟨λd c a g W e b f=>tB.2 (AnyM.slices_Sort_string Tryz.RK d c a g W e b f),
  λp a W=>tB.2 (AnyM.slices_Sort_string_none Tryz.RK p a W)⟩
theorem Tryz.Cs(a:Option Nat)(W:am):CallsIn Fence.wide 5 ax 58 #[.map a] W λe w'=>e=aF (.func (.func 82) #[] #[aA (ag ⟨W.heap.size,0,ae⟩)])/\w'=W.alloc (aG #[.map a] 135):=
 AnyZ.keys_in Tryz.Tn Fence.wide 5 trivial rfl a W
theorem Tryz.og{H:Type}(b i:Nat)(a:DataW H)(R:ar->Option (DataW H×List MemPlace))(w:am)(h:w.ownsMap ax 9 R b i a)(f:Maps.size a<=maxLen)(p:Maps.size a*16<=140737488355328):
 CallsIn Fence.wide 5 ax 57 #[.func (.func 82) #[] #[aA (ag ⟨w.heap.size,0,ae⟩)]] (w.alloc (aG #[.map (ag b)] 135)) λe w'=>∃(v:ar) (d:List (List UInt8)),e=aF v/\d.Perm (strKeys a)/\
  w'.ownsRow (w.alloc (aG #[.map (ag b)] 135)).heap.size 9 1 v d.length ((d.mergeSort (λx y=>decide (x<=y))).map encStr)/\(v=aB ae 0 0↔d=[])/\Below (w.alloc (aG #[.map (ag b)] 135)).heap.size (w.alloc (aG #[.map (ag b)] 135)) w':=by
 have k:=h.lt
 have g:SeqGives Fence.wide 2 ax 82 #[aA (ag ⟨w.heap.size,0,ae⟩)] encStr (λd=>d.Perm (strKeys a)) (Maps.size a) (w.alloc (aG #[.map (ag b)] 135)):=
  AnyZ.keys_gives (ρ:=Tryz.yn) { Tryz.Tn with } Fence.wide _ trivial rfl (by omega) w.heap.size b i a _ (by simp) (by simp) (by
   obtain⟨l,c,n,j,o,m⟩:=h
   exact⟨l,c,(Below.heap_alloc _ _ b k).trans n,j,o,m⟩)
 exact AnyZ.sorted_in Tryz.RJ Fence.wide 5 trivial trivial trivial trivial rfl (by omega) (Tryz.Xp _) (enters_of Tryz.func81 (by kernel_rfl) rfl) 82 #[aA (ag ⟨w.heap.size,0,ae⟩)] trivial (enters_of Tryz.func82 (by kernel_rfl) rfl) _ _ f p _ g
end
section
open Go.RowKit Go.Maps Go.Sort
theorem Ye(a:Option Nat)(w:am):aw ax 58 #[.map a] w λe w'=>e=aF (.func (.func 82) #[] #[aA (ag ⟨w.heap.size,0,ae⟩)])/\w'=w.alloc (aG #[.map a] 135):=tB.1 (Tryz.Cs a w)
theorem Oi{w:am}{base c n size:Nat}{e:au}{v:ar}{xs:List ar}(h:w.ownsRow base e size v n xs)(j:c<=base):w.ownsRow c e size v n xs:=by
 refine⟨h.1,?_⟩
 rcases h.2 with h | ⟨g,a,b,d,f,i⟩
 ·exact .inl h
 ·exact .inr ⟨g,a,b,d,bJ j f,i⟩
theorem US(b f:Nat)(c:DataW ar)(w:am)(d:w.ownsMap ax 9 Rv b f c)(q:f<=1000000):
 aw ax 48 #[.map (ag b)] w λe w'=>∃(v:ar) (a:List (List UInt8)),e=aF v/\a.Perm (strKeys c)/\w'.ownsRow w.heap.size 9 1 v a.length ((a.mergeSort (λx y=>decide (x<=y))).map encStr)/\(v=aB ae 0 0↔a=[])/\Below w.heap.size w w':=by
 have p:=d.size_le
 have n:=aH (tB.1 (Tryz.og b f c Rv w d (by unfold maxLen;omega) (by omega)))
 clear d p
 go_in
 go_wp2_with fail
 refine(Ye (ag b) w).mono ?_
 rintro e r ⟨rfl,rfl⟩
 go_wp2_with fail
 refine n.out.mono ?_
 rintro e s ⟨v,a,rfl,i,h,j,g⟩
 have m:=aH i
 have l:=aH h
 have o:=aH j
 have k:=aH g
 clear i h j g
 go_wp2_with fail
 go_ret
 refine⟨v,a,rfl,m.out,?_,o.out,aM (aY _ _) k.out⟩
 exact Oi l.out (by simp)
theorem OU{D:DataW ar}(h:Maps.size D<=0):strKeys D=[]:=by
 unfold strKeys
 cases D with
 | map es=>
  simp only[Maps.size]at h
  have:es=[]:=eu (by omega)
  subst this
  rfl
 | _=>rfl
theorem Al(c m:Nat)(b:Int)(L:List gW)(f:Lit->Option ar)(w:am)(g:Tg)(H:nE w g c b L 0 m f):
 aw ax 62 #[aA (ag ⟨c,0,ae⟩)] w λe w'=>e=aF (.tuple #[aB ae 0 0,ay az 0])/\Below w.heap.size w w':=by
 obtain⟨d,i,s,x,l,y,a,t,j,hF⟩:=H.ex
 obtain⟨D,h,-,-⟩:=j.map.ex
 have A:w.cell? ⟨c,3,ae⟩=ag (.map (ag i)):=l.cell 3
 have p:=aH (OU h.size_le)
 have q:=aH h
 clear a t j hF h H
 go_in
 go_wp2_with fail
 refine(UR c i s d w l).mono ?_
 rintro e w' ⟨rfl,rfl⟩
 go_wp2_with fail
 refine(US i 0 D w' q.out (by omega)).mono ?_
 rintro e z ⟨v,u,rfl,a,r,n,k⟩
 rw[p.out]at a
 obtain rfl:u=[]:=a.eq_nil
 obtain rfl:v=aB ae 0 0:=n.2 rfl
 have o:=aH k
 clear k r n a
 go_wp2_with fail
 go_ret2
 exact⟨rfl,o.out⟩
end
section
open Go.RowKit Go.Maps
theorem af9(pb ob j:Nat)(sm:Int)(b:Nat)(f:Int)(w:am){g:Tg}(P:Row w g 24 pb #[aA (ag ⟨ob,0,ae⟩),aC ah,ay az 0,ay az 0] 178)(O:Row w g 21 ob (sM j sm b) 160)(D:nE w g j f [] 0 0 gj)(hm:100000<=f/\f<=16777216)(h1:1<=b)(h2:b<=1152921504606846976):
 aw ax 51 #[aA (ag ⟨pb,0,ae⟩)] w λe w'=>e=aF (.tuple #[])/\∃g',Ch [1,5,6,10,11,12,13,14,15,16,21,24] g w g' w'/\Ie w' g' ob j sm b b b/\Row w' g' 24 pb #[aA (ag ⟨ob,0,ae⟩),aC aj,ay az 0,ay az 0] 178:=by
 have PP:=aH P
 have OO:=aH O
 have N:=aH D
 have HM:=aH hm
 have t:=Oj P.row
 have H:w.cell? ⟨ob,0,ae⟩=ag (aA (ag ⟨j,0,ae⟩)):=O.cell 0
 clear P O D hm
 go_in
 go_wp2_with fail
 refine(Al j 0 f [] gj w g N.out).mono ?_
 rintro e w1 ⟨rfl,k⟩
 have q:Ch [] g w g w1:=Ch.bh [] g k
 have U:=aH (PP.out.ch q (by decide))
 have S:=aH (OO.out.ch q (by decide))
 have M:=aH (N.out.ch q (by decide))
 have C1:=aH q
 clear q k t H
 go_wp2_with fail
 refine(mP w1).mono ?_
 rintro e wa ⟨rfl,rfl⟩
 have t:=Oj U.out.row
 have H:wa.cell? ⟨ob,0,ae⟩=ag (aA (ag ⟨j,0,ae⟩)):=S.out.cell 0
 go_wp2_with fail
 refine(GS j 0 0 f [] gj wa g M.out).mono ?_
 rintro e wb ⟨rfl,rfl⟩
 go_wp2_with fail
 refine(yc wb).mono ?_
 rintro e wc ⟨rfl,rfl⟩
 go_wp2_with fail
 refine(wI GY wc).mono ?_
 rintro e wd ⟨rfl,rfl⟩
 go_wp2_with fail
 refine(Xw pb ob j sm b f wd g U.out S.out M.out HM.out h1 h2).mono ?_
 rintro e u ⟨rfl,g2,c2,B2,p2⟩
 have C2:=aH c2
 have V:=aH p2
 obtain⟨J,cb,vb,I,m,fb,mJ,o2,v2,k2,s2,l2⟩:=B2
 have T:=aH o2
 have Z:=aH v2
 have K2:=aH k2
 have Y:=aH s2
 have L2:=aH l2
 clear c2 p2 o2 v2 k2 s2 l2 t H
 have t:=Oj V.out.row
 go_wp2_with fail
 refine(uH ob j sm b cb vb J 0 0 u T.out Z.out).mono ?_
 rintro e L ⟨rfl,k⟩
 have E:Ch [] g2 u g2 L:=Ch.bh [] g2 k
 have S3:=aH (Y.out.ch E (by decide))
 have C3:=aH E
 clear E k
 go_wp2_with fail
 refine(tO J j om 1 b (t7 1 b) [] L g2 S3.out).mono ?_
 rintro e o ⟨rfl,k⟩
 have ey:(b:Int)+((([]:List (List (BitVec 8))).length:Nat):Int)=(b:Int):=by simp
 rw[ey]
 obtain⟨z,hz⟩:=bP ((32:Int)+((bY (t7 1 b) b []).length:Int):Int)
 obtain⟨s,hs⟩:=bP (bv (dS (t7 1 b) b []))
 rw[hz,hs]
 obtain⟨l,oA,Nw,y⟩:=bG o #[.string om,ay az 1,ay az b,ay .u32 0,ay az b,ay az z,ay .u32 s,aC ah] 215
 have aa:=oV y.out
 obtain⟨G,F⟩:=bP (eJ g2 L.heap.size 0)
 have x:=aH (show Ch [] g2 u G l from by rw[<-F];exact C3.out.trans (Ch.start g2 (aM k Nw.out)))
 have A:=aH (show Row l G 0 o.heap.size _ _ from⟨y.out,by rw[<-F];exact dQ k.size⟩)
 have C:=aH (V.out.ch x.out (by decide))
 have n:=aH (T.out.ch x.out (by decide))
 have K:=eU (i:=7) (v:=aC ah) y.out rfl
 clear hz hs ey k F
 go_wp2_with fail
 clear K
 have qR:∀p:In (λw'=>w'.cell? ⟨pb,0,ae⟩=ag (aA (ag ⟨ob,0,ae⟩))/\w'.cell? ⟨o.heap.size,4,ae⟩=ag (ay az b)),p.w.cell? ⟨pb,0,ae⟩=ag (aA (ag ⟨ob,0,ae⟩))/\p.w.cell? ⟨o.heap.size,4,ae⟩=ag (ay az b):=λp=>p.h
 refine bX [0,1,2,3,4,5,6,7,8,9,10,11,12,13,14,15,16,17] (λw'=>w'.cell? ⟨pb,0,ae⟩=ag (aA (ag ⟨ob,0,ae⟩))/\w'.cell? ⟨o.heap.size,4,ae⟩=ag (ay az b)) (by kernel_rfl) (by kernel_rfl) (by intro c a d v w h;cases d <;> exact h) ⟨C.out.cell 0,A.out.cell 4⟩ ?_
 intro dF
 simp only[pick,aV,a8,aQ,aR]
 refine aX 14 (by kernel_rfl) ?_
 simp only[aJ,aO,aI,aL]
 repeat (go_big_quiet_step (fail))
 refine aU ?_
 have k7:l.cell? ⟨ob,7,ae⟩=ag (ay az 0):=n.out.cell 7
 have f7:=n.out.free 7
 refine aS rfl ?_ rfl
 go_wp2_with fail
 have np:pb≠ob:=jt C.out.tag n.out.tag (by decide)
 have nn:o.heap.size≠ob:=jt A.out.tag n.out.tag (by decide)
 have W:=C.out.iZ np (i:=7) (v:=ay az b)
 have Q:=A.out.iZ nn (i:=7) (v:=ay az b)
 have B:=n.out.set 7 (ay az b)
 refine⟨⟨⟨_,⟨(W.below (bi _)).cell 0,(Q.below (bi _)).cell 4⟩⟩,rfl⟩,?_⟩
 refine aX 2 (by kernel_rfl) ?_
 simp only[aJ,aO,aI,aL]
 repeat (go_big_quiet_step (fail))
 refine aU ?_
 have k8:(l.setCell ⟨ob,7,ae⟩ (ay az b)).cell? ⟨ob,8,ae⟩=ag (ay az 0):=B.cell 8
 have f8:=B.free 8
 refine aS rfl ?_ rfl
 go_wp2_with fail
 have X:=W.iZ np (i:=8) (v:=ay az b)
 have N7:=Q.iZ nn (i:=8) (v:=ay az b)
 have O7:=B.set 8 (ay az b)
 refine⟨⟨⟨_,⟨(X.below (bi _)).cell 0,(N7.below (bi _)).cell 4⟩⟩,rfl⟩,?_⟩
 refine bF ?_
 clear dF qR
 go_wp2_with fail
 go_end0
 have c7:Ch [21] G l G ((l.setCell ⟨ob,7,ae⟩ (ay az b)).setCell ⟨ob,8,ae⟩ (ay az b)):=((Ch.refl _ _ _).set _ (.inl (by rw[n.out.tag];decide))).set _ (.inl (by rw[n.out.tag];decide))
 have r:Ch [21] g2 u G ((l.setCell ⟨ob,7,ae⟩ (ay az b)).setCell ⟨ob,8,ae⟩ (ay az b)).drew:=(x.out.any.trans c7).on (bi _)
 have c9:Ch [1,5,6,10,11,12,13,14,15,16,21,24] g w G ((l.setCell ⟨ob,7,ae⟩ (ay az b)).setCell ⟨ob,8,ae⟩ (ay az b)).drew:=(C1.out.any.trans C2.out).trans (r.mono (by decide))
 exact⟨rfl,G,c9,⟨⟨J,cb,vb,I,m,fb,mJ,O7.below (bi _),Z.out.ch r (by decide),K2.out.ch r (by decide),Y.out.ch r (by decide),L2.out.ch r (by decide)⟩⟩,X.below (bi _)⟩
theorem Ie.ch{T:List Nat}{w w':am}{g g':Tg}{ob e:Nat}{sm:Int}{d:Nat}{i f:Int}(h:Ie w g ob e sm d i f)(c:Ch T g w g' w')(a:∀t,t∈[1,5,6,10,11,12,13,14,15,16,17,18,19,20,21,22,23]->t∉T):Ie w' g' ob e sm d i f:=by
 obtain⟨u,j,x,b,m,k,s,l,n,o,p,q⟩:=h.ex
 exact⟨⟨u,j,x,b,m,k,s,l.ch c (a _ (by decide)),n.ch c (a _ (by decide)),o.ch c (a _ (by decide)),p.ch c ⟨a _ (by decide),a _ (by decide),a _ (by decide),a _ (by decide)⟩,q.ch c (λt r=>a t (by revert r;simp only[cR,dK,iG];omega))⟩⟩
theorem Ie.log{w:am}{g:Tg}{ob c:Nat}{sm:Int}{a:Nat}(h:Ie w g ob c sm a a a)(i:1000<=sm)(j:1<=a)(k:a<=1152921504606846976):qC w g ob c sm a [] 0:=by
 obtain⟨r,f,s,b,m,d,e,l,n,o,p,q⟩:=h.ex
 exact⟨⟨r,f,s,b,3,m,Hg d e,d,e,om,_,l,n,o,p,q⟩,i,j,k,bT _,by decide⟩
theorem gh{c:Func}{p t u:Tmp}(h:c.results=#[.tmp t,.cell p 67,.tmp u]){a:Array ar}{w:am}(b:Nat){x y z:ar}
 (g:a.getD p undef=aA (ag ⟨b,0,ae⟩)) (d:w.cell? ⟨b,0,ae⟩=ag x) (e:w.cell? ⟨b,1,ae⟩=ag y) (f:w.cell? ⟨b,2,ae⟩=ag z):
 (results c a).run ax w=.ok (.tuple #[a.getD t undef,.agg #[x,y,z],a.getD u undef]) w:=by
 have i:a[p]?.getD undef=aA (ag ⟨b,0,ae⟩):=by simpa using g
 simp[results,h,i,go_sem,d,e,f,asAddr,loadVar,Result.andThen]
theorem Oh(k:Nat)(sm b:Int)(w:am)(h:b<1):
 aw ax 38 #[aA (ag ⟨k,0,ae⟩),.agg #[ay az sm,ay az b]] w λe w'=>e=aF (.tuple #[aA ae,.agg #[aC ah,ay az 0,ay az 0],ay az 1])/\Below w.heap.size w w':=by
 obtain⟨f,p,j,c⟩:=bG w #[ay az sm,ay az b] 23
 obtain⟨s,r,d,a⟩:=bG f #[aC ah,ay az 0,ay az 0] 67
 have m:=eH a.out
 have q:=gc ((d.out.block _ (aT c.out)).trans c.out)
 have g:=aH (aM j.out d.out)
 have n:=eU (i:=0) (v:=aC ah) a.out rfl
 have o:=eU (i:=1) (v:=ay az 0) a.out rfl
 have l:=eU (i:=2) (v:=ay az 0) a.out rfl
 go_in
 go_wp2_with fail
 all_goals
  refine bn (gh rfl f.heap.size rfl (aZ 0 a.out) (aZ 1 a.out) (aZ 2 a.out)) rfl ?_
  exact⟨rfl,g.out⟩
theorem af7(m:Nat)(sm:Int)(k:Nat)(f:Int)(w:am)(g:Tg)(D:nE w g m f [] 0 0 gj)(Y:100000<=f/\f<=16777216)(W:1<=k)(X:k<=1152921504606846976)(hs:1000<=sm/\sm<=1048576):
 aw ax 38 #[aA (ag ⟨m,0,ae⟩),.agg #[ay az sm,ay az k]] w λe w'=>∃ob g',e=aF (.tuple #[aA (ag ⟨ob,0,ae⟩),.agg #[aC aj,ay az 0,ay az 0],ay az 0])/\Ch [1,5,6,10,11,12,13,14,15,16,21,24] g w g' w'/\qC w' g' ob m sm k [] 0:=by
 obtain⟨B,gv,K,L⟩:=bG w #[ay az sm,ay az k] 23
 have j9:=gc L.out
 obtain⟨j,lU,Z,M⟩:=bG B #[aC ah,ay az 0,ay az 0] 67
 have QK:=eH M.out
 have s:=aY j (aG (sM m sm k) 160)
 have x:=bp j (aG (sM m sm k) 160)
 obtain⟨q,pD⟩:=bP (World.alloc j (aG (sM m sm k) 160))
 rw[pD]at s x
 have qE:=aH s
 have pZ:=aH x
 clear s x
 unfold sM at pD
 obtain⟨z,Pa,Q,IB⟩:=bG q #[aA (ag ⟨j.heap.size,0,ae⟩),aC ah,ay az 0,ay az 0] 178
 have S:=aM (aM (aM K.out Z.out) qE.out) Q.out
 have z1:=K.out.size
 have z2:B.heap.size<j.heap.size:=aT M.out
 have z3:j.heap.size<q.heap.size:=aT pZ.out
 obtain⟨G,y⟩:=bP (tg (tg (eJ g w.heap.size 0) j.heap.size 21) q.heap.size 24)
 have U:=aH (show Ch [] g w G z from by rw[<-y];exact((Ch.start g S).tg (show w.heap.size<=j.heap.size by omega)).tg (show w.heap.size<=q.heap.size by omega))
 have D4:=aH (D.ch U.out (by decide))
 have O4:=aH (show Row z G 21 j.heap.size (sM m sm k) 160 from⟨(Q.out.block _ z3).trans pZ.out,by rw[<-y,dA (by omega)];exact dG _ _ _⟩)
 have P4:=aH (show Row z G 24 q.heap.size #[aA (ag ⟨j.heap.size,0,ae⟩),aC ah,ay az 0,ay az 0] 178 from⟨IB.out,by rw[<-y];exact dG _ _ _⟩)
 have F4:=aH (show Row z G 0 B.heap.size #[aC ah,ay az 0,ay az 0] 67 from⟨(Q.out.block _ (by omega)).trans ((qE.out.block _ z2).trans M.out),by rw[<-y,dA (by omega),dA (by omega)];exact dQ z1⟩)
 have k1:=gc ((Z.out.block _ (aT L.out)).trans L.out)
 have HM:=aH Y
 clear D y Y z1 z2 z3 S
 go_in
 go_wp2_with fail
 refine(Lf 51 #[aA (ag ⟨q.heap.size,0,ae⟩)] #[] [1,5,6,10,11,12,13,14,15,16,21,24] (λw g=>Ie w g j.heap.size m sm k k k/\Row w g 24 q.heap.size #[aA (ag ⟨j.heap.size,0,ae⟩),aC aj,ay az 0,ay az 0] 178) z G (λ_ _=>rfl) (by decide) (λ_ _ _ _ c h=>⟨h.1.ch c (by decide),h.2.ch c (by decide)⟩) ?_).mono ?_
 ·intro wz hz
  have J:=Ch.start G hz
  exact af9 q.heap.size j.heap.size m sm k f wz (P4.out.ch J (by decide)) (O4.out.ch J (by decide)) (D4.out.ch J (by decide)) HM.out W X
 rintro e C ⟨rfl,t,H,V,p5⟩
 have C5:=aH H
 have T:=aH V
 have r:=aH p5
 have l:=aH (F4.out.ch H (by decide))
 clear H V p5 j9 QK k1
 go_wp2_with fail
 obtain⟨pb,F⟩:=bP q.heap.size
 obtain⟨ob,o⟩:=bP j.heap.size
 have LE:=aH K.out.size
 obtain⟨n,u⟩:=bP B.heap.size
 rw[F,o]at r
 rw[o]at T
 rw[u]at l LE
 rw[F,o,u]
 clear F o u
 have P:pb≠n:=jt r.out.tag l.out.tag (by decide)
 have kf:=eH l.out.row
 have N:=eH (l.out.set 0 (aC aj)).row
 have O:=eH ((l.out.set 0 (aC aj)).set 1 (ay az 0)).row
 have qR:∀p:In (λw'=>w'.cell? ⟨pb,0,ae⟩=ag (aA (ag ⟨ob,0,ae⟩))/\w'.cell? ⟨pb,1,ae⟩=ag (aC aj)/\w'.cell? ⟨pb,2,ae⟩=ag (ay az 0)/\w'.cell? ⟨pb,3,ae⟩=ag (ay az 0)),p.w.cell? ⟨pb,0,ae⟩=ag (aA (ag ⟨ob,0,ae⟩))/\p.w.cell? ⟨pb,1,ae⟩=ag (aC aj)/\p.w.cell? ⟨pb,2,ae⟩=ag (ay az 0)/\p.w.cell? ⟨pb,3,ae⟩=ag (ay az 0):=λp=>p.h
 refine bX [0,1,2,3,4,5,6,7,8,9,10] (λw'=>w'.cell? ⟨pb,0,ae⟩=ag (aA (ag ⟨ob,0,ae⟩))/\w'.cell? ⟨pb,1,ae⟩=ag (aC aj)/\w'.cell? ⟨pb,2,ae⟩=ag (ay az 0)/\w'.cell? ⟨pb,3,ae⟩=ag (ay az 0)) (by kernel_rfl) (by kernel_rfl) (by intro c a d v w h;cases d <;> exact h) ⟨r.out.cell 0,r.out.cell 1,r.out.cell 2,r.out.cell 3⟩ ?_
 intro dF
 simp only[pick,aV,a8,aQ,aR]
 refine aX 9 (by kernel_rfl) ?_
 simp only[aJ,aO,aI,aL]
 repeat (go_big_quiet_step (fail))
 refine aU ?_
 refine aS rfl ?_ rfl
 go_wp2_with fail
 clear kf N O
 have E:=((l.out.set 0 (aC aj)).set 1 (ay az 0)).set 2 (ay az 0)
 have A:=((r.out.iZ P (i:=0) (v:=aC aj)).iZ P (i:=1) (v:=ay az 0)).iZ P (i:=2) (v:=ay az 0)
 have I:Ch [0] t C t _:=(((Ch.refl [0] t C).set (i:=0) (aC aj) (.inl (by rw[l.out.tag];decide))).set (b:=n) (i:=1) (ay az 0) (.inl (by rw[l.out.tag];decide))).set (b:=n) (i:=2) (ay az 0) (.inl (by rw[l.out.tag];decide))
 refine⟨⟨⟨_,⟨(A.below (bi _)).cell 0,(A.below (bi _)).cell 1,(A.below (bi _)).cell 2,(A.below (bi _)).cell 3⟩⟩,rfl⟩,?_⟩
 refine aX 1 (by kernel_rfl) ?_
 simp only[aJ,aO,aI,aL]
 repeat (go_big_quiet_step (fail))
 refine aU ?_
 refine bF ?_
 clear dF qR
 clear I
 go_wp2_with fail
 refine bn (gh rfl n rfl (E.cell 0) (E.cell 1) (E.cell 2)) rfl ?_
 have c7:=((((U.out.any.trans C5.out).set (b:=n) (i:=0) (aC aj) (.inr LE.out)).set (b:=n) (i:=1) (ay az 0) (.inr LE.out)).set (b:=n) (i:=2) (ay az 0) (.inr LE.out)).on (bi _)
 have I:Ch [0] t C t _:=(((Ch.refl [0] t C).set (i:=0) (aC aj) (.inl (by rw[l.out.tag];decide))).set (b:=n) (i:=1) (ay az 0) (.inl (by rw[l.out.tag];decide))).set (b:=n) (i:=2) (ay az 0) (.inl (by rw[l.out.tag];decide))
 exact⟨ob,t,rfl,c7,(T.out.ch (I.on (bi _)) (by decide)).log hs.1 W X⟩
structure jx where
 sm:Int
 lr:Nat
 al:Nat
structure oG where
 ob:Nat
 qb:Nat
 pb:Nat
 kb:Nat
 dm:Nat
 lm:Nat
 cv:ar
 av:ar
 ld:ar
 bv:ar
def jP(K:dw)(P:jx)(R:oG)(a:Int)(b:Nat)(c:Int):Array ar:=
 #[ay az P.sm,ay az K.b0,ay az K.cap,ay az K.dO,ay az K.most,ay az K.fj,aD aE P.lr,aD aE P.al,aA (ag ⟨R.ob,0,ae⟩),aA (ag ⟨R.qb,0,ae⟩),aA (ag ⟨R.pb,0,ae⟩),aA (ag ⟨R.kb,0,ae⟩),R.cv,R.av,.map (ag R.dm),.map (ag R.lm),ay az a,R.ld,aD aE b,R.bv,ay az c,aC ah,aC ah,ay az 0]
abbrev D9(w:am)(g:Tg)(c:Nat)(K:dw)(P:jx)(R:oG)(a:Int)(b:Nat)(d:Int):Prop:=Row w g 50 c (jP K P R a b d) 122
def lO(n:Nat):ar:=ay az n
def lL:Nat->ar
 | 1=>.func (.func 224) #[] #[]
 | 2=>.func (.func 260) #[] #[]
 | 3=>.func (.func 248) #[] #[]
 | 4=>.func (.func 250) #[] #[]
 | 6=>.func (.func 271) #[] #[]
 | 7=>.func (.func 224) #[] #[]
 | 8=>.func (.func 224) #[] #[]
 | 9=>.func (.func 262) #[] #[]
 | _=>.nilFunc
def lK:Nat->ar
 | 1=>.func (.func 225) #[] #[]
 | 2=>.func (.func 261) #[] #[]
 | 3=>.func (.func 249) #[] #[]
 | 4=>.func (.func 251) #[] #[]
 | 6=>.func (.func 272) #[] #[]
 | 7=>.func (.func 280) #[] #[]
 | 8=>.func (.func 291) #[] #[]
 | 9=>.func (.func 225) #[] #[]
 | _=>.nilFunc
def iU(n:Nat):ar:=.agg #[lO n,lL n,lK n]
def ji(id:Int)(c:CV)(dv rv:ar):Array ar:=
 #[ay az id,ay az c.ask.kind,ay az c.ask.lsn,dv,ay az c.lsn,.bool c.lR,lO c.st,lL c.st,lK c.st,lO c.back,lL c.back,lK c.back,ay az c.err,ay az c.rl,rv]
structure oN(w:am)(g:Tg)(v:ar)(bs:By):Prop where
 ex:∃ao ca,v=aB ao bs.length ca/\bs.length<=ca/\ca<=9223372036854775807/\cD w ao bs/\(ao=ae->ca=0)/\∀q off,ao=ag ⟨q,off,ae⟩->bs≠[]->g q=0/\q<w.heap.size
theorem oN.ch{T:List Nat}{w w':am}{g g':Tg}{v:ar}{bs:By}(h:oN w g v bs)(c:Ch T g w g' w')(j:0∉T):oN w' g' v bs:=by
 obtain⟨f,i,e,k,l,m,n,d⟩:=h.ex
 refine⟨f,i,e,k,l,m.same λq a e b=>c.gP q (d q a e b).2 (by rw[(d q a e b).1];exact j),n,λq a e b=>⟨(c.tag q (d q a e b).2).trans (d q a e b).1,aW (d q a e b).2 c.size⟩⟩
theorem oN.nil(w:am)(g:Tg):oN w g (aB ae 0 0) []:=⟨ae,0,rfl,bT _,by decide,λi a=>absurd a (nF i),λ_=>rfl,λq b e=>by cases e⟩
theorem oN.pL{w:am}{g:Tg}{base:Nat}{v:ar}{bs:By}(h:cU w base v bs)(l:∀q,base<=q->g q=0):oN w g v bs:=by
 obtain⟨c,d,rfl,f,i,j,k,b⟩:=h.slice
 exact⟨c,d,rfl,j,k,f,i,λq a e _=>⟨l q (b q a e).1,(b q a e).2⟩⟩
structure vA(w:am)(g:Tg)(b:Nat)(id:Int)(c:CV):Prop where
 ex:∃dv rv,Row w g 60 b (ji id c dv rv) 133/\oN w g dv c.ask.data/\oN w g rv c.rd
theorem vA.ch{T:List Nat}{w w':am}{g g':Tg}{b:Nat}{id:Int}{c:CV}(h:vA w g b id c)(k:Ch T g w g' w')(a:0∉T/\60∉T):vA w' g' b id c:=by
 obtain⟨dv,rv,d,e,f⟩:=h.ex
 exact⟨dv,rv,d.ch k a.2,e.ch k a.1,f.ch k a.1⟩
structure p8(w:am)(g:Tg)(cb:List Nat)(cs:List CV):Prop where
 len:cb.length=cs.length
 nd:cb.Nodup
 ie:∀(i:Nat) (c:CV) (b:Nat),cs[i]?=ag c->cb[i]?=ag b->vA w g b ((i:Int)+1) c
theorem p8.ch{T:List Nat}{w w':am}{g g':Tg}{a:List Nat}{cs:List CV}(h:p8 w g a cs)(k:Ch T g w g' w')(f:0∉T/\60∉T):p8 w' g' a cs:=
 ⟨h.len,h.nd,λi c b d e=>(h.ie i c b d e).ch k f⟩
theorem p8.get{w:am}{g:Tg}{a:List Nat}{cs:List CV}(h:p8 w g a cs){i:Nat}{c:CV}(d:cs[i]?=ag c):∃b,a[i]?=ag b/\vA w g b ((i:Int)+1) c:=by
 have e:i<a.length:=by rw[h.len];exact(aK.1 d).1
 exact⟨a[i],aP e,h.ie i c _ d (aP e)⟩
theorem p8.upd{w w':am}{g g':Tg}{z:List Nat}{cs:List CV}(h:p8 w g z cs){i b:Nat}(f:CV->CV)(s:z[i]?=ag b)(H:i<cs.length)(B:∀q,q≠b->q<w.heap.size->g q=0\/g q=60->w'.heap[q]?=w.heap[q]?/\g' q=g q)(L:w.heap.size<=w'.heap.size)
 (d:∀c,cs[i]?=ag c->vA w' g' b ((i:Int)+1) (f c)):p8 w' g' z (fh cs i f):=by
 refine⟨by rw[fM];exact h.len,h.nd,λj c q l n=>?_⟩
 rw[dB]at l
 by_cases e:i=j
 ·subst e
  rw[bj rfl]at l
  rw[s]at n
  injection n with n
  subst n
  cases hx:cs[i]? with
  | none=>rw[hx]at l;cases l
  | some x=>rw[hx]at l;injection l with l;subst l;exact d x hx
 ·rw[bf e]at l
  have S:q≠b:=λA=>by
   subst A
   have:=(Q8 (aK.1 s).1 h.nd (j:=j)).1 (by rw[s,n])
   exact e this
  obtain⟨dv,rv,r,I,J⟩:=(h.ie j c q l n).ex
  have E:∀v bs,oN w g v bs->b<w.heap.size->g b=60->oN w' g' v bs:=λv bs k _ u=>by
   obtain⟨C,F,e,M,N,O,Q,m⟩:=k.ex
   have D:∀p a,C=ag ⟨p,a,ae⟩->bs≠[]->p≠b:=λp a e d A=>by
    have:=(m p a e d).1
    rw[A,u]at this
    cases this
   refine⟨C,F,e,M,N,O.same λp a e d=>(B p (D p a e d) (m p a e d).2 (.inl (m p a e d).1)).1,Q,λp a e d=>⟨(B p (D p a e d) (m p a e d).2 (.inl (m p a e d).1)).2.trans (m p a e d).1,aW (m p a e d).2 L⟩⟩
  obtain⟨y,U⟩:∃y,cs[i]?=ag y:=⟨cs[i],aP H⟩
  obtain⟨G,T,t,-⟩:=(h.ie i y b U s).ex
  have o:=B q S r.lt (.inr r.tag)
  exact⟨dv,rv,⟨o.1.trans r.row,o.2.trans r.tag⟩,E dv _ I t.lt t.tag,E rv _ J t.lt t.tag⟩
theorem Yz(b n d:Int)(w:am):(Instr.field 111 (.agg #[ay az b,ay az n,ay az d,ay az 1,ay az 1,aC ah,aC ah,ay az 0]) 2).run ax w=.ok (ay az d) w:=by kernel_rfl
theorem Mg(b n d:Int)(w:am):(Instr.field 111 (.agg #[ay az b,ay az n,ay az d,ay az 1,ay az 1,aC ah,aC ah,ay az 0]) 6).run ax w=.ok (aC ah) w:=by kernel_rfl
theorem yM(b:Bool)(z:Nat)(w:am):(Instr.field 420 (.agg #[aC b,aD aE z]) 0).run ax w=.ok (aC b) w:=by kernel_rfl
section
variable{K:dw}{P:jx}{R:oG}
theorem uh(a:Nat){b:Int}{c:Nat}{d:Int}(w:am){g:Tg}(H:D9 w g a K P R b c d):
 aw ax 33 #[aA (ag ⟨a,0,ae⟩)] w λe w'=>e=aF (aC aj)/\w'=w:=by
 have f:w.cell? ⟨a,8,ae⟩=ag (aA (ag ⟨R.ob,0,ae⟩)):=H.cell 8
 clear H
 go_in
 go_wp2_with fail
 go_ret
 exact⟨rfl,rfl⟩
theorem pd(b d:Nat)(sm:Int)(f:List By)(a:Nat){c:Int}{i:Nat}{k:Int}(w:am){g:Tg}(H:D9 w g b K P R c i k)(L:qC w g R.ob d sm K.b0 f a):
 aw ax 236 #[aA (ag ⟨b,0,ae⟩)] w λe w'=>e=aF (ay az ((K.b0+a:Nat):Int))/\Below w.heap.size w w':=by
 have l:w.cell? ⟨b,8,ae⟩=ag (aA (ag ⟨R.ob,0,ae⟩)):=H.cell 8
 have h:=aH L
 have m:=Yz
 clear H L
 go_in
 go_wp2_with fail
 refine(tP R.ob d sm K.b0 f a w g h.out).mono ?_
 rintro e n ⟨rfl,j⟩
 unfold zJ
 go_wp2_with fail
 go_ret
 exact⟨rfl,j⟩
end
section
variable{K:dw}{P:jx}{R:oG}
theorem Zg{t a:Nat}(h:a<=t)(d:t<fI):∃z,Ieee.double.sub t a=ag z/\z<fI/\(Ieee.double.sub t a).getD 0=z:=by
 obtain⟨z,b,-,c⟩:=rN d h
 have:z<=t:=c t (by omega)
 exact⟨z,b,by omega,by rw[b];rfl⟩
theorem JS(j t:Nat)(b line:List fw){D:Int}(oW i:Nat){C:Int}(k:Nat){nb:Int}(w:am){g:Tg}(H:D9 w g j K P R C k nb)(Q:jI w g R.qb K.cap K.dO b line D oW)(L:Row w g 40 R.pb (ou K.most K.fj K.bU P.al i) 185)
 (hw:oI i) (Z:1<=K.most/\K.most<=256) (Y:K.bU<fI) (X:k<=t) (ht:t<fI):
 aw ax 273 #[aA (ag ⟨j,0,ae⟩),aD aE t] w λe w'=>∃z,e=aF (.agg #[aC (qA K.most K.fj K.bU i b.length (eR b) ((Ieee.double.sub t k).getD 0)),aD aE z])/\Below w.heap.size w w'/\(qA K.most K.fj K.bU i b.length (eR b) ((Ieee.double.sub t k).getD 0)=ah->1<=z/\z<=K.bU):=by
 obtain⟨w1,gv,s,U⟩:=bG w #[aC ah,aD aE 0] 420
 obtain⟨vm,O,S,T⟩:=Zg X ht
 rw[T]
 have aa:=λw=>tM O w
 have A2:=aH S
 have W:=aH (And.intro hw (And.intro Z Y))
 have F:=aH (H.below s.out)
 have P1:=aH (L.below s.out)
 obtain⟨ib,f,M,-⟩:=Q.ex
 obtain⟨lv,l,iB,m1,-,m3,-⟩:=M.ex
 obtain⟨la,lc,rfl,-⟩:=m3.shape
 have N:=aH (m1.below s.out)
 have CP:=aH Q.bnd.c1
 have e9:w1.cell? ⟨j,9,ae⟩=ag (aA (ag ⟨R.qb,0,ae⟩)):=F.out.cell 9
 obtain⟨m,A⟩:=bP b.length
 obtain⟨n,B⟩:=bP (eR b)
 obtain⟨ln,yC⟩:=bP line.length
 rw[A,B,yC]at N
 rw[A,B]
 clear H Q L hw Z Y X ht M m1 m3 O S T A B yC
 go_in
 go_wp2_with fail
 refine(Jc R.qb K.cap K.dO n lv l m la ln lc ib w1 N.out (by have:=CP.out;omega)).mono ?_
 rintro e o ⟨rfl,V⟩
 have B2:=aH V
 clear V e9
 obtain⟨E,pD,qE,u⟩:=bG o #[ay az m,ay az n,ay az ln] 125
 have q:=aH (aM B2.out qE.out)
 have x:=aH (F.out.below q.out)
 have P3:=aH (P1.out.below q.out)
 have J:=aH ((q.out.block _ (aT U.out)).trans U.out)
 go_wp2_with fail
 have qR:∀p:In (λw'=>w'.cell? ⟨j,10,ae⟩=ag (aA (ag ⟨R.pb,0,ae⟩))/\w'.cell? ⟨j,18,ae⟩=ag (aD aE k)/\w'.cell? ⟨o.heap.size,0,ae⟩=ag (ay az m)/\w'.cell? ⟨o.heap.size,1,ae⟩=ag (ay az n)),p.w.cell? ⟨j,10,ae⟩=ag (aA (ag ⟨R.pb,0,ae⟩))/\p.w.cell? ⟨j,18,ae⟩=ag (aD aE k)/\p.w.cell? ⟨o.heap.size,0,ae⟩=ag (ay az m)/\p.w.cell? ⟨o.heap.size,1,ae⟩=ag (ay az n):=λp=>p.h
 refine ct [0,1,2,3,4,5,6,7,8,9,10,11,12,13,14] 15 (λw'=>w'.cell? ⟨j,10,ae⟩=ag (aA (ag ⟨R.pb,0,ae⟩))/\w'.cell? ⟨j,18,ae⟩=ag (aD aE k)/\w'.cell? ⟨o.heap.size,0,ae⟩=ag (ay az m)/\w'.cell? ⟨o.heap.size,1,ae⟩=ag (ay az n)) (by kernel_rfl) (by kernel_rfl) (by intro c a d v w h;cases d <;> exact h) ⟨x.out.cell 10,x.out.cell 18,aZ 0 u.out,aZ 1 u.out⟩ ?_
 intro dF
 simp only[pick,aV,a8,aQ,aR,aI,aL]
 refine aX 14 (by kernel_rfl) ?_
 simp only[aJ,aO,aI,aL]
 repeat (go_big_quiet_step (fail))
 refine aU ?_
 refine aS rfl ?_ rfl
 go_wp2_with fail
 refine(ab5 R.pb K.most K.fj K.bU P.al i m n vm E.drew (P3.out.below (bi E)) W.out.1 W.out.2.1 W.out.2.2 A2.out).mono ?_
 rintro e w4 ⟨z,rfl,qy,hz⟩
 have r:=aH (aM (bi E) qy)
 have HZ:=aH hz
 have y:=aH ((r.out.block _ (aT J.out)).trans J.out)
 have n4:=gc y.out
 have n5:=gc (bE y.out 0 (aC (qA K.most K.fj K.bU i m n vm)))
 have I:=aH ((r.out.block _ (aT u.out)).trans u.out)
 have G:=aH (x.out.below r.out)
 clear qy hz
 go_wp2_with fail
 refine⟨⟨⟨_,⟨G.out.cell 10,G.out.cell 18,aZ 0 I.out,aZ 1 I.out⟩⟩,rfl⟩,?_⟩
 refine bF ?_
 clear dF qR
 change wpList _ _ _ _ _ _
 go_wp2_with fail
 refine bn (cH rfl _ _ w.heap.size 420 _ (0,0) _ rfl (bE (bE y.out 0 _) 1 _) Tryz.underlying420 rfl (by kernel_rfl)) rfl ?_
 exact⟨z,rfl,iJ (aM (aM s.out q.out) r.out) dx,HZ.out⟩
end
end
end Go.Proofs.YtooinenkenobaaaGreat

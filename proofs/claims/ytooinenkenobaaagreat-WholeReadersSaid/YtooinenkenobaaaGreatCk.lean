/- A part of the proof of what LawWholeReaders says. -/
import Derived.Test.YtooinenkenobaaaGreatAa
import Derived.Test.YtooinenkenobaaaGreatCj
import Derived.Test.YtooinenkenobaaaGreatBy
import Derived.Test.YtooinenkenobaaaGreatBl
set_option maxRecDepth 100000
set_option maxHeartbeats 20000000
namespace Go.Proofs.YtooinenkenobaaaGreat
open Option renaming none->ae,some->ag
open Bool renaming false->ah,true->aj
open Go.Proofs.Tryz renaming prog->ax
open Go.Value renaming int->ay,pointer->aA,slice->aB,bool->aC,float->aD
open Go.IntKind renaming i64->az
open Go.FloatKind renaming f64->aE
open Go.Ending renaming returned->aF
open Go.Obj renaming cells->aG
open Go renaming World->am,Value->ar,TypeId->au,Calls->aw
section
open Go.RowKit Go.Maps
abbrev Uq(a:fu):CV:=⟨a,0,ah,1,0,0,0,[]⟩
theorem OP{K:dw}{a:fu}(h:((a.kind=1\/a.kind=2)/\a.lsn=0)\/(a.kind=5/\K.b0<=a.lsn/\a.data=[])):(a.kind=1/\a.lsn=0)\/(a.kind=2/\a.lsn=0)\/(a.kind=5/\a.data.length=0):=by
 rcases h with⟨h | h,b⟩ | ⟨h,-,b⟩
 ·exact .inl ⟨h,b⟩
 ·exact .inr (.inl ⟨h,b⟩)
 ·exact .inr (.inr ⟨h,by rw[b];rfl⟩)
theorem ac8(kind lsn:Int)(a:Option Addr)(n b:Nat)(w:am)(h:(kind=1/\lsn=0)\/(kind=2/\lsn=0)\/(kind=5/\n=0)):
 aw ax 221 #[.agg #[ay az kind,ay az lsn,aB a n b]] w λe w'=>e=aF (.tuple #[aC aj,aC aj])/\Below w.heap.size w w':=by
 rcases h with⟨rfl,rfl⟩ | ⟨rfl,rfl⟩ | ⟨rfl,rfl⟩
 ·go_in
  go_wp2_with fail
  go_ret2
  exact⟨rfl,aY _ _⟩
 ·go_in
  go_wp2_with fail
  go_ret2
  exact⟨rfl,aY _ _⟩
 ·go_in
  go_wp2_with fail
  go_ret2
  exact⟨rfl,aY _ _⟩
structure sj(w0:am)(g:Tg)(eb:Nat)(cs:Array ar)(W:am)(cv av:ar)(cl al:List Nat):Prop where
 ch:Ch [50,51,52] g w0 g W
 row:Row W g 50 eb cs 122
 iR:eb<w0.heap.size
 ul:fC nu 119 1 W cv cl
 act:iV nu 119 1 W av al
 G9:∀q,cv.ownBlock=ag q->(q<w0.heap.size/\g q=51)\/w0.heap.size<=q
 Hw:∀q,av.ownBlock=ag q->(q<w0.heap.size/\g q=52)\/w0.heap.size<=q
 ne:∀q,cv.ownBlock=ag q->av.ownBlock≠ag q
section
variable{w0 W W':am}{g:Tg}{eb:Nat}{cs:Array ar}{cv av v':ar}{cl al:List Nat}
theorem sj.low(h:sj w0 g eb cs W cv av cl al)(a:Below W.heap.size W W'):sj w0 g eb cs W' cv av cl al:=
 ⟨h.ch.on a,h.row.below a,h.iR,h.ul.below a,h.act.below a,h.G9,h.Hw,h.ne⟩
theorem sj.adp(h:sj w0 g eb cs W cv av cl al){f:List Nat}(o:fC nu 119 1 W' v' f)(c:W.grownBy W' cv.ownBlock)(d:∀j,v'.ownBlock=ag j->cv.ownBlock=ag j\/W.heap.size<=j):sj w0 g eb cs W' v' av f al:=by
 have k:=h.ch.size
 have i:ag eb≠cv.ownBlock:=λe=>by
  rcases h.G9 eb e.symm with⟨-,b⟩ | b
  ·rw[h.row.tag]at b
   exact absurd b (by decide)
  ·have:=h.iR
   omega
 refine⟨h.ch.grown c (λq a=>?_),h.row.grown c i,h.iR,o,h.act.same λq a=>c.block q (h.act.lt q a) (λe=>h.ne q e.symm a),λq a=>?_,h.Hw,λq a=>?_⟩
 ·rcases h.G9 q a with⟨-,e⟩ | e
  ·exact .inl (by rw[e];decide)
  ·exact .inr e
 ·rcases d q a with e | e
  ·exact h.G9 q e
  ·exact .inr (by omega)
 ·rcases d q a with e | e
  ·exact h.ne q e
  ·exact λb=>by have:=h.act.lt q b;omega
theorem sj.adq(h:sj w0 g eb cs W cv av cl al){f:List Nat}(o:iV nu 119 1 W' v' f)(c:W.grownBy W' av.ownBlock)(d:∀j,v'.ownBlock=ag j->av.ownBlock=ag j\/W.heap.size<=j):sj w0 g eb cs W' cv v' cl f:=by
 have k:=h.ch.size
 have i:ag eb≠av.ownBlock:=λe=>by
  rcases h.Hw eb e.symm with⟨-,b⟩ | b
  ·rw[h.row.tag]at b
   exact absurd b (by decide)
  ·have:=h.iR
   omega
 refine⟨h.ch.grown c (λq a=>?_),h.row.grown c i,h.iR,h.ul.same λq a=>c.block q (h.ul.lt q a) (λe=>h.ne q a e.symm),o,h.G9,λq a=>?_,λq a e=>?_⟩
 ·rcases h.Hw q a with⟨-,e⟩ | e
  ·exact .inl (by rw[e];decide)
  ·exact .inr e
 ·rcases d q a with e | e
  ·exact h.Hw q e
  ·exact .inr (by omega)
 ·rcases d q e with b | b
  ·exact h.ne q a b
  ·have:=h.ul.lt q a
   omega
theorem sj.set(h:sj w0 g eb cs W cv av cl al)(i:Nat)(v:ar):sj w0 g eb (cs.setIfInBounds i v) (W.setCell ⟨eb,i,ae⟩ v) cv av cl al:=by
 have d:∀q,cv.ownBlock=ag q->q≠eb:=λq b e=>by
  subst e
  rcases h.G9 q b with⟨-,a⟩ | a
  ·rw[h.row.tag]at a
   exact absurd a (by decide)
  ·have:=h.iR
   omega
 have c:∀q,av.ownBlock=ag q->q≠eb:=λq b e=>by
  subst e
  rcases h.Hw q b with⟨-,a⟩ | a
  ·rw[h.row.tag]at a
   exact absurd a (by decide)
  ·have:=h.iR
   omega
 exact⟨h.ch.set v (.inl (by rw[h.row.tag];decide)),h.row.set i v,h.iR,h.ul.same λq b=>bD (d q b),h.act.same λq b=>bD (c q b),h.G9,h.Hw,h.ne⟩
end
section
variable{K:dw}{P:jx}{R:oG}
theorem dZ.begin{w0 W:am}{g:Tg}{eb t b:Nat}{E:fm}{d:List Nat}{w A:Lit->Option ar}(H:dZ w0 g eb t K P E d R w A)(h:fy K E)(n:d.length=E.cs.length)(a:fu){dv:ar}(F:Row w0 g 60 b (ji ((E.cs.length:Int)+1) (Uq a) dv (aB ae 0 0)) 133)(I:oN w0 g dv a.data)(D:b∉d)
 {cv av:ar} (B:sj w0 g eb (jP K P { R with cv:=cv,av:=av } ((K.b0+E.D.length:Nat):Int) E.begun E.cT) W cv av (d++[b]) ((E.act.map λi=>d[i]?.getD 0)++[b])):∃g',Ch [50,51,52] g w0 g' W/\dZ W g' eb t K P (gT E a) (d++[b]) { R with cv:=cv,av:=av } w A:=by
 obtain⟨G,r⟩:=bP ((λq=>if cv.ownBlock=ag q then 51 else if av.ownBlock=ag q then 52 else g q):Tg)
 have p:∀q,q<w0.heap.size->G q=g q:=λq f=>by
  rw[<-r]
  dsimp only
  by_cases e:cv.ownBlock=ag q
  ·rw[bj e]
   rcases B.G9 q e with⟨-,l⟩ | l
   ·exact l.symm
   ·omega
  ·rw[bf e]
   by_cases l:av.ownBlock=ag q
   ·rw[bj l]
    rcases B.Hw q l with⟨-,u⟩ | u
    ·exact u.symm
    ·omega
   ·rw[bf l]
 have c:=B.ch.gE (g2:=G) p
 refine⟨G,c,?_⟩
 have k:∀i,i<d.length->(d++[b])[i]?=d[i]?:=λi o=>bI o
 refine⟨B.row.gE (p eb B.iR),H.log.ch c (by decide),H.zL.ch c (by decide),H.Ek.ch c (by decide),H.clk.ch c (by decide),⟨B.ul,λq f=>by rw[<-r];exact bj f⟩,?_,H.sg.ch c (by decide) (by decide),H.A8.ch c (by decide),λx hx=>?_,?_,H.xy.ch c (by decide) (by decide),?_,H.cw,H.now⟩
 ·have e:((gT E a).act.map λi=>(d++[b])[i]?.getD 0)=(E.act.map λi=>d[i]?.getD 0)++[b]:=by
   show((E.act++[E.cs.length]).map _)=_
   rw[gM,aV,a8,bH (by omega),n,dR]
   congr 1
   refine List.map_congr_left λi o=>?_
   obtain⟨x,hx,-⟩:=(h.act i).1 o
   rw[k i (by rw[n];exact(aK.1 hx).1)]
  rw[e]
  exact⟨B.act,λq f=>by rw[<-r];dsimp only;rw[bf (λe=>B.ne q e f),bj f]⟩
 ·have e:=H.r' x hx
  rw[e]
  have s:x∈E.line:=hx
  obtain⟨j,m⟩:=fg (oJ E.held s)
  rw[h.q,jM]at m
  cases hz:(List.drop E.tk E.D)[j]? with
  | none=>rw[hz]at m;cases m
  | some z=>
   rw[hz]at m
   injection m with m
   have M:=(aK.1 hz).1
   rw[cV]at M
   have N:x.id=((K.b0+(E.tk+j):Nat):Int):=by rw[<-m]
   have o1:E.tk+j<E.ow.length:=by rw[h.ow];omega
   have l:E.ow[(x.id-(K.b0:Int)).toNat]?=ag E.ow[E.tk+j]:=by
    rw[N,show(((K.b0+(E.tk+j):Nat):Int)-(K.b0:Int)).toNat=E.tk+j by omega]
    exact aP o1
   have o2:=h.owl _ (qH o1)
   show ag (Value.pointer (ag ⟨d[E.ow[(x.id-(K.b0:Int)).toNat]?.getD 0]?.getD 0,0,ae⟩))=ag (Value.pointer (ag ⟨(d++[b])[E.ow[(x.id-(K.b0:Int)).toNat]?.getD 0]?.getD 0,0,ae⟩))
   rw[l]
   dsimp only[Option.getD_some]
   rw[k _ (by rw[n];exact o2)]
 ·show R.ld=ldV (d++[b]) E.cW
  rw[H.ld]
  cases hl:E.cW with
  | none=>rfl
  | some i=>
   obtain⟨x,hx,-⟩:=h.lead i hl
   show Value.pointer (ag ⟨d[i]?.getD 0,0,ae⟩)=Value.pointer (ag ⟨(d++[b])[i]?.getD 0,0,ae⟩)
   rw[k i (by rw[n];exact(aK.1 hx).1)]
 ·have C:=H.cls.ch c (by decide)
  refine⟨by show(d++[b]).length=(E.cs++[_]).length;rw[aN,aN,n];rfl,vC.2 ⟨C.nd,by simp,λx hx y J=>by rw[cE.1 J];exact λe=>D (e▸hx)⟩,λi x q hx f=>?_⟩
  rcases cg i d.length with o | o
  ·rw[k i o]at f
   have hx:(E.cs++[_])[i]?=ag x:=hx
   rw[bI (by omega)]at hx
   exact C.ie i x q hx f
  ·have L:=(aK.1 f).1
   rw[aN,cP]at L
   obtain rfl:i=d.length:=by omega
   rw[bH dx,dR]at f
   injection f with f
   subst f
   have hx:(E.cs++[_])[d.length]?=ag x:=hx
   rw[bH (by omega),n,dR]at hx
   injection hx with hx
   subst hx
   rw[n]
   exact⟨dv,_,F.ch c (by decide),I.ch c (by decide),oN.nil _ _⟩
end
theorem jQ{w:am}{q:Nat}{v:ar}{t:au}(h:w.heap[q]?=ag (aG #[v] t (0,0))):∀j u,[v][j]?=ag u->w.cell? ((⟨q,0,ae⟩:Addr).add j)=ag u:=λj u a=>by
 rw[show(⟨q,0,ae⟩:Addr).add j=⟨q,j,ae⟩by unfold Addr.add;split <;> simp_all,aZ _ h,oK]
 exact a
section
variable{K:dw}{P:jx}
theorem Y0(eb db:Nat)(E:fm)(cb:List Nat)(a:fu)(ao:Option Addr)(n ca:Nat)(w:am)(g:Tg)(H:gw w g eb db K P E cb)(h:fy K E)(t8:cb.length=E.cs.length)(hk:((a.kind=1\/a.kind=2)/\a.lsn=0)\/(a.kind=5/\K.b0<=a.lsn/\a.data=[]))(hs:oN w g (aB ao n ca) a.data)(hl:a.data.length<=100000)(Ud:E.act.length<4096)(Wy:E.cs.length<=100000):
 aw ax 216 #[aA (ag ⟨eb,0,ae⟩),.agg #[ay az a.kind,ay az a.lsn,aB ao n ca]] w λe w'=>e=aF (.tuple #[ay az ((E.cs.length:Int)+1),ay az 0])/\∃g' b,Ch [50,51,52] g w g' w'/\gw w' g' eb db K P (gT E a) (cb++[b]):=by
 obtain⟨kd,Es⟩:=bP (((a.kind:Nat):Int):Int)
 obtain⟨ls,Gu⟩:=bP (((a.lsn:Nat):Int):Int)
 have hn:n=a.data.length:=by obtain⟨ao2,ca2,e,-⟩:=hs.ex;injection e
 have aol:=aH (λx=>ac8 kd ls ao n ca x (by rcases OP hk with⟨e1,e2⟩ | ⟨e1,e2⟩ | ⟨e1,e2⟩ <;> rw[<-Es,<-Gu,e1] <;> first | exact .inl ⟨rfl,by rw[e2];rfl⟩ | exact .inr (.inl ⟨rfl,by rw[e2];rfl⟩) | exact .inr (.inr ⟨rfl,by omega⟩)))
 rw[Es,Gu]
 obtain⟨w1,gv,dJ,dL⟩:=bG w #[ay az kd,ay az ls,aB ao n ca] 50
 have j9:=eH dL.out
 obtain⟨G,c1,n1,gz⟩:=ku (g:=g) dJ.out dL.out
 have C1:=aH c1
 have N1:=aH n1
 have GZ:=aH gz
 have H1:=aH (H.ch C1.out (λ_ _ h=>by cases h))
 have S1:=aH (hs.ch C1.out (by decide))
 obtain⟨R,fd,fl,HP⟩:=H1.out.ex
 have OK:=aH h
 have WP:=aH t8
 have HN:=aH hn
 have HL:=aH hl
 have HKL:=aH (And.intro Es Gu)
 obtain⟨L,hL⟩:=bP (E.act.map (λi=>cb[i]?.getD 0))
 have Mc:L.length=E.act.length:=by rw[<-hL,bZ]
 have wR:=HP.act
 rw[hL]at wR
 obtain⟨aa,ac,eav,anp,ano⟩:=wR.own.shape
 obtain⟨MB,Mw,ecv,ang,anf,-⟩:=HP.ul.own.shape
 obtain⟨nl,hnl⟩:=bP L.length
 obtain⟨nc,hnc⟩:=bP cb.length
 rw[hnl]at eav
 rw[hnc]at ecv
 have auS:¬ 4096<=(nl:Int):=by omega
 have UO:w1.cell? ⟨eb,13,ae⟩=ag (aB aa nl ac):=by rw[HP.row.cell 13];show ag R.av=_;rw[eav]
 have e12:w1.cell? ⟨eb,12,ae⟩=ag (aB MB nc Mw):=by rw[HP.row.cell 12];show ag R.cv=_;rw[ecv]
 have HPH:=aH HP
 have EL:=aH hL
 have ECV:=aH (show R.cv=aB MB nc Mw from ecv)
 have EAV:=aH (show R.av=aB aa nl ac from eav)
 have DX:=aH (And.intro hnl (And.intro hnc (And.intro Mc (And.intro Ud Wy))))
 have LT:=aH (show ∀b∈cb,b<w1.heap.size from λb hb=>by
  obtain⟨i,hi⟩:=fg hb
  obtain⟨c,hc⟩:=H1.out.has hi
  obtain⟨dv,rv,r⟩:=H1.out.call hc hi
  exact r.lt)
 clear c1 n1 gz H h t8 hk hs hn hl Es Gu HP hL Mc wR anp ano ang anf ecv eav hnl hnc Ud Wy
 go_in
 go_wp2_with fail
 refine(uh eb w1 HPH.out.row).mono ?_
 rintro e w1 ⟨rfl,ez⟩
 subst ez
 go_wp2_with fail
 refine(aol.out w1).mono ?_
 rintro e w2 ⟨rfl,eA⟩
 have B2:=aH eA
 have X2:=aH ((eA.block _ (aT dL.out)).trans dL.out)
 have x2:=eH X2.out
 have k13:w2.cell? ⟨eb,13,ae⟩=ag (aB aa nl ac):=(cm (eA.block _ HPH.out.row.lt)).trans UO
 have S2:=aH (S1.out.ch (Ch.bh [] G B2.out) (by decide))
 have BY:=aH (show cD w2 ao a.data/\(ao=ae->ca=0)from by obtain⟨ao2,ca2,e,-,-,h1,h2,-⟩:=S2.out.ex;injection e with e1 e2 e3;subst e1 e3;exact⟨h1,h2⟩)
 clear eA j9 UO
 go_wp2_with (at_builtin;refine fG (o:=⟨ag 32,_,_,_,_,_⟩) rfl rfl w2.heap.size (aB ae 0 0) [] rfl (cU.nil _ _) ao n ca a.data rfl HN.out BY.out.1 BY.out.2 (by have:=HL.out;simp only[eV];omega) dx ?_)
 intro v3 w3 h3 sf pD
 obtain⟨a3,c3,rfl,-⟩:=h3.slice
 obtain⟨m3,hm3⟩:=bP a.data.length
 have H3:=aH (show cU w3 w2.heap.size (aB a3 m3 c3) a.data from by rw[<-hm3];exact h3)
 have W2:=aH (show w.heap.size<w2.heap.size from aW (aT dL.out) B2.out.size)
 have S3:=aH (oN.pL H3.out (λq hq=>GZ.out q (by have:=W2.out;omega)))
 have B3:=aH ((cX w1.heap.size w1).trans (B2.out.grown sf B2.out.size (λk hk=>by cases hk)))
 have X3:=aH ((sf.block _ (aT X2.out) (λe=>by cases e)).trans X2.out)
 have x3:=eH X3.out
 rw[hm3]
 clear h3 sf pD hm3 x2 k13
 go_wp2_with fail
 obtain⟨x,hx⟩:=bP (w3.setCell ⟨w.heap.size,2,ae⟩ (aB a3 m3 c3))
 have R3:=aH (show Row w3 G 99 w.heap.size _ _ from⟨X3.out,N1.out.tag⟩)
 have CX:=aH (show Ch [99] G w3 G x from by rw[<-hx];exact(Ch.refl _ _ _).set _ (.inl (by rw[R3.out.tag];decide)))
 have RX:=aH (show Row x G 99 w.heap.size #[ay az kd,ay az ls,aB a3 m3 c3] 50 from by rw[<-hx];exact R3.out.set 2 (aB a3 m3 c3))
 have CX0:=aH (show Ch [] g w G x from by rw[<-hx];exact(C1.out.on B3.out).set _ (.inr dx))
 have C13:=aH (show Ch [99] G w1 G x from(Ch.bh [99] G B3.out).trans CX.out)
 have PX:=aH (HPH.out.ch C13.out (by decide))
 have SX:=aH (S3.out.ch CX.out (by decide))
 rw[hx]
 clear hx x3
 have ncb:nc<=100000:=by have:=DX.out;have:=WP.out;omega
 have Y3:x.cell? ⟨eb,12,ae⟩=ag (aB MB nc Mw):=by rw[PX.out.row.cell 12];show ag R.cv=_;rw[ECV.out]
 have qR:∀p:In (λw'=>w'.cell? ⟨eb,12,ae⟩=ag (aB MB nc Mw)/\w'.cell? ⟨w.heap.size,0,ae⟩=ag (ay az kd)/\w'.cell? ⟨w.heap.size,1,ae⟩=ag (ay az ls)/\w'.cell? ⟨w.heap.size,2,ae⟩=ag (aB a3 m3 c3)),p.w.cell? ⟨eb,12,ae⟩=ag (aB MB nc Mw)/\p.w.cell? ⟨w.heap.size,0,ae⟩=ag (ay az kd)/\p.w.cell? ⟨w.heap.size,1,ae⟩=ag (ay az ls)/\p.w.cell? ⟨w.heap.size,2,ae⟩=ag (aB a3 m3 c3):=λp=>p.h
 refine bX [0,1,2,3,4,5,6,7,8,9,10] (λw'=>w'.cell? ⟨eb,12,ae⟩=ag (aB MB nc Mw)/\w'.cell? ⟨w.heap.size,0,ae⟩=ag (ay az kd)/\w'.cell? ⟨w.heap.size,1,ae⟩=ag (ay az ls)/\w'.cell? ⟨w.heap.size,2,ae⟩=ag (aB a3 m3 c3)) (by kernel_rfl) (by kernel_rfl) (by intro c a d v w h;cases d <;> exact h) ⟨Y3,RX.out.cell 0,RX.out.cell 1,RX.out.cell 2⟩ ?_
 intro dF
 simp only[pick,aV,a8,aQ,aR]
 refine aX 7 (by kernel_rfl) ?_
 simp only[aJ,aO,aI,aL]
 repeat (go_big_quiet_step (fail))
 refine aU ?_
 refine aS rfl ?_ rfl
 go_wp2_with fail
 refine(Fm x.drew).mono ?_
 rintro e w4 ⟨rfl,qy⟩
 have B4:=aH (aM (bi x) qy)
 have K4:=aH (show w4.cell? ⟨eb,12,ae⟩=ag (aB MB nc Mw)/\w4.cell? ⟨w.heap.size,0,ae⟩=ag (ay az kd)/\w4.cell? ⟨w.heap.size,1,ae⟩=ag (ay az ls)/\w4.cell? ⟨w.heap.size,2,ae⟩=ag (aB a3 m3 c3)from by
  have r:=RX.out.below B4.out
  exact⟨(cm (B4.out.block _ PX.out.row.lt)).trans Y3,r.cell 0,r.cell 1,r.cell 2⟩)
 clear qy
 unfold iU lO lL lK
 go_wp2_with fail
 refine⟨⟨⟨_,K4.out⟩,rfl⟩,?_⟩
 refine aS rfl ?_ rfl
 go_wp2_with fail
 refine⟨⟨⟨_,K4.out⟩,rfl⟩,?_⟩
 obtain⟨w5,oA,Nw,DS⟩:=bG w4 #[ay az ((nc:Int)+1),ay az kd,ay az ls,aB a3 m3 c3,ay az 0,aC ah,ay az 1,.func (.func 224) #[] #[],.func (.func 225) #[] #[],ay az 0,.nilFunc,.nilFunc,ay az 0,ay az 0,aB ae 0 0] 133
 refine aS rfl ?_ rfl
 go_wp2_with fail
 have B5:=aH (aM B4.out Nw.out)
 have K5:=aH (show w5.cell? ⟨eb,12,ae⟩=ag (aB MB nc Mw)/\w5.cell? ⟨w.heap.size,0,ae⟩=ag (ay az kd)/\w5.cell? ⟨w.heap.size,1,ae⟩=ag (ay az ls)/\w5.cell? ⟨w.heap.size,2,ae⟩=ag (aB a3 m3 c3)from by
  have r:=RX.out.below B5.out
  exact⟨(cm (B5.out.block _ PX.out.row.lt)).trans Y3,r.cell 0,r.cell 1,r.cell 2⟩)
 refine⟨⟨⟨_,K5.out⟩,rfl⟩,?_⟩
 refine aX 1 (by kernel_rfl) ?_
 simp only[aJ,aO,aI,aL]
 repeat (go_big_quiet_step (fail))
 refine aU ?_
 refine bF ?_
 clear dF qR
 obtain⟨b,hb⟩:=bP w4.heap.size
 have lb:x.heap.size<=b:=by rw[<-hb];exact B4.out.size
 have lx:w1.heap.size<=x.heap.size:=C13.out.size
 obtain⟨g0,hg0⟩:=bP (tg G b 60)
 have C5:=aH (show Ch [] G x g0 w5 from by rw[<-hg0];exact(Ch.bh [] G B5.out).tg lb)
 have P5:=aH (PX.out.ch C5.out (λ_ _ h=>by cases h))
 have S5:=aH (SX.out.ch C5.out (by decide))
 have R5:=aH (show Row w5 g0 60 b (ji ((E.cs.length:Int)+1) (Uq a) (aB a3 m3 c3) (aB ae 0 0)) 133 from by
  rw[<-WP.out,DX.out.2.1]
  refine⟨?_,by rw[<-hg0];exact dG _ _ _⟩
  rw[<-hb]
  have e:=DS.out
  rw[<-HKL.out.1,<-HKL.out.2]at e
  exact e)
 have NB:=aH (show b∉cb from λhm=>by have:=LT.out b hm;omega)
 have CW:=aH (show Ch [] g w g0 w5 from CX0.out.trans C5.out)
 have BR0:=aH (show sj w5 g0 eb (jP K P R ((K.b0+E.D.length:Nat):Int) E.begun E.cT) w5 (aB MB nc Mw) (aB aa nl ac) cb L from by
  have hc:=P5.out.ul
  have ha:=P5.out.act
  rw[EL.out]at ha
  rw[ECV.out]at hc
  rw[EAV.out]at ha
  exact⟨Ch.refl _ _ _,P5.out.row,P5.out.row.lt,hc.own,ha.own,λq hq=>.inl ⟨hc.own.lt q hq,hc.tag q hq⟩,λq hq=>.inl ⟨ha.own.lt q hq,ha.tag q hq⟩,λq hq e=>by have h1:=hc.tag q hq;have h2:=ha.tag q e;omega⟩)
 have aiV:=aH (show ∀q,(Value.slice MB nc Mw).ownBlock=ag q->q<w5.heap.size from BR0.out.ul.lt)
 have eM:=aH (show ∀W cv av cl al,sj w5 g0 eb (jP K P R ((K.b0+E.D.length:Nat):Int) E.begun E.cT) W cv av cl al->W.cell? ⟨eb,12,ae⟩=ag (aB MB nc Mw)/\W.cell? ⟨eb,13,ae⟩=ag (aB aa nl ac)from λW cv av cl al h=>by
  refine⟨?_,?_⟩
  ·rw[h.row.cell 12];show ag R.cv=_;rw[ECV.out]
  ·rw[h.row.cell 13];show ag R.av=_;rw[EAV.out])
 have IDC:=aH (show ∀W cv av cl al,sj w5 g0 eb (jP K P R ((K.b0+E.D.length:Nat):Int) E.begun E.cT) W cv av cl al->W.cell? ⟨b,0,ae⟩=ag (ay az ((nc:Int)+1))from λW cv av cl al h=>by
  rw[(R5.out.ch h.ch (by decide)).cell 0,<-DX.out.2.1,WP.out];rfl)
 have BDR:=aH (BR0.out.low (bi w5))
 have neb:b≠eb:=λe=>by have h1:=R5.out.tag;have h2:=P5.out.row.tag;rw[e,h2]at h1;exact absurd h1 (by decide)
 have LL:=aH (show cb.length<=1000000/\L.length<=1000000 from by have:=DX.out;have:=WP.out;omega)
 clear hg0 lb lx Y3
 rw[hb]
 go_wp2_with fail
 have qR:∀p:In (λw'=>w'.cell? ⟨eb,12,ae⟩=ag (aB MB nc Mw)/\w'.cell? ⟨eb,13,ae⟩=ag (aB aa nl ac)),p.w.cell? ⟨eb,12,ae⟩=ag (aB MB nc Mw)/\p.w.cell? ⟨eb,13,ae⟩=ag (aB aa nl ac):=λp=>p.h
 refine wE 1 45 (aA (ag ⟨eb,0,ae⟩)) (.run [0,2,3,4,5,6,9,10,11,12,13] (.fork 7 [] (.fork 8 [14,15,16,17] .done 14 [8,15,16,17] .done) 14 [7,8,15,16,17] .done)) 18 (λw'=>w'.cell? ⟨eb,12,ae⟩=ag (aB MB nc Mw)/\w'.cell? ⟨eb,13,ae⟩=ag (aB aa nl ac)) (by kernel_rfl) (by kernel_rfl) ⟨_,rfl,rfl,.inl ⟨rfl,λ_=>rfl⟩⟩ (by intro c a d v w h;cases d <;> exact h) (eM.out _ _ _ _ _ BDR.out) ?_
 intro dF
 unfold cC
 dsimp only[Act.put]
 simp only[List.setIfInBounds_toArray,KR,List.set_cons_zero]
 simp only[pick,aV,a8,aQ,aR]
 refine aX 11 (by kernel_rfl) ?_
 simp only[aJ,aO,aI,aL]
 repeat (go_big_quiet_step (fail))
 refine aU ?_
 refine bF ?_
 unfold dh cC
 dsimp only
 refine⟨?_,?_⟩
 ·simp only[pick,aV,a8,aQ,aR]
  refine aS rfl ?_ rfl
  obtain⟨y1,LR,By1,Qs⟩:=bG w5.drew #[aA (ag ⟨b,0,ae⟩)] 119
  go_wp2_with fail
  have Qy1:=aH (BDR.out.low By1.out)
  refine⟨⟨⟨_,(eM.out _ _ _ _ _ Qy1.out)⟩,rfl⟩,?_⟩
  refine bF ?_
  unfold dh cC
  dsimp only
  refine⟨?_,?_⟩
  ·simp only[pick,aV,a8,aQ,aR]
   refine aS rfl ?_ rfl
   have apP:=aH (jQ (v:=aA (ag ⟨b,0,ae⟩)) Qs.out)
   go_wp2_with (at_builtin;refine cY (o:=⟨ag 52,_,_,_,_,_⟩) rfl _ _ 116 119 rfl Tryz.underlying116 Tryz.mV rfl (by decide) (by decide) nu jB oX _ cb rfl Qy1.out.ul ⟨w5.heap.size,0,ae⟩ b rfl apP.out LL.out.1 ?_)
   intro vy2 y2 oy2 ahw iy2
   obtain⟨ay2,cy2,rfl,-⟩:=oy2.shape
   obtain⟨ly2,ahb⟩:=bP ((cb++[b]).length)
   have Qy2:=aH (Qy1.out.adp oy2 ahw iy2)
   rw[ahb]at Qy2 ⊢
   clear oy2 ahw iy2 ahb
   go_wp2_with fail
   refine⟨⟨⟨_,(eM.out _ _ _ _ _ Qy2.out)⟩,rfl⟩,?_⟩
   refine aS rfl ?_ rfl
   obtain⟨y3,hy3,By3,Kz⟩:=bG y2 #[aA (ag ⟨b,0,ae⟩)] 119
   go_wp2_with fail
   have Qy3:=aH (Qy2.out.low By3.out)
   refine⟨⟨⟨_,(eM.out _ _ _ _ _ Qy3.out)⟩,rfl⟩,?_⟩
   refine aS rfl ?_ rfl
   have apO:=aH (jQ (v:=aA (ag ⟨b,0,ae⟩)) Kz.out)
   go_wp2_with (at_builtin;refine iM (o:=⟨ag 59,_,_,_,_,_⟩) rfl 116 119 rfl Tryz.underlying116 Tryz.mV rfl (by decide) (by decide) nu jB oX L rfl Qy3.out.act ⟨y2.heap.size,0,ae⟩ b rfl apO.out LL.out.2 ?_)
   intro vy4 y4 oy4 ahv iy4
   obtain⟨ay4,cy4,rfl,-⟩:=oy4.shape
   obtain⟨ly4,aha⟩:=bP ((L++[b]).length)
   have Qy4:=aH (Qy3.out.adq oy4 ahv iy4)
   rw[aha]at Qy4 ⊢
   clear oy4 ahv iy4 aha
   go_wp2_with fail
   refine⟨⟨⟨_,(eM.out _ _ _ _ _ Qy4.out)⟩,rfl⟩,?_⟩
   refine aX 2 (by kernel_rfl) ?_
   simp only[aJ,aO,aI,aL]
   repeat (go_big_quiet_step (fail))
   refine aU ?_
   refine bF ?_
   unfold dh cC
   dsimp only
   clear dF qR
   change wpList _ _ _ _ _ _
   have f12:=Qy4.out.row.free 12
   have f13:=Qy4.out.row.free 13
   have k12:=(eM.out _ _ _ _ _ Qy4.out).1
   have k13:=(eM.out _ _ _ _ _ Qy4.out).2
   have kb:=IDC.out _ _ _ _ _ Qy4.out
   go_wp2_with fail
   go_ret2
   have BF:=(Qy4.out.set 12 (aB ay2 ly2 cy2)).set 13 (aB ay4 ly4 cy4)
   obtain⟨g2,c2,e2⟩:=P5.out.begin OK.out WP.out a R5.out S5.out NB.out (cv:=aB ay2 ly2 cy2) (av:=aB ay4 ly4 cy4) (by rw[EL.out];exact BF)
   refine⟨by rw[<-WP.out,DX.out.2.1];rfl,g2,b,CW.out.any.trans c2,⟨_,_,_,e2⟩⟩
  ·simp only[pick,aV,a8,aQ,aR]
   refine aS rfl ?_ rfl
   obtain⟨y5,hy5,By5,Ny5⟩:=bG y1 #[aA (ag ⟨b,0,ae⟩)] 119
   go_wp2_with fail
   have Qy5:=aH (Qy1.out.low By5.out)
   have aoL:=aH ((By5.out.block _ (aT Qs.out)).trans Qs.out)
   refine⟨⟨⟨_,(eM.out _ _ _ _ _ Qy5.out)⟩,rfl⟩,?_⟩
   refine aS rfl ?_ rfl
   have apN:=aH (jQ (v:=aA (ag ⟨b,0,ae⟩)) aoL.out)
   go_wp2_with (at_builtin;refine cY (o:=⟨ag 52,_,_,_,_,_⟩) rfl _ _ 116 119 rfl Tryz.underlying116 Tryz.mV rfl (by decide) (by decide) nu jB oX _ cb rfl Qy5.out.ul ⟨w5.heap.size,0,ae⟩ b rfl apN.out LL.out.1 ?_)
   intro vy6 y6 oy6 ac3 iy6
   obtain⟨ay6,cy6,rfl,-⟩:=oy6.shape
   obtain⟨ly6,ag'⟩:=bP ((cb++[b]).length)
   have Qy6:=aH (Qy5.out.adp oy6 ac3 iy6)
   have aoJ:=aH ((ac3.block _ (aT Ny5.out) (λe=>by have:=aiV.out _ e.symm;have:=Qy1.out.ch.size;have:w5.drew.heap.size=w5.heap.size:=rfl;omega)).trans Ny5.out)
   rw[ag']at Qy6 ⊢
   clear oy6 ac3 iy6 ag'
   go_wp2_with fail
   refine⟨⟨⟨_,(eM.out _ _ _ _ _ Qy6.out)⟩,rfl⟩,?_⟩
   refine aS rfl ?_ rfl
   have apM:=aH (jQ (v:=aA (ag ⟨b,0,ae⟩)) aoJ.out)
   go_wp2_with (at_builtin;refine iM (o:=⟨ag 59,_,_,_,_,_⟩) rfl 116 119 rfl Tryz.underlying116 Tryz.mV rfl (by decide) (by decide) nu jB oX L rfl Qy6.out.act ⟨y1.heap.size,0,ae⟩ b rfl apM.out LL.out.2 ?_)
   intro vy7 y7 oy7 ahu iy7
   obtain⟨ay7,cy7,rfl,-⟩:=oy7.shape
   obtain⟨ly7,ag9⟩:=bP ((L++[b]).length)
   have Qy7:=aH (Qy6.out.adq oy7 ahu iy7)
   rw[ag9]at Qy7 ⊢
   clear oy7 ahu iy7 ag9
   go_wp2_with fail
   refine⟨⟨⟨_,(eM.out _ _ _ _ _ Qy7.out)⟩,rfl⟩,?_⟩
   refine aX 2 (by kernel_rfl) ?_
   simp only[aJ,aO,aI,aL]
   repeat (go_big_quiet_step (fail))
   refine aU ?_
   refine bF ?_
   unfold dh cC
   dsimp only
   clear dF qR
   change wpList _ _ _ _ _ _
   have f12:=Qy7.out.row.free 12
   have f13:=Qy7.out.row.free 13
   have k12:=(eM.out _ _ _ _ _ Qy7.out).1
   have k13:=(eM.out _ _ _ _ _ Qy7.out).2
   have kb:=IDC.out _ _ _ _ _ Qy7.out
   go_wp2_with fail
   go_ret2
   have BF:=(Qy7.out.set 12 (aB ay6 ly6 cy6)).set 13 (aB ay7 ly7 cy7)
   obtain⟨g2,c2,e2⟩:=P5.out.begin OK.out WP.out a R5.out S5.out NB.out (cv:=aB ay6 ly6 cy6) (av:=aB ay7 ly7 cy7) (by rw[EL.out];exact BF)
   refine⟨by rw[<-WP.out,DX.out.2.1];rfl,g2,b,CW.out.any.trans c2,⟨_,_,_,e2⟩⟩
 ·simp only[pick,aV,a8,aQ,aR]
  refine aS rfl ?_ rfl
  obtain⟨y8,Yo,By8,Ny8⟩:=bG w5.drew #[aA (ag ⟨b,0,ae⟩)] 119
  go_wp2_with fail
  have Qy8:=aH (BDR.out.low By8.out)
  refine⟨⟨⟨_,(eM.out _ _ _ _ _ Qy8.out)⟩,rfl⟩,?_⟩
  refine aS rfl ?_ rfl
  obtain⟨y9,hy9,By9,Ny9⟩:=bG y8 #[aA (ag ⟨b,0,ae⟩)] 119
  go_wp2_with fail
  have Qy9:=aH (Qy8.out.low By9.out)
  have aiS:=aH ((By9.out.block _ (aT Ny8.out)).trans Ny8.out)
  refine⟨⟨⟨_,(eM.out _ _ _ _ _ Qy9.out)⟩,rfl⟩,?_⟩
  refine aS rfl ?_ rfl
  have ajE:=aH (jQ (v:=aA (ag ⟨b,0,ae⟩)) Ny9.out)
  go_wp2_with (at_builtin;refine cY (o:=⟨ag 52,_,_,_,_,_⟩) rfl _ _ 116 119 rfl Tryz.underlying116 Tryz.mV rfl (by decide) (by decide) nu jB oX _ cb rfl Qy9.out.ul ⟨y8.heap.size,0,ae⟩ b rfl ajE.out LL.out.1 ?_)
  intro auf zG ab7 Un agI
  obtain⟨ahX,ahL,rfl,-⟩:=ab7.shape
  obtain⟨agB,aay⟩:=bP ((cb++[b]).length)
  have Zn:=aH (Qy9.out.adp ab7 Un agI)
  have aiT:=aH ((Un.block _ (aT aiS.out) (λe=>by have:=aiV.out _ e.symm;have:=BDR.out.ch.size;have:w5.drew.heap.size=w5.heap.size:=rfl;omega)).trans aiS.out)
  rw[aay]at Zn ⊢
  clear ab7 Un agI aay
  go_wp2_with fail
  refine⟨⟨⟨_,(eM.out _ _ _ _ _ Zn.out)⟩,rfl⟩,?_⟩
  refine aS rfl ?_ rfl
  have ajD:=aH (jQ (v:=aA (ag ⟨b,0,ae⟩)) aiT.out)
  go_wp2_with (at_builtin;refine iM (o:=⟨ag 59,_,_,_,_,_⟩) rfl 116 119 rfl Tryz.underlying116 Tryz.mV rfl (by decide) (by decide) nu jB oX L rfl Zn.out.act ⟨w5.heap.size,0,ae⟩ b rfl ajD.out LL.out.2 ?_)
  intro aue Ef ab6 aaM agH
  obtain⟨ahW,ahK,rfl,-⟩:=ab6.shape
  obtain⟨agA,aax⟩:=bP ((L++[b]).length)
  have Hy:=aH (Zn.out.adq ab6 aaM agH)
  rw[aax]at Hy ⊢
  clear ab6 aaM agH aax
  go_wp2_with fail
  refine⟨⟨⟨_,(eM.out _ _ _ _ _ Hy.out)⟩,rfl⟩,?_⟩
  refine aX 2 (by kernel_rfl) ?_
  simp only[aJ,aO,aI,aL]
  repeat (go_big_quiet_step (fail))
  refine aU ?_
  refine bF ?_
  unfold dh cC
  dsimp only
  clear dF qR
  change wpList _ _ _ _ _ _
  have f12:=Hy.out.row.free 12
  have f13:=Hy.out.row.free 13
  have k12:=(eM.out _ _ _ _ _ Hy.out).1
  have k13:=(eM.out _ _ _ _ _ Hy.out).2
  have kb:=IDC.out _ _ _ _ _ Hy.out
  go_wp2_with fail
  go_ret2
  have BF:=(Hy.out.set 12 (aB ahX agB ahL)).set 13 (aB ahW agA ahK)
  obtain⟨g2,c2,e2⟩:=P5.out.begin OK.out WP.out a R5.out S5.out NB.out (cv:=aB ahX agB ahL) (av:=aB ahW agA ahK) (by rw[EL.out];exact BF)
  refine⟨by rw[<-WP.out,DX.out.2.1];rfl,g2,b,CW.out.any.trans c2,⟨_,_,_,e2⟩⟩
end
end
end Go.Proofs.YtooinenkenobaaaGreat

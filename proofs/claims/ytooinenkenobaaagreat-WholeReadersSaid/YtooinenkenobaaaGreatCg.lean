/- A part of the proof of what LawWholeReaders says. -/
import Derived.Test.YtooinenkenobaaaGreatAa
import Derived.Test.YtooinenkenobaaaGreatCf
import Derived.Test.YtooinenkenobaaaGreatBl
set_option maxRecDepth 100000
set_option maxHeartbeats 20000000
namespace Go.Proofs.YtooinenkenobaaaGreat
open Option renaming none->ae,some->ag
open Bool renaming false->ah,true->aj
open Go.Proofs.Tryz renaming prog->ax
open Go.Value renaming int->ay,pointer->aA,slice->aB,bool->aC,float->aD
open Go.IntKind renaming i64->az
open Go.FloatKind renaming f64->aE
open Go.Ending renaming returned->aF
open Go.Obj renaming cells->aG
open Go renaming World->am,Value->ar,TypeId->au,Calls->aw
section
open Go.RowKit Go.Maps
theorem yq(b:Nat):∀(n:Nat) (a:List By),(gK b n a).map fw.id=(List.range' n a.length).map (λj=>((b+j:Nat):Int))
 | _,[]=>rfl
 | n,d::a=>by
  simp only[gK,aV,bV,List.range'_succ]
  rw[yq b (n+1) a]
theorem Cw{c n:Nat}{d:List By}:((gK c n d).map fw.id).Nodup:=by
 rw[yq]
 refine List.Pairwise.map (R:=(·≠·)) _ (λa b h e=>h ?_) List.nodup_range'
 omega
def Rw(E:fm)(held line:List fw):fm:={ E with held:=held,line:=line }
def Qk(E:fm)(cs:List CV)(held line:List fw)(a:List By)(tk:Nat):fm:={ E with cs:=cs,held:=held,line:=line,batch:=a,tk:=tk }
section
variable{K:dw}{P:jx}{R:oG}
theorem dZ.an8{w w':am}{g g':Tg}{a e:Nat}{E:fm}{d:List Nat}{i f b:Lit->Option ar}(H:dZ w g a e K P E d R i f)(c:Ch [50,53,55] g w g' w')(h:List By)(tk:Nat)(bv:ar)(l:Row w' g' 50 a (jP K P { R with bv:=bv } ((K.b0+E.D.length:Nat):Int) E.begun E.cT) 122)
 (k:Qx w' g' K.b0 R.dm E.D.length b E.D tk) (j:tr w' g' bv h):dZ w' g' a e K P { E with batch:=h,tk:=tk } d { R with bv:=bv } b f:=
 ⟨l,H.log.ch c (by decide),H.zL.ch c (by decide),H.Ek.ch c (by decide),H.clk.ch c (by decide),H.ul.ch c (by decide),H.act.ch c (by decide),k,H.A8.ch c (by decide),H.r',H.ld,j,H.cls.ch c (by decide),H.cw,H.now⟩
theorem UJ(eb db b:Nat)(E:fm)(cb:List Nat)(fd fl:Lit->Option ar)(w:am)(g:Tg)(H:dZ w g eb db K P E cb R fd fl)(h:fy K E)(hK:kX K)(hd:E.D.length<=1000)(T EQ:List fw×List fw)(L:List Int)(hT:iN K.most K.fj E.held [] 0=T)(hE:eZ K.cap K.dO T.2 E.line=(EQ.1,EQ.2,L)):
 aw ax 272 #[aA (ag ⟨eb,0,ae⟩),aA (ag ⟨b,0,ae⟩)] w λe w'=>e=aF (iU 7)/\∃g' R' Ai fl',Ch [30,31,33,50,53,54,55,60] g w g' w'/\dZ w' g' eb db K P (Qk E (lB K.b0 E.ow E.cs L) EQ.1 EQ.2 (T.1.map (λx:fw=>E.D[(x.id-(K.b0:Int)).toNat]?.getD [])) (E.tk+T.1.length)) cb R' Ai fl':=by
 obtain⟨w1,gv,dJ,dL⟩:=bG w #[ay az 0,.nilFunc,.nilFunc] 131
 obtain⟨G,c1,n1,-⟩:=ku (g:=g) dJ.out dL.out
 have C1:=aH c1
 have N1:=aH n1
 have H1:=aH (H.ch C1.out (λ_ _ h=>by cases h))
 have cd1:Ch [] G w1 G w1.drew:=Ch.bh [] G (bi w1)
 have ids:∀x∈E.held,∃j,x.id=((K.b0+j:Nat):Int)/\j<E.D.length:=λx hx=>by
  have hm:x∈gK K.b0 E.tk (E.D.drop E.tk):=by rw[<-h.q];exact List.mem_append_left _ hx
  obtain⟨j,hj⟩:=aj1.1 hm
  rw[jM]at hj
  cases hy:(E.D.drop E.tk)[j]? with
  | none=>rw[hy]at hj;cases hj
  | some y=>
   rw[hy]at hj
   injection hj with hj
   have:=(aK.1 hy).1
   rw[cV]at this
   exact⟨E.tk+j,by rw[<-hj],by omega⟩
 have TAK:=aH (ab0 R.qb K.cap K.dO E.held E.line ((K.b0+E.D.length:Nat):Int) E.D.length K.most K.fj w1.drew G (H1.out.zL.ch cd1 (by decide)) (λx hx=>by obtain⟨j,e,l⟩:=ids x hx;have:=hK.b2;omega))
 rw[hT,hE]at TAK
 have e9:w1.cell? ⟨eb,9,ae⟩=ag (aA (ag ⟨R.qb,0,ae⟩)):=H1.out.row.cell 9
 have e4:w1.cell? ⟨eb,4,ae⟩=ag (ay az K.most):=H1.out.row.cell 4
 have e5:w1.cell? ⟨eb,5,ae⟩=ag (ay az K.fj):=H1.out.row.cell 5
 have OK:=aH h
 have KK:=aH hK
 have HT:=aH hT
 have HEQ:=aH hE
 have DL:=aH hd
 clear H h hK hd hT hE c1 n1 cd1 ids
 go_in
 go_wp2_with fail
 have qR:∀p:In (λw'=>w'.cell? ⟨eb,9,ae⟩=ag (aA (ag ⟨R.qb,0,ae⟩))/\w'.cell? ⟨eb,4,ae⟩=ag (ay az K.most)/\w'.cell? ⟨eb,5,ae⟩=ag (ay az K.fj)),p.w.cell? ⟨eb,9,ae⟩=ag (aA (ag ⟨R.qb,0,ae⟩))/\p.w.cell? ⟨eb,4,ae⟩=ag (ay az K.most)/\p.w.cell? ⟨eb,5,ae⟩=ag (ay az K.fj):=λp=>p.h
 refine bX [0,1,2,3,4,5,6,7,8,9,10,11,12,13,14,15,16,17,18,19,20,21] (λw'=>w'.cell? ⟨eb,9,ae⟩=ag (aA (ag ⟨R.qb,0,ae⟩))/\w'.cell? ⟨eb,4,ae⟩=ag (ay az K.most)/\w'.cell? ⟨eb,5,ae⟩=ag (ay az K.fj)) (by kernel_rfl) (by kernel_rfl) (by intro c a d v w h;cases d <;> exact h) ⟨e9,e4,e5⟩ ?_
 intro dF
 simp only[pick,aV,a8,aQ,aR]
 refine aX 16 (by kernel_rfl) ?_
 simp only[aJ,aO,aI,aL]
 repeat (go_big_quiet_step (fail))
 refine aU ?_
 refine aS rfl ?_ rfl
 go_wp2_with fail
 refine TAK.out.mono ?_
 rintro e w2 ⟨g2,vo,vi,rfl,c2',q2,o2,i2⟩
 have c2:Ch [30,31,33] G w1 g2 w2:=(Ch.bh _ G (bi w1)).trans c2'
 have C2:=aH c2
 have O2:=aH o2
 have I2:=aH i2
 have N2:=aH (N1.out.ch c2 (by decide))
 obtain⟨m2,m2l,m2e,-⟩:=uW K.cap K.dO E.line T.2
 rw[HEQ.out]at m2e
 injection m2e with me1 me2
 injection me2 with me2 me3
 have H2:=aH (show dZ w2 g2 eb db K P (Rw E EQ.1 EQ.2) cb R fd fl from⟨H1.out.row.ch c2 (by decide),H1.out.log.ch c2 (by decide),q2,H1.out.Ek.ch c2 (by decide),H1.out.clk.ch c2 (by decide),H1.out.ul.ch c2 (by decide),H1.out.act.ch c2 (by decide),H1.out.sg.ch c2 (by decide) (by decide),H1.out.A8.ch c2 (by decide),λy hy=>H1.out.r' y (by
  have hy':y∈EQ.2:=hy
  rw[me2]at hy'
  exact List.mem_of_mem_drop hy'),H1.out.ld,H1.out.xy.ch c2 (by decide) (by decide),H1.out.cls.ch c2 (by decide),H1.out.cw,H1.out.now⟩)
 have d9:w2.cell? ⟨eb,9,ae⟩=ag (aA (ag ⟨R.qb,0,ae⟩)):=H2.out.row.cell 9
 have d4:w2.cell? ⟨eb,4,ae⟩=ag (ay az K.most):=H2.out.row.cell 4
 have d5:w2.cell? ⟨eb,5,ae⟩=ag (ay az K.fj):=H2.out.row.cell 5
 have M2:=aH (And.intro m2l (And.intro me2 me3))
 clear c2 c2' q2 o2 i2 m2l me1 me2 me3
 go_wp2_with fail
 refine⟨⟨⟨_,⟨d9,d4,d5⟩⟩,rfl⟩,?_⟩
 refine aX 5 (by kernel_rfl) ?_
 simp only[aJ,aO,aI,aL]
 repeat (go_big_quiet_step (fail))
 refine aU ?_
 refine bF ?_
 clear dF qR
 clear e9 e4 e5 d9 d4 d5
 have ln:E.line=gK K.b0 (E.tk+E.held.length) (E.D.drop (E.tk+E.held.length)):=by
  have q:=OK.out.q
  have:=congrArg (List.drop E.held.length) q
  rw[List.drop_left,ri,KT]at this
  exact this
 have lnd:(E.line.map fw.id).Nodup:=by rw[ln];exact Cw
 have ENT:=aH (UN eb db (Rw E EQ.1 EQ.2) cb fd fl L vi w2 g2 H2.out I2.out (λz hz=>by
  rw[M2.out.2.2]at hz
  obtain⟨x,hx,rfl⟩:=qG.1 hz
  have hxl:=Az hx
  obtain⟨j,e1,e2⟩:=Ly OK.out hxl
  have b2:=KK.out.b2
  have dl:=DL.out
  refine⟨H1.out.r' x hxl,by omega,?_⟩
  show E.ow[(x.id-(K.b0:Int)).toNat]?.getD 0<E.cs.length
  rw[e1,show(((K.b0+j:Nat):Int)-(K.b0:Int)).toNat=j by omega,aP (by rw[OK.out.ow];exact e2)]
  exact OK.out.owl _ (qH _)) (by
   rw[M2.out.2.2,List.map_take]
   exact lnd.sublist (List.take_sublist _ _)) (λy hy z hz e=>by
   have hy':y∈EQ.2:=hy
   rw[M2.out.2.1]at hy'
   rw[M2.out.2.2]at hz
   obtain⟨x,hx,rfl⟩:=qG.1 hz
   rw[<-fO m2 E.line,gM,vC]at lnd
   exact lnd.2.2 x.id (qG.2 ⟨x,hx,rfl⟩) y.id (qG.2 ⟨y,hy',rfl⟩) e.symm) (by
   rw[M2.out.2.2,bZ,dg]
   have:=OK.out.qb.ll
   omega))
 clear ln lnd
 go_wp2_with fail
 refine ENT.out.mono ?_
 rintro e w3 ⟨rfl,fl3,c3,h3⟩
 have C3:=aH c3
 have H3:=aH h3
 have N3:=aH (N2.out.ch c3 (by decide))
 have O3:=aH (O2.out.ch c3 (by decide))
 have Mp:w3.cell? ⟨eb,19,ae⟩=ag R.bv:=H3.out.row.cell 19
 have f19:=H3.out.row.free 19
 clear c3 h3
 obtain⟨oa,oc,hov,-⟩:=O3.out.own.shape
 obtain⟨n,hn⟩:=bP T.1.length
 have HN:=aH hn
 rw[hn]at hov
 subst hov
 have CR:n<=100000:=by
  obtain⟨m1,m1l,m1e,-⟩:=tK K.most K.fj E.held [] 0
  rw[HT.out]at m1e
  have:=OK.out.qb.hl
  have:=OK.out.qb.c2
  rw[<-hn,m1e]
  simp
  omega
 clear hn
 go_wp2_with fail
 obtain⟨x,hx⟩:=bP (w3.setCell ⟨eb,19,ae⟩ (aB ae 0 0))
 have cx:Ch [50] g2 w3 g2 x:=by rw[<-hx];exact(Ch.refl _ _ _).set _ (.inl (by rw[H3.out.row.tag];decide))
 have HX:=aH (show dZ x g2 eb db K P (Qk E (lB K.b0 E.ow E.cs L) EQ.1 EQ.2 [] E.tk) cb { R with bv:=aB ae 0 0 } fd fl3 from by
  have h:=H3.out
  exact⟨by rw[<-hx];exact h.row.set 19 (aB ae 0 0),h.log.ch cx (by decide),h.zL.ch cx (by decide),h.Ek.ch cx (by decide),h.clk.ch cx (by decide),h.ul.ch cx (by decide),h.act.ch cx (by decide),h.sg.ch cx (by decide) (by decide),h.A8.ch cx (by decide),h.r',h.ld,tr.nil _ _,h.cls.ch cx (by decide),h.cw,h.now⟩)
 have NX:=aH (N3.out.ch cx (by decide))
 have OX:=aH (O3.out.ch cx (by decide))
 have CX:=aH (show Ch [30,31,33,50,53,54,55,60] g w g2 x from((C1.out.any.trans (C2.out.mono (by decide))).trans (C3.out.mono (by decide))).trans (cx.mono (by decide)))
 rw[hx]
 obtain⟨m1,m1l,m1e,-⟩:=tK K.most K.fj E.held [] 0
 rw[HT.out]at m1e
 have t1:T.1=E.held.take m1:=by rw[m1e];simp
 have T1:=aH t1
 clear hx cx Mp f19 m1e t1 m1l
 have items:=aH (show ∀k y,T.1[k]?=ag y->y.id=((K.b0+(E.tk+k):Nat):Int)/\E.tk+k<E.D.length from λk y hy=>by
  rw[T1.out,dt]at hy
  split at hy
  ·have:(E.held++E.line)[k]?=ag y:=by rw[bI (aK.1 hy).1];exact hy
   rw[OK.out.q,jM]at this
   cases hz:(List.drop E.tk E.D)[k]? with
   | none=>rw[hz]at this;cases this
   | some z=>
    rw[hz]at this
    injection this with hh
    have ll:=(aK.1 hz).1
    rw[cV]at ll
    exact⟨by rw[<-hh],by omega⟩
  ·cases hy)
 go_loopw [37] (λi wr=>∃(k:Nat) (xx:ar) (Ai:Lit->Option ar) (gr:Tg),k<=n/\i=ay az k/\Hid (dZ wr gr eb db K P (Qk E (lB K.b0 E.ow E.cs L) EQ.1 EQ.2 ((T.1.take k).map (λx:fw=>E.D[(x.id-(K.b0:Int)).toNat]?.getD [])) (E.tk+k)) cb { R with bv:=xx } Ai fl3)/\Hid (Ch [50,53,55] g2 x gr wr)) (λi _=>n-(intOf i).toNat)
 case atStart=>exact⟨0,_,fd,g2,cF _,rfl,HX,aH (Ch.refl _ _ _)⟩
 case round=>
  obtain⟨k,xx,Ai,gr,hk,rfl,HE,HC⟩:=hrel
  by_cases fp:k<n
  ·have kz:(k:Int)<(n:Int):=by omega
   have KL:=aH (show k<T.1.length by rw[HN.out];exact fp)
   obtain⟨y,hy⟩:∃y,T.1[k]?=ag y:=⟨_,aP KL.out⟩
   have HY:=aH hy
   obtain⟨yid,ylt⟩:=items.out k y hy
   obtain⟨d,hd⟩:∃d,E.D[E.tk+k]?=ag d:=⟨_,aP ylt⟩
   have HD:=aH hd
   obtain⟨dv,fdv,sdv⟩:=HE.out.sg.ie (E.tk+k) d dx hd
   obtain⟨da,dc,rfl,-⟩:=sdv.ex
   have SDV:=aH sdv
   have OE:=OX.out.ch HC.out (by decide)
   obtain⟨q,cc,e1,-,-,hcell,-⟩:=OE.own.get iv hy
   rw[HN.out]at e1
   injection e1 with e1 e2 e3
   subst e1 e3
   clear e2
   obtain⟨z,hz⟩:=bP y.id
   obtain⟨sz,lC⟩:=bP y.size
   have z0:wr.cell? ⟨q,k*2,ae⟩=ag (ay az z):=by rw[<-hz];exact hcell 0 (by decide)
   have z1:wr.cell? ⟨q,k*2+1,ae⟩=ag (ay az sz):=by rw[<-lC];exact hcell 1 (by decide)
   rw[hz]at yid
   rw[<-yid]at fdv
   have ZI:=aH yid
   obtain⟨dn,wQ⟩:=bP d.length
   rw[wQ]at SDV fdv
   clear hy hd sdv OE hcell hz lC yid ylt wQ
   obtain⟨w4,Pa,zP,IB⟩:=bG wr #[ay az z,ay az sz] 397
   have kw4:=gc IB.out
   have H4:=aH (HE.out.low zP.out)
   have N4:=aH IB.out
   have Mp:w4.cell? ⟨eb,19,ae⟩=ag xx:=H4.out.row.cell 19
   have e14:w4.cell? ⟨eb,14,ae⟩=ag (.map (ag R.dm)):=H4.out.row.cell 14
   have zb:-9223372036854775808<=z/\z<=9223372036854775807:=by have:=ZI.out;have:=KK.out.b2;have:=DL.out;have:=(items.out k y HY.out).2;omega
   have lk:=(H4.out.sg.map.map.move (w':=w4.drew) rfl).look (z:=aB ae 0 0) (key:=ay az z) (kl:=kI z) ly Tryz.underlying117 (by kernel_rfl) (uO zb) trivial
   rw[fdv]at lk
   have lk2:(Instr.lookup 117 (.map (ag R.dm)) (ay az z) ah).run ax w4.drew=.ok (aB da dn dc) w4.drew:=lk
   have ZB:=aH zb
   obtain⟨vs,ovr,vl,va⟩:=HE.out.xy.ex
   have ov:=ovr.below zP.out
   have OV:=aH ov
   have OT:=aH (show ∀q,xx.ownBlock=ag q->gr q=55/\q<wr.heap.size from λq hq=>⟨ovr.tag q hq,ovr.own.lt q hq⟩)
   have VL:=aH vl
   have VA:=aH va
   clear lk ov ovr vl va zb fdv
   go_wp2_with fail
   clear z0 z1
   have qR:∀p:In (λw'=>w'.cell? ⟨eb,19,ae⟩=ag xx/\w'.cell? ⟨eb,14,ae⟩=ag (.map (ag R.dm))/\w'.cell? ⟨wr.heap.size,0,ae⟩=ag (ay az z)),p.w.cell? ⟨eb,19,ae⟩=ag xx/\p.w.cell? ⟨eb,14,ae⟩=ag (.map (ag R.dm))/\p.w.cell? ⟨wr.heap.size,0,ae⟩=ag (ay az z):=λp=>p.h
   refine ct [0,1,2,3,4,5,6,7,8,9,10,11,12,13,14,15] 16 (λw'=>w'.cell? ⟨eb,19,ae⟩=ag xx/\w'.cell? ⟨eb,14,ae⟩=ag (.map (ag R.dm))/\w'.cell? ⟨wr.heap.size,0,ae⟩=ag (ay az z)) (by kernel_rfl) (by kernel_rfl) (by intro c a d v w h;cases d <;> exact h) ⟨Mp,e14,aZ 0 N4.out⟩ ?_
   intro dF
   simp only[pick,aV,a8,aQ,aR,aI,aL]
   refine aX 11 (by kernel_rfl) ?_
   simp only[aJ,aO,aI,aL]
   repeat (go_big_quiet_step (fail))
   refine aU ?_
   refine aS rfl ?_ rfl
   go_wp2_with fail
   have D4:=aH (show w4.drew.cell? ⟨eb,19,ae⟩=ag xx/\w4.drew.cell? ⟨eb,14,ae⟩=ag (.map (ag R.dm))/\w4.drew.cell? ⟨wr.heap.size,0,ae⟩=ag (ay az z)from⟨Mp,e14,aZ 0 N4.out⟩)
   refine⟨⟨⟨_,D4.out⟩,rfl⟩,?_⟩
   clear lk2
   obtain⟨w5,oA,Nw,DS⟩:=bG w4.drew #[aB da dn dc] 48
   refine aS rfl ?_ rfl
   go_wp2_with fail
   have B5:=aH (aM (bi w4) Nw.out)
   have H5:=aH (H4.out.low B5.out)
   have N5:=aH ((B5.out.block _ (aT N4.out)).trans N4.out)
   have ahF:w5.cell? ⟨eb,19,ae⟩=ag xx:=H5.out.row.cell 19
   refine⟨⟨⟨_,⟨ahF,H5.out.row.cell 14,aZ 0 N5.out⟩⟩,rfl⟩,?_⟩
   have CN:=iT w4.drew (zU (da,dn,dc)) 48
   have CN5:∀j u,(zU (da,dn,dc))[j]?=ag u->w5.cell? ((⟨w4.heap.size,0,ae⟩:Addr).add j)=ag u:=by rw[<-oA];exact CN
   have OV5:=aH (OV.out.own.below B5.out)
   have VLn:=aH (show vs.length<=1000000 by rw[VL.out,show(Qk E (lB K.b0 E.ow E.cs L) EQ.1 EQ.2 ((T.1.take k).map (λx:fw=>E.D[(x.id-(K.b0:Int)).toNat]?.getD [])) (E.tk+k)).batch.length=((T.1.take k).map (λx:fw=>E.D[(x.id-(K.b0:Int)).toNat]?.getD [])).length from rfl,bZ,dg];omega)
   clear CN Mp e14
   refine aS rfl ?_ rfl
   go_wp2_with (at_builtin;refine cY (o:=⟨ag 54,_,_,_,_,_⟩) rfl _ _ 120 48 rfl Tryz.underlying120 Tryz.acv rfl (by decide) (by decide) zU rO xh xx vs rfl OV5.out ⟨w4.heap.size,0,ae⟩ (da,dn,dc) rfl CN5 VLn.out ?_)
   intro v6 w6 o6 g6 i6
   obtain⟨a6,c6,rfl,-⟩:=o6.shape
   obtain⟨l6,Ue⟩:=bP ((vs++[(da,dn,dc)]).length)
   have O6:=aH o6
   have I6:=aH i6
   have G6:=aH g6
   rw[Ue]at O6 I6 ⊢
   have WQ:=aH (H5.out.row.grown g6 (λe=>by have:=(OT.out eb e.symm).1;rw[H5.out.row.tag]at this;cases this))
   have MD6:=aH (show i9 w6 gr 53 2 R.dm E.D.length Ai from⟨H5.out.sg.map.map.move (g6.block _ H5.out.sg.map.map.lt (λe=>by have:=(OT.out R.dm e.symm).1;rw[H5.out.sg.map.tag]at this;cases this)),H5.out.sg.map.tag⟩)
   have N6:=aH ((g6.block _ (aT N5.out) (λe=>by have:=(OT.out _ e.symm).2;omega)).trans N5.out)
   clear o6 g6 i6 Ue ahF
   go_wp2_with fail
   refine⟨⟨⟨_,⟨WQ.out.cell 19,WQ.out.cell 14,aZ 0 N6.out⟩⟩,rfl⟩,?_⟩
   refine aX 2 (by kernel_rfl) ?_
   simp only[aJ,aO,aI,aL]
   repeat (go_big_quiet_step (fail))
   refine aU ?_
   refine bF ?_
   clear dF qR
   change wpList _ _ _ _ _ _
   have k19:w6.cell? ⟨eb,19,ae⟩=ag xx:=WQ.out.cell 19
   have f19:=WQ.out.free 19
   obtain⟨x7,A'⟩:=bP (w6.setCell ⟨eb,19,ae⟩ (aB a6 l6 c6))
   have ER7:=aH (show Row x7 gr 50 eb _ _ from by rw[<-A'];exact WQ.out.set 19 (aB a6 l6 c6))
   have nw:wr.heap.size≠eb:=by have:=HE.out.row.lt;omega
   have N7:=aH (show x7.heap[wr.heap.size]?=ag (aG #[ay az z,ay az sz] 397 (0,0))from by rw[<-A'];exact(bD nw).trans N6.out)
   have MD7:=aH (show i9 x7 gr 53 2 R.dm E.D.length Ai from by rw[<-A'];exact MD6.out.iZ (λe=>by have:=MD6.out.tag;rw[e,WQ.out.tag]at this;cases this))
   go_wp2_with fail
   have qR:∀p:In (λw'=>w'.cell? ⟨eb,14,ae⟩=ag (.map (ag R.dm))/\w'.cell? ⟨wr.heap.size,0,ae⟩=ag (ay az z)),p.w.cell? ⟨eb,14,ae⟩=ag (.map (ag R.dm))/\p.w.cell? ⟨wr.heap.size,0,ae⟩=ag (ay az z):=λp=>p.h
   refine ct [0,1,2,3,4,5] 6 (λw'=>w'.cell? ⟨eb,14,ae⟩=ag (.map (ag R.dm))/\w'.cell? ⟨wr.heap.size,0,ae⟩=ag (ay az z)) (by kernel_rfl) (by kernel_rfl) (by intro c a d v w h;cases d <;> exact h) ⟨ER7.out.cell 14,aZ 0 N7.out⟩ ?_
   intro dF
   simp only[pick,aV,a8,aQ,aR,aI,aL]
   refine aX 6 (by kernel_rfl) ?_
   simp only[aJ,aO,aI,aL]
   repeat (go_big_quiet_step (fail))
   refine aU ?_
   refine bF ?_
   clear dF qR
   change wpList _ _ _ _ _ _
   go_wp2_with (at_delete;refine mL rfl 117 2 rfl 48 ly Tryz.underlying117 R.dm E.D.length Ai rfl (MD7.out.map.move rfl) rfl (uO ZB.out) ?_)
   intro w8 M8 g8
   have lte:=HE.out.row.lt
   have ltd:R.dm<wr.heap.size:=HE.out.sg.map.map.lt
   have tge:gr eb=50:=HE.out.row.tag
   have tgd:gr R.dm=53:=HE.out.sg.map.tag
   have cB0:Ch [50,53,55] gr wr gr x7:=by
    rw[<-A']
    exact((((Ch.bh [50,53,55] gr zP.out).on B5.out).grown G6.out (λq hq=>.inl (by rw[(OT.out q hq.symm.symm).1];decide))).set _ (.inl (by rw[tge];decide)))
   have c78:Ch [53] gr x7 gr w8:=((Ch.refl [53] gr x7).on (bi x7)).grown g8 (λq hq=>.inl (by cases hq;rw[tgd];decide))
   have cB1:Ch [50,53,55] gr wr gr w8:=cB0.trans (c78.mono (by decide))
   obtain⟨G8,hG8⟩:=bP (eJ gr wr.heap.size 55)
   have cB:Ch [50,53,55] gr wr G8 w8:=by rw[<-hG8];exact cB1.eJ dx
   have go:∀q,q<wr.heap.size->G8 q=gr q:=λq hq=>by rw[<-hG8];exact dU hq
   have gn:∀q,wr.heap.size<=q->G8 q=55:=λq hq=>by rw[<-hG8];exact dQ hq
   have tk1:T.1.take (k+1)=T.1.take k++[y]:=by rw[ip,HY.out];rfl
   have dy:E.D[(y.id-(K.b0:Int)).toNat]?.getD []=d:=by
    rw[(items.out k y HY.out).1,show(((K.b0+(E.tk+k):Nat):Int)-(K.b0:Int)).toNat=E.tk+k by omega,HD.out]
    rfl
   have rw8:Row w8 G8 50 eb (jP K P { R with bv:=aB a6 l6 c6 } ((K.b0+E.D.length:Nat):Int) E.begun E.cT) 122:=(ER7.out.ch c78 (by decide)).gE (go eb lte)
   have dt8:Qx w8 G8 K.b0 R.dm E.D.length (oD Ai (kI z)) E.D (E.tk+(k+1)):=⟨⟨M8,(go _ ltd).trans tgd⟩,λk' d' tD hd'=>by
    obtain⟨v,h1,h2⟩:=HE.out.sg.ie k' d' (show E.tk+k<=k' by omega) hd'
    refine⟨v,?_,h2.ch cB (by decide)⟩
    unfold oD
    rw[bf (λe=>by unfold kI at e;injection e with _ e;have:=ZI.out;omega)]
    exact h1⟩
   have ab8:∀q,(Value.slice a6 l6 c6).ownBlock=ag q->w8.heap[q]?=w6.heap[q]?/\G8 q=55:=λq hq=>by
    have lq:q<w6.heap.size:=O6.out.lt q hq
    have dF:q≠eb/\q≠R.dm/\G8 q=55:=by
     rcases I6.out q hq with h | h
     ·obtain⟨h1,h2⟩:=OT.out q h
      exact⟨λe=>absurd (by rw[e,tge]at h1;exact h1) (by decide:¬(50:Nat)=55),λe=>absurd (by rw[e,tgd]at h1;exact h1) (by decide:¬(53:Nat)=55),(go q h2).trans h1⟩
     ·have:wr.heap.size<=q:=by have:=B5.out.size;have:=zP.out.size;omega
      exact⟨by omega,by omega,gn q this⟩
    refine⟨?_,dF.2.2⟩
    have e1:x7.heap[q]?=w6.heap[q]?:=by rw[<-A'];exact bD dF.1
    rw[<-e1]
    exact g8.block q (by rw[<-A'];simp[World.setCell];exact lq) (λe=>dF.2.1 (by injection e))
   have bt8:tr w8 G8 (aB a6 l6 c6) ((T.1.take (k+1)).map (λx:fw=>E.D[(x.id-(K.b0:Int)).toNat]?.getD [])):=by
    refine⟨vs++[(da,dn,dc)],⟨O6.out.same λq hq=>(ab8 q hq).1,λq hq=>(ab8 q hq).2⟩,?_,λj u e hu he=>?_⟩
    ·rw[tk1,gM,aN,aN,VL.out]
     rfl
    ·rw[tk1,gM]at he
     have vl:vs.length=((T.1.take k).map (λx:fw=>E.D[(x.id-(K.b0:Int)).toNat]?.getD [])).length:=VL.out
     rcases cg j vs.length with hj | hj
     ·rw[bI hj]at hu
      rw[bI (by omega)]at he
      exact(VA.out j u e hu he).ch cB (by decide)
     ·have hl:=(aK.1 hu).1
      have je:j=vs.length:=by rw[aN]at hl;simp at hl;omega
      subst je
      rw[bH dx,dR]at hu
      rw[bH (by omega),vl,dR]at he
      injection hu with hu
      subst hu
      have vX:ag d=ag e:=by rw[<-dy];exact he
      injection vX with vX
      subst vX
      exact SDV.out.ch cB (by decide)
   have H8:=aH (HE.out.an8 cB _ (E.tk+(k+1)) (aB a6 l6 c6) rw8 dt8 bt8)
   have C8:=aH (HC.out.trans cB)
   clear cB0 cB1 c78 cB hG8 go gn tk1 dy rw8 dt8 ab8 bt8 lte ltd tge tgd g8 M8 A'
   go_wp2_with fail
   go_roundw
   case rel=>exact⟨k+1,_,_,G8,by omega,by go_num,H8,C8⟩
   case measure=>simp[intOf];omega
  ·obtain rfl:k=n:=by omega
   have kz:(k:Int)<=(k:Int):=by omega
   have tk:T.1.take k=T.1:=fE (by rw[HN.out];omega)
   rw[tk]at HE
   have NE:=aH (NX.out.ch HC.out (by decide))
   have CE:=aH (CX.out.trans (HC.out.mono (by decide)))
   clear tk
   go_wp2_with fail
   refine(IV wr).mono ?_
   rintro e w7 ⟨rfl,Da⟩
   have H7:=aH (HE.out.low Da)
   have N7:=aH (NE.out.below Da)
   have C7:=aH (CE.out.on Da)
   have k7:=eH N7.out.row
   clear Da
   unfold iU lO lL lK
   go_wp2_with fail
   refine bn (dM rfl w.heap.size 7 rfl rfl N7.out.row) rfl ?_
   rw[HN.out]
   exact⟨rfl,gr,_,_,_,C7.out.ga _ _ _ (.inr dx),H7.out.ch ((Ch.refl [99] gr w7).ga (b:=w.heap.size) _ _ _ (.inl (by rw[N7.out.tag];decide))) (by decide)⟩
end
end
section
theorem uK(cs:List CV)(i:Nat)(f h:CV->CV):fh (fh cs i f) i h=fh cs i (λc=>h (f c)):=by
 apply jc
 intro j
 rw[dB,dB,dB]
 by_cases e:i=j
 ·rw[bj e,bj e,bj e,Option.map_map]
  rfl
 ·rw[bf e,bf e,bf e]
theorem Jn{cs:List CV}{i:Nat}{c:CV}{f h:CV->CV}(a:cs[i]?=ag c)(e:f c=h c):fh cs i f=fh cs i h:=by
 unfold fh
 rw[a]
 dsimp only
 rw[e]
def fT(K:dw)(E:fm)(i:Nat)(c:CV)(a:Nat):Nat×fm:=
 if c.st=1 then
  (if c.ask.kind=5 then(if c.ask.lsn<K.b0+E.du then(9,lV E i 0 c.ask.lsn (E.D[c.ask.lsn-K.b0]?.getD []))else(4,E))
  else if(lf K.cap K.dO E.held E.line ⟨((K.b0+E.D.length:Nat):Int),((16+c.ask.data.length:Nat):Int)⟩).1 then(if c.ask.kind=2 then(9,lV (mR K E i c) i 0 (K.b0+E.D.length) [])else(3,mR K E i c))else(2,mR K E i c))
 else if c.st=2 then(if c.lR then(if c.ask.kind=2 then(9,lV E i 0 c.lsn [])else(3,E))else(6,mc E i 2))
 else if c.st=3 then(if c.lsn<K.b0+E.du then(9,lV E i 0 c.lsn [])else(6,mc E i 3))
 else if c.st=4 then(if c.ask.lsn<K.b0+E.du then(9,lV E i 0 c.ask.lsn (E.D[c.ask.lsn-K.b0]?.getD []))else(6,mc E i 4))
 else if c.st=6 then
  (7,Qk E (lB K.b0 E.ow E.cs (eZ K.cap K.dO (iN K.most K.fj E.held [] 0).2 E.line).2.2) (eZ K.cap K.dO (iN K.most K.fj E.held [] 0).2 E.line).1 (eZ K.cap K.dO (iN K.most K.fj E.held [] 0).2 E.line).2.1 ((iN K.most K.fj E.held [] 0).1.map (λx:fw=>E.D[(x.id-(K.b0:Int)).toNat]?.getD [])) (E.tk+(iN K.most K.fj E.held [] 0).1.length))
 else if c.st=7 then(8,BH E)
 else(c.back,mG E a)
def Gg(p:Nat×fm)(i:Nat):fm:={ p.2 with cs:=fh p.2.cs i (λc=>{ c with st:=p.1 }) }
def GJ(p:Nat×fm)(i:Nat):fm:={ Gg p i with act:=if p.1=9 then p.2.act.erase i else p.2.act }
theorem NV(K:dw)(E:fm)(i a:Nat){c:CV}(k:E.cs[i]?=ag c)(l:c.st≠1->c.st≠2->c.st≠3->c.st≠4->c.st≠6->c.st≠7->c.back≠9):fK K E i a=GJ (fT K E i c a) i:=by
 have d:∀(E:fm) b j g,Ak E i b j g=GJ (9,lV E i b j g) i:=λE b j g=>by
  unfold Ak GJ Gg lV Pr
  dsimp only
  rw[uK]
  rfl
 have e:∀s,mU E i s=GJ (6,mc E i s) i:=λs=>by
  unfold mU GJ Gg mc
  dsimp only
  rw[uK]
  rfl
 unfold fK fT
 rw[k]
 dsimp only
 split
 ·unfold od
  split
  ·split
   ·exact d _ _ _ _
   ·rfl
  ·dsimp only
   split
   ·unfold mq
    dsimp only
    split
    ·exact d _ _ _ _
    ·rfl
   ·rfl
 ·split
  ·split
   ·unfold mq
    split
    ·exact d _ _ _ _
    ·rfl
   ·exact e 2
  ·split
   ·split
    ·exact d _ _ _ _
    ·exact e 3
   ·split
    ·split
     ·exact d _ _ _ _
     ·exact e 4
    ·split
     ·rfl
     ·split
      ·rfl
      ·unfold pT GJ Gg mG
       dsimp only
       rw[bf (l (by assumption) (by assumption) (by assumption) (by assumption) (by assumption) (by assumption)),Jn (f:=λc=>{ c with st:=c.back }) (h:=λx=>{ x with st:=c.back }) k rfl]
theorem Ss(K:dw)(E:fm)(i:Nat)(c:CV)(a:Nat):(fT K E i c a).2.act=E.act:=by
 unfold fT
 split
 ·split
  ·split <;> rfl
  ·split
   ·split <;> rfl
   ·rfl
 ·split
  ·split
   ·split <;> rfl
   ·rfl
  ·split
   ·split <;> rfl
   ·split
    ·split <;> rfl
    ·split
     ·rfl
     ·split <;> rfl
theorem XM(K:dw)(E:fm)(i:Nat)(c:CV)(d:Nat)(b:E.cs[i]?=ag c):∃a,(fT K E i c d).2.cs[i]?=ag a/\a.st=c.st:=by
 have md:∀f:CV->CV,(∀c,(f c).st=c.st)->∃a,(fh E.cs i f)[i]?=ag a/\a.st=c.st:=λf e=>by
  rw[dB,bj rfl,b]
  exact⟨_,rfl,e c⟩
 have j:∀f h:CV->CV,(∀c,(f c).st=c.st)->(∀c,(h c).st=c.st)->∃a,(fh (fh E.cs i f) i h)[i]?=ag a/\a.st=c.st:=λf h e g=>by
  rw[uK]
  exact md _ λc=>(g _).trans (e c)
 unfold fT
 split
 ·split
  ·split
   ·exact md _ λ_=>rfl
   ·exact⟨c,b,rfl⟩
  ·split
   ·split
    ·exact j _ _ (λ_=>rfl) (λ_=>rfl)
    ·exact md _ λ_=>rfl
   ·exact md _ λ_=>rfl
 ·split
  ·split
   ·split
    ·exact md _ λ_=>rfl
    ·exact⟨c,b,rfl⟩
   ·exact md _ λ_=>rfl
  ·split
   ·split
    ·exact md _ λ_=>rfl
    ·exact md _ λ_=>rfl
   ·split
    ·split
     ·exact md _ λ_=>rfl
     ·exact md _ λ_=>rfl
    ·split
     ·dsimp only[Qk]
      rw[rj,b]
      dsimp only[Option.map_some]
      split
      ·exact⟨_,rfl,rfl⟩
      ·exact⟨_,rfl,rfl⟩
     ·split <;> exact⟨c,b,rfl⟩
theorem XK(K:dw)(E:fm)(i:Nat)(c:CV)(a:Nat)(b:c.st≠1->c.st≠2->c.st≠3->c.st≠4->c.st≠6->c.st≠7->c.back=2\/c.back=3\/c.back=4):(fT K E i c a).1=2\/(fT K E i c a).1=3\/(fT K E i c a).1=4\/(fT K E i c a).1=6\/(fT K E i c a).1=7\/(fT K E i c a).1=8\/(fT K E i c a).1=9:=by
 unfold fT
 split
 ·split
  ·split <;> simp
  ·split
   ·split <;> simp
   ·simp
 ·split
  ·split
   ·split <;> simp
   ·simp
  ·split
   ·split <;> simp
   ·split
    ·split <;> simp
    ·split
     ·simp
     ·split
      ·simp
      ·have:=b (by assumption) (by assumption) (by assumption) (by assumption) (by assumption) (by assumption)
       dsimp only
       omega
end
section
open Go.RowKit Go.Maps
theorem Mm(d f:Nat)(w:am):CallsD ax 218 #[aA (ag ⟨d,0,ae⟩),aA (ag ⟨f,0,ae⟩)] .returning w λe c w'=>c=.returning/\(e=aF (.tuple #[])/\w'=w):=by
 refine callsD_of_wpS Tryz.func218 rfl λa cs b=>?_
 apply wpS_seq
 apply wpS_region
 simp[wpOpsS,go_sem,recoverD,b,Tryz.ntmps218,Exit.thenS]
 apply wpS_seq
 apply wpS_seq
 apply wpS_region
 simp[wpOpsS,go_sem,Exit.thenS]
 refine wpS_cond (t:=aj) (by simp[Act.eval,Array.replicate]) ?_
 simp only[kP]
 refine wpS_of_wp (wp_ret ?_)
 cases a
 simp_all [Exit.thenS,bodyPostS,results,Tryz.results218]
def stF:Nat->FuncId
 | 1=>225
 | 2=>261
 | 3=>249
 | 4=>251
 | 6=>272
 | 7=>280
 | _=>291
def rdF:Nat->FuncId
 | 2=>260
 | 3=>248
 | 4=>250
 | 6=>271
 | _=>224
def Open(s:Nat):Prop:=s=1\/s=2\/s=3\/s=4\/s=6\/s=7\/s=8
theorem BL{s:Nat}(h:Open s):lK s=.func (.func (stF s)) #[] #[]/\lL s=.func (.func (rdF s)) #[] #[]:=by
 rcases h with rfl | rfl | rfl | rfl | rfl | rfl | rfl <;> exact⟨rfl,rfl⟩
theorem N0{s:Nat}(h:Open s)(xs:Array ar)(w:am):(callFunc (stF s) xs).run ax w=.ok (.enter (stF s) xs) w:=by
 rcases h with rfl | rfl | rfl | rfl | rfl | rfl | rfl <;> rfl
theorem AU{s:Nat}(h:Open s)(xs:Array ar)(w:am):(callFunc (rdF s) xs).run ax w=.ok (.enter (rdF s) xs) w:=by
 rcases h with rfl | rfl | rfl | rfl | rfl | rfl | rfl <;> rfl
abbrev TS:List Nat:=[1,11,12,13,17,18,19,20,21,30,31,32,33,40,41,50,51,52,53,54,55,60]
section
variable{K:dw}{P:jx}
theorem gw.ch{T:List Nat}{w w':am}{g g':Tg}{d b:Nat}{E:fm}{a:List Nat}(h:gw w g d b K P E a)(c:Ch T g w g' w')(i:∀t,t∈TE->t∉T):gw w' g' d b K P E a:=by
 obtain⟨R,e,f,h⟩:=h.ex
 exact⟨R,e,f,h.ch c i⟩
theorem xm{E:fm}{i:Nat}{c:CV}(h:fy K E)(d:E.cs[i]?=ag c)(b:c.st≠9):Open c.st:=by
 unfold Open
 rcases h.calls i c d with⟨a,-⟩ | a | ⟨a,-⟩ | a
 ·omega
 ·rcases a with⟨a,-⟩ | ⟨a,-⟩ | ⟨a,-⟩ <;> omega
 ·omega
 ·exact absurd a b
theorem Sg{E:fm}{c:CV}(h:iX K E c=aj):c.st≠9:=λe=>by
 unfold iX at h
 rw[e]at h
 simp at h
theorem aaS(d j b i:Nat)(E:fm)(f:List Nat)(c:CV)(w:am)(g:Tg)(H:gw w g d j K P E f)(h:fy K E)(o:kW K P)(k:E.cs[i]?=ag c)(n:f[i]?=ag b)(p:c.st≠9):
 aw ax (rdF c.st) #[aA (ag ⟨d,0,ae⟩),aA (ag ⟨b,0,ae⟩)] w λe w'=>e=aF (aC (iX K E c))/\Below w.heap.size w w':=by
 obtain⟨R,l,m,H⟩:=H.ex
 have clk:c.st=6->E.begun<=E.now:=λs=>h.clk (by
  rcases h.calls i c k with⟨a,-⟩ | a | ⟨-,a,-⟩ | a
  ·omega
  ·rcases a with⟨a,-⟩ | ⟨a,-⟩ | ⟨a,-⟩ <;> omega
  ·rw[a];simp
  ·omega)
 unfold iX
 rcases xm h k p with s | s | s | s | s | s | s
 ·rw[s]
  refine(yT d b w).mono ?_
  rintro e w' ⟨rfl,rfl⟩
  exact⟨rfl,cX _ _⟩
 ·rw[s]
  exact JT d j b i E f l m c w g H k n
 ·rw[s]
  exact PH d j b i E f l m c w g H k n
 ·rw[s]
  exact PJ d j b i E f l m c w g H k n
 ·rw[s]
  exact YY d j b E f l m w g H o (clk s)
 ·rw[s]
  refine(yT d b w).mono ?_
  rintro e w' ⟨rfl,rfl⟩
  exact⟨rfl,cX _ _⟩
 ·rw[s]
  refine(yT d b w).mono ?_
  rintro e w' ⟨rfl,rfl⟩
  exact⟨rfl,cX _ _⟩
theorem ahE(p r b i:Nat)(E:fm)(o:List Nat)(c:CV)(w:am)(g:Tg)(H:gw w g p r K P E o)(h:fy K E)(I:kW K P)(m:E.cs[i]?=ag c)(B:o[i]?=ag b)(U:c.st≠9)(V:c.st=1->c.ask.kind≠5->jp K E c.ask.data)(O:E.D.length<=1000)(N:E.cT<=1000000):
 aw ax (stF c.st) #[aA (ag ⟨p,0,ae⟩),aA (ag ⟨b,0,ae⟩)] w λe w'=>∃d g',e=aF (iU (fT K E i c d).1)/\Ch TS g w g' w'/\gw w' g' p r K P (fT K E i c d).2 o:=by
 obtain⟨R,y,z,H⟩:=H.ex
 rcases xm h m U with s | s | s | s | s | s | s
 ·have ask:((c.ask.kind=1\/c.ask.kind=2)/\c.ask.lsn=0)\/(c.ask.kind=5/\K.b0<=c.ask.lsn/\c.ask.data=[]):=by
   rcases h.calls i c m with⟨-,a,-⟩ | a | ⟨a,-⟩ | a
   ·exact a
   ·rcases a with⟨a,-⟩ | ⟨a,-⟩ | ⟨a,-⟩ <;> omega
   ·omega
   ·omega
  rw[s]
  by_cases t:c.ask.kind=5
  ·refine(UD p r b i E o y z c w g H m B t (by omega) h.dl).mono ?_
   rintro e w' (⟨f,rfl,g',j,x⟩ | ⟨f,rfl,g',j,x⟩)
   ·refine⟨0,g',?_,j.mono (by decide),?_⟩
    ·unfold fT
     rw[bj s,bj t,bj f]
    ·unfold fT
     rw[bj s,bj t,bj f]
     exact⟨_,_,_,x⟩
   ·refine⟨0,g',?_,j.mono (by decide),?_⟩
    ·unfold fT
     rw[bj s,bj t,bf f]
    ·unfold fT
     rw[bj s,bj t,bf f]
     exact⟨_,_,_,x⟩
  ·have D:c.ask.kind=1\/c.ask.kind=2:=by omega
   refine(Pv p r b i E o y z c w g H h m B D (V s t) I.k O rfl).mono ?_
   rintro e w' ⟨g',S,fl',j,⟨f,x,rfl,k⟩ | ⟨f,x,rfl,k⟩ | ⟨f,rfl,k⟩⟩
   ·refine⟨0,g',?_,j.mono (by decide),?_⟩
    ·unfold fT
     rw[bj s,bf t,bj f,bj x]
    ·unfold fT
     rw[bj s,bf t,bj f,bj x]
     exact⟨_,_,_,k⟩
   ·have G:¬ c.ask.kind=2:=by omega
    refine⟨0,g',?_,j.mono (by decide),?_⟩
    ·unfold fT
     rw[bj s,bf t,bj f,bf G]
    ·unfold fT
     rw[bj s,bf t,bj f,bf G]
     exact⟨_,_,_,k⟩
   ·refine⟨0,g',?_,j.mono (by decide),?_⟩
    ·unfold fT
     rw[bj s,bf t,bf (by rw[f];decide)]
    ·unfold fT
     rw[bj s,bf t,bf (by rw[f];decide)]
     exact⟨_,_,_,k⟩
 ·have C:fx K E i c c.st:=by
   rcases h.calls i c m with⟨a,-⟩ | a | ⟨a,-⟩ | a
   ·omega
   ·exact a
   ·omega
   ·omega
  have D:c.ask.kind=1\/c.ask.kind=2:=by
   rcases C with⟨-,a,-⟩ | ⟨a,-⟩ | ⟨a,-⟩
   ·exact a
   ·omega
   ·omega
  have l:¬ c.st=1:=by omega
  rw[s]
  refine(YZ p r b i E o y z c w g H m B D).mono ?_
  rintro e w' (⟨f,x,rfl,g',j,k⟩ | ⟨f,x,rfl,g',j,k⟩ | ⟨f,rfl,g',j,k⟩)
  ·refine⟨0,g',?_,j.mono (by decide),?_⟩
   ·unfold fT
    rw[bf l,bj s,bj f,bj x]
   ·unfold fT
    rw[bf l,bj s,bj f,bj x]
    exact⟨_,_,_,k⟩
  ·have G:¬ c.ask.kind=2:=by omega
   refine⟨0,g',?_,j.mono (by decide),?_⟩
   ·unfold fT
    rw[bf l,bj s,bj f,bf G]
   ·unfold fT
    rw[bf l,bj s,bj f,bf G]
    exact⟨_,_,_,k⟩
  ·refine⟨0,g',?_,j.mono (by decide),?_⟩
   ·unfold fT
    rw[bf l,bj s,bf (by rw[f];decide)]
   ·unfold fT
    rw[bf l,bj s,bf (by rw[f];decide)]
    exact⟨_,_,_,k⟩
 ·have C:fx K E i c c.st:=by
   rcases h.calls i c m with⟨a,-⟩ | a | ⟨a,-⟩ | a
   ·omega
   ·exact a
   ·omega
   ·omega
  have J:c.ask.kind=1:=by
   rcases C with⟨a,-⟩ | ⟨-,a,-⟩ | ⟨a,-⟩
   ·omega
   ·exact a
   ·omega
  have l:¬ c.st=1:=by omega
  have n:¬ c.st=2:=by omega
  rw[s]
  refine(ac7 p r b i E o y z c w g H m B J).mono ?_
  rintro e w' (⟨f,rfl,g',j,k⟩ | ⟨f,rfl,g',j,k⟩)
  ·refine⟨0,g',?_,j.mono (by decide),?_⟩
   ·unfold fT
    rw[bf l,bf n,bj s,bj f]
   ·unfold fT
    rw[bf l,bf n,bj s,bj f]
    exact⟨_,_,_,k⟩
  ·refine⟨0,g',?_,j.mono (by decide),?_⟩
   ·unfold fT
    rw[bf l,bf n,bj s,bf f]
   ·unfold fT
    rw[bf l,bf n,bj s,bf f]
    exact⟨_,_,_,k⟩
 ·have C:fx K E i c c.st:=by
   rcases h.calls i c m with⟨a,-⟩ | a | ⟨a,-⟩ | a
   ·omega
   ·exact a
   ·omega
   ·omega
  have X:K.b0<=c.ask.lsn:=by
   rcases C with⟨a,-⟩ | ⟨a,-⟩ | ⟨-,-,a⟩
   ·omega
   ·omega
   ·exact a
  have l:¬ c.st=1:=by omega
  have n:¬ c.st=2:=by omega
  have u:¬ c.st=3:=by omega
  rw[s]
  refine(ac' p r b i E o y z c w g H m B X h.dl).mono ?_
  rintro e w' (⟨f,rfl,g',j,k⟩ | ⟨f,rfl,g',j,k⟩)
  ·refine⟨0,g',?_,j.mono (by decide),?_⟩
   ·unfold fT
    rw[bf l,bf n,bf u,bj s,bj f]
   ·unfold fT
    rw[bf l,bf n,bf u,bj s,bj f]
    exact⟨_,_,_,k⟩
  ·refine⟨0,g',?_,j.mono (by decide),?_⟩
   ·unfold fT
    rw[bf l,bf n,bf u,bj s,bf f]
   ·unfold fT
    rw[bf l,bf n,bf u,bj s,bf f]
    exact⟨_,_,_,k⟩
 ·have l:¬ c.st=1:=by omega
  have n:¬ c.st=2:=by omega
  have u:¬ c.st=3:=by omega
  have F:¬ c.st=4:=by omega
  rw[s]
  refine(UJ p r b E o y z w g H h I.k O (iN K.most K.fj E.held [] 0) ((eZ K.cap K.dO (iN K.most K.fj E.held [] 0).2 E.line).1,(eZ K.cap K.dO (iN K.most K.fj E.held [] 0).2 E.line).2.1) (eZ K.cap K.dO (iN K.most K.fj E.held [] 0).2 E.line).2.2 rfl rfl).mono ?_
  rintro e w' ⟨rfl,g',Z,S,fl',j,k⟩
  refine⟨0,g',?_,j.mono (by decide),?_⟩
  ·unfold fT
   rw[bf l,bf n,bf u,bf F,bj s]
  ·unfold fT
   rw[bf l,bf n,bf u,bf F,bj s]
   exact⟨_,_,_,k⟩
 ·have l:¬ c.st=1:=by omega
  have n:¬ c.st=2:=by omega
  have u:¬ c.st=3:=by omega
  have F:¬ c.st=4:=by omega
  have M:¬ c.st=6:=by omega
  have Q:E.cW=ag i:=by
   rcases h.calls i c m with⟨a,-⟩ | a | ⟨-,a,-⟩ | a
   ·omega
   ·rcases a with⟨a,-⟩ | ⟨a,-⟩ | ⟨a,-⟩ <;> omega
   ·exact a
   ·omega
  obtain⟨T,A,J⟩:=h.lead i Q
  rw[m]at A
  injection A with A
  subst A
  obtain⟨L,Y⟩:E.wr<E.tk/\E.batch=(E.D.take E.tk).drop E.wr:=by
   rcases J with⟨a,-⟩ | ⟨-,-,a,b⟩ | ⟨a,-⟩
   ·omega
   ·exact⟨a,b⟩
   ·omega
  rw[s]
  refine(YT p r b E o y z w g H h L Y O).mono ?_
  rintro e w' ⟨rfl,g',j,k⟩
  refine⟨0,g',?_,j.mono (by decide),?_⟩
  ·unfold fT
   rw[bf l,bf n,bf u,bf F,bf M,bj s]
  ·unfold fT
   rw[bf l,bf n,bf u,bf F,bf M,bj s]
   exact⟨_,_,_,k⟩
 ·have l:¬ c.st=1:=by omega
  have n:¬ c.st=2:=by omega
  have u:¬ c.st=3:=by omega
  have F:¬ c.st=4:=by omega
  have M:¬ c.st=6:=by omega
  have W:¬ c.st=7:=by omega
  obtain⟨Q,C⟩:E.cW=ag i/\fx K E i c c.back:=by
   rcases h.calls i c m with⟨a,-⟩ | a | ⟨-,a,b⟩ | a
   ·omega
   ·rcases a with⟨a,-⟩ | ⟨a,-⟩ | ⟨a,-⟩ <;> omega
   ·exact⟨a,b⟩
   ·omega
  obtain⟨T,A,J⟩:=h.lead i Q
  rw[m]at A
  injection A with A
  subst A
  have L:E.du<E.wr:=by
   rcases J with⟨a,-⟩ | ⟨a,-⟩ | ⟨-,a,-⟩
   ·omega
   ·omega
   ·exact a
  have q:∀d,fT K E i c d=(c.back,mG E d):=λd=>by
   unfold fT
   rw[bf l,bf n,bf u,bf F,bf M,bf W]
  rw[s]
  rcases C with⟨a,-⟩ | ⟨a,-⟩ | ⟨a,-⟩
  ·refine(UM p r b i E o y z c w g H h I m B a L N).mono ?_
   rintro e w' ⟨rfl,g',d,j,k⟩
   exact⟨d,g',by rw[q,a],j.mono (by decide),by rw[q];exact⟨_,_,_,k⟩⟩
  ·refine(UL p r b i E o y z c w g H h I m B a L N).mono ?_
   rintro e w' ⟨rfl,g',d,j,k⟩
   exact⟨d,g',by rw[q,a],j.mono (by decide),by rw[q];exact⟨_,_,_,k⟩⟩
  ·refine(UK p r b i E o y z c w g H h I m B a L N).mono ?_
   rintro e w' ⟨rfl,g',d,j,k⟩
   exact⟨d,g',by rw[q,a],j.mono (by decide),by rw[q];exact⟨_,_,_,k⟩⟩
theorem gw.lay{w:am}{g:Tg}{j h:Nat}{E:fm}{a:List Nat}(H:gw w g j h K P E a){i b:Nat}{c:CV}(f:E.cs[i]?=ag c)(d:a[i]?=ag b)(s:Nat):gw (((w.setCell ⟨b,6,ae⟩ (lO s)).setCell ⟨b,7,ae⟩ (lL s)).setCell ⟨b,8,ae⟩ (lK s)) g j h K P (Gg (s,E) i) a:=by
 obtain⟨R,m,n,H⟩:=H.ex
 obtain⟨t,l⟩:=H.lt f d
 obtain⟨dv,rv,r,o,p⟩:=(H.cls.ie i c b f d).ex
 have k:iD (λq=>q=b) w (((w.setCell ⟨b,6,ae⟩ (lO s)).setCell ⟨b,7,ae⟩ (lL s)).setCell ⟨b,8,ae⟩ (lK s)):=(((iD.bh (S:=λq=>q=b) (cX w.heap.size w)).set _ (.inl rfl)).set _ (.inl rfl)).set _ (.inl rfl)
 refine⟨R,m,n,H.call f d (λc=>{ c with st:=s }) k (dv:=dv) (rv:=rv) ?_ (o.low k (λq e=>by rw[e,l];decide)) (p.low k (λq e=>by rw[e,l];decide))⟩
 exact bE (bE (bE r.row 6 _) 7 _) 8 _
end
end
end Go.Proofs.YtooinenkenobaaaGreat

/- A part of the proof of what LawWholeReaders says. -/
import Derived.Test.YtooinenkenobaaaGreatAa
import Derived.Test.YtooinenkenobaaaGreatCp
import Derived.Test.YtooinenkenobaaaGreatBl
set_option maxRecDepth 100000
set_option maxHeartbeats 20000000
namespace Go.Proofs.YtooinenkenobaaaGreat
open Option renaming none->ae,some->ag
open Bool renaming false->ah,true->aj
open Go.Proofs.Tryz renaming prog->ax
open Go.Value renaming int->ay,pointer->aA,slice->aB,bool->aC,float->aD
open Go.IntKind renaming i64->az
open Go.FloatKind renaming f64->aE
open Go.Ending renaming returned->aF
open Go.Obj renaming cells->aG
open Go renaming World->am,Value->ar,TypeId->au,Calls->aw
section
open Go.RowKit Go.Maps
structure MG(w0:am)(g0:Tg)(K:dw)(S:jR)(P:eG)(picks:List Int)(Sx:Option Nat->iw->Prop)(N B:Nat)(W0:iw)(R0:si)(W:iw)(wr:am):Prop where
 ex:∃g R L,mu wr g K S P picks W R L/\Ch TU g0 w0 g wr/\R.sb=R0.sb/\R.tb=R0.tb/\R.eb=R0.eb/\R.db=R0.db
 tu:zr K P (picks.map Int.toNat) W0 W
 ok:oM K P ae W
 sx:Sx ae W
 clk:fV W.E.now<=W.turns.length*sU
 zY:W.turns.length+sR K N (P.map List.length).sum W<=B
 xy:W.E.cT<=W.E.du
def vR(a:Nat)(wr:am):Nat:=70000-(match wr.cell? ⟨a,19,ae⟩with
 | some (aB _ n _)=>n
 | _=>0)
section
variable{w w':am}{g g':Tg}{K:dw}{S:jR}{P:eG}{picks:List Int}{W:iw}{R:si}{L:List uC}{Sx:Option Nat->iw->Prop}{N B:Nat}
theorem mu.vN(H:mu w g K S P picks W R L)(c:Ch [70,71] g w g' w'){xG:ar}{last:Int}{turns:List Nat}(r:Row w' g' 70 R.sb (IW K S R.db R.eb R.Eh xG R.pav last) 85)(o:im lS 3 1 w' g' 71 xG (turns.map λn:Nat=>(n:Int))):
 mu w' g' K S P picks { W with last:=last,turns:=turns } { R with xG:=xG } L:=by
 refine⟨r,H.GM.ch c (by decide),H.Zb,H.zI,H.tsl,H.tbn,λn b t a d=>(H.Eg n b t a d).ch c ?_,H.Je.ch c (by decide),o,H.Jg.ch c (by decide),H.Ei,λj x p a d=>(H.pat j x p a d).ch c (by decide),H.FU,H.ask.ch c (by decide),H.Cm.ch c (by decide)⟩
 simp only[cR,dK,iG]
 omega
theorem mu.left(H:mu w g K S P picks W R L):vR R.sb w=70000-W.turns.length:=by
 obtain⟨a,b,e,-⟩:=H.Xh.own.shape
 have k:w.cell? ⟨R.sb,19,ae⟩=ag R.xG:=H.row.cell 19
 unfold vR
 rw[k,e,bZ]
theorem Rs{d:List Nat}{p b t:Nat}(o:nV K P Sx N)(q:kX K)(h:oM K P ae W)(s:Sx ae W)(u:fV W.E.now<=W.turns.length*sU)(r:W.E.cT<=W.E.du)(A:W.turns.length+sR K N (P.map List.length).sum W<=B)(k:zv K P d W (gY K P W p b t))(y:whose d W (ft K P W)=p)(x:p=P.length->fV t<=(W.turns.length+1)*sU):
 oM K P ae (gY K P W p b t)/\Sx ae (gY K P W p b t)/\fV (gY K P W p b t).E.now<=(gY K P W p b t).turns.length*sU/\(gY K P W p b t).turns.length+sR K N (P.map List.length).sum (gY K P W p b t)<=B/\(gY K P W p b t).E.cT<=(gY K P W p b t).E.du/\(gY K P W p b t).turns.length=W.turns.length+1:=by
 obtain⟨f,i,z⟩:=Rp o.law q (λm l a h ha=>(o.ask m l a h ha).1) N o.dl h s k
 have c:=NK k
 obtain⟨j,n⟩:=Rr h.en r k
 refine⟨f,i,?_,by omega,j,c⟩
 rw[c]
 by_cases e:p=P.length
 ·have:(gY K P W p b t).E.now=t:=by unfold gY;rw[bj e]
  rw[this]
  exact x e
 ·rw[n (by rw[y];exact e)]
  exact bJ u (dp _ (Nat.le_succ _))
theorem WZ(o:nV K P Sx N)(hK:kW K ⟨S.sm,S.lr,S.al⟩)(Uc:K.bU<=sW)(Ep:∀z∈picks,0<=z)(wO:picks.length<=100000)(H:mu w g K S P picks W R L)(h:oM K P ae W)(s:Sx ae W)(h0:W.turns=[])(hn:fV W.E.now<=0)(hb:W.E.cT<=W.E.du)(hp:sR K N (P.map List.length).sum W<=B)(hB:B<9000)(hm:(B:Int)<S.most):
 aw ax 17 #[aA (ag ⟨R.sb,0,ae⟩),ay az 65536] w λe w'=>e=aF (.tuple #[])/\∃W',MG w g K S P picks Sx N B W R W' w'/\ft K P W'=[]:=by
 have aiw:=aH (show MG w g K S P picks Sx N B W R W w from⟨⟨g,R,L,H,Ch.refl _ _ _,rfl,rfl,rfl,rfl⟩,.none W,h,s,by rw[h0];omega,by rw[h0];simpa using hp,hb⟩)
 obtain⟨sb,js⟩:=bP R.sb
 have A:=aH (And.intro o (And.intro hK (And.intro Uc (And.intro Ep (And.intro wO (And.intro hB (And.intro hm js)))))))
 rw[js]
 clear o hK Uc Ep wO H h s h0 hn hb hp hB hm js
 go_in
 go_wp2_with fail
 go_loopw [] (λwr=>∃W',Hid (MG w g K S P picks Sx N B W R W' wr)) (λwr=>vR sb wr)
 case atStart=>exact⟨W,aiw⟩
 case round=>
  obtain⟨W',HT⟩:=hrel
  obtain⟨mo,oB⟩:=bP S.most
  obtain⟨tn,tY⟩:=bP W'.turns.length
  have TNH:=aH tY
  have i1:(tn:Int)<mo:=by have:=HT.out.zY;have:=A.out.2.2.2.2.2.2.1;omega
  have i2:tn<9000:=by have:=HT.out.zY;have:=A.out.2.2.2.2.2.1;omega
  have kO:=aH (show ∀y,Below wr.heap.size wr y->y.cell? ⟨sb,12,ae⟩=ag (ay az mo)from λy hy=>by
   obtain⟨g1,R1,L1,H1,C1,q1,q2,q3,q4⟩:=HT.out.ex
   have r:=(H1.low hy).row.cell 12
   rw[q1,A.out.2.2.2.2.2.2.2]at r
   rw[r,<-oB]
   rfl)
  have Vs:=aH (show ∀y,Below wr.heap.size wr y->aw ax 30 #[aA (ag ⟨sb,0,ae⟩)] y λe w'=>e=aF (ay az tn)/\y=w' from λy hy=>by
   obtain⟨g1,R1,L1,H1,C1,q1,q2,q3,q4⟩:=HT.out.ex
   have:=KZ (H1.low hy)
   rw[q1,A.out.2.2.2.2.2.2.2,tY]at this
   exact this)
  have BD:=aH (bi wr)
  have i3:(tn:Int)<min 65536 mo:=by omega
  clear tY oB
  go_step
  go_step
  rename_i Q1 K1 k1
  have lI:∀(y:am) (u4 u5 u6 u7 u8 u9 u10 u11 u12 u13 u14 u15 u16 u17 u18 u19 u20 u21 u22 u23 u24 u25 u26 u27 u28 u29 u30 u31 u32 u33 u34 u35 u36 u37 u38 u39 u40 u41 u42 u43 u44 u45:ar),Below wr.heap.size wr y->K1 ⟨#[aA (ag ⟨sb,0,ae⟩),ay az 65536,undef,undef,u4,u5,u6,u7,u8,u9,u10,u11,u12,u13,u14,u15,u16,u17,u18,u19,u20,u21,u22,u23,u24,u25,u26,u27,u28,u29,u30,u31,u32,u33,u34,u35,u36,u37,u38,u39,u40,u41,u42,u43,u44,u45],[]⟩ y:=by
   intro y u4 u5 u6 u7 u8 u9 u10 u11 u12 u13 u14 u15 u16 u17 u18 u19 u20 u21 u22 u23 u24 u25 u26 u27 u28 u29 u30 u31 u32 u33 u34 u35 u36 u37 u38 u39 u40 u41 u42 u43 u44 u45 hy
   refine k1 _ _ ?_
   obtain⟨g1,R1,L1,H1,C1,q1,q2,q3,q4⟩:=HT.out.ex
   have sbe:R1.sb=sb:=q1.trans A.out.2.2.2.2.2.2.2
   have HY:=aH (H1.low hy)
   have al5:W'.E.act.length<=5000:=by have a1:=DO HT.out.ok.en;have a2:=HT.out.ok.pl;have a3:=HT.out.ok.total;have a4:=A.out.1.t;omega
   have ABL:=aH (Xf HY.out HT.out.ok.en A.out.2.1 al5 H1.FU)
   rw[sbe]at ABL
   have ST:=aH (And.intro C1 (And.intro q1 (And.intro q2 (And.intro q3 q4))))
   have Ew:=aH sbe
   have aoy:=aH (show sb<wr.heap.size from by rw[<-sbe];exact H1.row.lt)
   have HYB:=aH hy
   clear H1 C1 q1 q2 q3 q4 al5 sbe hy
   go_wp2_with fail
   refine ABL.out.mono ?_
   rintro e y1 ⟨v,rfl,hv,hvq,iL⟩
   obtain⟨ab,hab⟩:=bP (ft K P W')
   rw[hab]at hv
   obtain⟨vo,vc,rfl,-⟩:=hv.shape
   obtain⟨an,han⟩:=bP ab.length
   rw[han]at hv hvq ⊢
   have HV:=aH hv
   have HVQ:=aH hvq
   have wZ:=aH iL
   have AB:=aH (And.intro hab han)
   clear hv hvq iL hab han
   by_cases h0:an=0
   ·subst h0
    go_wp2_with fail
    refine bn (gF rfl _ _ _) rfl ?_
    refine⟨rfl,W',⟨⟨g1,R1,L1,HY.out.low wZ.out,?_,ST.out.2.1,ST.out.2.2.1,ST.out.2.2.2.1,ST.out.2.2.2.2⟩,HT.out.tu,HT.out.ok,HT.out.sx,HT.out.clk,HT.out.zY,HT.out.xy⟩,?_⟩
    ·exact ST.out.1.trans ((Ch.bh TU g1 HYB.out).trans (Ch.bh TU g1 wZ.out))
    ·rw[AB.out.1]
     exact List.length_eq_zero_iff.1 AB.out.2
   ·have JF:((an:Int)==0)=ah:=by simpa using h0
    obtain⟨pz,hp⟩:=bP (whose (picks.map Int.toNat) W' ab)
    have dF:ab≠[]:=λe=>h0 (by rw[<-AB.out.2,e];rfl)
    have hpm:pz∈ab:=by rw[<-hp];exact uF _ _ dF
    have hle:∀n∈ab,n<=P.length:=λn hn=>by rw[<-AB.out.1]at hn;exact Vc hn
    have H1:=aH (HY.out.low wZ.out)
    have hlen:ab.length<=100:=by
     have e1:=congrArg List.length AB.out.1
     rw[zp]at e1
     have e2:=xB (rJ K P W') (List.range (P.length+1))
     rw[gC]at e2
     have:=H1.out.FU
     omega
    have tn9:W'.turns.length<=9000:=by have:=TNH.out;omega
    have WH:=aH (show aw ax 32 #[aA (ag ⟨sb,0,ae⟩),aB vo an vc] y1 λe w'=>e=aF (pK R1.tb sb pz)/\Below y1.heap.size y1 w' from by
     have hv:=HV.out
     rw[<-Ew.out]at hv
     have t:=WY (v:=aB vo an vc) (Ls:=ab) H1.out hv dF hle hlen A.out.2.2.2.1 A.out.2.2.2.2.1 (by omega)
     rw[hp,Ew.out]at t
     exact t)
    obtain⟨f,recv,T,Pq,na,me,cf,vY⟩:=AC H1.out (hle pz hpm)
    rw[Ew.out]at Pq
    rw[Pq]at WH
    have CALL:=aH vY
    have PP:=aH (And.intro hp (And.intro dF hpm))
    have EPL:=aH Pq
    clear hp dF hpm hle hlen vY Pq HVQ HV
    go_wp2_with fail
    refine WH.out.mono ?_
    rintro e y2 ⟨rfl,eA⟩
    have B2:=aH eA
    have H2:=aH (H1.out.low eA)
    clear eA
    go_wp2_with fail
    refine(CALL.out y2 B2.out).mono ?_
    rintro e y3 ⟨rfl,iY⟩
    have H3:=aH (H2.out.low iY)
    have B3:=aH (aM B2.out iY)
    have c17:y3.cell? ⟨sb,17,ae⟩=ag (ay az W'.last):=by rw[<-Ew.out];exact H3.out.row.cell 17
    have f17:y3.frozen? ⟨sb,17,ae⟩=ah:=by rw[<-Ew.out];exact H3.out.row.free 17
    clear iY na me cf
    obtain⟨x4,LU⟩:=bP (y3.setCell ⟨sb,17,ae⟩ (ay az (pz:Int)))
    obtain⟨ta,tc,WI,-⟩:=H3.out.Xh.own.shape
    rw[bZ,TNH.out]at WI
    have R4:=aH (show Row x4 g1 70 sb (IW K S R1.db R1.eb R1.Eh R1.xG R1.pav (pz:Int)) 85 from by
     have e:=H3.out.row.set 17 (ay az (pz:Int))
     rw[Ew.out,LU]at e
     exact e)
    have C4:=aH (show Ch [70,71] g1 y1 g1 x4 from by
     rw[<-LU]
     exact(Ch.bh [70,71] g1 B3.out).set _ (.inl (by rw[<-Ew.out,H1.out.row.tag];decide)))
    have T4:=aH (show im lS 3 1 x4 g1 71 (aB ta tn tc) (W'.turns.map λn:Nat=>(n:Int))from by
     have e:=H3.out.Xh
     rw[WI]at e
     rw[<-LU]
     exact e.iZ (by rw[<-Ew.out,H1.out.row.tag];decide))
    have ETU:=aH WI
    have d19:x4.cell? ⟨sb,19,ae⟩=ag (aB ta tn tc):=by have e:=R4.out.cell 19;rw[e];show ag R1.xG=_;rw[WI]
    have d17:x4.cell? ⟨sb,17,ae⟩=ag (ay az (pz:Int)):=R4.out.cell 17
    clear WI
    go_wp2_with fail
    have qR:∀p:In (λw'=>w'.cell? ⟨sb,19,ae⟩=ag (aB ta tn tc)/\w'.cell? ⟨sb,17,ae⟩=ag (ay az (pz:Int))),p.w.cell? ⟨sb,19,ae⟩=ag (aB ta tn tc)/\p.w.cell? ⟨sb,17,ae⟩=ag (ay az (pz:Int)):=λp=>p.h
    refine ct [0,1,2,3,4,5,6,7,8,9,10,11,12,13,14] 15 (λw'=>w'.cell? ⟨sb,19,ae⟩=ag (aB ta tn tc)/\w'.cell? ⟨sb,17,ae⟩=ag (ay az (pz:Int))) (by kernel_rfl) (by kernel_rfl) (by intro c a d v w h;cases d <;> exact h) ⟨d19,d17⟩ ?_
    intro dF
    simp only[pick,aV,a8,aQ,aR,aI,aL]
    refine aX 10 (by kernel_rfl) ?_
    simp only[aJ,aO,aI,aL]
    repeat (go_big_quiet_step (fail))
    refine aU ?_
    obtain⟨w5,oA,Nw,DS⟩:=bG x4.drew #[ay az (pz:Int)] 3
    refine aS rfl ?_ rfl
    go_wp2_with fail
    have B5:=aH (aM (bi x4) Nw.out)
    have R5:=aH (R4.out.below B5.out)
    have Mp:w5.cell? ⟨sb,19,ae⟩=ag (aB ta tn tc):=by have e:=R5.out.cell 19;rw[e];show ag R1.xG=_;rw[ETU.out]
    refine⟨⟨⟨_,⟨Mp,R5.out.cell 17⟩⟩,rfl⟩,?_⟩
    have O5:=aH (T4.out.below B5.out)
    have CN:=aH (show ∀j u,(lS (pz:Int))[j]?=ag u->w5.cell? ((⟨x4.heap.size,0,ae⟩:Addr).add j)=ag u from ik (by unfold lS;exact DS.out))
    have LL:=aH (show(W'.turns.map λn:Nat=>(n:Int)).length<=1000000 from by rw[bZ];omega)
    have OT:=aH (show ∀q',(Value.slice ta tn tc).ownBlock=ag q'->g1 q'=71/\q'<x4.heap.size from λq' hq=>⟨T4.out.tag q' hq,T4.out.own.lt q' hq⟩)
    clear d19 d17 Mp c17 f17
    refine aS rfl ?_ rfl
    go_wp2_with (at_builtin;refine cY (o:=⟨ag 40,_,_,_,_,_⟩) rfl _ _ 31 3 rfl Tryz.underlying31 Tryz.LH rfl (by decide) (by decide) lS ro yv _ (W'.turns.map λn:Nat=>(n:Int)) rfl O5.out.own ⟨x4.heap.size,0,ae⟩ (pz:Int) rfl CN.out LL.out ?_)
    intro v6 w6 o6 gr6 i6
    obtain⟨a6,c6,rfl,-⟩:=o6.shape
    obtain⟨l6,Ue⟩:=bP (((W'.turns.map λn:Nat=>(n:Int))++[(pz:Int)]).length)
    have O6:=aH o6
    have I6:=aH i6
    rw[Ue]at O6 I6 ⊢
    have C6:=aH (show Ch [71] g1 x4 g1 w6 from((Ch.bh [71] g1 B5.out)).grown gr6 (λq' hq=>.inl (by rw[(OT.out q' hq.symm.symm).1];simp)))
    have R6:=aH (R4.out.ch C6.out (by decide))
    have Mp:w6.cell? ⟨sb,19,ae⟩=ag (aB ta tn tc):=by have e:=R6.out.cell 19;rw[e];show ag R1.xG=_;rw[ETU.out]
    clear o6 gr6 i6 Ue
    go_wp2_with fail
    refine⟨⟨⟨_,⟨Mp,R6.out.cell 17⟩⟩,rfl⟩,?_⟩
    refine aX 3 (by kernel_rfl) ?_
    simp only[aJ,aO,aI,aL]
    repeat (go_big_quiet_step (fail))
    refine aU ?_
    refine bF ?_
    clear dF qR
    change wpList _ _ _ _ _ _
    have f19:w6.frozen? ⟨sb,19,ae⟩=ah:=R6.out.free 19
    obtain⟨x7,A'⟩:=bP (w6.setCell ⟨sb,19,ae⟩ (aB a6 l6 c6))
    obtain⟨g7,Iw⟩:=bP (eJ g1 x4.heap.size 71)
    have iR:∀q',q'<x4.heap.size->g7 q'=g1 q':=λq' hq=>by rw[<-Iw];exact dU hq
    have c7:Ch [70,71] g1 x4 g7 x7:=by
     rw[<-A']
     exact((C6.out.mono (by decide)).set _ (.inl (by rw[R4.out.tag];decide))).gE iR
    have CC:=aH (C4.out.trans c7)
    have nb:∀q',(Value.slice a6 l6 c6).ownBlock=ag q'->q'≠sb/\g7 q'=71:=λq' hq=>by
     rcases I6.out q' hq with e | e
     ·obtain⟨e1,e2⟩:=OT.out q' e
      refine⟨λe3=>?_,(iR q' e2).trans e1⟩
      have:=R4.out.tag
      rw[<-e3,e1]at this
      exact absurd this (by decide)
     ·have e':x4.heap.size<=q':=bJ B5.out.size e
      have:=R4.out.lt
      exact⟨by omega,by rw[<-Iw];exact dQ e'⟩
    have H7:=aH (show mu x7 g7 K S P picks { W' with last:=(pz:Int),turns:=W'.turns++[pz] } { R1 with xG:=aB a6 l6 c6 } L1 from by
     refine H1.out.vN CC.out ?_ ?_
     ·have e:=(R6.out.set 19 (aB a6 l6 c6)).gE (g':=g7) (iR _ R4.out.lt)
      rw[A']at e
      rw[Ew.out]
      exact e
     ·rw[gM,<-A']
      exact⟨O6.out.same λq' hq=>bD (nb q' hq).1,λq' hq=>(nb q' hq).2⟩)
    obtain⟨f2,agb,T2,ahC,na2,me2,cf2,aap⟩:=W7 A.out.1 A.out.2.1 A.out.2.2.1 (by rw[AB.out.1];exact PP.out.2.2) HT.out.ok HT.out.sx (by omega) (by have h1:=HT.out.xy;have h2:=HT.out.ok.en.o1;have h3:=HT.out.ok.en.o2;have h4:=HT.out.ok.en.o3;have h5:=A.out.1.dl ae W' HT.out.ok HT.out.sx;have h6:=A.out.1.n;omega) tn (by omega) (by have e:=HT.out.clk;rw[TNH.out]at e;exact e) H7.out
    have e3:Value.iface T recv=Value.iface T2 agb:=by rw[<-EPL.out,<-ahC];show pK R1.tb sb pz=pK R1.tb R1.sb pz;rw[Ew.out]
    injection e3 with ea eb
    subst ea eb
    have aon:=aH aap
    clear aap ahC c7 nb iR Iw
    go_wp2_with fail
    refine aon.out.mono ?_
    rintro e w8 ⟨rfl,want,t,g8,R8,L8,c8,h8,z1,z2,z3,z4,zt⟩
    have T1:=zv.IM (K:=K) (P:=P) (picks:=picks.map Int.toNat) W' want t (by rw[AB.out.1];exact PP.out.2.1) (λe=>by rw[AB.out.1,PP.out.1]at e;exact⟨(zt e).1,(zt e).2.1⟩)
    rw[AB.out.1,PP.out.1]at T1
    have NX:=Rs A.out.1 A.out.2.1.k HT.out.ok HT.out.sx HT.out.clk HT.out.xy HT.out.zY T1 (by rw[AB.out.1];exact PP.out.1) (λe=>by rw[TNH.out];exact(zt e).2.2)
    have TI:=aH (show MG w g K S P picks Sx N B W R (gY K P W' pz want t) w8 from⟨⟨g8,R8,L8,h8,(ST.out.1.trans ((Ch.bh TU g1 HYB.out).trans (Ch.bh TU g1 wZ.out))).trans ((CC.out.mono (by decide)).trans c8),z1.trans ST.out.2.1,z2.trans ST.out.2.2.1,z3.trans ST.out.2.2.2.1,z4.trans ST.out.2.2.2.2⟩,HT.out.tu.more T1,NX.1,NX.2.1,NX.2.2.1,NX.2.2.2.1,NX.2.2.2.2.1⟩)
    have MS:=aH (show vR sb w8<vR sb wr from by
     have m8:=h8.left
     have n8:=NX.2.2.2.2.2
     have m1:=HY.out.left
     rw[z1,show({ R1 with xG:=Value.slice a6 l6 c6 }:si).sb=R1.sb from rfl,Ew.out]at m8
     rw[Ew.out]at m1
     have eq:vR sb y=vR sb wr:=by
      unfold vR
      rw[cm (HYB.out.block sb aoy.out)]
     rw[<-eq,m1,m8,n8,TNH.out]
     omega)
    clear zt NX T1 h8 c8 z1 z2 z3 z4
    go_wp2_with fail
    go_roundw
    case rel=>exact⟨_,TI⟩
    case measure=>exact MS.out
  have lI:=aH lI
  clear k1
  go_wp2_with fail
  have qR:∀p:In (λw'=>w'.cell? ⟨sb,12,ae⟩=ag (ay az mo)),p.w.cell? ⟨sb,12,ae⟩=ag (ay az mo):=λp=>p.h
  refine gx (.run [0,2,3,4,5,6,7] (.fork 1 [8] .done 8 [1] .done)) 9 (λw'=>w'.cell? ⟨sb,12,ae⟩=ag (ay az mo)) (by kernel_rfl) (by kernel_rfl) (by intro c a d v w h;cases d <;> exact h) (kO.out _ BD.out) ?_
  intro dF
  unfold cC
  simp only[pick,aV,a8,aQ,aR]
  refine aX 7 (by kernel_rfl) ?_
  simp only[aJ,aO,aI,aL]
  repeat (go_big_quiet_step (fail))
  refine aU ?_
  refine bF ?_
  unfold dh cC
  dsimp only
  refine⟨?_,?_⟩
  ·simp only[pick,aV,a8,aQ,aR]
   refine aS rfl ?_ rfl
   go_wp2_with fail
   refine(Vs.out _ BD.out).mono ?_
   rintro e wz ⟨rfl,rfl⟩
   go_wp2_with fail
   refine⟨⟨⟨_,(kO.out _ BD.out)⟩,rfl⟩,?_⟩
   refine aS rfl ?_ rfl
   go_wp2_with fail
   refine⟨⟨⟨_,(kO.out _ BD.out)⟩,rfl⟩,?_⟩
   refine bF ?_
   unfold dh cC
   dsimp only
   clear dF qR
   change wpList _ _ _ _ _ _
   go_wp2_with fail
   exact BD.out
  ·simp only[pick,aV,a8,aQ,aR]
   refine aS rfl ?_ rfl
   go_wp2_with fail
   refine⟨⟨⟨_,(kO.out _ BD.out)⟩,rfl⟩,?_⟩
   refine aS rfl ?_ rfl
   go_wp2_with fail
   refine(Vs.out _ BD.out).mono ?_
   rintro e wz ⟨rfl,rfl⟩
   go_wp2_with fail
   refine⟨⟨⟨_,(kO.out _ BD.out)⟩,rfl⟩,?_⟩
   refine bF ?_
   unfold dh cC
   dsimp only
   clear dF qR
   change wpList _ _ _ _ _ _
   go_wp2_with fail
   exact BD.out
end
end
end Go.Proofs.YtooinenkenobaaaGreat

/- A part of the proof of what LawWholeReaders says. -/
import Derived.Test.YtooinenkenobaaaGreatAa
import Derived.Test.YtooinenkenobaaaGreatBs
import Derived.Test.YtooinenkenobaaaGreatBh
import Derived.Test.YtooinenkenobaaaGreatBl
import Derived.Test.YtooinenkenobaaaGreatBp
import Derived.Test.YtooinenkenobaaaGreatBq
set_option maxRecDepth 100000
set_option maxHeartbeats 20000000
namespace Go.Proofs.YtooinenkenobaaaGreat
open Option renaming none->ae,some->ag
open Bool renaming false->ah,true->aj
open Go.Proofs.Tryz renaming prog->ax
open Go.Value renaming int->ay,pointer->aA,slice->aB,bool->aC,float->aD
open Go.IntKind renaming i64->az
open Go.FloatKind renaming f64->aE
open Go.Ending renaming returned->aF
open Go.Obj renaming cells->aG
open Go renaming World->am,Value->ar,TypeId->au,Calls->aw
section
open Go.RowKit Go.Maps
theorem Rx(b:BitVec 32)(n:Nat)(a:List (List (BitVec 8)))(k:Nat):(nM b n a k).length=k:=by unfold nM;rw[bZ,gC]
theorem Fh{b:BitVec 32}{n:Nat}{a:List (List (BitVec 8))}(k i:Nat)(h:i<k):(nM b n a k)[i]?=ag (bv (dS b n (a.take (i+1)))):=by
 unfold nM
 rw[cZ,iu h]
 rfl
theorem sE:∀(seed:BitVec 32) (n:Nat) (ds es:List (List (BitVec 8))),dS seed n (ds++es)=dS (dS seed n ds) (n+ds.length) es
 | seed,n,[],es=>by simp[dS]
 | seed,n,x::ds,es=>by
  simp only[eF,dS,bV]
  rw[sE,show n+1+ds.length=n+(ds.length+1)by omega]
theorem ud(c:BitVec 32)(n:Nat)(b a:List (List (BitVec 8)))(k:Nat):(bY c n (b++a.take k)).length<=(bY c n (b++a)).length:=by
 conv=>rhs;rw[<-fO k a,<-de,kB,aN]
 omega
def ahP(Q:Exit->Act->am->Prop):Exit->Act->am->Prop
 | .panic _,_,_=>False
 | e,a,w=>Q e a w
theorem xw{Q:Exit->Act->am->Prop}:∀e a w,ahP Q e a w->Q e a w:=λe a w h=>by
 cases e <;> first | exact h | cases h
theorem Dp{Q:Exit->Act->am->Prop}{a:Act}{w:am}(h:Q .normal a w):ahP Q .normal a w:=h
theorem Xr(sb db n m fb cb k ca da b0 num:Nat)(most:Int)(f:Lit->Option ar)(file:ByteArray)(sd:BitVec 32)(ds Ds:List (List (BitVec 8)))(hB CB:List (BitVec 8))(S:List Nat)(w:am)(g:Tg)(H:lX w g sb db file num b0 sd ds ah)
 (LD:DW w g db most n m f fb cb file (hB++bY sd b0 ds) CB) (X:vu w g S da Ds) (hS:∀t,t∈S->t∉[1,11,12,13,17,18,19,20]) (hn:Ds.length=k) (h1:1<=k) (hk:k<=1000) (hd:∀d∈Ds,d.length<=4096)
 (hz:hB.length=32) (lC:32+(bY sd b0 (ds++Ds)).length<=1000) (hb:b0+(ds++Ds).length<=2000000000000000000):
 aw ax 296 #[aA (ag ⟨sb,0,ae⟩),aB (ag ⟨da,0,ae⟩) k ca] w λe w'=>e=aF (.tuple #[ay az (b0+ds.length),ay az 0])/\∃g',Ch [1,11,12,13,17,18,19,20] g w g' w'/\lX w' g' sb db file num b0 sd (ds++Ds) ah/\
  DW w' g' db most n m f fb cb file (hB++bY sd b0 (ds++Ds)) CB:=by
 obtain⟨w1,gv,dJ,dL⟩:=bG w #[aA (ag ⟨sb,0,ae⟩)] 182
 have j9:=jY dL.out
 obtain⟨G,hG⟩:=bP (eJ g w.heap.size 0)
 have G0:=aH (show ∀q,w.heap.size<=q->G q=0 from λq hq=>by rw[<-hG];exact dQ hq)
 have C1:=aH (show Ch [] g w G w1 from by rw[<-hG];exact Ch.start g dJ.out)
 have H1:=aH (H.ch C1.out (by decide))
 have L1:=aH (LD.ch C1.out (by decide))
 have X1:=aH (X.ch C1.out (λt _ h=>by cases h))
 have BX1:=aH (show Row w1 G 0 w.heap.size _ _ from⟨dL.out,G0.out _ dx⟩)
 have W1:=aH dJ.out.size
 have HH0:=aH H
 have LL0:=aH LD
 have XX0:=aH X
 have HN:=aH hn
 have HS:=aH hS
 have HD:=aH hd
 have HZ:=aH hz
 have SZ:=aH lC
 have HB:=aH hb
 clear H LD X hG hn hS hd hz lC hb
 go_enter_defers Tryz.func296,Tryz.ntmps296
 go_wp2_with fail
 refine(Fu sb db file num b0 sd ds w1 G S da Ds k ca H1.out X1.out HN.out h1 hk HD.out).mono ?_
 rintro e w' ⟨rfl,rfl⟩
 go_wp2_with fail
 refine(IZ sb db file num b0 sd ds ah w' G S da Ds k ca H1.out X1.out HN.out hk HD.out).mono ?_
 rintro e w3 ⟨u,v,rfl,hu,hv,hq,iY⟩
 obtain⟨vb,cv,ev,v1,v2,v3,v4⟩:=hv.get xE (Fh k 0 (by omega))
 rw[Rx]at ev v1 v2
 subst ev
 obtain⟨ub,cu,rfl,u1,u2,u3,u4,u5⟩:=hu.slice
 have HU:=aH u1
 have HU2:=aH u2
 have HV:=aH hv
 have ef:bY sd b0 ds++bY (dS sd b0 ds) (b0+ds.length) Ds=bY sd b0 (ds++Ds):=(kB _ _ _ _).symm
 have EF:=aH ef
 have C3:=aH (show Ch [] G w' G w3 from Ch.bh [] G iY)
 have UT:=aH (show ∀b off,ub=ag ⟨b,off,ae⟩->G b=0/\b<w3.heap.size from λb off e=>⟨G0.out b (bJ W1.out (u5 b off e).1),(u5 b off e).2⟩)
 have VT:=aH (show G vb=0/\vb<w3.heap.size from⟨G0.out vb (bJ W1.out (hq vb rfl)),hv.lt vb rfl⟩)
 obtain⟨F,hF⟩:=bP (bY (dS sd b0 ds) (b0+ds.length) Ds)
 rw[hF]at HU EF u3
 rw[hF]
 obtain⟨c,hc⟩:=bP F.length
 have HC:=aH hc
 rw[hc]at u3
 rw[hc]
 clear hu hv hq iY u1 u2 u4 u5 v3 v4 ef hF hc j9
 obtain⟨w4,Pa,zP,IB⟩:=bG w3 #[aC ah] 4
 have kw4:=jY IB.out
 have C4:=aH (show Ch [] G w' G w4 from C3.out.on zP.out)
 have H4:=aH (H1.out.ch C4.out (by decide))
 have BX3:=aH (BX1.out.ch C3.out (by decide))
 have BX4:=aH (BX1.out.ch C4.out (by decide))
 have DN4:=aH (show Row w4 G 0 w3.heap.size _ _ from⟨IB.out,G0.out _ (bJ W1.out C3.out.size)⟩)
 obtain⟨xb,mb,R4,-,-⟩:=H4.out.ex
 have l3:sb<w3.heap.size:=by obtain⟨_,_,R,-,-⟩:=(H1.out.ch C3.out (by decide)).ex;exact R.lt
 have j3:=jY BX3.out.row
 clear R4
 go_wp2_with fail
 obtain⟨x,hx⟩:=bP (w4.setCell ⟨w3.heap.size,0,ae⟩ (aC ah))
 have CX:=aH (show Ch [0] G w4 G x from by rw[<-hx];exact(Ch.refl _ _ _).set _ (.inl (by rw[DN4.out.tag];decide)))
 have CZ:=aH (show Ch [] g w G x from by rw[<-hx];exact(C1.out.trans C4.out).set _ (.inr (bJ W1.out C3.out.size)))
 have rd:w.heap.size≠w3.heap.size:=by have:=aT BX3.out.row;omega
 have Y1:=aH (show Row x G 0 w.heap.size _ _ from by rw[<-hx];exact BX4.out.iZ rd)
 have Y2:=aH (show Row x G 0 w3.heap.size _ _ from by rw[<-hx];exact DN4.out.set 0 (aC ah))
 rw[hx]
 have HX:=aH (HH0.out.ch CZ.out (by decide))
 have LX:=aH (LL0.out.ch CZ.out (λt _ h=>by cases h))
 have UX:=aH (show cD x ub F from HU.out.same λq off e _=>by rw[<-hx];exact(bD (by have:=(UT.out q off e).2;omega)).trans (zP.out.block q (UT.out q off e).2))
 have VX:=aH (show fC xF 211 1 x (aB (ag ⟨vb,0,ae⟩) k cv) (nM (dS sd b0 ds) (b0+ds.length) Ds k)from HV.out.same λq hq=>by
  have e:q=vb:=by injection hq with hq;exact hq.symm
  rw[<-hx,e]
  exact(bD (by have:=VT.out.2;omega)).trans (zP.out.block vb VT.out.2))
 have VXB:=aH (show x.heap[vb]?=w4.heap[vb]? from by rw[<-hx];exact bD (by have:=VT.out.2;omega))
 clear hx j3
 obtain⟨xb',mb',RX,-,-⟩:=HX.out.ex
 refine Go.wp_mono ?_ xw
 have qR:∀p:In (λw'=>w'.cell? ⟨w.heap.size,0,ae⟩=ag (aA (ag ⟨sb,0,ae⟩))/\w'.cell? ⟨sb,0,ae⟩=ag (aA (ag ⟨db,0,ae⟩))/\w'.cell? ⟨sb,1,ae⟩=ag (.string file)),p.w.cell? ⟨w.heap.size,0,ae⟩=ag (aA (ag ⟨sb,0,ae⟩))/\p.w.cell? ⟨sb,0,ae⟩=ag (aA (ag ⟨db,0,ae⟩))/\p.w.cell? ⟨sb,1,ae⟩=ag (.string file):=λp=>p.h
 refine bX [0,1,2,3,4,5,6,7,8,9,10,11,12,13,14] (λw'=>w'.cell? ⟨w.heap.size,0,ae⟩=ag (aA (ag ⟨sb,0,ae⟩))/\w'.cell? ⟨sb,0,ae⟩=ag (aA (ag ⟨db,0,ae⟩))/\w'.cell? ⟨sb,1,ae⟩=ag (.string file)) (by kernel_rfl) (by kernel_rfl) (by intro c a d v w h;cases d <;> exact h) ⟨Y1.out.cell 0,RX.cell 0,RX.cell 1⟩ ?_
 intro dF
 simp only[pick,aV,a8,aQ,aR]
 refine aX 9 (by kernel_rfl) ?_
 simp only[aJ,aO,aI,aL]
 repeat (go_big_quiet_step (fail))
 refine aU ?_
 refine aS rfl ?_ rfl
 go_wp2_with fail
 refine(te db n m 11 fb 1000 most [] f file (hB++bY sd b0 ds) F ub c cu _ G (LX.out.dk.ch (Ch.drewN (Ch.refl [] G x) 1) (by decide)) (LX.out.fl.ch (Ch.drewN (Ch.refl [] G x) 1) (by decide)) LX.out.may LX.out.nm (by have:=LX.out.b9.1;omega) (by decide) (rD (LX.out.fl.ch (Ch.drewN (Ch.refl [] G x) 1) (by decide)) (LX.out.cf.ch (Ch.drewN (Ch.refl [] G x) 1) (by decide)) LX.out.b9.1 LX.out.b9.2 LX.out.all) (by have:=LX.out.n9;omega) (by decide) (by have:=LX.out.mo;omega) HC.out UX.out (λb off e _=>by rw[(UT.out b off e).1];decide) HU2.out u3 (by have:=LX.out.mo;have:=LX.out.n9;have:=SZ.out;rw[<-EF.out,aN,HC.out]at this;omega)).mono ?_
 rintro e w5 ⟨rfl,g5,c5,d5,f5⟩
 have C5:=aH (show Ch [1,11,12,13] G x g5 w5 from(Ch.drewN (Ch.refl _ G x) 1).trans c5)
 have D5:=aH d5
 have F5:=aH f5
 have H5:=aH (HX.out.ch C5.out (by decide))
 have Y15:=aH (Y1.out.ch C5.out (by decide))
 have Y25:=aH (Y2.out.ch C5.out (by decide))
 have r5:∃xb mb,Row w5 g5 17 sb (uI db file num b0 0 (b0+ds.length) (32+(bY sd b0 ds).length) (bv (dS sd b0 ds)) ah xb mb) 226:=by obtain⟨xb,mb,R,-,-⟩:=H5.out.ex;exact⟨xb,mb,R⟩
 obtain⟨xe,me,R5⟩:=r5
 have k5:=sc R5
 clear c5 d5 f5
 go_wp2_with fail
 refine⟨⟨⟨_,⟨Y15.out.cell 0,R5.cell 0,R5.cell 1⟩⟩,rfl⟩,?_⟩
 refine aX 5 (by kernel_rfl) ?_
 simp only[aJ,aO,aI,aL]
 repeat (go_big_quiet_step (fail))
 refine aU ?_
 refine bF ?_
 clear dF qR
 refine Dp ?_
 have j5:=jY Y15.out.row
 have j6:=jY Y25.out.row
 have l6:w.heap.size≠w3.heap.size:=rd
 clear RX R5
 go_wp2_with fail
 obtain⟨y,hy⟩:=bP (w5.setCell ⟨w3.heap.size,0,ae⟩ (aC aj))
 have CY:=aH (show Ch [0] g5 w5 g5 y from by rw[<-hy];exact(Ch.refl _ _ _).set _ (.inl (by rw[Y25.out.tag];decide)))
 have CG:=aH (show Ch [1,11,12,13] g w g5 y from by rw[<-hy];exact(CZ.out.any.trans C5.out).set _ (.inr (bJ W1.out C3.out.size)))
 have Z1:=aH (show Row y g5 0 w.heap.size _ _ from by rw[<-hy];exact Y15.out.iZ rd)
 have Z2:=aH (show Row y g5 0 w3.heap.size _ _ from by rw[<-hy];exact Y25.out.set 0 (aC aj))
 have HY:=aH (H5.out.ch CY.out (by decide))
 have XY:=aH (show vu y g5 S da Ds from XX0.out.ch CG.out (λt ht e=>HS.out t ht (show t∈[1,11,12,13]++[17,18,19,20]from List.mem_append_left _ e)))
 have VY:=aH (show y.heap[vb]?=w3.heap[vb]?/\g5 vb=0/\vb<y.heap.size from by
  have hv:=VT.out
  have hb:vb<w4.heap.size:=aW hv.2 zP.out.size
  have e1:x.heap[vb]?=w3.heap[vb]?:=(VXB.out).trans (zP.out.block vb hv.2)
  have lx:vb<x.heap.size:=aW hb CX.out.size
  have e2:=C5.out.gP vb lx (by rw[hv.1];decide)
  have e3:g5 vb=0:=(C5.out.tag vb lx).trans hv.1
  refine⟨?_,e3,aW (aW lx C5.out.size) CY.out.size⟩
  rw[<-hy]
  exact((bD (by have:=hv.2;omega)).trans e2).trans e1)
 have DY:=aH (D5.out.ch CY.out (by decide))
 have FY:=aH (F5.out.ch CY.out (by decide))
 have CFY:=aH ((LX.out.cf.ch C5.out (by decide)).ch CY.out (by decide))
 rw[hy]
 clear hy
 go_loopw [55] (λi wr=>∃(j:Nat) (gr:Tg),j<=k/\i=ay az j/\Hid (lX wr gr sb db file num b0 sd (ds++Ds.take j) ah)/\Hid (Ch [17,18,19,20] g5 y gr wr)) (λi _=>k-(intOf i).toNat)
 case atStart=>exact⟨0,g5,cF _,rfl,aH (by rw[aO,eP];exact HY.out),aH (Ch.refl _ _ _)⟩
 case round=>
  obtain⟨j,gr,hj,rfl,HR,HCR⟩:=hrel
  by_cases fp:j<k
  ·have jz:(j:Int)<(k:Int):=by omega
   have KL:=aH (show j<Ds.length by rw[HN.out];exact fp)
   obtain⟨d,hx⟩:∃x,Ds[j]?=ag x:=⟨Ds[j]'KL.out,aP KL.out⟩
   have TK:Ds.take (j+1)=Ds.take j++[d]:=by rw[ip,hx];rfl
   have dl:=HD.out d (cG hx)
   obtain⟨ai,ci,x1,x2,x2',-⟩:=(XY.out.ch HCR.out (λt ht e=>HS.out t ht (show t∈[1,11,12,13]++[17,18,19,20]from oJ _ e))).ie j d hx
   obtain⟨vb',cv',ve0,-,-,vx,-⟩:=HV.out.get xE (Fh k j fp)
   have ve:vb=vb':=by injection ve0 with ve;injection ve with ve;injection ve with ve
   clear ve0
   subst ve
   have y1:wr.cell? ⟨vb,j,ae⟩=ag (ay .u32 (bv (dS sd b0 (ds++Ds.take (j+1))))):=by
    have h0:=vx 0 (by decide)
    rw[show j*1+0=j by omega]at h0
    rw[sE]
    exact(cm ((HCR.out.gP vb VY.out.2.2 (by rw[VY.out.2.1];decide)).trans VY.out.1)).trans h0
   have Q1:=aH (Z1.out.ch HCR.out (by decide))
   have TKH:=aH TK
   obtain⟨mm,hmm⟩:=bP d.length
   have MM:=aH hmm
   rw[hmm]at x1 dl
   have X1D:=aH x1
   have X1L:=aH (show da<y.heap.size/\g5 da∈S from⟨XY.out.lt,XY.out.tag⟩)
   have X1Y:=aH (show y.cell? ⟨da,j,ae⟩=ag (aB ai mm ci)from by rw[<-x1];exact(cm (HCR.out.gP da XY.out.lt (λe=>HS.out _ XY.out.tag (show _∈[1,11,12,13]++[17,18,19,20]from oJ _ e)))).symm)
   clear hx hmm j5 j6 k5 vx
   go_wp2_with fail
   refine Go.wp_mono ?_ xw
   have qR:∀p:In (λw'=>w'.cell? ⟨w.heap.size,0,ae⟩=ag (aA (ag ⟨sb,0,ae⟩))/\w'.cell? ⟨da,j,ae⟩=ag (aB ai mm ci)),p.w.cell? ⟨w.heap.size,0,ae⟩=ag (aA (ag ⟨sb,0,ae⟩))/\p.w.cell? ⟨da,j,ae⟩=ag (aB ai mm ci):=λp=>p.h
   refine bX [0,1,2,3,4,5,7,6,8] (λw'=>w'.cell? ⟨w.heap.size,0,ae⟩=ag (aA (ag ⟨sb,0,ae⟩))/\w'.cell? ⟨da,j,ae⟩=ag (aB ai mm ci)) (by kernel_rfl) (by kernel_rfl) (by intro c a d v w h;cases d <;> exact h) ⟨Q1.out.cell 0,X1D.out⟩ ?_
   intro dF
   simp only[pick,aV,a8,aQ,aR]
   refine aX 7 (by kernel_rfl) ?_
   simp only[aJ,aO,aI,aL]
   repeat (go_big_quiet_step (fail))
   refine aU ?_
   refine aS rfl ?_ rfl
   go_wp2_with fail
   refine(pS mm _).mono ?_
   rintro e w6 ⟨rfl,rfl⟩
   have es:qQ mm=16+(mm:Int):=by unfold qQ;exact bf (by omega)
   rw[es]
   go_wp2_with fail
   refine⟨⟨⟨wr.drew,⟨Q1.out.cell 0,X1D.out⟩⟩,rfl⟩,?_⟩
   refine aS rfl ?_ rfl
   go_wp2_with fail
   have E1:ds++Ds.take (j+1)=(ds++Ds.take j)++[d]:=by rw[TKH.out,de]
   refine(RP sb db file num b0 sd (ds++Ds.take j) d ah gr (16+mm) _ (HR.out.ch (Ch.drewN (Ch.refl [] gr wr) 1) (by decide)) (by rw[<-E1,aN,dg];have:=HB.out;rw[aN]at this;omega) (by rw[<-E1];have:=ud sd b0 ds Ds (j+1);have:=SZ.out;omega) (by rw[MM.out]) (by rw[de])).mono ?_
   rintro e w7 ⟨rfl,g7,c7,h7⟩
   have C7:=aH (show Ch [17,18,19,20] g5 y g7 w7 from HCR.out.trans ((Ch.drewN (Ch.refl _ gr wr) 1).trans c7))
   have H7:=aH (show lX w7 g7 sb db file num b0 sd (ds++Ds.take (j+1)) ah from by rw[E1];exact h7)
   have R7:=Z1.out.ch C7.out (by decide)
   have X7:w7.cell? ⟨da,j,ae⟩=ag (aB ai mm ci):=by rw[<-X1Y.out];exact cm (C7.out.gP da X1L.out.1 (λe=>HS.out _ X1L.out.2 (show _∈[1,11,12,13]++[17,18,19,20]from oJ _ e)))
   clear c7 h7
   go_wp2_with fail
   refine⟨⟨⟨_,⟨R7.cell 0,X7⟩⟩,rfl⟩,?_⟩
   refine bF ?_
   clear dF qR
   refine Dp ?_
   clear R7 X7
   go_wp2_with fail
   go_roundw
   case rel=>exact⟨j+1,g7,by omega,by go_num,H7,C7⟩
   case measure=>simp[intOf];omega
  ·obtain rfl:j=k:=by omega
   have jz:(j:Int)<=(j:Int):=Q9 _
   have e:Ds.take j=Ds:=fE (by rw[HN.out];omega)
   rw[e]at HR
   clear e j5 j6 k5
   go_wp2_with fail
   have Q1:=Z1.out.ch HCR.out (by decide)
   have Q2:=Z2.out.ch HCR.out (by decide)
   obtain⟨xz,mz,R4,I4,M4⟩:=HR.out.ex
   refine leaves_cons (f:=302) (args:=#[aA (ag ⟨w3.heap.size,0,ae⟩),aA (ag ⟨w.heap.size,0,ae⟩)]) (by simp) (by simp[go_sem]) ?_
   refine(Od w3.heap.size w.heap.size sb aj wr (Q2.cell 0) (Q1.cell 0) (R4.cell 8) (R4.free 8)).mono ?_
   rintro e u' zH ⟨rfl,rfl,rfl⟩
   have c5:Ch [17] gr wr gr (wr.setCell ⟨sb,8,ae⟩ (aC (!aj))):=(Ch.refl _ _ _).set _ (.inl (by rw[R4.tag];decide))
   have c6:Ch [17,18,19,20] g5 y gr (wr.setCell ⟨sb,8,ae⟩ (aC (!aj))):=HCR.out.trans (c5.mono (by decide))
   have FY2:=FY.out
   rw[de,EF.out]at FY2
   have LY:=LX.out
   refine⟨_,results_tmp2 rfl _ _ _,rfl,gr,(CG.out.mono (by decide)).trans (c6.mono (by decide)),⟨⟨xz,mz,R4.set 8 _,I4.ch c5 (by decide),M4.ch c5 (by decide)⟩,HR.out.low⟩,⟨DY.out.ch c6 (by decide),FY2.ch c6 (by decide),CFY.out.ch c6 (by decide),LY.nm,LY.all,LY.may,LY.n9,LY.mo,?_,LY.b9.2⟩⟩
   rw[aN,HZ.out]
   exact SZ.out
end
section
abbrev By:=List (BitVec 8)
structure fu where
 kind:Nat
 lsn:Nat
 data:By
structure CV where
 ask:fu
 lsn:Nat
 lR:Bool
 st:Nat
 back:Nat
 err:Nat
 rl:Nat
 rd:By
structure dw where
 b0:Nat
 cap:Int
 dO:Int
 most:Int
 fj:Int
 bU:Nat
structure fm where
 D:List By
 ow:List Nat
 du:Nat
 wr:Nat
 tk:Nat
 held:List fw
 line:List fw
 cW:Option Nat
 begun:Nat
 now:Nat
 want:Nat
 batch:List By
 cT:Nat
 cs:List CV
 act:List Nat
def fh(cs:List CV)(i:Nat)(f:CV->CV):List CV:=match cs[i]? with
 | some c=>cs.set i (f c)
 | none=>cs
def gK(a:Nat):Nat->List By->List fw
 | _,[]=>[]
 | n,d::ds=>⟨((a+n:Nat):Int),((16+d.length:Nat):Int)⟩::gK a (n+1) ds
def aob(E:fm):Nat:=(Ieee.double.sub E.now E.begun).getD 0
def GC(K:dw)(E:fm):Bool:=qA K.most K.fj K.bU E.want E.held.length (eR E.held) (aob E)
def iX(K:dw)(E:fm)(c:CV):Bool:=
 if c.st=1 then aj else if c.st=2 then c.lR || E.cW.isNone
 else if c.st=3 then decide (c.lsn<K.b0+E.du) || E.cW.isNone
 else if c.st=4 then decide (c.ask.lsn<K.b0+E.du) || (E.cW.isNone&&decide (c.ask.lsn<K.b0+E.D.length))
 else if c.st=6 then GC K E else if c.st=7\/c.st=8 then aj else ah
def rY(K:dw)(E:fm)(i:Nat):Bool:=match E.cs[i]? with
 | some c=>iX K E c
 | none=>ah
def gZ(K:dw)(E:fm):List Nat:=E.act.filter (rY K E)
def Ak(E:fm)(i err rl:Nat)(rd:By):fm:=
 { E with cs:=fh E.cs i (λc=>{ c with ask:={ c.ask with data:=[] },st:=9,err:=err,rl:=rl,rd:=rd }),act:=E.act.erase i }
def Lg(K:dw)(E:fm)(i lsn:Nat):fm:=Ak E i 0 lsn (E.D[lsn-K.b0]?.getD [])
def mU(E:fm)(i back:Nat):fm:=
 { E with cW:=ag i,begun:=E.now,cs:=fh E.cs i (λc=>{ c with st:=6,back:=back }) }
def mq(E:fm)(i:Nat)(c:CV):fm:=if c.ask.kind=2 then Ak E i 0 c.lsn []else{ E with cs:=fh E.cs i (λc=>{ c with st:=3 }) }
def mR(K:dw)(E:fm)(i:Nat)(c:CV):fm:=
 let p:=lf K.cap K.dO E.held E.line ⟨((K.b0+E.D.length:Nat):Int),((16+c.ask.data.length:Nat):Int)⟩
 { E with D:=E.D++[c.ask.data],ow:=E.ow++[i],held:=p.2.1,line:=p.2.2,cs:=fh E.cs i (λc=>{ c with lsn:=K.b0+E.D.length,lR:=p.1 }) }
def od(K:dw)(E:fm)(i:Nat)(c:CV):fm:=
 if c.ask.kind=5 then(if c.ask.lsn<K.b0+E.du then Lg K E i c.ask.lsn else{ E with cs:=fh E.cs i (λc=>{ c with st:=4 }) })
 else
  let p:=lf K.cap K.dO E.held E.line ⟨((K.b0+E.D.length:Nat):Int),((16+c.ask.data.length:Nat):Int)⟩
  if p.1 then mq (mR K E i c) i { c with lsn:=K.b0+E.D.length }else{ mR K E i c with cs:=fh (mR K E i c).cs i (λc=>{ c with st:=2 }) }
def lB(a:Nat)(ow:List Nat)(cs:List CV)(l:List Int):List CV:=l.foldl (λcs z=>fh cs (ow[(z-(a:Int)).toNat]?.getD 0) (λc=>{ c with lR:=aj })) cs
def mF(K:dw)(E:fm)(i:Nat):fm:=
 let t:=iN K.most K.fj E.held [] 0
 let e:=eZ K.cap K.dO t.2 E.line
 { E with held:=e.1,line:=e.2.1,cs:=fh (lB K.b0 E.ow E.cs e.2.2) i (λc=>{ c with st:=7 }),batch:=t.1.map (λx:fw=>E.D[(x.id-(K.b0:Int)).toNat]?.getD []),tk:=E.tk+t.1.length }
def pF(E:fm)(i:Nat):fm:={ E with wr:=E.wr+E.batch.length,cs:=fh E.cs i (λc=>{ c with st:=8 }) }
def pT(E:fm)(i want:Nat):fm:={ E with du:=E.wr,want:=want,cT:=E.cT+1,cW:=ae,batch:=[],cs:=fh E.cs i (λc=>{ c with st:=c.back }) }
def fK(K:dw)(E:fm)(i a:Nat):fm:=match E.cs[i]? with
 | none=>E
 | some c=>
  if c.st=1 then od K E i c
  else if c.st=2 then(if c.lR then mq E i c else mU E i 2)
  else if c.st=3 then(if c.lsn<K.b0+E.du then Ak E i 0 c.lsn []else mU E i 3)
  else if c.st=4 then(if c.ask.lsn<K.b0+E.du then Lg K E i c.ask.lsn else mU E i 4)
  else if c.st=6 then mF K E i
  else if c.st=7 then pF E i
  else pT E i a
def gT(E:fm)(a:fu):fm:={ E with cs:=E.cs++[⟨a,0,ah,1,0,0,0,[]⟩],act:=E.act++[E.cs.length] }
def wA(K:dw)(E:fm)(i:Nat)(c:CV):Prop:=∃k:Nat,c.lsn=K.b0+k/\E.ow[k]?=ag i/\E.D[k]?=ag c.ask.data/\c.lR=decide (k+E.line.length<E.D.length)
def fx(K:dw)(E:fm)(i:Nat)(c:CV)(a:Nat):Prop:=
 (a=2/\(c.ask.kind=1\/c.ask.kind=2)/\wA K E i c)\/(a=3/\c.ask.kind=1/\wA K E i c/\c.lR=aj)\/(a=4/\c.ask.kind=5/\K.b0<=c.ask.lsn)
def Ec(K:dw)(E:fm)(i:Nat)(c:CV):Prop:=
 (c.st=1/\(((c.ask.kind=1\/c.ask.kind=2)/\c.ask.lsn=0)\/(c.ask.kind=5/\K.b0<=c.ask.lsn/\c.ask.data=[]))/\∀k:Nat,E.ow[k]?≠ag i)\/fx K E i c c.st\/
 ((c.st=6\/c.st=7\/c.st=8)/\E.cW=ag i/\fx K E i c c.back)\/c.st=9
structure kX(K:dw):Prop where
 b1:1<=K.b0
 b2:K.b0<=1152921504606846976
 c1:1<=K.cap
 c2:K.cap<=1024
 y1:1<=K.dO
 y2:K.dO<=16777216
 m1:1<=K.most
 m2:K.most<=256
structure fy(K:dw)(E:fm):Prop where
 ow:E.ow.length=E.D.length
 o1:E.du<=E.wr
 o2:E.wr<=E.tk
 o3:E.tk<=E.D.length
 q:E.held++E.line=gK K.b0 E.tk (E.D.drop E.tk)
 qb:QB K.cap K.dO E.held E.line
 act:∀i,i∈E.act↔∃c,E.cs[i]?=ag c/\c.st≠9
 nd:E.act.Nodup
 calls:∀i c,E.cs[i]?=ag c->Ec K E i c
 lead0:E.cW=ae->E.du=E.tk/\E.batch=[]
 lead:∀i,E.cW=ag i->∃c,E.cs[i]?=ag c/\((c.st=6/\E.du=E.tk/\E.batch=[]/\E.held≠[])\/(c.st=7/\E.du=E.wr/\E.wr<E.tk/\E.batch=(E.D.take E.tk).drop E.wr)\/(c.st=8/\E.du<E.wr/\E.wr=E.tk/\E.batch.length=E.tk-E.du))
 line:E.line≠[]->E.held≠[]
 clk:E.cW≠ae->E.begun<=E.now
 dl:∀d∈E.D,d.length<=4096
 ond:E.ow.Nodup
 owl:∀i∈E.ow,i<E.cs.length
 fit:(E.D.map (λd:By=>16+d.length)).sum<=968
end
section
theorem dB(cs:List CV)(i j:Nat)(f:CV->CV):(fh cs i f)[j]?=if i=j then(cs[j]?).map f else cs[j]?:=by
 unfold fh
 split
 ·next c h=>
  by_cases e:i=j
  ·subst e
   rw[bj rfl,h,List.getElem?_set_self (by exact(aK.1 h).1)]
   rfl
  ·rw[bf e,List.getElem?_set_ne e]
 ·next h=>
  by_cases e:i=j
  ·subst e
   rw[bj rfl,h]
   rfl
  ·rw[bf e]
theorem fM(cs:List CV)(i:Nat)(f:CV->CV):(fh cs i f).length=cs.length:=by
 unfold fh
 split <;> simp
theorem lA(b:Nat):∀(n:Nat) (a:List By),(gK b n a).length=a.length
 | _,[]=>rfl
 | n,d::a=>by simp[gK,lA b (n+1) a]
theorem jM(b:Nat):∀(n:Nat) (a:List By) (j:Nat),(gK b n a)[j]?=(a[j]?).map λd=>(⟨((b+(n+j):Nat):Int),((16+d.length:Nat):Int)⟩:fw)
 | _,[],_=>by simp[gK]
 | n,d::a,0=>by simp[gK]
 | n,d::a,j+1=>by
  simp only[gK,tI]
  rw[jM b (n+1) a j,show n+1+j=n+(j+1)by omega]
theorem ri(b:Nat):∀(m n:Nat) (a:List By),(gK b n a).drop m=gK b (n+m) (a.drop m)
 | 0,n,a=>by simp
 | m+1,n,[]=>by simp[gK]
 | m+1,n,d::a=>by
  simp only[gK,aI]
  rw[ri b m (n+1) a,show n+1+m=n+(m+1)by omega]
theorem sH(c:Nat):∀(n:Nat) (a b:List By),gK c n (a++b)=gK c n a++gK c (n+a.length) b
 | n,[],b=>by simp[gK]
 | n,d::a,b=>by
  simp only[eF,gK,bV]
  rw[sH c (n+1) a b,show n+1+a.length=n+(a.length+1)by omega]
theorem uW(a b:Int):∀(L H:List fw),∃m,m<=L.length/\eZ a b H L=(H++L.take m,L.drop m,(L.take m).map fw.id)/\(L.drop m≠[]->1<=a->(∀x∈L,x.size<=b)->H++L.take m≠[])
 | [],H=>⟨0,by simp,by simp[eZ],by simp⟩
 | x::r,H=>by
  unfold eZ
  by_cases h:(H.length:Int)<a/\x.size<=b-eR H
  ·rw[bj h]
   obtain⟨m,c,d,f⟩:=uW a b r (H++[x])
   refine⟨m+1,by simpa using c,by simp[d],λ_ _ _=>by simp⟩
  ·rw[bf h]
   refine⟨0,by simp,by simp,λ_ g e=>?_⟩
   simp only[aO,eP]
   rintro rfl
   exact h ⟨by simp;omega,by have:=e x (by simp);simpa[eR]using this⟩
theorem tK(b c:Int):∀(L a:List fw) (s:Int),∃m,m<=L.length/\iN b c L a s=(a++L.take m,L.drop m)/\(a=[]->L≠[]->1<=b->1<=m)
 | [],a,s=>⟨0,by simp,by simp[iN],by simp⟩
 | x::r,a,s=>by
  unfold iN
  by_cases h:(a.length:Int)<b/\¬(0<a.length/\c<s+x.size)
  ·rw[bj h]
   obtain⟨m,d,e,g⟩:=tK b c r (a++[x]) (s+x.size)
   exact⟨m+1,by simpa using d,by simp[e],λ_ _ _=>by omega⟩
  ·rw[bf h]
   refine⟨0,by simp,by simp,λf _ i=>?_⟩
   subst f
   exact absurd ⟨by simp;omega,by simp⟩ h
theorem rj(a:Nat)(ow:List Nat):∀(l:List Int) (cs:List CV) (j:Nat),(lB a ow cs l)[j]?=(cs[j]?).map λc=>if(∃z∈l,ow[(z-(a:Int)).toNat]?.getD 0=j)then{ c with lR:=aj }else c
 | [],cs,j=>by simp[lB]
 | z::l,cs,j=>by
  have e:lB a ow cs (z::l)=lB a ow (fh cs (ow[(z-(a:Int)).toNat]?.getD 0) (λc=>{ c with lR:=aj })) l:=rfl
  rw[e,rj a ow l,dB]
  by_cases h:ow[(z-(a:Int)).toNat]?.getD 0=j
  ·rw[bj h,Option.map_map]
   congr 1
   funext c
   simp only[Function.comp]
   rw[bj (show ∃y∈z::l,ow[(y-(a:Int)).toNat]?.getD 0=j from⟨z,by simp,h⟩)]
   split <;> rfl
  ·rw[bf h]
   congr 1
   funext c
   simp only[cR,exists_eq_or_imp,h,false_or]
theorem tX(a:Nat)(ow:List Nat):∀(l:List Int) (cs:List CV),(lB a ow cs l).length=cs.length
 | [],cs=>rfl
 | z::l,cs=>by
  have e:lB a ow cs (z::l)=lB a ow (fh cs (ow[(z-(a:Int)).toNat]?.getD 0) (λc=>{ c with lR:=aj })) l:=rfl
  rw[e,tX a ow l,fM]
section
variable{K:dw}{E:fm}
theorem abT{i:Nat}{c:CV}(r:wA K E i c):∃k,c.lsn=K.b0+k/\k<E.D.length:=by
 obtain⟨k,a,d,b,-⟩:=r
 exact⟨k,a,(aK.1 b).1⟩
theorem lF{E':fm}{i:Nat}{c:CV}(h:Ec K E i c)(f:E'.D=E.D)(e:E'.ow=E.ow)(g:E'.line=E.line)(j:E.cW=ag i->E'.cW=ag i):Ec K E' i c:=by
 have p:∀s,fx K E i c s->fx K E' i c s:=λs k=>by
  unfold fx wA at *
  rw[f,e,g]
  exact k
 rcases h with⟨a,b,d⟩ | h | ⟨a,b,d⟩ | h
 ·exact .inl ⟨a,b,by rw[e];exact d⟩
 ·exact .inr (.inl (p _ h))
 ·exact .inr (.inr (.inl ⟨a,j b,p _ d⟩))
 ·exact .inr (.inr (.inr h))
theorem Bk{A:List Nat}{cs d:List CV}{i:Nat}(nd:A.Nodup)(h:∀j,j∈A↔∃c,cs[j]?=ag c/\c.st≠9)(f:∀c,d[i]?=ag c->c.st=9)(g:∀j,j≠i->d[j]?=cs[j]?):∀j,j∈A.erase i↔∃c,d[j]?=ag c/\c.st≠9:=λj=>by
 rw[nd.mem_erase_iff]
 by_cases e:j=i
 ·subst e
  exact⟨λa=>absurd rfl a.1,λ⟨c,a,b⟩=>absurd (f c a) b⟩
 ·rw[g j e,<-h j]
  exact⟨λa=>a.2,λa=>⟨e,a⟩⟩
theorem De(h:fy K E){i:Nat}(k:E.cW≠ag i){d m:Nat}{l:By}:fy K (Ak E i d m l):=by
 unfold Ak
 refine⟨h.ow,h.o1,h.o2,h.o3,h.q,h.qb,?_,h.nd.erase _,?_,h.lead0,?_,h.line,h.clk,h.dl,h.ond,λj b=>by rw[fM];exact h.owl j b,h.fit⟩
 ·refine Bk h.nd h.act (λc a=>?_) (λj e=>?_)
  ·dsimp only at a
   rw[dB,bj rfl]at a
   cases hx:E.cs[i]? with
   | none=>rw[hx]at a;cases a
   | some x=>rw[hx]at a;injection a with a;rw[<-a]
  ·dsimp only
   rw[dB,bf (λx=>e x.symm)]
 ·intro j c a
  dsimp only at a
  rw[dB]at a
  by_cases e:i=j
  ·rw[bj e]at a
   cases hx:E.cs[j]? with
   | none=>rw[hx]at a;cases a
   | some x=>rw[hx]at a;injection a with a;subst a;exact .inr (.inr (.inr rfl))
  ·rw[bf e]at a
   exact lF (h.calls j c a) rfl rfl rfl id
 ·intro j b
  obtain⟨c,f,g⟩:=h.lead j b
  refine⟨c,?_,g⟩
  dsimp only
  rw[dB,bf (λe=>k (by rw[e];exact b))]
  exact f
theorem aab(h:fy K E){i:Nat}{c:CV}(d:E.cs[i]?=ag c)(l:E.cW≠ag i)(m:c.st≠9)(st:Nat)(f:fx K E i c st):fy K { E with cs:=fh E.cs i (λc=>{ c with st:=st }) }:=by
 have n:st=2\/st=3\/st=4:=by rcases f with⟨a,-⟩ | ⟨a,-⟩ | ⟨a,-⟩ <;> simp[a]
 refine⟨h.ow,h.o1,h.o2,h.o3,h.q,h.qb,?_,h.nd,?_,h.lead0,?_,h.line,h.clk,h.dl,h.ond,λj b=>by rw[fM];exact h.owl j b,h.fit⟩
 ·intro j
  rw[h.act j]
  dsimp only
  rw[dB]
  by_cases e:i=j
  ·subst e
   rw[bj rfl,d]
   exact⟨λ_=>⟨_,rfl,by show st≠9;omega⟩,λ_=>⟨c,rfl,m⟩⟩
  ·rw[bf e]
 ·intro j x hx
  dsimp only at hx
  rw[dB]at hx
  by_cases e:i=j
  ·subst e
   rw[bj rfl,d]at hx
   injection hx with hx
   subst hx
   exact .inr (.inl f)
  ·rw[bf e]at hx
   exact lF (h.calls j x hx) rfl rfl rfl id
 ·intro j b
  obtain⟨x,g,k⟩:=h.lead j b
  refine⟨x,?_,k⟩
  dsimp only
  rw[dB,bf (λe=>l (by rw[e];exact b))]
  exact g
theorem Ct(h:fy K E){i:Nat}{c:CV}(d:E.cs[i]?=ag c)(g:E.cW=ae)(l:c.st≠9)(back:Nat)(m:fx K E i c back)(p:E.tk<E.D.length):fy K (mU E i back):=by
 obtain⟨n,o⟩:=h.lead0 g
 have k:E.held≠[]:=λe=>by
  have q:=h.q
  rw[e,fY]at q
  by_cases f:E.line=[]
  ·rw[f]at q
   have:=congrArg List.length q
   rw[lA,cV]at this
   simp at this
   omega
  ·exact h.line f e
 unfold mU
 refine⟨h.ow,h.o1,h.o2,h.o3,h.q,h.qb,?_,h.nd,?_,(λe=>by cases e),?_,h.line,λ_=>bT _,h.dl,h.ond,λj b=>by rw[fM];exact h.owl j b,h.fit⟩
 ·intro j
  rw[h.act j]
  dsimp only
  rw[dB]
  by_cases e:i=j
  ·subst e
   rw[bj rfl,d]
   exact⟨λ_=>⟨_,rfl,by show(6:Nat)≠9;decide⟩,λ_=>⟨c,rfl,l⟩⟩
  ·rw[bf e]
 ·intro j x hx
  dsimp only at hx
  rw[dB]at hx
  by_cases e:i=j
  ·subst e
   rw[bj rfl,d]at hx
   injection hx with hx
   subst hx
   exact .inr (.inr (.inl ⟨.inl rfl,rfl,m⟩))
  ·rw[bf e]at hx
   refine lF (h.calls j x hx) rfl rfl rfl λa=>?_
   rw[g]at a
   cases a
 ·intro j b
  injection b with b
  subst b
  refine⟨{ c with st:=6,back:=back },?_,.inl ⟨rfl,n,o,k⟩⟩
  dsimp only
  rw[dB,bj rfl,d]
  rfl
end
end
end Go.Proofs.YtooinenkenobaaaGreat

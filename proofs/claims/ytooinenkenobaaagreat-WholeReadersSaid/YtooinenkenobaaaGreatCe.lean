/- A part of the proof of what LawWholeReaders says. -/
import Derived.Test.YtooinenkenobaaaGreatAa
import Derived.Test.YtooinenkenobaaaGreatCd
import Derived.Test.YtooinenkenobaaaGreatBh
import Derived.Test.YtooinenkenobaaaGreatBl
set_option maxRecDepth 100000
set_option maxHeartbeats 20000000
namespace Go.Proofs.YtooinenkenobaaaGreat
open Option renaming none->ae,some->ag
open Bool renaming false->ah,true->aj
open Go.Proofs.Tryz renaming prog->ax
open Go.Value renaming int->ay,pointer->aA,slice->aB,bool->aC,float->aD
open Go.IntKind renaming i64->az
open Go.FloatKind renaming f64->aE
open Go.Ending renaming returned->aF
open Go.Obj renaming cells->aG
open Go renaming World->am,Value->ar,TypeId->au,Calls->aw
section
open Go.RowKit Go.Maps
section
variable{K:dw}{P:jx}{R:oG}
theorem Ly{E:fm}(h:fy K E){x:fw}(hx:x∈E.line):∃j,x.id=((K.b0+j:Nat):Int)/\j<E.D.length:=by
 have b:x∈gK K.b0 E.tk (E.D.drop E.tk):=by rw[<-h.q];exact oJ _ hx
 obtain⟨j,a⟩:=aj1.1 b
 rw[jM]at a
 cases hy:(E.D.drop E.tk)[j]? with
 | none=>rw[hy]at a;cases a
 | some y=>
  rw[hy]at a
  injection a with a
  have:=(aK.1 hy).1
  rw[cV]at this
  exact⟨E.tk+j,by rw[<-a],by omega⟩
theorem SC{a:Nat}{ow b:List Nat}{i j:Nat}{z:Int}(d:z=((a+j:Nat):Int))(c:j<ow.length):wJ a (ow++[i]) b z=wJ a ow b z:=by
 subst d
 unfold wJ
 rw[show(((a+j:Nat):Int)-(a:Int)).toNat=j by omega,bI c]
theorem SA{a:Nat}{ow c:List Nat}{i b:Nat}(d:c[i]?=ag b):wJ a (ow++[i]) c ((a+ow.length:Nat):Int)=b:=by
 unfold wJ
 rw[show(((a+ow.length:Nat):Int)-(a:Int)).toNat=ow.length by omega,bH dx,dR]
 show c[i]?.getD 0=b
 rw[d]
 rfl
theorem dZ.put{w x:am}{g g':Tg}{B M:Nat}{E:fm}{o:List Nat}{C N fl':Lit->Option ar}(H:dZ w g B M K P E o R C N)(h:fy K E){i b:Nat}{c:CV}(F:E.cs[i]?=ag c)(D:o[i]?=ag b)(T:Ch [30,31,32,33,50,53,54,60] g w g' x)
 (yz:Row x g' 50 B (jP K P R ((K.b0+(E.D.length+1):Nat):Int) E.begun E.cT) 122)
 {dv rv:ar} (L:oN w g dv c.ask.data) (J:oN w g rv c.rd) (p:Bool×List fw×List fw) (r:lf K.cap K.dO E.held E.line ⟨((K.b0+E.D.length:Nat):Int),((16+c.ask.data.length:Nat):Int)⟩=p)
 (hr:x.heap[b]?=ag (aG (ji ((i:Int)+1) { c with lsn:=K.b0+E.D.length,lR:=p.1 } dv rv) 133 (0,0)))
 (I:jI x g' R.qb K.cap K.dO p.2.1 p.2.2 (((K.b0+E.D.length:Nat):Int)+1) (E.D.length+1))
 (Z:i9 x g' 53 2 R.dm (E.D.length+1) (fU C (kI ((K.b0+E.D.length:Nat):Int)) dv)) (Y:i9 x g' 54 2 R.lm (E.D.length+1) fl') (n:∀kl,kl≠kI ((K.b0+E.D.length:Nat):Int)->fl' kl=N kl)
 (u:p.1=ah->fl' (kI ((K.b0+E.D.length:Nat):Int))=ag (aA (ag ⟨b,0,ae⟩))) (t:∀q,q≠b->q<w.heap.size->g q=60->x.heap[q]?=w.heap[q]?):dZ x g' B M K P (mR K E i c) o R (fU C (kI ((K.b0+E.D.length:Nat):Int)) dv) fl':=by
 obtain⟨l,ht⟩:=H.lt F D
 have wl:E.wr<=E.D.length:=bJ h.o2 h.o3
 unfold mR
 rw[r]
 refine⟨by dsimp only;rw[aN];exact yz,?_,?_,H.Ek.ch T (by decide),H.clk.ch T (by decide),H.ul.ch T (by decide),H.act.ch T (by decide),?_,?_,?_,H.ld,H.xy.ch T (by decide) (by decide),?_,H.cw,H.now⟩
 ·dsimp only
  rw[List.take_append_of_le_length wl]
  exact H.log.ch T (by decide)
 ·dsimp only
  rw[aN]
  have e:(((K.b0+(E.D.length+[c.ask.data].length):Nat)):Int)=((K.b0+E.D.length:Nat):Int)+1:=by
   show(((K.b0+(E.D.length+1):Nat)):Int)=_
   omega
  rw[e]
  exact I
 ·refine⟨by dsimp only;rw[aN];exact Z,λk d O f=>?_⟩
  dsimp only at f O
  rcases cg k E.D.length with S | S
  ·rw[bI S]at f
   obtain⟨v,W,X⟩:=H.sg.ie k d O f
   refine⟨v,?_,X.ch T (by decide)⟩
   unfold fU
   rw[bf (λe=>by unfold kI at e;injection e with _ e;omega)]
   exact W
  ·have G:=(aK.1 f).1
   have e:k=E.D.length:=by simp at G;omega
   subst e
   rw[bH dx,dR]at f
   injection f with f
   subst f
   exact⟨dv,by unfold fU;rw[bj rfl],L.ch T (by decide)⟩
 ·dsimp only;rw[aN];exact Y
 ·intro y a
  dsimp only at a ⊢
  have Q:∀y,y∈E.line->fl' (kI y.id)=ag (aA (ag ⟨wJ K.b0 (E.ow++[i]) o y.id,0,ae⟩)):=λy a=>by
   obtain⟨j,U,V⟩:=Ly h a
   rw[SC U (by rw[h.ow];exact V),n _ (λe=>by unfold kI at e;injection e with _ e;omega)]
   exact H.r' y a
  rcases mQ K.cap K.dO E.held E.line ⟨((K.b0+E.D.length:Nat):Int),((16+c.ask.data.length:Nat):Int)⟩with⟨-,e,-,A,-⟩ | ⟨z,-,A,-⟩
  ·rw[<-r,A]at a
   exact Q y a
  ·rw[<-r]at a
   rw[A]at a
   rcases jk.1 a with a | a
   ·exact Q y a
   ·rw[cE.1 a]
    dsimp only
    rw[show K.b0+E.D.length=K.b0+E.ow.length by rw[h.ow],SA D,show K.b0+E.ow.length=K.b0+E.D.length by rw[h.ow]]
    exact u (by rw[<-r];exact z)
 ·refine H.cls.upd _ D (aK.1 F).1 (λq I l m=>⟨?_,T.tag q l⟩) T.size (λc0 s=>?_)
  ·rcases m with m | m
   ·exact T.gP q l (by rw[m];decide)
   ·exact t q I l m
  ·rw[F]at s
   injection s with s
   subst s
   exact⟨dv,rv,⟨hr,(T.tag b l).trans ht⟩,L.ch T (by decide),J.ch T (by decide)⟩
end
section
variable{K:dw}{P:jx}{R:oG}
theorem YB(x y z:Int)(w:am):(Instr.field 125 (.agg #[ay az x,ay az y,ay az z]) 2).run ax w=.ok (ay az z) w:=by kernel_rfl
theorem PA(d L b i:Nat)(E:fm)(u:List Nat)(S T:Lit->Option ar)(c:CV)(w:am)(g:Tg)(H:dZ w g d L K P E u R S T)(z:E.cs[i]?=ag c)(y:u[i]?=ag b)(F:jp K E c.ask.data)(x:kX K)(U:E.D.length<=1000):
 aw ax 242 #[aA (ag ⟨d,0,ae⟩),aA (ag ⟨b,0,ae⟩)] w λe w'=>e=aF (ay az 0)/\Below w.heap.size w w':=by
 obtain⟨dv,rv,r,C,-⟩:=(H.cls.ie i c b z y).ex
 obtain⟨J,N,rfl,-⟩:=C.ex
 obtain⟨m,n⟩:=bP c.ask.data.length
 have c3:w.cell? ⟨b,3,ae⟩=ag (aB J m N):=by rw[<-n];exact r.cell 3
 have k:=F.d4
 have l:=F.dO
 rw[n]at k l
 have sz:=BO k
 obtain⟨rs,D⟩:=bP (((K.b0+E.D.length:Nat):Int):Int)
 have I:=x.b2
 have q1:¬ rs=9223372036854775807:=by omega
 have q2:(rs==9223372036854775807)=ah:=by simp;omega
 obtain⟨j,h⟩:=bP (K.dO:Int)
 rw[h]at l
 have q3:¬(16:Int)+(m:Int) > j:=by omega
 have q4:decide (j<(16:Int)+(m:Int))=ah:=bC (by omega)
 have q5:¬(16:Int)+(m:Int)=0:=by omega
 have e3:w.cell? ⟨d,3,ae⟩=ag (ay az j):=by rw[<-h];exact H.row.cell 3
 have e9:w.cell? ⟨d,9,ae⟩=ag (aA (ag ⟨R.qb,0,ae⟩)):=H.row.cell 9
 have O:w.cell? ⟨d,16,ae⟩=ag (ay az rs):=by rw[<-D];exact H.row.cell 16
 have QU:w.cell? ⟨d,21,ae⟩=ag (aC ah):=H.row.cell 21
 obtain⟨W,f,M,-⟩:=H.zL.ex
 obtain⟨lv,a,iB,A,-,B,-⟩:=M.ex
 obtain⟨Y,Z,rfl,-⟩:=B.shape
 have q:=aH A
 have G:=aH H.zL.bnd.c1
 obtain⟨V,s⟩:=bP E.held.length
 obtain⟨sn,t⟩:=bP (eR E.held)
 obtain⟨o,p⟩:=bP E.line.length
 have X:=F.ln
 rw[p]at X
 have q6:¬(o:Int)>=1024:=by omega
 have q7:decide ((1024:Int)<=(o:Int))=ah:=bC (by omega)
 rw[s,t,p]at q
 have fq:=YB
 clear H z y F U r C M A B s t p n k D h l I x
 go_in
 go_wp2_with fail
 refine(pS (m:Int) w).mono ?_
 rintro e w' ⟨rfl,rfl⟩
 rw[sz]
 go_wp2_with fail
 refine(Jc R.qb K.cap K.dO sn lv a V Y o Z W w q.out (by have:=G.out;omega)).mono ?_
 rintro e w2 ⟨rfl,Q⟩
 go_wp2_with fail
 go_ret
 exact⟨rfl,Q⟩
end
section
variable{K:dw}{P:jx}{R:oG}
theorem Pz(f I b i:Nat)(E:fm)(A:List Nat)(fd t:Lit->Option ar)(c:CV)(w:am)(g:Tg)(H:dZ w g f I K P E A R fd t)(h:fy K E)(hc:E.cs[i]?=ag c)(hb:A[i]?=ag b)(u:c.ask.kind=1\/c.ask.kind=2)(F:jp K E c.ask.data)(hK:kX K)(hd:E.D.length<=1000)
 (p:Bool×List fw×List fw) (hp:lf K.cap K.dO E.held E.line ⟨((K.b0+E.D.length:Nat):Int),((16+c.ask.data.length:Nat):Int)⟩=p):
 aw ax 233 #[aA (ag ⟨f,0,ae⟩),aA (ag ⟨b,0,ae⟩)] w λe w'=>∃g' Ai fl',Ch [30,31,32,33,50,53,54,60] g w g' w'/\((p.1=aj/\c.ask.kind=2/\e=aF (iU 9)/\dZ w' g' f I K P (lV (mR K E i c) i 0 (K.b0+E.D.length) []) A R Ai fl')\/
  (p.1=aj/\c.ask.kind=1/\e=aF (iU 3)/\dZ w' g' f I K P (mR K E i c) A R Ai fl')\/(p.1=ah/\e=aF (iU 2)/\dZ w' g' f I K P (mR K E i c) A R Ai fl')):=by
 obtain⟨w1,gv,dJ,dL⟩:=bG w #[ay az 0,.nilFunc,.nilFunc] 131
 obtain⟨G,c1,n1,-⟩:=ku (g:=g) dJ.out dL.out
 have C1:=aH c1
 have N1:=aH n1
 have H1:=aH (H.ch C1.out (λ_ _ h=>by cases h))
 have HC:=aH hc
 have HB:=aH hb
 have HK:=aH u
 have OK:=aH h
 have FF:=aH F
 have HP:=aH hp
 have DL:=aH hd
 have ad:=aH (PA f I b i E A fd t c w1 G H1.out hc hb F hK hd)
 obtain⟨rs,zM⟩:=bP (((K.b0+E.D.length:Nat):Int):Int)
 have s:=aH zM
 have b2:=hK.b2
 have r0:0<=rs:=by omega
 have r1:rs<=2000000000000000000:=by omega
 have al:IntKind.i64.wrap (rs+1)=rs+1:=nH (by omega)
 clear H h hc hb u F hK hp hd c1 n1 zM b2
 go_in
 go_wp2_with fail
 refine ad.out.mono ?_
 rintro e C ⟨rfl,eA⟩
 have W:=aH (H1.out.low eA)
 have N2:=aH (N1.out.below eA)
 have C2:=aH (C1.out.on eA)
 obtain⟨dv,rv,r,sd,sr⟩:=(W.out.cls.ie i c b HC.out HB.out).ex
 obtain⟨l,n,rfl,-⟩:=sd.ex
 have SD:=aH sd
 have SR:=aH sr
 have O:=aH r
 obtain⟨m,hm⟩:=bP c.ask.data.length
 have HM:=aH hm
 rw[hm]at O SD
 have Q:=W.out.row
 rw[s.out]at Q
 have M:=aH Q
 have ne:f≠b:=jt M.out.tag O.out.tag (by decide)
 have nn:w.heap.size≠b:=jt N2.out.tag O.out.tag (by decide)
 have ak:w.heap.size≠f:=jt N2.out.tag M.out.tag (by decide)
 have af:C.cell? ⟨f,16,ae⟩=ag (ay az rs):=M.out.cell 16
 have ai:=M.out.free 16
 have c4:C.cell? ⟨b,4,ae⟩=ag (ay az c.lsn):=O.out.cell 4
 have f4:=O.out.free 4
 clear eA r sd sr hm Q
 go_wp2_with fail
 clear af ai c4 f4
 obtain⟨x,hx⟩:=bP ((C.setCell ⟨b,4,ae⟩ (ay az rs)).setCell ⟨f,16,ae⟩ (ay az (rs+1)))
 have BX:=aH (show Row x G 60 b _ _ from by rw[<-hx];exact(O.out.set 4 (ay az rs)).iZ (cQ ne))
 have EX:=aH (show Row x G 50 f (jP K P R (rs+1) E.begun E.cT) 122 from by rw[<-hx];exact(M.out.iZ ne).set 16 (ay az (rs+1)))
 have NX:=aH (show Row x G 99 w.heap.size _ _ from by rw[<-hx];exact(N2.out.iZ nn).iZ ak)
 have CX:=aH (show Ch [50,60] G C G x from by rw[<-hx];exact((Ch.refl _ _ _).set _ (.inl (by rw[O.out.tag];decide))).set _ (.inl (by rw[M.out.tag];decide)))
 have OX:=aH (show ∀q,q≠b->q≠f->x.heap[q]?=C.heap[q]? from λq Z h2=>by rw[<-hx];exact(bD h2).trans (bD Z))
 rw[hx]
 clear hx
 have DM:=aH (W.out.sg.map.ch CX.out (by decide))
 have qR:∀p:In (λw'=>w'.cell? ⟨f,14,ae⟩=ag (.map (ag R.dm))/\w'.cell? ⟨b,4,ae⟩=ag (ay az rs)/\w'.cell? ⟨b,3,ae⟩=ag (aB l m n)),p.w.cell? ⟨f,14,ae⟩=ag (.map (ag R.dm))/\p.w.cell? ⟨b,4,ae⟩=ag (ay az rs)/\p.w.cell? ⟨b,3,ae⟩=ag (aB l m n):=λp=>p.h
 refine ct [0,1,2,3,4,5,6,7,8,9,10,11,12] 13 (λw'=>w'.cell? ⟨f,14,ae⟩=ag (.map (ag R.dm))/\w'.cell? ⟨b,4,ae⟩=ag (ay az rs)/\w'.cell? ⟨b,3,ae⟩=ag (aB l m n)) (by kernel_rfl) (by kernel_rfl) (by intro c a d v w h;cases d <;> exact h) ⟨EX.out.cell 14,BX.out.cell 4,BX.out.cell 3⟩ ?_
 intro dF
 simp only[pick,aV,a8,aQ,aR,aI,aL]
 refine aX 13 (by kernel_rfl) ?_
 simp only[aJ,aO,aI,aL]
 repeat (go_big_quiet_step (fail))
 refine aU ?_
 refine bF ?_
 clear dF qR
 change wpList _ _ _ _ _ _
 go_wp2_with (at_mapUpdate;refine jK rfl 117 rfl 2 48 ly Tryz.underlying117 R.dm E.D.length fd rfl (DM.out.map.move rfl) (by have:=DL.out;omega) (kI rs) rfl rfl (uO (by omega)) trivial ?_)
 intro o M3 g3
 have X:Ch [53] G x G o:=(Ch.bh [53] G (bi x)).grown g3 (λq hq=>.inl (by cases hq;rw[DM.out.tag];decide))
 have C3:=aH X
 have B3:=aH (BX.out.ch X (by decide))
 have E3:=aH (EX.out.ch X (by decide))
 have N3:=aH (NX.out.ch X (by decide))
 have Q3:=aH ((W.out.zL.ch CX.out (by decide)).ch X (by decide))
 have MD:=aH (show i9 o G 53 2 R.dm (E.D.length+1) (fU fd (kI rs) (aB l m n))from⟨M3,DM.out.tag⟩)
 clear X g3 M3
 have sz:=BO (show m<=4096 by have:=FF.out.d4;rw[HM.out]at this;exact this)
 have uz:lf K.cap K.dO E.held E.line ⟨rs,16+(m:Int)⟩=p:=by
  rw[<-HP.out,<-s.out,HM.out]
  rfl
 have ab:=aH (agi R.qb K.cap K.dO E.held E.line rs (16+(m:Int)) E.D.length o.drew G (by have:=Q3.out.ch (Ch.bh [] G (bi o)) (by decide);rw[s.out]at this;exact this) ⟨by omega,by have:=FF.out.dO;rw[HM.out]at this;omega⟩ FF.out.ln (by omega) (by have:=DL.out;omega))
 rw[uz]at ab
 clear uz
 go_wp2_with fail
 have qR:∀p:In (λw'=>w'.cell? ⟨f,9,ae⟩=ag (aA (ag ⟨R.qb,0,ae⟩))/\w'.cell? ⟨b,4,ae⟩=ag (ay az rs)/\w'.cell? ⟨b,3,ae⟩=ag (aB l m n)),p.w.cell? ⟨f,9,ae⟩=ag (aA (ag ⟨R.qb,0,ae⟩))/\p.w.cell? ⟨b,4,ae⟩=ag (ay az rs)/\p.w.cell? ⟨b,3,ae⟩=ag (aB l m n):=λp=>p.h
 refine bX [0,1,2,3,4,5,6,7,8,9,10,11,12,13,14,15,16,17,18,19,20,21,22] (λw'=>w'.cell? ⟨f,9,ae⟩=ag (aA (ag ⟨R.qb,0,ae⟩))/\w'.cell? ⟨b,4,ae⟩=ag (ay az rs)/\w'.cell? ⟨b,3,ae⟩=ag (aB l m n)) (by kernel_rfl) (by kernel_rfl) (by intro c a d v w h;cases d <;> exact h) ⟨E3.out.cell 9,B3.out.cell 4,B3.out.cell 3⟩ ?_
 intro dF
 simp only[pick,aV,a8,aQ,aR]
 refine aX 15 (by kernel_rfl) ?_
 simp only[aJ,aO,aI,aL]
 repeat (go_big_quiet_step (fail))
 refine aU ?_
 refine aS rfl ?_ rfl
 go_wp2_with fail
 refine(pS (m:Int) o.drew).mono ?_
 rintro e wd ⟨rfl,rfl⟩
 rw[sz]
 go_wp2_with fail
 refine⟨⟨⟨_,⟨(E3.out.below (bi o)).cell 9,(B3.out.below (bi o)).cell 4,(B3.out.below (bi o)).cell 3⟩⟩,rfl⟩,?_⟩
 refine aS rfl ?_ rfl
 go_wp2_with fail
 refine ab.out.mono ?_
 rintro e w4 ⟨j,rfl,c4,q4⟩
 have cd:Ch [] G o G o.drew:=Ch.bh [] G (bi o)
 have L:=aH (cd.any.trans c4)
 have Q4:=aH q4
 have T:=aH (B3.out.ch L.out (by decide))
 have E4:=aH (E3.out.ch L.out (by decide))
 have N4:=aH (N3.out.ch L.out (by decide))
 have M4:=aH (MD.out.ch L.out (by decide))
 obtain⟨pi,TY⟩:=bP p.1
 rw[TY]
 have PI:=aH TY
 clear c4 q4 cd TY
 go_wp2_with fail
 refine⟨⟨⟨_,⟨E4.out.cell 9,T.out.cell 4,T.out.cell 3⟩⟩,rfl⟩,?_⟩
 refine aX 5 (by kernel_rfl) ?_
 simp only[aJ,aO,aI,aL]
 repeat (go_big_quiet_step (fail))
 refine aU ?_
 have c5:w4.cell? ⟨b,5,ae⟩=ag (.bool c.lR):=T.out.cell 5
 have f5:=T.out.free 5
 obtain⟨k,yy⟩:=bP (w4.setCell ⟨b,5,ae⟩ (.bool pi))
 have U:=aH (show Row k j 60 b _ _ from by rw[<-yy];exact T.out.set 5 (.bool pi))
 have V:=aH (show Ch [60] j w4 j k from by rw[<-yy];exact(Ch.refl _ _ _).set _ (.inl (by rw[T.out.tag];decide)))
 have E5:=aH (E4.out.ch V.out (by decide))
 have N5:=aH (N4.out.ch V.out (by decide))
 have M5:=aH (M4.out.ch V.out (by decide))
 have Q5:=aH (Q4.out.ch V.out (by decide))
 have T5:=aH (show Ch [30,31,32,33,50,53,54,60] G C j k from(((CX.out.mono (by decide)).trans (C3.out.mono (by decide))).trans (L.out.mono (by decide))).trans (V.out.mono (by decide)))
 have L5:=aH ((W.out.A8.ch CX.out (by decide)).ch C3.out (by decide) |>.ch L.out (by decide) |>.ch V.out (by decide))
 refine aS rfl ?_ rfl
 go_wp2_with fail
 refine⟨⟨⟨_,⟨E5.out.cell 9,U.out.cell 4,U.out.cell 3⟩⟩,rfl⟩,?_⟩
 refine bF ?_
 clear dF qR
 have O5:=aH (show ∀q,q≠b->q<C.heap.size->G q=60->k.heap[q]?=C.heap[q]? from λq Z h2 h3=>by
  have hq:q≠f:=λe=>by have:=M.out.tag;rw[<-e,h3]at this;cases this
  have k0:x.heap[q]?=C.heap[q]?:=OX.out q Z hq
  have l0:q<x.heap.size:=aW h2 CX.out.size
  have l3:q<o.heap.size:=aW l0 C3.out.size
  rw[<-yy,bD Z]
  exact((L.out.gP q l3 (by rw[h3];decide)).trans (C3.out.gP q l0 (by rw[h3];decide))).trans k0)
 have HR:=aH (show k.heap[b]?=ag (aG (ji ((i:Int)+1) { c with lsn:=K.b0+E.D.length,lR:=p.1 } (aB l m n) rv) 133 (0,0))from by
  have hh:=U.out.row
  rw[PI.out]
  have e:ji ((i:Int)+1) { c with lsn:=K.b0+E.D.length,lR:=pi } (aB l m n) rv=((ji ((i:Int)+1) c (aB l m n) rv).setIfInBounds 4 (ay az rs)).setIfInBounds 5 (.bool pi):=by rw[<-s.out];rfl
  rw[e]
  exact hh)
 have EP:=aH (show ∀(y:am) (fl':Lit->Option ar),Ch [54] j k j y->i9 y j 54 2 R.lm (E.D.length+1) fl'->(∀kl,kl≠kI rs->fl' kl=t kl)->(p.1=ah->fl' (kI rs)=ag (aA (ag ⟨b,0,ae⟩)))->dZ y j f I K P (mR K E i c) A R (fU fd (kI rs) (aB l m n)) fl' from λy fl' Y my Z h2=>by
  have key:=W.out.put OK.out HC.out HB.out (x:=y) (g':=j) (fl':=fl') (T5.out.trans (Y.mono (by decide))) (by
   have:=E5.out.ch Y (by decide)
   rw[show((K.b0+(E.D.length+1):Nat):Int)=rs+1 by have:=s.out;omega]
   exact this) (dv:=aB l m n) (rv:=rv) (by rw[<-HM.out]at SD ⊢;exact SD.out) SR.out p HP.out ((Y.dV HR.out (by rw[U.out.tag];decide))) (by rw[s.out];exact Q5.out.ch Y (by decide)) (by rw[s.out];exact M5.out.ch Y (by decide)) my (by rw[s.out];exact Z) (by rw[s.out];exact h2) (λq k1 k2 k3=>by
    have l2:q<k.heap.size:=aW k2 T5.out.size
    have t5:j q=60:=(T5.out.tag q k2).trans k3
    exact(Y.gP q l2 (by rw[t5];decide)).trans (O5.out q k1 k2 k3))
  rw[s.out]at key
  exact key)
 have J:=aH (show Ch [30,31,32,33,50,53,54,60] g w j k from C2.out.any.trans T5.out)
 have aa:=aH (show(mR K E i c).cs[i]?=ag { c with lsn:=K.b0+E.D.length,lR:=p.1 }from by
  unfold mR
  rw[HP.out]
  dsimp only
  rw[dB,bj rfl,HC.out]
  rfl)
 have ac:=aH (show i9 k j 54 2 R.lm (E.D.length+1) t from⟨L5.out.map.mono (Nat.le_succ _),L5.out.tag⟩)
 clear yy f5 c5 sz al
 have b5:k.cell? ⟨b,5,ae⟩=ag (.bool pi):=U.out.cell 5
 cases pi with
 | true=>
  have H5:=aH (EP.out k t (Ch.refl _ _ _) ac.out (λ_ _=>rfl) (λh=>by rw[PI.out]at h;cases h))
  rcases HK.out with u | u
  ·have N:=aH u
   go_wp2_with fail
   refine(Mo f I b i _ A _ t _ k j H5.out aa.out HB.out u).mono ?_
   clear u b5
   rintro e S ⟨rfl,B⟩
   have H6:=aH (H5.out.low B)
   have z:=aH (N5.out.below B)
   have C6:=aH (J.out.on B)
   have k6:=eH z.out.row
   clear B
   unfold iU lO lL lK
   go_wp2_with fail
   refine bn (dM rfl w.heap.size 3 rfl rfl z.out.row) rfl ?_
   exact⟨j,_,t,C6.out.ga _ _ _ (.inr dx),.inr (.inl ⟨PI.out,N.out,rfl,H6.out.ch ((Ch.refl [99] j S).ga (b:=w.heap.size) _ _ _ (.inl (by rw[z.out.tag];decide))) (by decide)⟩)⟩
  ·have N:=aH u
   go_wp2_with fail
   refine(Mn f I b i _ A _ t _ k j H5.out aa.out HB.out u).mono ?_
   clear u b5
   rintro e S ⟨rfl,g6,D,h6⟩
   have H6:=aH h6
   have z:=aH (N5.out.ch D (by decide))
   have C6:=aH (J.out.trans (D.mono (by decide)))
   have k6:=eH z.out.row
   clear D h6
   unfold iU lO lL lK
   go_wp2_with fail
   refine bn (dM rfl w.heap.size 9 rfl rfl z.out.row) rfl ?_
   exact⟨g6,_,t,C6.out.ga _ _ _ (.inr dx),.inl ⟨PI.out,N.out,rfl,H6.out.ch ((Ch.refl [99] g6 S).ga (b:=w.heap.size) _ _ _ (.inl (by rw[z.out.tag];decide))) (by decide)⟩⟩
 | false=>
  go_wp2_with fail
  have qR:∀p:In (λw'=>w'.cell? ⟨f,15,ae⟩=ag (.map (ag R.lm))/\w'.cell? ⟨b,4,ae⟩=ag (ay az rs)),p.w.cell? ⟨f,15,ae⟩=ag (.map (ag R.lm))/\p.w.cell? ⟨b,4,ae⟩=ag (ay az rs):=λp=>p.h
  refine ct [0,1,2,3,4,5,6,7,8] 9 (λw'=>w'.cell? ⟨f,15,ae⟩=ag (.map (ag R.lm))/\w'.cell? ⟨b,4,ae⟩=ag (ay az rs)) (by kernel_rfl) (by kernel_rfl) (by intro c a d v w h;cases d <;> exact h) ⟨E5.out.cell 15,U.out.cell 4⟩ ?_
  intro dF
  simp only[pick,aV,a8,aQ,aR,aI,aL]
  refine aX 9 (by kernel_rfl) ?_
  simp only[aJ,aO,aI,aL]
  repeat (go_big_quiet_step (fail))
  refine aU ?_
  refine bF ?_
  clear dF qR
  change wpList _ _ _ _ _ _
  go_wp2_with (at_mapUpdate;refine jK rfl 118 rfl 2 119 ly Tryz.underlying118 R.lm E.D.length t rfl (L5.out.map.move rfl) (by have:=DL.out;omega) (kI rs) rfl rfl (uO (by omega)) trivial ?_)
  intro S M6 g6
  have D:Ch [54] j k j S:=(Ch.bh [54] j (bi k)).grown g6 (λq hq=>.inl (by cases hq;rw[L5.out.tag];decide))
  have H6:=aH (EP.out S _ D ⟨M6,L5.out.tag⟩ (λkl yD=>by unfold fU;rw[bf yD]) (λ_=>by unfold fU;rw[bj rfl]))
  have z:=aH (N5.out.ch D (by decide))
  have C6:=aH (J.out.trans (D.mono (by decide)))
  clear D g6 M6 b5
  go_wp2_with fail
  refine(Fo S).mono ?_
  rintro e w7 ⟨rfl,Da⟩
  have H7:=aH (H6.out.low Da)
  have N7:=aH (z.out.below Da)
  have C7:=aH (C6.out.on Da)
  have k7:=eH N7.out.row
  clear Da
  unfold iU lO lL lK
  go_wp2_with fail
  refine bn (dM rfl w.heap.size 2 rfl rfl N7.out.row) rfl ?_
  exact⟨j,_,_,C7.out.ga _ _ _ (.inr dx),.inr (.inr ⟨PI.out,rfl,H7.out.ch ((Ch.refl [99] j w7).ga (b:=w.heap.size) _ _ _ (.inl (by rw[N7.out.tag];decide))) (by decide)⟩)⟩
end
section
variable{K:dw}{P:jx}{R:oG}
theorem UD(j o b i:Nat)(E:fm)(k:List Nat)(p q:Lit->Option ar)(c:CV)(w:am)(g:Tg)(H:dZ w g j o K P E k R p q)(A:E.cs[i]?=ag c)(z:k[i]?=ag b)(F:c.ask.kind=5)(L:K.b0<=c.ask.lsn)(M:∀d∈E.D,d.length<=4096):
 aw ax 225 #[aA (ag ⟨j,0,ae⟩),aA (ag ⟨b,0,ae⟩)] w λe w'=>(c.ask.lsn<K.b0+E.du/\e=aF (iU 9)/\∃g',Ch [60] g w g' w'/\dZ w' g' j o K P (lV E i 0 c.ask.lsn (E.D[c.ask.lsn-K.b0]?.getD [])) k R p q)\/
  (¬ c.ask.lsn<K.b0+E.du/\e=aF (iU 4)/\∃g',Ch [60] g w g' w'/\dZ w' g' j o K P E k R p q):=by
 obtain⟨B,T,O,Q⟩:=bG w #[ay az 0,.nilFunc,.nilFunc] 131
 obtain⟨G,D,J,-⟩:=ku (g:=g) O.out Q.out
 have s:=aH D
 have C:=aH J
 have u:=aH (H.ch s.out (λ_ _ h=>by cases h))
 obtain⟨dv,rv,r,-⟩:=(u.out.cls.ie i c b A z).ex
 have I:B.cell? ⟨b,1,ae⟩=ag (ay az 5):=by have:=r.cell 1;rw[this];show ag (Value.int IntKind.i64 (c.ask.kind:Int))=_;rw[F];rfl
 have l:B.cell? ⟨j,22,ae⟩=ag (aC ah):=u.out.row.cell 22
 have y:=aH (adb j o b i E k p q c B G u.out A z L M)
 clear r H A z F L M D J
 go_in
 go_wp2_with fail
 refine y.out.mono ?_
 rintro e N (⟨n,rfl,g2,f,m⟩ | ⟨n,rfl,g2,f,m⟩)
 ·have LT:=aH n
  have x:=aH m
  have a:=aH (C.out.ch f (by decide))
  have t:=aH (s.out.any.trans f)
  have S:=eH a.out.row
  clear n f m I l
  unfold iU lO lL lK
  go_wp2_with fail
  refine bn (dM rfl w.heap.size 9 rfl rfl a.out.row) rfl ?_
  exact .inl ⟨LT.out,rfl,g2,(t.out).ga _ _ _ (.inr dx),x.out.ch ((Ch.refl [99] g2 N).ga (b:=w.heap.size) _ _ _ (.inl (by rw[a.out.tag];decide))) (by decide)⟩
 ·have LT:=aH n
  have x:=aH m
  have a:=aH (C.out.ch f (by decide))
  have t:=aH (s.out.any.trans f)
  have S:=eH a.out.row
  clear n f m I l
  unfold iU lO lL lK
  go_wp2_with fail
  refine bn (dM rfl w.heap.size 4 rfl rfl a.out.row) rfl ?_
  exact .inr ⟨LT.out,rfl,g2,(t.out).ga _ _ _ (.inr dx),x.out.ch ((Ch.refl [99] g2 N).ga (b:=w.heap.size) _ _ _ (.inl (by rw[a.out.tag];decide))) (by decide)⟩
theorem Pv(k s b i:Nat)(E:fm)(n:List Nat)(L M:Lit->Option ar)(c:CV)(w:am)(g:Tg)(H:dZ w g k s K P E n R L M)(h:fy K E)(A:E.cs[i]?=ag c)(d:n[i]?=ag b)(Q:c.ask.kind=1\/c.ask.kind=2)(F:jp K E c.ask.data)(N:kX K)(O:E.D.length<=1000)
 {p:Bool×List fw×List fw} (S:lf K.cap K.dO E.held E.line ⟨((K.b0+E.D.length:Nat):Int),((16+c.ask.data.length:Nat):Int)⟩=p):
 aw ax 225 #[aA (ag ⟨k,0,ae⟩),aA (ag ⟨b,0,ae⟩)] w λe w'=>∃g' t fl',Ch [30,31,32,33,50,53,54,60] g w g' w'/\((p.1=aj/\c.ask.kind=2/\e=aF (iU 9)/\dZ w' g' k s K P (lV (mR K E i c) i 0 (K.b0+E.D.length) []) n R t fl')\/
  (p.1=aj/\c.ask.kind=1/\e=aF (iU 3)/\dZ w' g' k s K P (mR K E i c) n R t fl')\/(p.1=ah/\e=aF (iU 2)/\dZ w' g' k s K P (mR K E i c) n R t fl')):=by
 obtain⟨B,gv,W,X⟩:=bG w #[ay az 0,.nilFunc,.nilFunc] 131
 obtain⟨G,J,T,-⟩:=ku (g:=g) W.out X.out
 have D:=aH J
 have U:=aH T
 have x:=aH (H.ch D.out (λ_ _ h=>by cases h))
 obtain⟨dv,rv,r,-⟩:=(x.out.cls.ie i c b A d).ex
 obtain⟨o,I⟩:=bP (((c.ask.kind:Nat):Int):Int)
 have Y:B.cell? ⟨b,1,ae⟩=ag (ay az o):=by rw[<-I];exact r.cell 1
 have Z:¬ o=3:=by omega
 have q4:¬ o=4:=by omega
 have q5:¬ o=5:=by omega
 have q6:¬ o=6:=by omega
 have q7:¬ o=7:=by omega
 have z:B.cell? ⟨k,22,ae⟩=ag (aC ah):=x.out.row.cell 22
 have V:=aH (Pz k s b i E n L M c B G x.out h A d Q F N O p S)
 clear r H h A d Q F N O S J T I
 go_in
 go_wp2_with fail
 refine V.out.mono ?_
 rintro e C ⟨g2,l,m,y,a⟩
 have j:=aH (U.out.ch y (by decide))
 have u:=aH (D.out.any.trans y)
 have k2:=eH j.out.row
 clear y Y z Z q4 q5 q6 q7
 rcases a with⟨ha,d,rfl,a⟩ | ⟨ha,d,rfl,a⟩ | ⟨ha,rfl,a⟩
 ·have f:=aH (And.intro ha d)
  have q:=aH a
  clear ha d a
  unfold iU lO lL lK
  go_wp2_with fail
  refine bn (dM rfl w.heap.size 9 rfl rfl j.out.row) rfl ?_
  exact⟨g2,l,m,(u.out).ga _ _ _ (.inr dx),.inl ⟨f.out.1,f.out.2,rfl,q.out.ch ((Ch.refl [99] g2 C).ga (b:=w.heap.size) _ _ _ (.inl (by rw[j.out.tag];decide))) (by decide)⟩⟩
 ·have f:=aH (And.intro ha d)
  have q:=aH a
  clear ha d a
  unfold iU lO lL lK
  go_wp2_with fail
  refine bn (dM rfl w.heap.size 3 rfl rfl j.out.row) rfl ?_
  exact⟨g2,l,m,(u.out).ga _ _ _ (.inr dx),.inr (.inl ⟨f.out.1,f.out.2,rfl,q.out.ch ((Ch.refl [99] g2 C).ga (b:=w.heap.size) _ _ _ (.inl (by rw[j.out.tag];decide))) (by decide)⟩)⟩
 ·have f:=aH ha
  have q:=aH a
  clear ha a
  unfold iU lO lL lK
  go_wp2_with fail
  refine bn (dM rfl w.heap.size 2 rfl rfl j.out.row) rfl ?_
  exact⟨g2,l,m,(u.out).ga _ _ _ (.inr dx),.inr (.inr ⟨f.out,rfl,q.out.ch ((Ch.refl [99] g2 C).ga (b:=w.heap.size) _ _ _ (.inl (by rw[j.out.tag];decide))) (by decide)⟩)⟩
theorem Dg(a:Nat)(w:am):aw ax 284 #[aA (ag ⟨a,0,ae⟩),ay az 0] w λe w'=>e=aF (.tuple #[])/\w'=w:=by
 go_in
 go_wp2_with fail
 go_end0
 exact⟨rfl,rfl⟩
end
def BH(E:fm):fm:={ E with wr:=E.wr+E.batch.length }
def mG(E:fm)(want:Nat):fm:={ E with du:=E.wr,want:=want,cT:=E.cT+1,cW:=ae,batch:=[] }
theorem vZ:∀(b:BitVec 32) (n:Nat) (a:List By),(bY b n a).length=(a.map (λd:By=>16+d.length)).sum
 | _,_,[]=>rfl
 | b,n,d::a=>by
  simp only[bY,aN,iK,aV,lJ]
  rw[vZ]
theorem Fi(f:By->Nat):∀(D:List By) (k:Nat),((D.take k).map f).sum<=(D.map f).sum
 | [],k=>by simp
 | d::D,0=>by simp
 | d::D,k+1=>by
  simp only[aJ,aV,lJ]
  have:=Fi f D k
  omega
theorem tr.anU{w:am}{g:Tg}{v:ar}{L:List By}(h:tr w g v L)(H:1<=L.length):∃q f,v=aB (ag ⟨q,0,ae⟩) L.length f/\L.length<=f/\vu w g [0,55] q L:=by
 obtain⟨c,j,m,z⟩:=h.ex
 obtain⟨u0,k⟩:∃u,c[0]?=ag u:=⟨c[0]'(by omega),aP (by omega)⟩
 obtain⟨q,f,e,I,s,-,-⟩:=j.own.get (λ_=>rfl) k
 rw[m]at e s
 refine⟨q,f,e,s,by rw[j.tag q (by rw[e];rfl)];decide,j.own.lt q (by rw[e];rfl),λi d n=>?_⟩
 have B:i<c.length:=by rw[m];exact(aK.1 n).1
 obtain⟨u,p⟩:∃u,c[i]?=ag u:=⟨c[i],aP B⟩
 obtain⟨J,G,l,-,-,A,-⟩:=j.own.get (λ_=>rfl) p
 rw[e]at l
 injection l with a
 injection a with a
 injection a with a
 subst a
 obtain⟨t,x,y,C,D,E,F,r⟩:=(z i u d p n).ex
 have:=A 0 (by decide)
 exact⟨t,x,by rw[dY,fD]at this;rw[<-y];exact this,C,D,E,F,λq b e o=>⟨by rw[(r q b e o).1];decide,(r q b e o).2⟩⟩
section
variable{K:dw}{P:jx}{R:oG}
theorem YT(i u b:Nat)(E:fm)(D:List Nat)(F I:Lit->Option ar)(w:am)(g:Tg)(H:dZ w g i u K P E D R F I)(h:fy K E)(hw:E.wr<E.tk)(y:E.batch=(E.D.take E.tk).drop E.wr)(z:E.D.length<=1000):
 aw ax 280 #[aA (ag ⟨i,0,ae⟩),aA (ag ⟨b,0,ae⟩)] w λe w'=>e=aF (iU 8)/\∃g',Ch [1,11,12,13,17,18,19,20,21] g w g' w'/\dZ w' g' i u K P (BH E) D R F I:=by
 obtain⟨m,gv,dJ,dL⟩:=bG w #[ay az 0,.nilFunc,.nilFunc] 131
 obtain⟨G,Q,W,-⟩:=ku (g:=g) dJ.out dL.out
 have M:=aH Q
 have N1:=aH W
 have f:=aH (H.ch M.out (λ_ _ h=>by cases h))
 have o3:=h.o3
 have O:E.batch.length=E.tk-E.wr:=by rw[y,cV,dg];omega
 obtain⟨o,n,J,x,U⟩:=f.out.xy.anU (by omega)
 have l:E.D.take E.wr++E.batch=E.D.take (E.wr+E.batch.length):=by
  rw[O,show E.wr+(E.tk-E.wr)=E.tk by omega,y]
  conv=>rhs;rw[<-fO E.wr (E.D.take E.tk),List.take_take,ae7 (by omega)]
 have r:=aH (Sb R.ob u P.sm K.b0 (E.D.take E.wr) E.batch E.du [0,55] o E.batch.length n m.drew G (f.out.log.ch (Ch.bh [] G (bi m)) (λ_ _ h=>by cases h)) (U.ch (Ch.bh [] G (bi m)) (λ_ _ h=>by cases h)) (by decide) rfl (by omega) x (λd z=>h.dl d (by rw[y]at z;exact Az (List.mem_of_mem_drop z))) (by
  rw[l,vZ]
  have:=Fi (λd:By=>16+d.length) E.D (E.wr+E.batch.length)
  have:=h.fit
  omega) (by rw[l,dg];omega))
 have T:m.cell? ⟨i,8,ae⟩=ag (aA (ag ⟨R.ob,0,ae⟩)):=f.out.row.cell 8
 obtain⟨k,V⟩:=bP E.batch.length
 rw[V]at J r
 have B:m.cell? ⟨i,19,ae⟩=ag (aB (ag ⟨o,0,ae⟩) k n):=by rw[<-J];exact f.out.row.cell 19
 have X:=aH l
 clear H h hw y z Q W U x l V O o3 J
 go_in
 go_wp2_with fail
 have qR:∀p:In (λw'=>w'.cell? ⟨i,8,ae⟩=ag (aA (ag ⟨R.ob,0,ae⟩))/\w'.cell? ⟨i,19,ae⟩=ag (aB (ag ⟨o,0,ae⟩) k n)),p.w.cell? ⟨i,8,ae⟩=ag (aA (ag ⟨R.ob,0,ae⟩))/\p.w.cell? ⟨i,19,ae⟩=ag (aB (ag ⟨o,0,ae⟩) k n):=λp=>p.h
 refine bX [0,1,2,3,4,5,6,7,8,9,10,11,12,13] (λw'=>w'.cell? ⟨i,8,ae⟩=ag (aA (ag ⟨R.ob,0,ae⟩))/\w'.cell? ⟨i,19,ae⟩=ag (aB (ag ⟨o,0,ae⟩) k n)) (by kernel_rfl) (by kernel_rfl) (by intro c a d v w h;cases d <;> exact h) ⟨T,B⟩ ?_
 intro dF
 simp only[pick,aV,a8,aQ,aR]
 refine aX 8 (by kernel_rfl) ?_
 simp only[aJ,aO,aI,aL]
 repeat (go_big_quiet_step (fail))
 refine aU ?_
 refine aS rfl ?_ rfl
 go_wp2_with fail
 refine r.out.mono ?_
 rintro e q ⟨rfl,g2,s,L⟩
 have j:Ch [1,11,12,13,17,18,19,20,21] G m g2 q:=(Ch.bh _ G (bi m)).trans s
 have Y:=aH j
 have LG:=aH L
 have N:=aH (f.out.row.ch j (by decide))
 have N2:=aH (N1.out.ch j (by decide))
 have S:q.cell? ⟨i,8,ae⟩=ag (aA (ag ⟨R.ob,0,ae⟩)):=N.out.cell 8
 have t:q.cell? ⟨i,19,ae⟩=ag (aB (ag ⟨o,0,ae⟩) k n):=(cm (j.gP i f.out.row.lt (by rw[f.out.row.tag];decide))).trans B
 have H2:=aH (show dZ q g2 i u K P (BH E) D R F I from⟨N.out,by show qC q g2 R.ob u P.sm K.b0 (E.D.take (E.wr+E.batch.length)) E.du;rw[<-X.out];exact L,f.out.zL.ch j (by decide),f.out.Ek.ch j (by decide),f.out.clk.ch j (by decide),f.out.ul.ch j (by decide),f.out.act.ch j (by decide),f.out.sg.ch j (by decide) (by decide),f.out.A8.ch j (by decide),f.out.r',f.out.ld,f.out.xy.ch j (by decide) (by decide),f.out.cls.ch j (by decide),f.out.cw,f.out.now⟩)
 clear j s L
 go_wp2_with fail
 refine⟨⟨⟨_,⟨S,t⟩⟩,rfl⟩,?_⟩
 refine aX 5 (by kernel_rfl) ?_
 simp only[aJ,aO,aI,aL]
 repeat (go_big_quiet_step (fail))
 refine aU ?_
 refine bF ?_
 clear dF qR
 clear T B S t
 go_wp2_with fail
 refine(Dg i q).mono ?_
 rintro e w3 ⟨rfl,rfl⟩
 go_wp2_with fail
 refine(Fp w3).mono ?_
 rintro e w4 ⟨rfl,A⟩
 have H4:=aH (H2.out.low A)
 have C:=aH (N2.out.below A)
 have Z:=aH (Y.out.on A)
 have k4:=eH C.out.row
 clear A
 unfold iU lO lL lK
 go_wp2_with fail
 refine bn (dM rfl w.heap.size 8 rfl rfl C.out.row) rfl ?_
 exact⟨rfl,g2,(M.out.any.trans Z.out).ga _ _ _ (.inr dx),H4.out.ch ((Ch.refl [99] g2 w4).ga (b:=w.heap.size) _ _ _ (.inl (by rw[C.out.tag];decide))) (by decide)⟩
end
end
end Go.Proofs.YtooinenkenobaaaGreat

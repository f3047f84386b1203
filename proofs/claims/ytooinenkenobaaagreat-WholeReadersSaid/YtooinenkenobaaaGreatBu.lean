/- A part of the proof of what LawWholeReaders says. -/
import Derived.Test.YtooinenkenobaaaGreatAa
import Derived.Test.YtooinenkenobaaaGreatBt
import Derived.Test.YtooinenkenobaaaGreatBr
import Derived.Test.YtooinenkenobaaaGreatBe
import Derived.Test.YtooinenkenobaaaGreatBl
set_option maxRecDepth 100000
set_option maxHeartbeats 20000000
namespace Go.Proofs.YtooinenkenobaaaGreat
open Option renaming none->ae,some->ag
open Bool renaming false->ah,true->aj
open Go.Proofs.Tryz renaming prog->ax
open Go.Value renaming int->ay,pointer->aA,slice->aB,bool->aC,float->aD
open Go.IntKind renaming i64->az
open Go.FloatKind renaming f64->aE
open Go.Ending renaming returned->aF
open Go.Obj renaming cells->aG
open Go renaming World->am,Value->ar,TypeId->au,Calls->aw
section
section
variable{K:dw}{E:fm}
theorem mQ(a b:Int)(H L:List fw)(x:fw):((lf a b H L x).1=aj/\L=[]/\(lf a b H L x).2.1=H++[x]/\(lf a b H L x).2.2=L/\(H.length:Int)<a/\x.size<=b-eR H)\/((lf a b H L x).1=ah/\(lf a b H L x).2.1=H/\(lf a b H L x).2.2=L++[x]/\(L≠[]\/¬((H.length:Int)<a/\x.size<=b-eR H))):=by
 unfold lf
 split
 ·next h=>exact .inl ⟨rfl,h.1,rfl,rfl,h.2⟩
 ·next h=>
  refine .inr ⟨rfl,rfl,rfl,?_⟩
  by_cases e:L=[]
  ·exact .inr λc=>h ⟨e,c⟩
  ·exact .inl e
theorem ab3{d f:Int}{H L:List fw}{x:fw}(h:QB d f H L)(j:0<=x.size)(k:x.size<=f)(l:L.length<1024):QB d f (lf d f H L x).2.1 (lf d f H L x).2.2:=by
 have i:QB d f H (L++[x]):=⟨h.c1,h.c2,h.b1,h.b2,h.hl,h.u0,h.u1,λy g=>by
  rcases jk.1 g with g | g
  ·exact h.sz y g
  ·rw[cE.1 g];exact⟨j,k⟩,h.hs,by simp;omega⟩
 rcases mQ d f H L x with⟨-,e,a,b,c⟩ | ⟨-,a,b,-⟩
 ·rw[a,b]
  subst e
  exact QB.next i c
 ·rw[a,b]
  exact i
theorem Jd(O:kX K)(h:fy K E){i:Nat}{c B:CV}(G:E.cs[i]?=ag c)(hs:c.st=1)(N:∀k:Nat,E.ow[k]?≠ag i)(d:By)(P:d.length<=4096)(V:((16+d.length:Nat):Int)<=K.dO)(T:E.line.length<1024)(Q:(E.D.map (λd:By=>16+d.length)).sum+(16+d.length)<=968)
 {l:List CV} {n:List Nat} (u:l.length=E.cs.length) (H:∀j,j≠i->l[j]?=E.cs[j]?) (S:l[i]?=ag B) (p:Bool×List fw×List fw) (w:lf K.cap K.dO E.held E.line ⟨((K.b0+E.D.length:Nat):Int),((16+d.length:Nat):Int)⟩=p)
 (ha:∀j,j∈n↔∃c,l[j]?=ag c/\c.st≠9) (nd:n.Nodup) (U:Ec K { E with D:=E.D++[d],ow:=E.ow++[i],held:=p.2.1,line:=p.2.2,cs:=l,act:=n } i B):
 fy K { E with D:=E.D++[d],ow:=E.ow++[i],held:=p.2.1,line:=p.2.2,cs:=l,act:=n }:=by
 have W:E.cW≠ag i:=λe=>by
  obtain⟨x,o,C⟩:=h.lead i e
  rw[G]at o
  injection o with o
  subst o
  omega
 have A:p.2.1++p.2.2=(E.held++E.line)++[⟨((K.b0+E.D.length:Nat):Int),((16+d.length:Nat):Int)⟩]:=by
  rw[<-w]
  rcases mQ K.cap K.dO E.held E.line ⟨((K.b0+E.D.length:Nat):Int),((16+d.length:Nat):Int)⟩with⟨-,e,a,b,-⟩ | ⟨-,a,b,-⟩
  ·rw[a,b,e];simp
  ·rw[a,b];simp
 refine⟨by simp[h.ow],h.o1,h.o2,by simp;have:=h.o3;omega,?_,?_,ha,nd,?_,h.lead0,?_,?_,h.clk,?_,?_,?_,?_⟩
 ·dsimp only
  rw[A,h.q,List.drop_append_of_le_length h.o3,sH,cV,show E.tk+(E.D.length-E.tk)=E.D.length by have:=h.o3;omega]
  rfl
 ·rw[<-w];exact ab3 h.qb (by dsimp only;omega) V T
 ·intro j x hx
  by_cases e:j=i
  ·subst e
   dsimp only at hx
   rw[S]at hx
   injection hx with hx
   subst hx
   exact U
  ·dsimp only at hx
   rw[H j e]at hx
   have wO:∀k,k<E.D.length->(k+p.2.2.length<(E.D++[d]).length↔k+E.line.length<E.D.length):=λk q=>by
    rw[<-w]
    rcases mQ K.cap K.dO E.held E.line ⟨((K.b0+E.D.length:Nat):Int),((16+d.length:Nat):Int)⟩with⟨-,e,-,b,-⟩ | ⟨-,-,b,-⟩
    ·rw[b,e];simp;omega
    ·rw[b];simp;omega
   have ph:∀s,fx K E j x s->fx K { E with D:=E.D++[d],ow:=E.ow++[i],held:=p.2.1,line:=p.2.2,cs:=l,act:=n } j x s:=λs y=>by
    have J:wA K E j x->wA K { E with D:=E.D++[d],ow:=E.ow++[i],held:=p.2.1,line:=p.2.2,cs:=l,act:=n } j x:=λ⟨k,X,Y,I,Z⟩=>by
     have kl:=(aK.1 I).1
     refine⟨k,X,?_,?_,?_⟩
     ·dsimp only;rw[bI (by rw[h.ow];exact kl)];exact Y
     ·dsimp only;rw[bI kl];exact I
     ·rw[Z];exact mg.2 (wO k kl).symm
    rcases y with⟨a,b,r⟩ | ⟨a,b,r,t⟩ | r
    ·exact .inl ⟨a,b,J r⟩
    ·exact .inr (.inl ⟨a,b,J r,t⟩)
    ·exact .inr (.inr r)
   rcases h.calls j x hx with⟨a,b,f⟩ | a | ⟨a,b,r⟩ | a
   ·refine .inl ⟨a,b,λk=>?_⟩
    dsimp only
    rcases cg k E.ow.length with q | q
    ·rw[bI q];exact f k
    ·rw[bH q]
     intro M
     have:=cG M
     simp at this
     exact e this
   ·exact .inr (.inl (ph _ a))
   ·exact .inr (.inr (.inl ⟨a,b,ph _ r⟩))
   ·exact .inr (.inr (.inr a))
 ·intro j m
  obtain⟨x,o,C⟩:=h.lead j m
  have e:j≠i:=λe=>W (by rw[<-e];exact m)
  refine⟨x,(H j e).trans o,?_⟩
  rcases C with⟨a,b,f,g⟩ | ⟨a,b,f,g⟩ | r
  ·refine .inl ⟨a,b,f,?_⟩
   rw[<-w]
   rcases mQ K.cap K.dO E.held E.line ⟨((K.b0+E.D.length:Nat):Int),((16+d.length:Nat):Int)⟩with⟨-,-,z,-⟩ | ⟨-,z,-⟩ <;> rw[z] <;> simp[g]
  ·refine .inr (.inl ⟨a,b,f,?_⟩)
   dsimp only
   rw[List.take_append_of_le_length h.o3]
   exact g
  ·exact .inr (.inr r)
 ·dsimp only
  rw[<-w]
  rcases mQ K.cap K.dO E.held E.line ⟨((K.b0+E.D.length:Nat):Int),((16+d.length:Nat):Int)⟩with⟨-,e,-,b,-⟩ | ⟨-,a,b,f⟩
  ·rw[b,e];exact λx=>absurd rfl x
  ·rw[a]
   intro _
   rcases f with f | f
   ·exact h.line f
   ·rintro e
    apply f
    rw[e]
    have:=O.c1
    refine⟨by simp;omega,?_⟩
    have L:eR []=0:=rfl
    rw[L]
    dsimp only
    omega
 ·intro x hx
  rcases jk.1 hx with hx | hx
  ·exact h.dl x hx
  ·rw[cE.1 hx];exact P
 ·dsimp only
  rw[vC]
  refine⟨h.ond,by simp,λa ha b F e=>?_⟩
  rw[cE]at F
  subst F e
  obtain⟨k,q⟩:=aj1.1 ha
  exact N k q
 ·intro j m
  dsimp only at m ⊢
  rw[u]
  rcases jk.1 m with m | m
  ·exact h.owl j m
  ·rw[cE.1 m];exact(aK.1 G).1
 ·dsimp only
  rw[gM,List.sum_append]
  simpa using Q
theorem Pk(T:kX K)(h:fy K E){i:Nat}{c:CV}(u:E.cs[i]?=ag c)(hs:c.st=6)(H:E.cW=ag i):fy K (mF K E i):=by
 obtain⟨c0,G,h2⟩:=h.lead i H
 rw[u]at G
 injection G with G
 subst G
 obtain⟨-,g1,g2,g3⟩ | ⟨a,-⟩ | ⟨a,-⟩:=h2
 ·obtain⟨d,t1,t2,t3⟩:=tK K.most K.fj E.held [] 0
  have m0:=t3 rfl g3 T.m1
  obtain⟨g,e1,S,e3⟩:=uW K.cap K.dO E.line (E.held.drop d)
  have U:E.held.length+E.line.length+E.tk=E.D.length:=by
   have:=congrArg List.length h.q
   rw[aN,lA,cV]at this
   have:=h.o3
   omega
  have hw:E.wr=E.tk:=by have:=h.o1;have:=h.o2;omega
  unfold mF
  rw[t2]
  dsimp only
  rw[S]
  dsimp only
  rw[fY]
  have B:∀j x,E.line[j]?=ag x->x.id=((K.b0+(E.tk+E.held.length+j):Nat):Int)/\x.size<=K.dO:=λj x hx=>by
   refine⟨?_,(h.qb.sz x (cG hx)).2⟩
   have:(E.held++E.line)[E.held.length+j]?=ag x:=by rw[bH (by omega),show E.held.length+j-E.held.length=j by omega];exact hx
   rw[h.q,jM]at this
   cases l:(List.drop E.tk E.D)[E.held.length+j]? with
   | none=>rw[l]at this;cases this
   | some y=>rw[l]at this;injection this with this;rw[<-this,show E.tk+(E.held.length+j)=E.tk+E.held.length+j by omega]
  have N:∀j x,E.held[j]?=ag x->x.id=((K.b0+(E.tk+j):Nat):Int):=λj x hx=>by
   have:(E.held++E.line)[j]?=ag x:=by rw[bI (aK.1 hx).1];exact hx
   rw[h.q,jM]at this
   cases l:(List.drop E.tk E.D)[j]? with
   | none=>rw[l]at this;cases this
   | some y=>rw[l]at this;injection this with this;rw[<-this]
  have Q:∀j k,E.ow[k]?=ag j->((∃z∈(E.line.take g).map fw.id,E.ow[(z-(K.b0:Int)).toNat]?.getD 0=j)↔(E.D.length<=k+E.line.length/\k+E.line.length<E.D.length+g)):=λj k J=>by
   have kl:k<E.D.length:=by rw[<-h.ow];exact(aK.1 J).1
   constructor
   ·rintro⟨z,m,I⟩
    obtain⟨x,hx,rfl⟩:=qG.1 m
    obtain⟨p,A⟩:=aj1.1 hx
    rw[dt]at A
    split at A
    ·next aa=>
     have V:=(aK.1 A).1
     obtain⟨o,-⟩:=B p x A
     rw[o,show(((K.b0+(E.tk+E.held.length+p):Nat):Int)-(K.b0:Int)).toNat=E.tk+E.held.length+p by omega]at I
     have O:E.tk+E.held.length+p<E.ow.length:=by rw[h.ow];omega
     rw[aP O]at I
     have:=(Q8 O h.ond (j:=k)).1 (by rw[aP O,J];exact congrArg ag I)
     omega
    ·cases A
   ·rintro⟨k1,k2⟩
    have V:k+E.line.length-E.D.length<E.line.length:=by omega
    obtain⟨x,hx⟩:∃x,E.line[k+E.line.length-E.D.length]?=ag x:=⟨_,aP V⟩
    obtain⟨o,-⟩:=B _ x hx
    refine⟨x.id,qG.2 ⟨x,cG (i:=k+E.line.length-E.D.length) ?_,rfl⟩,?_⟩
    ·rw[dt,bj (by omega)];exact hx
    ·rw[o,show(((K.b0+(E.tk+E.held.length+(k+E.line.length-E.D.length)):Nat):Int)-(K.b0:Int)).toNat=k by omega,J]
     rfl
  have get:∀j,(fh (lB K.b0 E.ow E.cs ((E.line.take g).map fw.id)) i (λc=>{ c with st:=7 }))[j]?=(E.cs[j]?).map λc:CV=>
   { c with st:=if i=j then 7 else c.st,lR:=c.lR || decide (∃z∈(E.line.take g).map fw.id,E.ow[(z-(K.b0:Int)).toNat]?.getD 0=j) }:=λj=>by
   rw[dB,rj]
   by_cases e:i=j
   ·rw[bj e,Option.map_map]
    congr 1
    funext c
    simp only[Function.comp]
    rw[bj e]
    split
    ·next m=>rw[bM m,Bool.or_true]
    ·next m=>rw[bC m,Bool.or_false]
   ·rw[bf e]
    congr 1
    funext c
    rw[bf e]
    split
    ·next m=>rw[bM m,Bool.or_true]
    ·next m=>rw[bC m,Bool.or_false]
  have M:E.held.drop d++E.line.take g++E.line.drop g=gK K.b0 (E.tk+d) (E.D.drop (E.tk+d)):=by
   rw[de,fO,<-List.drop_append_of_le_length t1,h.q,ri,KT]
  have P:QB K.cap K.dO (E.held.drop d) E.line:=QB.ahM h.qb (fO d E.held)
  have C:=QB.enter P
  rw[S]at C
  have D:(E.held.take d).length=d:=by rw[dg];omega
  refine⟨h.ow,h.o1,by dsimp only;rw[D];omega,by dsimp only;rw[D];omega,by dsimp only;rw[D];exact M,C,?_,h.nd,?_,(λe=>by rw[H]at e;cases e),?_,(λe=>e3 e T.c1 (λx hx=>(h.qb.sz x hx).2)),h.clk,h.dl,h.ond,λj q=>by dsimp only;rw[fM,tX];exact h.owl j q,h.fit⟩
  ·intro j
   rw[h.act j]
   dsimp only
   rw[get j]
   cases hx:E.cs[j]? with
   | none=>simp
   | some x=>
    simp only[kH,Option.some.injEq,exists_eq_left']
    by_cases e:i=j
    ·subst e
     rw[u]at hx
     injection hx with hx
     subst hx
     simp[hs]
    ·simp[e]
  ·intro j x hx
   dsimp only at hx
   rw[get j]at hx
   cases l:E.cs[j]? with
   | none=>rw[l]at hx;cases hx
   | some y=>
    rw[l]at hx
    injection hx with hx
    have Z:wA K E j y->∀st,wA K { E with held:=E.held.drop d++E.line.take g,line:=E.line.drop g,cs:=fh (lB K.b0 E.ow E.cs ((E.line.take g).map fw.id)) i (λc=>{ c with st:=7 }),batch:=(E.held.take d).map (λx:fw=>E.D[(x.id-(K.b0:Int)).toNat]?.getD []),tk:=E.tk+(E.held.take d).length } j { y with st:=st,lR:=y.lR || decide (∃z∈(E.line.take g).map fw.id,E.ow[(z-(K.b0:Int)).toNat]?.getD 0=j) }:=λ⟨k,r1,X,Y,r4⟩ st=>by
     refine⟨k,r1,X,Y,?_⟩
     dsimp only
     have:=Q j k X
     rw[r4,cV]
     have kl:=(aK.1 Y).1
     by_cases F:(∃z∈(E.line.take g).map fw.id,E.ow[(z-(K.b0:Int)).toNat]?.getD 0=j)
     ·rw[bM F,Bool.or_true]
      have:=this.1 F
      exact(bM (by omega)).symm
     ·rw[bC F,Bool.or_false]
      have n:=λw=>F (this.2 w)
      exact mg.2 ⟨λw=>by omega,λw=>by
       rcases cg (k+E.line.length) E.D.length with z | z
       ·exact z
       ·exact absurd ⟨z,by omega⟩ n⟩
    have ph:∀s,fx K E j y s->∀st,fx K { E with held:=E.held.drop d++E.line.take g,line:=E.line.drop g,cs:=fh (lB K.b0 E.ow E.cs ((E.line.take g).map fw.id)) i (λc=>{ c with st:=7 }),batch:=(E.held.take d).map (λx:fw=>E.D[(x.id-(K.b0:Int)).toNat]?.getD []),tk:=E.tk+(E.held.take d).length } j { y with st:=st,lR:=y.lR || decide (∃z∈(E.line.take g).map fw.id,E.ow[(z-(K.b0:Int)).toNat]?.getD 0=j) } s:=λs L st=>by
     rcases L with⟨a,b,r⟩ | ⟨a,b,r,t⟩ | r
     ·exact .inl ⟨a,b,Z r st⟩
     ·exact .inr (.inl ⟨a,b,Z r st,by dsimp only;rw[t,Bool.true_or]⟩)
     ·exact .inr (.inr r)
    subst hx
    dsimp only
    by_cases e:i=j
    ·subst e
     rw[bj rfl]
     rw[u]at l
     injection l with l
     subst l
     rcases h.calls i c u with⟨a,-⟩ | a | ⟨-,-,r⟩ | a
     ·omega
     ·unfold fx at a;omega
     ·exact .inr (.inr (.inl ⟨.inr (.inl rfl),H,ph _ r _⟩))
     ·omega
    ·rw[bf e]
     rcases h.calls j y l with⟨a,b,f⟩ | a | ⟨a,b,r⟩ | a
     ·exact .inl ⟨a,b,f⟩
     ·exact .inr (.inl (ph _ a _))
     ·exact .inr (.inr (.inl ⟨a,b,ph _ r _⟩))
     ·exact .inr (.inr (.inr a))
  ·intro j q
   dsimp only at q ⊢
   rw[H]at q
   injection q with q
   subst q
   rw[get i,u]
   refine⟨_,rfl,.inr (.inl ⟨by dsimp only;rw[bj rfl],by omega,by rw[D];omega,?_⟩)⟩
   rw[D,hw]
   apply jc
   intro p
   rw[cZ,fF,dt,dt]
   by_cases W:p<d
   ·rw[bj W,bj (by omega)]
    obtain⟨x,hx⟩:∃x,E.held[p]?=ag x:=⟨_,aP (show p<E.held.length by omega)⟩
    rw[hx,kH,N p x hx,show(((K.b0+(E.tk+p):Nat):Int)-(K.b0:Int)).toNat=E.tk+p by omega]
    rw[aP (show E.tk+p<E.D.length by omega)]
    rfl
   ·rw[bf W,bf (by omega)]
    rfl
 ·omega
 ·omega
theorem Rh(h:fy K E){i:Nat}{c:CV}(d:E.cs[i]?=ag c)(p:c.st=7)(g:E.cW=ag i):fy K (pF E i):=by
 obtain⟨n,f,l⟩:=h.lead i g
 rw[d]at f
 injection f with f
 subst f
 obtain⟨a,-⟩ | ⟨-,o,g2,k⟩ | ⟨a,-⟩:=l
 ·omega
 ·have o3:=h.o3
  have m:E.batch.length=E.tk-E.wr:=by rw[k,cV,dg];omega
  unfold pF
  refine⟨h.ow,by dsimp only;omega,by dsimp only;omega,h.o3,h.q,h.qb,?_,h.nd,?_,(λe=>by rw[g]at e;cases e),?_,h.line,h.clk,h.dl,h.ond,λj b=>by rw[fM];exact h.owl j b,h.fit⟩
  ·intro j
   rw[h.act j]
   dsimp only
   rw[dB]
   by_cases e:i=j
   ·subst e
    rw[bj rfl,d]
    exact⟨λ_=>⟨_,rfl,by show(8:Nat)≠9;decide⟩,λ_=>⟨c,rfl,by omega⟩⟩
   ·rw[bf e]
  ·intro j x hx
   dsimp only at hx
   rw[dB]at hx
   by_cases e:i=j
   ·subst e
    rw[bj rfl,d]at hx
    injection hx with hx
    subst hx
    rcases h.calls i c d with⟨a,-⟩ | a | ⟨-,-,r⟩ | a
    ·omega
    ·unfold fx at a;omega
    ·exact .inr (.inr (.inl ⟨.inr (.inr rfl),g,r⟩))
    ·omega
   ·rw[bf e]at hx
    exact lF (h.calls j x hx) rfl rfl rfl id
  ·intro j b
   dsimp only at b ⊢
   rw[g]at b
   injection b with b
   subst b
   rw[dB,bj rfl,d]
   exact⟨_,rfl,.inr (.inr ⟨rfl,by omega,by omega,by omega⟩)⟩
 ·omega
theorem Ut(h:fy K E){i:Nat}{c:CV}(f:E.cs[i]?=ag c)(s:c.st=8)(l:E.cW=ag i)(b:Nat):fy K (pT E i b):=by
 obtain⟨o,d,m⟩:=h.lead i l
 rw[f]at d
 injection d with d
 subst d
 obtain⟨a,-⟩ | ⟨a,-⟩ | ⟨-,p,g2,q⟩:=m
 ·omega
 ·omega
 ·have k:fx K E i c c.back:=by
   rcases h.calls i c f with⟨a,-⟩ | a | ⟨-,-,r⟩ | a
   ·omega
   ·unfold fx at a;omega
   ·exact r
   ·omega
  have g:c.back≠9:=by unfold fx at k;omega
  unfold pT
  refine⟨h.ow,bT _,h.o2,h.o3,h.q,h.qb,?_,h.nd,?_,λ_=>⟨g2,rfl⟩,(λj e=>by cases e),h.line,(λe=>absurd rfl e),h.dl,h.ond,λj n=>by rw[fM];exact h.owl j n,h.fit⟩
  ·intro j
   rw[h.act j]
   dsimp only
   rw[dB]
   by_cases e:i=j
   ·subst e
    rw[bj rfl,f]
    exact⟨λ_=>⟨_,rfl,g⟩,λ_=>⟨c,rfl,by omega⟩⟩
   ·rw[bf e]
  ·intro j x hx
   dsimp only at hx
   rw[dB]at hx
   by_cases e:i=j
   ·subst e
    rw[bj rfl,f]at hx
    injection hx with hx
    subst hx
    exact .inr (.inl k)
   ·rw[bf e]at hx
    refine lF (h.calls j x hx) rfl rfl rfl λa=>?_
    rw[l]at a
    injection a with a
    exact absurd a e
end
end
section
section
variable{K:dw}{E:fm}
theorem Va(h:fy K E)(a:fu)(ha:((a.kind=1\/a.kind=2)/\a.lsn=0)\/(a.kind=5/\K.b0<=a.lsn/\a.data=[])):fy K (gT E a):=by
 unfold gT
 have f:∀j x,(E.cs++[⟨a,0,ah,1,0,0,0,[]⟩])[j]?=ag x->(E.cs[j]?=ag x)\/(j=E.cs.length/\x=⟨a,0,ah,1,0,0,0,[]⟩):=λj x hx=>by
  rcases cg j E.cs.length with l | l
  ·rw[bI l]at hx;exact .inl hx
  ·rw[bH l]at hx
   have:=(aK.1 hx).1
   have e:j=E.cs.length:=by simp at this;omega
   subst e
   rw[dR]at hx
   injection hx with hx
   exact .inr ⟨rfl,hx.symm⟩
 have n:∀j x,E.cs[j]?=ag x->(E.cs++[⟨a,0,ah,1,0,0,0,[]⟩])[j]?=ag x:=λj x hx=>by
  rw[bI (aK.1 hx).1];exact hx
 refine⟨h.ow,h.o1,h.o2,h.o3,h.q,h.qb,?_,?_,?_,h.lead0,?_,h.line,h.clk,h.dl,h.ond,λj i=>by have:=h.owl j i;simp;omega,h.fit⟩
 ·intro j
  dsimp only
  rw[jk,cE,h.act j]
  constructor
  ·rintro(⟨c,b,d⟩ | rfl)
   ·exact⟨c,n j c b,d⟩
   ·exact⟨⟨a,0,ah,1,0,0,0,[]⟩,by rw[bH dx,dR];rfl,by show(1:Nat)≠9;decide⟩
  ·rintro⟨c,b,d⟩
   rcases f j c b with g | ⟨g,-⟩
   ·exact .inl ⟨c,g,d⟩
   ·exact .inr g
 ·dsimp only
  rw[vC]
  refine⟨h.nd,by simp,λx hx y m e=>?_⟩
  rw[cE]at m
  rw[e,m]at hx
  obtain⟨c,b,-⟩:=(h.act _).1 hx
  have:=(aK.1 b).1
  omega
 ·intro j x hx
  rcases f j x hx with b | ⟨rfl,rfl⟩
  ·exact lF (h.calls j x b) rfl rfl rfl id
  ·refine .inl ⟨rfl,ha,λk o=>?_⟩
   have:=h.owl _ (cG o)
   omega
 ·intro j i
  obtain⟨c,b,d⟩:=h.lead j i
  exact⟨c,n j c b,d⟩
theorem Xj(h:fy K E){t:Nat}(b:E.now<=t):fy K { E with now:=t }:=
 ⟨h.ow,h.o1,h.o2,h.o3,h.q,h.qb,h.act,h.nd,λi c a=>lF (h.calls i c a) rfl rfl rfl id,h.lead0,h.lead,h.line,λe=>bJ (h.clk e) b,h.dl,h.ond,h.owl,h.fit⟩
structure jp(K:dw)(E:fm)(d:By):Prop where
 d4:d.length<=4096
 dO:((16+d.length:Nat):Int)<=K.dO
 ln:E.line.length<1024
 fit:(E.D.map (λd:By=>16+d.length)).sum+(16+d.length)<=968
theorem RG(r:kX K)(h:fy K E){i:Nat}{c:CV}(d:E.cs[i]?=ag c)(s:c.st=1)(F:c.ask.kind≠5->jp K E c.ask.data):fy K (od K E i c):=by
 have B:E.cW≠ag i:=λe=>by
  obtain⟨x,n,H⟩:=h.lead i e
  rw[d]at n
  injection n with n
  subst n
  omega
 rcases h.calls i c d with⟨-,a,q⟩ | a | ⟨a,-⟩ | a
 ·unfold od
  by_cases l:c.ask.kind=5
  ·rw[bj l]
   split
   ·exact De h B
   ·refine aab h d B (by omega) 4 (.inr (.inr ⟨rfl,l,?_⟩))
    rcases a with⟨a,-⟩ | a
    ·omega
    ·exact a.2.1
  ·rw[bf l]
   obtain⟨t,u,w,y⟩:=F l
   have G:c.ask.kind=1\/c.ask.kind=2:=by
    rcases a with a | a
    ·exact a.1
    ·exact absurd a.1 l
   dsimp only
   unfold mR
   obtain⟨p,g⟩:=bP (lf K.cap K.dO E.held E.line ⟨((K.b0+E.D.length:Nat):Int),((16+c.ask.data.length:Nat):Int)⟩)
   rw[g]
   have m:(E.ow++[i])[E.D.length]?=ag i:=by rw[bH (by rw[h.ow];exact bT _),h.ow,dR];rfl
   have C:(E.D++[c.ask.data])[E.D.length]?=ag c.ask.data:=by rw[bH dx,dR];rfl
   have k:p.1=decide (E.D.length+p.2.2.length<(E.D++[c.ask.data]).length):=by
    rw[<-g]
    rcases mQ K.cap K.dO E.held E.line ⟨((K.b0+E.D.length:Nat):Int),((16+c.ask.data.length:Nat):Int)⟩with⟨z,e,-,b,-⟩ | ⟨z,-,b,-⟩
    ·rw[z,b,e];exact(bM (by simp)).symm
    ·rw[z,b];exact(bC (by simp)).symm
   have g2:∀(f o:CV->CV) j,(fh (fh E.cs i f) i o)[j]?=if i=j then(E.cs[j]?).map (λc=>o (f c))else E.cs[j]?:=λf o j=>by
    rw[dB,dB]
    by_cases e:i=j
    ·rw[bj e,bj e,bj e,Option.map_map];rfl
    ·rw[bf e,bf e,bf e]
   split
   ·next D=>
    unfold mq
    split
    ·next A=>
     refine Jd r h d s q c.ask.data t u w y (by rw[fM,fM]) (λj e=>by rw[g2,bf (λx=>e x.symm)]) (by rw[g2,bj rfl,d];rfl) p g ?_ (h.nd.erase _) (.inr (.inr (.inr rfl)))
     refine Bk h.nd h.act (λx hx=>?_) (λj e=>by rw[g2,bf (λx=>e x.symm)])
     rw[g2,bj rfl,d]at hx
     injection hx with hx
     rw[<-hx]
    ·next A=>
     refine Jd r h d s q c.ask.data t u w y (by rw[fM,fM]) (λj e=>by rw[g2,bf (λx=>e x.symm)]) (by rw[g2,bj rfl,d];rfl) p g (λj=>?_) h.nd ?_
     ·rw[h.act j,g2]
      by_cases e:i=j
      ·subst e
       rw[bj rfl,d]
       exact⟨λ_=>⟨_,rfl,by show(3:Nat)≠9;decide⟩,λ_=>⟨c,rfl,by omega⟩⟩
      ·rw[bf e]
     ·exact .inr (.inl (.inr (.inl ⟨rfl,by dsimp only at A;show c.ask.kind=1;omega,⟨E.D.length,rfl,m,C,k⟩,D⟩)))
   ·next D=>
    refine Jd r h d s q c.ask.data t u w y (by rw[fM,fM]) (λj e=>by rw[g2,bf (λx=>e x.symm)]) (by rw[g2,bj rfl,d];rfl) p g (λj=>?_) h.nd ?_
    ·rw[h.act j,g2]
     by_cases e:i=j
     ·subst e
      rw[bj rfl,d]
      exact⟨λ_=>⟨_,rfl,by show(2:Nat)≠9;decide⟩,λ_=>⟨c,rfl,by omega⟩⟩
     ·rw[bf e]
    ·exact .inr (.inl (.inl ⟨rfl,G,⟨E.D.length,rfl,m,C,k⟩⟩))
 ·unfold fx at a;omega
 ·omega
 ·omega
theorem Xm(F:kX K)(h:fy K E){i:Nat}{c:CV}(f:E.cs[i]?=ag c)(b:iX K E c=aj)(I:c.st=1->c.ask.kind≠5->jp K E c.ask.data)(j:Nat):fy K (fK K E i j):=by
 unfold fK
 rw[f]
 dsimp only
 have A:c.st=6\/c.st=7\/c.st=8->E.cW=ag i:=λz=>by
  rcases h.calls i c f with⟨a,-⟩ | a | ⟨-,r,-⟩ | a
  ·omega
  ·unfold fx at a;omega
  ·exact r
  ·omega
 have q:¬(c.st=6\/c.st=7\/c.st=8)->E.cW≠ag i:=λz e=>by
  obtain⟨x,p,M⟩:=h.lead i e
  rw[f]at p
  injection p with p
  subst p
  omega
 have d:(c.st=2\/c.st=3\/c.st=4)->fx K E i c c.st:=λz=>by
  rcases h.calls i c f with⟨a,-⟩ | a | ⟨a,-⟩ | a
  ·omega
  ·exact a
  ·omega
  ·omega
 unfold iX at b
 by_cases t:c.st=1
 ·rw[bj t]
  exact RG F h f t (I t)
 rw[bf t]at b ⊢
 by_cases u:c.st=2
 ·rw[bj u]at b ⊢
  have g:=d (.inl u)
  rw[u]at g
  obtain⟨-,J,k,G,H,B,s⟩ | ⟨a,-⟩ | ⟨a,-⟩:=g
  ·split
   ·next m=>
    unfold mq
    split
    ·exact De h (q (by omega))
    ·exact aab h f (q (by omega)) (by omega) 3 (.inr (.inl ⟨rfl,by omega,⟨k,G,H,B,s⟩,m⟩))
   ·next m=>
    have m:c.lR=ah:=by simpa using m
    rw[m,VZ]at b
    have n:E.cW=ae:=by simpa using b
    refine Ct h f n (by omega) 2 (.inl ⟨rfl,J,k,G,H,B,s⟩) ?_
    rw[m]at s
    have:=of_decide_eq_false s.symm
    have kl:=(aK.1 B).1
    have e:=congrArg List.length h.q
    rw[aN,lA,cV]at e
    have:=h.o3
    omega
  ·omega
  ·omega
 rw[bf u]at b ⊢
 by_cases w:c.st=3
 ·rw[bj w]at b ⊢
  have g:=d (.inr (.inl w))
  split
  ·exact De h (q (by omega))
  ·next n=>
   rw[bC n,VZ]at b
   have o:E.cW=ae:=by simpa using b
   refine Ct h f o (by omega) 3 (by rw[<-w];exact g) ?_
   unfold fx at g
   obtain⟨a,-⟩ | ⟨-,-,r,-⟩ | ⟨a,-⟩:=g
   ·omega
   ·obtain⟨k,e,l⟩:=abT r
    obtain⟨z,-⟩:=h.lead0 o
    omega
   ·omega
 rw[bf w]at b ⊢
 by_cases y:c.st=4
 ·rw[bj y]at b ⊢
  have g:=d (.inr (.inr y))
  split
  ·exact De h (q (by omega))
  ·next n=>
   rw[bC n,VZ,co]at b
   have o:E.cW=ae:=by simpa using b.1
   refine Ct h f o (by omega) 4 (by rw[<-y];exact g) ?_
   have:=dX b.2
   obtain⟨z,-⟩:=h.lead0 o
   omega
 rw[bf y]at b ⊢
 by_cases C:c.st=6
 ·rw[bj C]
  exact Pk F h f C (A (by omega))
 rw[bf C]at b ⊢
 by_cases D:c.st=7
 ·rw[bj D]
  exact Rh h f D (A (by omega))
 rw[bf D]
 by_cases L:c.st=8
 ·exact Ut h f L (A (by omega)) j
 ·rw[bf (by omega)]at b
  cases b
end
end
section
open Go.RowKit Go.Maps
theorem mE{c:Func}{p t:Tmp}(h:c.results=#[.cell p 72,.tmp t]){a:Array ar}{w:am}(b:Nat)(x y:ar)
 (f:a.getD p undef=aA (ag ⟨b,0,ae⟩)) (d:w.cell? ⟨b,0,ae⟩=ag x) (e:w.cell? ⟨b,1,ae⟩=ag y):
 (results c a).run ax w=.ok (.tuple #[.agg #[x,y],a.getD t undef]) w:=by
 have g:a[p]?.getD undef=aA (ag ⟨b,0,ae⟩):=by simpa using f
 simp[results,h,g,go_sem,d,e,asAddr,loadVar,Result.andThen]
theorem RW(sb db n m fb cb num b0 i:Nat)(most:Int)(f:Lit->Option ar)(file:ByteArray)(ds:List (List (BitVec 8)))(d CB:List (BitVec 8))(w:am)(g:Tg)(H:lX w g sb db file num b0 (t7 num b0) ds ah)
 (LD:DW w g db most n m f fb cb file (C' num b0++bY (t7 num b0) b0 ds) CB) (hi:ds[i]?=ag d) (hd:∀d∈ds,d.length<=4096):
 aw ax 53 #[aA (ag ⟨sb,0,ae⟩),ay az (b0+i)] w λe w'=>∃v,e=aF (.tuple #[.agg #[ay az (b0+i),v],ay az 0])/\cU w' w.heap.size v d/\Below w.heap.size w w':=by
 obtain⟨w1,gv,dJ,dL⟩:=bG w #[ay az 0,aB ae 0 0] 72
 have H1:=aH (H.ch (Ch.bh [] g dJ.out) (by decide))
 have L1:=aH (LD.ch (Ch.bh [] g dJ.out) (λt _ h=>by cases h))
 have HI:=aH hi
 have HD:=aH hd
 have il:i<ds.length:=by
  rcases cg i ds.length with h | h
  ·exact h
  ·rw[gH h]at hi;cases hi
 obtain⟨sd,hsd⟩:=bP (t7 num b0)
 rw[hsd]at H1 L1
 obtain⟨xb,mb,R,I,M⟩:=H1.out.ex
 have lo:=H1.out.low
 obtain⟨nn,hnn⟩:=bP ds.length
 obtain⟨F,hF⟩:=bP ((bY sd b0 ds).length)
 have FB:32+F<=1000:=by have:=L1.out.b9.1;rw[aN,pP,hF]at this;exact this
 rw[hnn,hF]at R I
 rw[hnn]at M lo il
 have HN:=aH hnn
 have HF:=aH hF
 obtain⟨lsn,JG⟩:=bP ((b0:Int)+(i:Int))
 obtain⟨nx,kA⟩:=bP ((b0:Int)+(nn:Int))
 obtain⟨zz,Yn⟩:=bP ((32:Int)+(F:Int))
 rw[kA,Yn]at R
 rw[Yn]at I
 rw[JG]
 have q1:¬ lsn<(b0:Int):=by omega
 have q2:¬ lsn>=nx:=by omega
 have q3:lsn<nx:=by omega
 have q4:(b0:Int)<=lsn:=by omega
 have C:=sc R
 have R1:=aH R
 have I1:=aH I
 have M1:=aH M
 have KJ:=aH (And.intro JG (And.intro kA (And.intro Yn (And.intro lo (And.intro il FB)))))
 clear H LD hi hd R I M hnn hF hsd JG kA Yn lo il FB
 go_in
 go_wp2_with fail
 refine(Cz xb b0 nn zz lsn w1 g I1.out (by have:=KJ.out;omega) q4).mono ?_
 rintro e w2 ⟨rfl,eA⟩
 have B2:=aH (aM dJ.out eA)
 have N2:=aH ((eA.block _ (aT dL.out)).trans dL.out)
 have L2:=aH (L1.out.ch (Ch.bh [] g eA) (λt _ h=>by cases h))
 have R2:=aH (R1.out.below eA)
 have M2:=aH (M1.out.below eA)
 clear C eA
 obtain⟨w3,pD,qE,pZ⟩:=bG w2 #[ay az b0,ay az 32] 228
 have R3:=aH (R2.out.below qE.out)
 have L3:=aH (L2.out.ch (Ch.bh [] g qE.out) (λt _ h=>by cases h))
 have M3:=aH (M2.out.below qE.out)
 have N3:=aH ((qE.out.block _ (aT N2.out)).trans N2.out)
 have C3:=sc R3.out
 go_wp2_with fail
 have F1:1<=F:=by
  rw[<-HF.out]
  cases ds with
  | nil=>have:=KJ.out;have h:=HN.out;simp at h;omega
  | cons x xs=>simp only[bY,aN,iK];omega
 have zf:zz-32=(F:Int):=by have:=KJ.out;omega
 have z9:F<=1000:=by have:=KJ.out;omega
 have mn:min (5136:Int) (F:Int)=(F:Int):=Int.min_eq_right (by omega)
 have z8:IntKind.i64.wrap (zz-32)=(F:Int):=by rw[zf];exact kT _ (by omega)
 have FF1:=aH F1
 have qR:∀p:In (λw'=>w'.cell? ⟨sb,0,ae⟩=ag (aA (ag ⟨db,0,ae⟩))/\w'.cell? ⟨sb,1,ae⟩=ag (.string file)/\w'.cell? ⟨sb,6,ae⟩=ag (ay az zz)/\w'.cell? ⟨w2.heap.size,1,ae⟩=ag (ay az 32)),p.w.cell? ⟨sb,0,ae⟩=ag (aA (ag ⟨db,0,ae⟩))/\p.w.cell? ⟨sb,1,ae⟩=ag (.string file)/\p.w.cell? ⟨sb,6,ae⟩=ag (ay az zz)/\p.w.cell? ⟨w2.heap.size,1,ae⟩=ag (ay az 32):=λp=>p.h
 refine bX [0,1,2,3,4,5,6,7,8,9,10,11,12,13,14,15,16,17,18,19,20,21,22,23] (λw'=>w'.cell? ⟨sb,0,ae⟩=ag (aA (ag ⟨db,0,ae⟩))/\w'.cell? ⟨sb,1,ae⟩=ag (.string file)/\w'.cell? ⟨sb,6,ae⟩=ag (ay az zz)/\w'.cell? ⟨w2.heap.size,1,ae⟩=ag (ay az 32)) (by kernel_rfl) (by kernel_rfl) (by intro c a d v w h;cases d <;> exact h) ⟨R3.out.cell 0,R3.out.cell 1,R3.out.cell 6,aZ 1 pZ.out⟩ ?_
 intro dF
 simp only[pick,aV,a8,aQ,aR]
 refine aX 17 (by kernel_rfl) ?_
 simp only[aJ,aO,aI,aL]
 repeat (go_big_quiet_step (fail))
 refine aU ?_
 refine aS rfl ?_ rfl
 go_wp2_with fail
 refine⟨⟨⟨w3.drew,⟨R3.out.cell 0,R3.out.cell 1,R3.out.cell 6,aZ 1 pZ.out⟩⟩,rfl⟩,?_⟩
 refine aS rfl ?_ rfl
 go_wp2_with fail
 have bl:(C' num b0++bY sd b0 ds).length=32+F:=by rw[aN,pP,HF.out]
 refine(UQ db n m 11 fb most [] f file (C' num b0++bY sd b0 ds) 32 F w3.drew g (L3.out.dk.ch (Ch.drewN (Ch.refl [] g w3) 1) (by decide)) (L3.out.fl.ch (Ch.drewN (Ch.refl [] g w3) 1) (by decide)) L3.out.may L3.out.nm (by rw[bl];omega) FF1.out (by rw[bl];exact bT _)).mono ?_
 rintro e w4 ⟨v,rfl,ho,hb⟩
 have dr:((C' num b0++bY sd b0 ds).drop 32).take F=bY sd b0 ds:=by
  rw[show(32:Nat)=(C' num b0).length from(pP num b0).symm,List.drop_left]
  exact fE (by rw[HF.out];exact bT _)
 rw[dr]at ho
 obtain⟨ab,cb',rfl,k1,k2,k3,k4,k5⟩:=ho.slice
 rw[HF.out]at k3 ⊢
 have B4:=aH (show Below w3.heap.size w3 w4 from aM (bi w3) hb)
 have K1:=aH k1
 have K2:=aH k2
 have R4:=aH (R3.out.below B4.out)
 have M4:=aH (M3.out.below B4.out)
 have N4:=aH ((B4.out.block _ (aT N3.out)).trans N3.out)
 have E4:=aH ((B4.out.block _ (aT pZ.out)).trans pZ.out)
 clear ho k1 k2 k4 k5 hb dr bl C3
 go_wp2_with fail
 refine⟨⟨⟨w4,⟨R4.out.cell 0,R4.out.cell 1,R4.out.cell 6,aZ 1 E4.out⟩⟩,rfl⟩,?_⟩
 refine aX 5 (by kernel_rfl) ?_
 simp only[aJ,aO,aI,aL]
 repeat (go_big_quiet_step (fail))
 refine aU ?_
 refine bF ?_
 clear dF qR
 have j4:=gc N4.out
 have e4:=gc E4.out
 go_wp2_with fail
 have sdn:BV b0 (bv sd) nn=fU gj (kI b0) (ay .u32 (bv sd)):=by unfold BV;exact bf (by have:=KJ.out;omega)
 have aaz:∀x:am,Below w4.heap.size w4 x->(Instr.lookup 224 (.map (ag mb)) (ay az b0) ah).run ax x=.ok (ay .u32 (bv sd)) x:=λx hx=>by
  have:=(M4.out.below hx).map.look (z:=ay .u32 0) (key:=ay az b0) (kl:=kI b0) ly Tryz.underlying224 (by kernel_rfl) (uO (by have:=KJ.out;omega)) trivial
  rw[sdn]at this
  rw[this]
  unfold fU
  rw[bj rfl]
  rfl
 have FND:=aH (show ∀x:am,Below w4.heap.size w4 x->aw ax 77 #[aB ab F cb',ay az b0,ay .u32 (bv sd),ay az lsn] x λe w'=>∃v at_,e=aF (.tuple #[.agg #[ay az lsn,v],ay az at_,ay az 0])/\cU w' x.heap.size v d/\Below x.heap.size x w' from λx hx=>by
  have A:=KJ.out
  refine(Of ab (bY sd b0 ds) F cb' b0 (bv sd) lsn sd x rfl (K1.out.below hx) HF.out K2.out (by omega) (by omega)).mono ?_
  rintro e w' ⟨x',v,data,at_,er,hf,rfl,ho,hb⟩
  rw[<-A.1]at hf
  obtain⟨rfl,rfl,rfl⟩:=ac6 HI.out A.2.2.2.1.1 (by rw[HN.out];exact A.2.2.2.1.2) HD.out hf
  exact⟨v,at_,by rw[A.1],ho,hb⟩)
 have Wz:=aaz w4.drew (bi w4)
 have RF:=aH (show w4.drew.cell? ⟨sb,11,ae⟩=ag (.map (ag mb))/\w4.drew.cell? ⟨w2.heap.size,0,ae⟩=ag (ay az b0)from⟨R4.out.cell 11,aZ 0 E4.out⟩)
 have qR:∀p:In (λw'=>w'.cell? ⟨sb,11,ae⟩=ag (.map (ag mb))/\w'.cell? ⟨w2.heap.size,0,ae⟩=ag (ay az b0)),p.w.cell? ⟨sb,11,ae⟩=ag (.map (ag mb))/\p.w.cell? ⟨w2.heap.size,0,ae⟩=ag (ay az b0):=λp=>p.h
 refine wG [0,1,2,3,4,5,6,7,8,10] 9 16 11 [12,13,14,15,16,17,18,19] [9,11,12,13,14,15,17,18,19] [11,12,13,14,15,17,18,19] (λw'=>w'.cell? ⟨sb,11,ae⟩=ag (.map (ag mb))/\w'.cell? ⟨w2.heap.size,0,ae⟩=ag (ay az b0)) (by kernel_rfl) (by kernel_rfl) (by intro c a d v w h;cases d <;> exact h) RF.out ?_
 intro dF
 simp only[pick,aV,a8,aQ,aR]
 repeat (go_big_quiet_step (fail))
 refine aU ?_
 have Qv:=aH (show w.heap.size<w4.heap.size from aT N4.out)
 have BW4:=aH (show Below w.heap.size w w4 from aM (aM B2.out qE.out) B4.out)
 refine⟨⟨rfl,?_⟩,?_⟩
 ·go_wp2_with fail
  refine⟨⟨⟨_,RF.out⟩,rfl⟩,?_⟩
  refine⟨?_,?_⟩
  ·refine aS rfl ?_ rfl
   go_wp2_with fail
   refine(FND.out w4.drew (bi w4)).mono ?_
   rintro e w6 ⟨v0,at_,rfl,ho,hb⟩
   obtain⟨va,vc,rfl,-⟩:=ho.slice
   obtain⟨dn,wQ⟩:=bP d.length
   rw[wQ]at ho ⊢
   clear wQ
   have B6:=aH (aM (bi w4) hb)
   have Zk:=aH (show w6.cell? ⟨sb,11,ae⟩=ag (.map (ag mb))/\w6.cell? ⟨w2.heap.size,0,ae⟩=ag (ay az b0)from⟨(R4.out.below B6.out).cell 11,aZ 0 ((B6.out.block _ (aT E4.out)).trans E4.out)⟩)
   have N6:=aH ((B6.out.block _ (aT N4.out)).trans N4.out)
   have OV:=ho
   clear ho hb
   go_wp2_with fail
   refine⟨⟨⟨w6,Zk.out⟩,rfl⟩,?_⟩
   refine aX 4 (by kernel_rfl) ?_
   simp only[aJ,aO,aI,aL]
   repeat (go_big_quiet_step (fail))
   refine aU ?_
   obtain⟨w7,QM,Bw7,Nw7⟩:=bG w6 #[ay az 0,aB ae 0 0] 72
   have kw7:=gc Nw7.out
   refine aS rfl ?_ rfl
   go_wp2_with fail
   have RF7:=aH (show w7.cell? ⟨sb,11,ae⟩=ag (.map (ag mb))/\w7.cell? ⟨w2.heap.size,0,ae⟩=ag (ay az b0)from⟨((R4.out.below B6.out).below Bw7.out).cell 11,aZ 0 ((Bw7.out.block _ (aW (aT E4.out) B6.out.size)).trans ((B6.out.block _ (aT E4.out)).trans E4.out))⟩)
   refine⟨⟨⟨w7,RF7.out⟩,rfl⟩,?_⟩
   have ky:=gc (bE Nw7.out 0 (ay az lsn))
   refine aS rfl ?_ rfl
   go_wp2_with fail
   clear ky
   have RBL:=aH (show w4.heap.size<=w6.heap.size from B6.out.size)
   have RFS:=aH RF7.out
   have ns:sb≠w6.heap.size:=by have:=R4.out.lt;have:=RBL.out;omega
   have n2:w2.heap.size≠w6.heap.size:=by have:=aT E4.out;have:=RBL.out;omega
   refine⟨⟨⟨_,⟨(cm ((bD ns).trans (bD ns))).trans RFS.out.1,(cm ((bD n2).trans (bD n2))).trans RFS.out.2⟩⟩,rfl⟩,?_⟩
   refine aX 2 (by kernel_rfl) ?_
   simp only[aJ,aO,aI,aL]
   repeat (go_big_quiet_step (fail))
   refine aU ?_
   refine bF ?_
   have RBN:=aH Nw7.out
   have NS:=aH ((Bw7.out.block _ (aT N6.out)).trans N6.out)
   have Qv:=aH (show w.heap.size<w4.heap.size from aT N4.out)
   have RBW:=aH (show w.heap.size<w6.heap.size from aT N6.out)
   have BS:=aH (show Below w.heap.size w w7 from aM (aM (aM (aM (aM B2.out qE.out) B4.out) B6.out) Bw7.out) (cX _ _))
   have OS:=aH (OV.dV Bw7.out)
   have NEQ:=aH (show ∀q,(Value.slice va dn vc).ownBlock=ag q->q≠w6.heap.size from λq hq e=>by have:=kt (OV.base Rc) q hq;omega)
   have NEW:=aH (show ∀q,(Value.slice va dn vc).ownBlock=ag q->q≠w.heap.size from λq hq e=>by have h:=(dq OV hq).1;have:=Qv.out;change w4.heap.size<=q at h;omega)
   obtain⟨x,hx⟩:=bP ((w7.setCell ⟨w6.heap.size,0,ae⟩ (ay az lsn)).setCell ⟨w6.heap.size,1,ae⟩ (aB va dn vc))
   rw[hx]
   have RX:=aH (show x.heap[w6.heap.size]?=ag (aG #[ay az lsn,aB va dn vc] 72 (0,0))from by rw[<-hx];exact oo RBN.out _ _)
   have NX:=aH (show x.heap[w.heap.size]?=ag (aG #[ay az 0,aB ae 0 0] 72 (0,0))from by rw[<-hx];exact(bD (by have:=RBW.out;omega)).trans ((bD (by have:=RBW.out;omega)).trans NS.out))
   have BX:=aH (show Below w.heap.size w x from by rw[<-hx];exact iJ BS.out (by have:=RBW.out;omega))
   have OX:=aH (show cU x w.heap.size (aB va dn vc) d from by rw[<-hx];exact dC (OS.out.base (dP Qv.out)) λq hq=>by have:=NEQ.out q hq;exact(bD this).trans (bD this))
   have cx:=gc RX.out
   have cn:=gc NX.out
   clear hx dF qR
   go_wp2_with fail
   refine bn (mE rfl w.heap.size (ay az lsn) (aB va dn vc) rfl ((oo NX.out (ay az lsn) (aB va dn vc)) |> oR _ _ 0 _ _ _) ((oo NX.out (ay az lsn) (aB va dn vc)) |> oR _ _ 1 _ _ _)) rfl ?_
   refine⟨aB va dn vc,rfl,?_,iJ BX.out dx⟩
   exact dC OX.out λq hq=>(bD (NEW.out q hq)).trans (bD (NEW.out q hq))
  ·skip
   obtain⟨w5,oA,Nw,DS⟩:=bG w4.drew #[ay az 0,aB ae 0 0] 72
   have kw5:=gc DS.out
   refine aS rfl ?_ rfl
   go_wp2_with fail
   have B5:=aH (aM (bi w4) Nw.out)
   have L5:=aH (aT DS.out)
   have RF5:=aH (show w5.cell? ⟨sb,11,ae⟩=ag (.map (ag mb))/\w5.cell? ⟨w2.heap.size,0,ae⟩=ag (ay az b0)from⟨(R4.out.below B5.out).cell 11,aZ 0 ((B5.out.block _ (aT E4.out)).trans E4.out)⟩)
   refine⟨⟨⟨w5,RF5.out⟩,rfl⟩,?_⟩
   refine aS rfl ?_ rfl
   go_wp2_with fail
   refine(FND.out w5 B5.out).mono ?_
   rintro e w6 ⟨v0,at_,rfl,ho,hb⟩
   obtain⟨va,vc,rfl,-⟩:=ho.slice
   obtain⟨dn,wQ⟩:=bP d.length
   rw[wQ]at ho ⊢
   clear wQ
   have B6:=aH (aM B5.out hb)
   have Zk:=aH (show w6.cell? ⟨sb,11,ae⟩=ag (.map (ag mb))/\w6.cell? ⟨w2.heap.size,0,ae⟩=ag (ay az b0)from⟨(R4.out.below B6.out).cell 11,aZ 0 ((B6.out.block _ (aT E4.out)).trans E4.out)⟩)
   have N6:=aH ((B6.out.block _ (aT N4.out)).trans N4.out)
   have Q6:=aH (show w6.heap[w4.heap.size]?=_ from(hb.block _ L5.out).trans DS.out)
   have ky:=gc Q6.out
   have OV:=ho
   clear ho hb kw5
   go_wp2_with fail
   refine⟨⟨⟨w6,Zk.out⟩,rfl⟩,?_⟩
   refine aX 4 (by kernel_rfl) ?_
   simp only[aJ,aO,aI,aL]
   repeat (go_big_quiet_step (fail))
   refine aU ?_
   clear ky
   have ky:=gc Q6.out
   have kz:=gc (bE Q6.out 0 (ay az lsn))
   refine aS rfl ?_ rfl
   go_wp2_with fail
   clear ky kz
   have ns:sb≠w4.heap.size:=by have:=R4.out.lt;omega
   have n2:w2.heap.size≠w4.heap.size:=by have:=aT E4.out;omega
   refine⟨⟨⟨_,⟨(cm ((bD ns).trans (bD ns))).trans Zk.out.1,(cm ((bD n2).trans (bD n2))).trans Zk.out.2⟩⟩,rfl⟩,?_⟩
   refine aX 2 (by kernel_rfl) ?_
   simp only[aJ,aO,aI,aL]
   repeat (go_big_quiet_step (fail))
   refine aU ?_
   refine bF ?_
   have BS:=aH (show Below w.heap.size w w6 from aM BW4.out B6.out)
   obtain⟨x,hx⟩:=bP ((w6.setCell ⟨w4.heap.size,0,ae⟩ (ay az lsn)).setCell ⟨w4.heap.size,1,ae⟩ (aB va dn vc))
   rw[hx]
   have NEQ:=aH (show ∀q,(Value.slice va dn vc).ownBlock=ag q->q≠w4.heap.size from λq hq e=>by have h:=(dq OV hq).1;have l5:w4.heap.size<w5.heap.size:=L5.out;omega)
   have NEW:=aH (show ∀q,(Value.slice va dn vc).ownBlock=ag q->q≠w.heap.size from λq hq e=>by have h:=(dq OV hq).1;have l5:w4.heap.size<w5.heap.size:=L5.out;have:=Qv.out;omega)
   have RX:=aH (show x.heap[w4.heap.size]?=ag (aG #[ay az lsn,aB va dn vc] 72 (0,0))from by rw[<-hx];exact oo Q6.out _ _)
   have NX:=aH (show x.heap[w.heap.size]?=ag (aG #[ay az 0,aB ae 0 0] 72 (0,0))from by rw[<-hx];exact(bD (by have:=Qv.out;omega)).trans ((bD (by have:=Qv.out;omega)).trans N6.out))
   have BX:=aH (show Below w.heap.size w x from by rw[<-hx];exact iJ BS.out (dP Qv.out))
   have OX:=aH (show cU x w.heap.size (aB va dn vc) d from by rw[<-hx];exact dC (OV.base (bJ (dP Qv.out) B5.out.size)) λq hq=>by have:=NEQ.out q hq;exact(bD this).trans (bD this))
   have cx:=gc RX.out
   have cn:=gc NX.out
   clear hx dF qR
   go_wp2_with fail
   refine bn (mE rfl w.heap.size (ay az lsn) (aB va dn vc) rfl ((oo NX.out (ay az lsn) (aB va dn vc)) |> oR _ _ 0 _ _ _) ((oo NX.out (ay az lsn) (aB va dn vc)) |> oR _ _ 1 _ _ _)) rfl ?_
   refine⟨aB va dn vc,rfl,?_,iJ BX.out dx⟩
   exact dC OX.out λq hq=>(bD (NEW.out q hq)).trans (bD (NEW.out q hq))
 ·skip
  obtain⟨w5,oA,Nw,DS⟩:=bG w4.drew #[ay az 0,aB ae 0 0] 72
  have kw5:=gc DS.out
  refine aS rfl ?_ rfl
  go_wp2_with fail
  have B5:=aH (aM (bi w4) Nw.out)
  have L5:=aH (aT DS.out)
  have RF5:=aH (show w5.cell? ⟨sb,11,ae⟩=ag (.map (ag mb))/\w5.cell? ⟨w2.heap.size,0,ae⟩=ag (ay az b0)from⟨(R4.out.below B5.out).cell 11,aZ 0 ((B5.out.block _ (aT E4.out)).trans E4.out)⟩)
  refine⟨⟨⟨w5,RF5.out⟩,rfl⟩,?_⟩
  have hl5:=aaz w5 B5.out
  refine aS rfl ?_ rfl
  go_wp2_with fail
  refine⟨⟨⟨w5,RF5.out⟩,rfl⟩,?_⟩
  refine aS rfl ?_ rfl
  go_wp2_with fail
  refine(FND.out w5 B5.out).mono ?_
  rintro e w6 ⟨v0,at_,rfl,ho,hb⟩
  obtain⟨va,vc,rfl,-⟩:=ho.slice
  obtain⟨dn,wQ⟩:=bP d.length
  rw[wQ]at ho ⊢
  clear wQ
  have B6:=aH (aM B5.out hb)
  have Zk:=aH (show w6.cell? ⟨sb,11,ae⟩=ag (.map (ag mb))/\w6.cell? ⟨w2.heap.size,0,ae⟩=ag (ay az b0)from⟨(R4.out.below B6.out).cell 11,aZ 0 ((B6.out.block _ (aT E4.out)).trans E4.out)⟩)
  have N6:=aH ((B6.out.block _ (aT N4.out)).trans N4.out)
  have Q6:=aH (show w6.heap[w4.heap.size]?=_ from(hb.block _ L5.out).trans DS.out)
  have ky:=gc Q6.out
  have OV:=ho
  clear ho hb kw5
  go_wp2_with fail
  refine⟨⟨⟨w6,Zk.out⟩,rfl⟩,?_⟩
  refine aX 4 (by kernel_rfl) ?_
  simp only[aJ,aO,aI,aL]
  repeat (go_big_quiet_step (fail))
  refine aU ?_
  clear ky
  have ky:=gc Q6.out
  have kz:=gc (bE Q6.out 0 (ay az lsn))
  refine aS rfl ?_ rfl
  go_wp2_with fail
  clear ky kz
  have ns:sb≠w4.heap.size:=by have:=R4.out.lt;omega
  have n2:w2.heap.size≠w4.heap.size:=by have:=aT E4.out;omega
  refine⟨⟨⟨_,⟨(cm ((bD ns).trans (bD ns))).trans Zk.out.1,(cm ((bD n2).trans (bD n2))).trans Zk.out.2⟩⟩,rfl⟩,?_⟩
  refine aX 2 (by kernel_rfl) ?_
  simp only[aJ,aO,aI,aL]
  repeat (go_big_quiet_step (fail))
  refine aU ?_
  refine bF ?_
  have BS:=aH (show Below w.heap.size w w6 from aM BW4.out B6.out)
  obtain⟨x,hx⟩:=bP ((w6.setCell ⟨w4.heap.size,0,ae⟩ (ay az lsn)).setCell ⟨w4.heap.size,1,ae⟩ (aB va dn vc))
  rw[hx]
  have NEQ:=aH (show ∀q,(Value.slice va dn vc).ownBlock=ag q->q≠w4.heap.size from λq hq e=>by have h:=(dq OV hq).1;have l5:w4.heap.size<w5.heap.size:=L5.out;omega)
  have NEW:=aH (show ∀q,(Value.slice va dn vc).ownBlock=ag q->q≠w.heap.size from λq hq e=>by have h:=(dq OV hq).1;have l5:w4.heap.size<w5.heap.size:=L5.out;have:=Qv.out;omega)
  have RX:=aH (show x.heap[w4.heap.size]?=ag (aG #[ay az lsn,aB va dn vc] 72 (0,0))from by rw[<-hx];exact oo Q6.out _ _)
  have NX:=aH (show x.heap[w.heap.size]?=ag (aG #[ay az 0,aB ae 0 0] 72 (0,0))from by rw[<-hx];exact(bD (by have:=Qv.out;omega)).trans ((bD (by have:=Qv.out;omega)).trans N6.out))
  have BX:=aH (show Below w.heap.size w x from by rw[<-hx];exact iJ BS.out (dP Qv.out))
  have OX:=aH (show cU x w.heap.size (aB va dn vc) d from by rw[<-hx];exact dC (OV.base (bJ (dP Qv.out) B5.out.size)) λq hq=>by have:=NEQ.out q hq;exact(bD this).trans (bD this))
  have cx:=gc RX.out
  have cn:=gc NX.out
  clear hx dF qR
  go_wp2_with fail
  refine bn (mE rfl w.heap.size (ay az lsn) (aB va dn vc) rfl ((oo NX.out (ay az lsn) (aB va dn vc)) |> oR _ _ 0 _ _ _) ((oo NX.out (ay az lsn) (aB va dn vc)) |> oR _ _ 1 _ _ _)) rfl ?_
  refine⟨aB va dn vc,rfl,?_,iJ BX.out dx⟩
  exact dC OX.out λq hq=>(bD (NEW.out q hq)).trans (bD (NEW.out q hq))
end
end Go.Proofs.YtooinenkenobaaaGreat

/- A part of the proof of what LawWholeReaders says. -/
import Derived.Test.YtooinenkenobaaaGreatAa
import Derived.Test.YtooinenkenobaaaGreatBw
set_option maxRecDepth 100000
set_option maxHeartbeats 20000000
namespace Go.Proofs.YtooinenkenobaaaGreat
open Option renaming none->ae,some->ag
open Bool renaming false->ah,true->aj
open Go.Proofs.Tryz renaming prog->ax
open Go.Value renaming int->ay,pointer->aA,slice->aB,bool->aC,float->aD
open Go.IntKind renaming i64->az
open Go.FloatKind renaming f64->aE
open Go.Ending renaming returned->aF
open Go.Obj renaming cells->aG
open Go renaming World->am,Value->ar,TypeId->au,Calls->aw
section
theorem kj(a:List jb)(i j:Nat)(f:jb->jb):(jf a i f)[j]?=if i=j then(a[j]?).map f else a[j]?:=by
 unfold jf
 cases h:a[i]? with
 | none=>
  dsimp only
  split
  ·next e=>rw[<-e,h];rfl
  ·rfl
 | some t=>
  dsimp only
  rw[eB]
  have b:=(aK.1 h).1
  split
  ·next e=>subst e;first | (rw[h];rfl) | (rw[bj b,h];rfl)
  ·rfl
theorem Fs(a:List kN)(i j:Nat)(f:kN->kN):(mD a i f)[j]?=if i=j then(a[j]?).map f else a[j]?:=by
 unfold mD
 cases h:a[i]? with
 | none=>
  dsimp only
  split
  ·next e=>rw[<-e,h];rfl
  ·rfl
 | some t=>
  dsimp only
  rw[eB]
  have b:=(aK.1 h).1
  split
  ·next e=>subst e;first | (rw[h];rfl) | (rw[bj b,h];rfl)
  ·rfl
theorem Fr(a:List jb)(i:Nat)(f:jb->jb):(jf a i f).length=a.length:=by
 unfold jf
 split
 ·rw[fZ]
 ·rfl
theorem xN(a:List kN)(i:Nat)(f:kN->kN):(mD a i f).length=a.length:=by
 unfold mD
 split
 ·rw[fZ]
 ·rfl
structure Ea(K:dw)(E:fm)(p:kN)(c:CV)(j:Nat):Prop where
 fin:p.fin≠0
 err:p.err=0
 rl:p.rl=c.rl
 rd:p.rd=c.rd
 next:p.ask.kind=5->c.rl=p.ask.lsn/\K.b0<=p.ask.lsn/\p.ask.lsn<K.b0+E.du/\E.D[p.ask.lsn-K.b0]?=ag c.rd
 put:p.ask.kind≠5->∃k,c.rl=K.b0+k/\E.ow[k]?=ag j/\(p.ask.kind=1->k<E.du)
def Ny(K:dw)(a:fu):Prop:=((a.kind=1\/a.kind=2)/\a.lsn=0)\/(a.kind=5/\K.b0<=a.lsn/\a.data=[])
structure oM(K:dw)(P:eG)(x:Option Nat)(W:iw):Prop where
 en:fy K W.E
 len:W.ts.length=P.length
 pl:W.cJ.length=W.E.cs.length
 Wp:∀(j:Nat) (c:CV),W.E.cs[j]?=ag c->c.st=1->x=ag j
 tk:∀(m:Nat) (t:jb) (l:List fu),W.ts[m]?=ag t->P[m]?=ag l->t.next<=l.length/\∀i,t.id=ag i->t.kJ=i/\∃c p,W.E.cs[i]?=ag c/\W.cJ[i]?=ag p/\c.st≠9/\p.task=m
 pc:∀(j:Nat) (p:kN) (c:CV),W.cJ[j]?=ag p->W.E.cs[j]?=ag c->(∃(t:jb) (l:List fu),W.ts[p.task]?=ag t/\P[p.task]?=ag l/\l[p.call]?=ag p.ask/\p.call<t.next/\(c.st≠9->t.id=ag j/\c.ask=p.ask))/\(c.st=9->Ea K W.E p c j)
 ow:∀(k j:Nat),W.E.ow[k]?=ag j->∃p:kN,W.cJ[j]?=ag p/\p.ask.kind≠5/\W.E.D[k]?=ag p.ask.data
 cov:∀(m:Nat) (t:jb),W.ts[m]?=ag t->∀q,q<t.next->∃(j:Nat) (p:kN),W.cJ[j]?=ag p/\p.task=m/\p.call=q
 Eu:W.cJ.length=(W.ts.map jb.next).sum
theorem Lb:∀(l:List Nat) (m a b:Nat),l[m]?=ag a->(l.set m b).sum+a=l.sum+b
 | [],m,a,b,h=>by simp at h
 | x::l,0,a,b,h=>by
  simp at h
  subst h
  simp
  omega
 | x::l,m+1,a,b,h=>by
  simp only[tI]at h
  have:=Lb l m a b h
  simp only[KR,lJ]
  omega
theorem Gb{a:List jb}{m:Nat}{t:jb}(h:a[m]?=ag t)(f:jb->jb):(jf a m f).map jb.next=(a.map jb.next).set m (f t).next:=by
 unfold jf
 rw[h]
 dsimp only
 rw[List.map_set]
theorem sQ:∀(a b:List Nat),a.length=b.length->(∀(m x y:Nat),a[m]?=ag x->b[m]?=ag y->x<=y)->a.sum<=b.sum
 | [],[],_,_=>bT _
 | [],y::b,h,_=>by simp at h
 | x::a,[],h,_=>by simp at h
 | x::a,y::b,h,k=>by
  have e:=k 0 x y rfl rfl
  have f:=sQ a b (by simpa using h) (λm p q c d=>k (m+1) p q (by simpa using c) (by simpa using d))
  simp only[lJ]
  omega
theorem xJ:∀(a b:List Nat) (m x y:Nat),a.length=b.length->(∀(m x y:Nat),a[m]?=ag x->b[m]?=ag y->x<=y)->a[m]?=ag x->b[m]?=ag y->x<y->a.sum<b.sum
 | [],_,m,x,y,_,_,h,_,_=>by simp at h
 | u::a,[],m,x,y,h,_,_,_,_=>by simp at h
 | u::a,v::b,0,x,y,h,k,h0,h1,fp=>by
  simp at h0 h1
  subst h0 h1
  have:=sQ a b (by simpa using h) (λm p q c d=>k (m+1) p q (by simpa using c) (by simpa using d))
  simp only[lJ]
  omega
 | u::a,v::b,m+1,x,y,h,k,h0,h1,fp=>by
  have:=k 0 u v rfl rfl
  have:=xJ a b m x y (by simpa using h) (λm p q c d=>k (m+1) p q (by simpa using c) (by simpa using d)) (by simpa using h0) (by simpa using h1) fp
  simp only[lJ]
  omega
section
variable{K:dw}{P:eG}{W:iw}{x:Option Nat}
theorem oM.IM(h:oM K P x W)(l:Int)(t:List Nat):oM K P x { W with last:=l,turns:=t }:=⟨h.en,h.len,h.pl,h.Wp,h.tk,h.pc,h.ow,h.cov,h.Eu⟩
theorem oM.total(h:oM K P x W):W.cJ.length<=(P.map List.length).sum:=by
 rw[h.Eu]
 refine sQ _ _ (by rw[bZ,bZ,h.len]) (λm a b ha c=>?_)
 rw[cZ]at ha c
 cases ht:W.ts[m]? with
 | none=>rw[ht]at ha;cases ha
 | some t=>
  cases hl:P[m]? with
  | none=>rw[hl]at c;cases c
  | some l=>
   rw[ht]at ha
   rw[hl]at c
   injection ha with ha
   injection c with c
   subst ha c
   exact(h.tk m t l ht hl).1
theorem oM.less(h:oM K P x W){m:Nat}{t:jb}{l:List fu}(e:W.ts[m]?=ag t)(d:P[m]?=ag l)(f:t.next<l.length):W.cJ.length<(P.map List.length).sum:=by
 rw[h.Eu]
 refine xJ _ _ m t.next l.length (by rw[bZ,bZ,h.len]) (λm a b ha c=>?_) (by rw[cZ,e];rfl) (by rw[cZ,d];rfl) f
 rw[cZ]at ha c
 cases e:W.ts[m]? with
 | none=>rw[e]at ha;cases ha
 | some t=>
  cases d:P[m]? with
  | none=>rw[d]at c;cases c
  | some l=>
   rw[e]at ha
   rw[d]at c
   injection ha with ha
   injection c with c
   subst ha c
   exact(h.tk m t l e d).1
theorem vj(h:oM K P ae W){m:Nat}{t:jb}{l:List fu}{a:fu}(w:W.ts[m]?=ag t)(C:P[m]?=ag l)(hi:t.id=ae)(ha:l[t.next]?=ag a)(O:Ny K a):
 oM K P (ag W.E.cs.length) (fN P W m)/\(fN P W m).E=gT W.E a/\(fN P W m).ts=jf W.ts m (λt=>{ next:=t.next+1,id:=ag W.E.cs.length,kJ:=W.cJ.length })/\(∃b,(fN P W m).cJ=W.cJ++[⟨m,t.next,a,0,0,[],b,0⟩])/\(fN P W m).turns=W.turns:=by
 have e:fN P W m={ W with E:=gT W.E a,ts:=jf W.ts m (λt=>{ next:=t.next+1,id:=ag W.E.cs.length,kJ:=W.cJ.length }),cJ:=W.cJ++[⟨m,t.next,a,0,0,[],2*W.turns.length,0⟩] }:=by
  unfold fN
  rw[w,C]
  dsimp only
  rw[ha]
 rw[e]
 refine⟨?_,rfl,rfl,⟨_,rfl⟩,rfl⟩
 have eb:=Va h.en a O
 have T:t.next<l.length:=(aK.1 ha).1
 have y:∀j:Nat,j<W.E.cs.length->(gT W.E a).cs[j]?=W.E.cs[j]?:=λj d=>by
  show(W.E.cs++[_])[j]?=_
  rw[bI d]
 have A:(gT W.E a).cs[W.E.cs.length]?=ag ⟨a,0,ah,1,0,0,0,[]⟩:=by
  show(W.E.cs++[_])[W.E.cs.length]?=_
  rw[bH dx,dR]
  rfl
 have H:∀(j:Nat) (c:CV),(gT W.E a).cs[j]?=ag c->(j<W.E.cs.length/\W.E.cs[j]?=ag c)\/(j=W.E.cs.length/\c=⟨a,0,ah,1,0,0,0,[]⟩):=λj c d=>by
  have M:=(aK.1 d).1
  have ll:(gT W.E a).cs.length=W.E.cs.length+1:=by show(W.E.cs++[_]).length=_;rw[aN];rfl
  rw[ll]at M
  rcases cg j W.E.cs.length with n | n
  ·exact .inl ⟨n,by rw[<-y j n];exact d⟩
  ·obtain rfl:j=W.E.cs.length:=by omega
   rw[A]at d
   injection d with d
   exact .inr ⟨rfl,d.symm⟩
 have I:∀(j:Nat) (p:kN),(W.cJ++[(⟨m,t.next,a,0,0,[],2*W.turns.length,0⟩:kN)])[j]?=ag p->(j<W.cJ.length/\W.cJ[j]?=ag p)\/(j=W.cJ.length/\p=⟨m,t.next,a,0,0,[],2*W.turns.length,0⟩):=λj p d=>by
  have M:=(aK.1 d).1
  rw[aN,cP]at M
  rcases cg j W.cJ.length with n | n
  ·exact .inl ⟨n,by rw[bI n]at d;exact d⟩
  ·obtain rfl:j=W.cJ.length:=by omega
   rw[bH dx,dR]at d
   injection d with d
   exact .inr ⟨rfl,d.symm⟩
 have L:∀(j:Nat) (p:kN),W.cJ[j]?=ag p->(W.cJ++[(⟨m,t.next,a,0,0,[],2*W.turns.length,0⟩:kN)])[j]?=ag p:=λj p d=>by
  rw[bI (aK.1 d).1]
  exact d
 have U:(W.cJ++[(⟨m,t.next,a,0,0,[],2*W.turns.length,0⟩:kN)])[W.cJ.length]?=ag ⟨m,t.next,a,0,0,[],2*W.turns.length,0⟩:=by
  rw[bH dx,dR]
  rfl
 have N:(jf W.ts m (λt=>{ next:=t.next+1,id:=ag W.E.cs.length,kJ:=W.cJ.length }))[m]?=ag ⟨t.next+1,ag W.E.cs.length,W.cJ.length⟩:=by
  rw[kj,bj rfl,w]
  rfl
 have J:∀(q:Nat) (u:jb),(jf W.ts m (λt=>{ next:=t.next+1,id:=ag W.E.cs.length,kJ:=W.cJ.length }))[q]?=ag u->(q=m/\u=⟨t.next+1,ag W.E.cs.length,W.cJ.length⟩)\/(q≠m/\W.ts[q]?=ag u):=λq u f=>by
  by_cases e:m=q
  ·subst e
   rw[N]at f
   injection f with f
   exact .inl ⟨rfl,f.symm⟩
  ·rw[kj,bf e]at f
   exact .inr ⟨cQ e,f⟩
 have Yb:∀q:Nat,q≠m->(jf W.ts m (λt=>{ next:=t.next+1,id:=ag W.E.cs.length,kJ:=W.cJ.length }))[q]?=W.ts[q]?:=λq f=>by
  rw[kj,bf (cQ f)]
 refine⟨eb,by rw[Fr];exact h.len,?_,?_,?_,?_,?_,?_,?_⟩
 ·show(W.cJ++[_]).length=(W.E.cs++[_]).length
  rw[aN,aN,h.pl]
  rfl
 ·intro j c d hs
  rcases H j c d with⟨-,k⟩ | ⟨k,-⟩
  ·exact absurd (h.Wp j c k hs) (by simp)
  ·rw[k]
 ·intro q u S f g
  rcases J q u f with⟨rfl,rfl⟩ | ⟨dF,Q⟩
  ·rw[C]at g
   injection g with g
   subst g
   refine⟨T,λi e=>?_⟩
   injection e with e
   subst e
   exact⟨h.pl,_,_,A,by rw[<-h.pl];exact U,by simp,rfl⟩
  ·obtain⟨o,r⟩:=h.tk q u S Q g
   refine⟨o,λi e=>?_⟩
   obtain⟨s,c,p,Y,k5,k6,k7⟩:=r i e
   exact⟨s,c,p,by show(gT W.E a).cs[i]?=_;rw[y i (aK.1 Y).1];exact Y,L i p k5,k6,k7⟩
 ·intro j p c V hc
  rcases H j c hc with⟨M,k⟩ | ⟨ej,rfl⟩
  ·rcases I j p V with⟨-,kp⟩ | ⟨e,-⟩
   ·obtain⟨⟨u,S,D,F,Z,q4,q5⟩,q6⟩:=h.pc j p c kp k
    refine⟨?_,λG=>?_⟩
    ·by_cases B:p.task=m
     ·rw[B,C]at F
      injection F with F
      subst F
      rw[B,w]at D
      injection D with D
      subst D
      refine⟨_,_,by rw[B];exact N,by rw[B];exact C,Z,by dsimp only;omega,λG=>?_⟩
      have:=(q5 G).1
      rw[hi]at this
      cases this
     ·exact⟨u,S,by show(jf W.ts m _)[p.task]?=_;rw[Yb _ B];exact D,F,Z,q4,q5⟩
    ·obtain⟨d1,d2,d3,d4,d5,d6⟩:=q6 G
     exact⟨d1,d2,d3,d4,d5,d6⟩
   ·have:=h.pl;omega
  ·rcases I j p V with⟨lp,-⟩ | ⟨-,rfl⟩
   ·have:=h.pl;omega
   ·refine⟨⟨_,l,N,C,ha,gX _,λ_=>⟨by rw[ej],rfl⟩⟩,λG=>by simp at G⟩
 ·intro k j O
  obtain⟨p,o,r,s⟩:=h.ow k j O
  exact⟨p,L j p o,r,s⟩
 ·intro q u f z X
  rcases J q u f with⟨rfl,rfl⟩ | ⟨dF,Q⟩
  ·rcases cg z t.next with n | n
   ·obtain⟨j,p,o,r,s⟩:=h.cov q t w z n
    exact⟨j,p,L j p o,r,s⟩
   ·exact⟨_,_,U,rfl,by dsimp only at X ⊢;omega⟩
  ·obtain⟨j,p,o,r,s⟩:=h.cov q u Q z X
   exact⟨j,p,L j p o,r,s⟩
 ·show(W.cJ++[_]).length=_
  rw[aN,cP,Gb w]
  have:=Lb (W.ts.map jb.next) m t.next (t.next+1) (by rw[cZ,w];rfl)
  have:=h.Eu
  dsimp only
  omega
theorem xK(hK:kX K)(h:oM K P x W){m i:Nat}{t:jb}{l:List fu}{c:CV}(L:W.ts[m]?=ag t)(hl:P[m]?=ag l)(hi:t.id=ag i)(hc:W.E.cs[i]?=ag c)(hx:x=ae\/x=ag i)(hr:iX K W.E c=aj)
 (iP:c.st=1->c.ask.kind≠5->jp K W.E c.ask.data) (a:Nat):oM K P ae (iH K W m a)/\(iH K W m a).E=fK K W.E i a/\(iH K W m a).ts.map jb.next=W.ts.map jb.next/\(∀(j:Nat) (p:kN),W.cJ[j]?=ag p->∃r:kN,(iH K W m a).cJ[j]?=ag r/\r.task=p.task/\r.call=p.call/\r.ask=p.ask)/\(iH K W m a).cJ.length=W.cJ.length:=by
 have eo:=Xm hK h.en hc hr iP a
 have G:=qP h.en hc hr a
 obtain⟨tY,tZ⟩:=h.tk m t l L hl
 obtain⟨tp,c0,M,k1,k2,k3,Y⟩:=tZ i hi
 rw[hc]at k1
 injection k1 with k1
 subst k1
 obtain⟨⟨t',l',q1,q2,q3,q4,q5⟩,-⟩:=h.pc i M c k2 hc
 obtain⟨q5,q6⟩:=q5 k3
 rw[Y,L]at q1
 injection q1 with q1
 subst q1
 rw[Y,hl]at q2
 injection q2 with q2
 subst q2
 obtain⟨N,o1,o2,o3,o4⟩:=G.own
 have dk:∀(j z:Nat),W.E.ow[j]?=ag z->(fK K W.E i a).ow[j]?=ag z:=λj z n=>by
  rcases G.sg with⟨-,-,e⟩ | ⟨-,-,-,e⟩
  ·rw[e];exact n
  ·rw[e,bI (aK.1 n).1];exact n
 have dd:∀(j:Nat) (z:By),W.E.D[j]?=ag z->(fK K W.E i a).D[j]?=ag z:=λj z n=>by
  rcases G.sg with⟨-,e,-⟩ | ⟨-,-,e,-⟩
  ·rw[e];exact n
  ·rw[e,bI (aK.1 n).1];exact n
 have dV:∀(p:kN) (z S:CV) (j:Nat),S.rl=z.rl->S.rd=z.rd->Ea K W.E p z j->Ea K (fK K W.E i a) p S j:=λp z S j e1 e2 d=>by
  have yH:=G.du
  refine⟨d.fin,d.err,d.rl.trans e1.symm,d.rd.trans e2.symm,λe=>?_,λe=>?_⟩
  ·obtain⟨U,V,d3,d4⟩:=d.next e
   exact⟨e1.trans U,V,by omega,by rw[e2];exact dd _ _ d4⟩
  ·obtain⟨k,U,V,d3⟩:=d.put e
   exact⟨k,e1.trans U,dk _ _ V,λe=>by have:=d3 e;omega⟩
 have B:∀(j:Nat) (S:CV),(fK K W.E i a).cs[j]?=ag S->j≠i->∃(z:CV) (b:Bool),W.E.cs[j]?=ag z/\S={ z with lR:=b }:=λj S n dF=>by
  have lj:=(aK.1 n).1
  rw[G.len]at lj
  obtain⟨b,hb⟩:=G.iZ j _ dF (aP lj)
  rw[hb]at n
  injection n with n
  exact⟨_,b,aP lj,n.symm⟩
 have Z:∀(q:Nat) (u:jb) (j:Nat),W.ts[q]?=ag u->q≠m->u.id=ag j->j≠i:=λq u j A dF Q e=>by
  subst e
  cases I:P[q]? with
  | none=>
   have:=(aK.1 A).1
   have:=List.getElem?_eq_none_iff.1 I
   have:=h.len
   omega
  | some lq=>
   obtain⟨-,-,p,-,g,-,g2⟩:=(h.tk q u lq A I).2 j Q |>.imp_right (λg=>g)
   rw[k2]at g
   injection g with g
   rw[<-g,Y]at g2
   exact dF g2.symm
 have aa:∀Cn:List kN,(∀(j:Nat) (p:kN),W.cJ[j]?=ag p->∃r:kN,Cn[j]?=ag r/\r.ask=p.ask)->∀(k j:Nat),(fK K W.E i a).ow[k]?=ag j->∃p:kN,Cn[j]?=ag p/\p.ask.kind≠5/\(fK K W.E i a).D[k]?=ag p.ask.data:=λCn o k j H=>by
  have iR:∀(k j:Nat),W.E.ow[k]?=ag j->∃p:kN,Cn[j]?=ag p/\p.ask.kind≠5/\(fK K W.E i a).D[k]?=ag p.ask.data:=λk j H=>by
   obtain⟨p,D,g2,g3⟩:=h.ow k j H
   obtain⟨r,X,J⟩:=o j p D
   exact⟨r,X,by rw[J];exact g2,by rw[J];exact dd _ _ g3⟩
  rcases G.sg with⟨-,-,e⟩ | ⟨-,s5,eD,e⟩
  ·exact iR k j (by rw[<-e];exact H)
  ·rw[e]at H
   have yD:=(aK.1 H).1
   rw[aN,cP]at yD
   rcases cg k W.E.ow.length with hh | hh
   ·rw[bI hh]at H
    exact iR k j H
   ·obtain rfl:k=W.E.ow.length:=by omega
    rw[bH dx,dR]at H
    injection H with H
    obtain⟨r,X,J⟩:=o i M k2
    refine⟨r,by rw[<-H];exact X,by rw[J,<-q6];exact s5,?_⟩
    rw[eD,h.en.ow,bH dx,dR,J,<-q6]
    rfl
 have e0:iH K W m a=if N.st=9 then{ W with E:=fK K W.E i a,ts:=jf W.ts m (λt=>{ t with id:=ae }),cJ:=mD W.cJ i (λp=>{ p with err:=N.err,rl:=N.rl,rd:=N.rd,fin:=2*W.turns.length+1 }) }else{ W with E:=fK K W.E i a }:=by
  unfold iH
  rw[L]
  dsimp only
  rw[hi]
  dsimp only
  rw[o1,tp]
 rw[e0]
 by_cases s9:N.st=9
 ·rw[bj s9]
  have Jk:(jf W.ts m (λt=>{ t with id:=ae }))[m]?=ag { t with id:=ae }:=by rw[kj,bj rfl,L];rfl
  have Yb:∀q:Nat,q≠m->(jf W.ts m (λt=>{ t with id:=ae }))[q]?=W.ts[q]?:=λq A=>by rw[kj,bf (cQ A)]
  have ab:∀(q:Nat) (u:jb),(jf W.ts m (λt=>{ t with id:=ae }))[q]?=ag u->(q=m/\u={ t with id:=ae })\/(q≠m/\W.ts[q]?=ag u):=λq u A=>by
   by_cases e:q=m
   ·subst e
    rw[Jk]at A
    injection A with A
    exact .inl ⟨rfl,A.symm⟩
   ·rw[Yb q e]at A
    exact .inr ⟨e,A⟩
  obtain⟨C,F⟩:∃f:kN->kN,(λp=>{ p with err:=N.err,rl:=N.rl,rd:=N.rd,fin:=2*W.turns.length+1 })=f:=⟨_,rfl⟩
  rw[F]
  have y:∀p:kN,(C p).task=p.task/\(C p).call=p.call/\(C p).ask=p.ask:=λp=>by rw[<-F];exact⟨rfl,rfl,rfl⟩
  have SU:(mD W.cJ i C)[i]?=ag (C M):=by rw[Fs,bj rfl,k2];rfl
  have FW:∀j:Nat,j≠i->(mD W.cJ i C)[j]?=W.cJ[j]?:=λj n=>by rw[Fs,bf (cQ n)]
  have Zf:∀(j:Nat) (p:kN),W.cJ[j]?=ag p->∃r:kN,(mD W.cJ i C)[j]?=ag r/\r.task=p.task/\r.call=p.call/\r.ask=p.ask:=λj p o=>by
   by_cases e:j=i
   ·subst e
    rw[k2]at o
    injection o with o
    subst o
    exact⟨_,SU,y _⟩
   ·exact⟨p,by rw[FW j e];exact o,rfl,rfl,rfl⟩
  have nx:(jf W.ts m (λt=>{ t with id:=ae })).map jb.next=W.ts.map jb.next:=by
   rw[Gb L]
   apply jc
   intro q
   rw[eB]
   split
   ·next e=>
    subst e
    rw[bj (by rw[bZ];exact(aK.1 L).1),cZ,L]
    rfl
   ·rfl
  refine⟨⟨eo,by rw[Fr];exact h.len,?_,?_,?_,?_,?_,?_,?_⟩,rfl,nx,Zf,xN _ _ _⟩
  ·show(mD W.cJ i C).length=(fK K W.E i a).cs.length
   rw[xN,h.pl,G.len]
  ·intro j z n hs
   by_cases e:j=i
   ·subst e
    rw[o1]at n
    injection n with n
    subst n
    exact absurd hs o2
   ·obtain⟨O,b,D,rfl⟩:=B j z n e
    have:=h.Wp j O D hs
    rcases hx with hx | hx <;> rw[hx]at this
    ·cases this
    ·injection this with this
     exact absurd this.symm e
  ·intro q u lq A I
   rcases ab q u A with⟨rfl,rfl⟩ | ⟨dF,Q⟩
   ·rw[hl]at I
    injection I with I
    subst I
    exact⟨tY,λj e=>by cases e⟩
   ·obtain⟨D,g2⟩:=h.tk q u lq Q I
    refine⟨D,λj e=>?_⟩
    obtain⟨g3,z,p,X,J,g6,g7⟩:=g2 j e
    have n:=Z q u j Q dF e
    obtain⟨b,hb⟩:=G.iZ j z n X
    exact⟨g3,_,p,hb,by show(mD W.cJ i C)[j]?=_;rw[FW j n];exact J,g6,g7⟩
  ·intro j p z o w
   by_cases e:j=i
   ·subst e
    have o:(mD W.cJ j C)[j]?=ag p:=o
    rw[SU]at o
    injection o with o
    subst o
    have w:(fK K W.E j a).cs[j]?=ag z:=w
    rw[o1]at w
    injection w with w
    subst w
    obtain⟨r1,r2,r3⟩:=o4 s9
    refine⟨⟨_,l,by show(jf W.ts m _)[_]?=_;rw[(y M).1,Y];exact Jk,by rw[(y M).1,Y];exact hl,by rw[(y M).2.1,(y M).2.2];exact q3,by rw[(y M).2.1];exact q4,λg=>absurd s9 g⟩,λ_=>?_⟩
    refine⟨by rw[<-F];dsimp only;omega,by rw[<-F];exact r1,by rw[<-F],by rw[<-F],λe5=>?_,λe5=>?_⟩
    ·rw[(y M).2.2,<-q6]at e5 ⊢
     exact r2 e5
    ·rw[(y M).2.2,<-q6]at e5 ⊢
     exact r3 e5
   ·have o:(mD W.cJ i C)[j]?=ag p:=o
    rw[FW j e]at o
    obtain⟨O,b,D,rfl⟩:=B j z w e
    obtain⟨⟨u,l',T,a2,a3,a4,a5⟩,a6⟩:=h.pc j p O o D
    refine⟨?_,λs=>dV p O _ j rfl rfl (a6 s)⟩
    by_cases em:p.task=m
    ·rw[em,L]at T
     injection T with T
     subst T
     refine⟨({ t with id:=ae }:jb),l',by rw[em];exact Jk,a2,a3,a4,λs=>?_⟩
     have:=(a5 s).1
     rw[hi]at this
     injection this with this
     exact absurd this.symm e
    ·exact⟨u,l',by show(jf W.ts m _)[p.task]?=_;rw[Yb _ em];exact T,a2,a3,a4,a5⟩
  ·exact aa (mD W.cJ i C) (λj p o=>by obtain⟨r,b1,-,-,b2⟩:=Zf j p o;exact⟨r,b1,b2⟩)
  ·intro q u A z w
   rcases ab q u A with⟨rfl,rfl⟩ | ⟨dF,Q⟩
   ·obtain⟨j,p,b1,b2,b3⟩:=h.cov q t L z w
    obtain⟨r,U,V,d3,-⟩:=Zf j p b1
    exact⟨j,r,U,V.trans b2,d3.trans b3⟩
   ·obtain⟨j,p,b1,b2,b3⟩:=h.cov q u Q z w
    obtain⟨r,U,V,d3,-⟩:=Zf j p b1
    exact⟨j,r,U,V.trans b2,d3.trans b3⟩
  ·show(mD W.cJ i C).length=((jf W.ts m _).map jb.next).sum
   rw[xN,nx]
   exact h.Eu
 ·rw[bf s9]
  refine⟨⟨eo,h.len,?_,?_,?_,?_,?_,h.cov,h.Eu⟩,rfl,rfl,λj p o=>⟨p,o,rfl,rfl,rfl⟩,rfl⟩
  ·show W.cJ.length=(fK K W.E i a).cs.length
   rw[h.pl,G.len]
  ·intro j z n hs
   by_cases e:j=i
   ·subst e
    rw[o1]at n
    injection n with n
    subst n
    exact absurd hs o2
   ·obtain⟨O,b,D,rfl⟩:=B j z n e
    have:=h.Wp j O D hs
    rcases hx with hx | hx <;> rw[hx]at this
    ·cases this
    ·injection this with this
     exact absurd this.symm e
  ·intro q u lq Q I
   obtain⟨D,g2⟩:=h.tk q u lq Q I
   refine⟨D,λj e=>?_⟩
   obtain⟨g3,z,p,X,J,g6,g7⟩:=g2 j e
   by_cases n:j=i
   ·subst n
    exact⟨g3,N,p,o1,J,s9,g7⟩
   ·obtain⟨b,hb⟩:=G.iZ j z n X
    exact⟨g3,_,p,hb,J,g6,g7⟩
  ·intro j p z o w
   by_cases e:j=i
   ·subst e
    have w:(fK K W.E j a).cs[j]?=ag z:=w
    rw[o1]at w
    injection w with w
    subst w
    have o:W.cJ[j]?=ag p:=o
    rw[k2]at o
    injection o with o
    subst o
    exact⟨⟨t,l,by rw[Y];exact L,by rw[Y];exact hl,q3,q4,λ_=>⟨hi,(o3 s9).trans q6⟩⟩,λs=>absurd s s9⟩
   ·obtain⟨O,b,D,rfl⟩:=B j z w e
    obtain⟨T,a6⟩:=h.pc j p O o D
    exact⟨T,λs=>dV p O _ j rfl rfl (a6 s)⟩
  ·exact aa W.cJ (λj p o=>⟨p,o,rfl⟩)
end
end
section
section
variable{K:dw}{P:eG}{W:iw}
theorem Uv{l:List Nat}{f:Nat->Bool}{p:Nat}(h:l.find? f=ag p):p∈l:=List.mem_of_find?_eq_some h
theorem uF(picks:List Nat)(W:iw){l:List Nat}(b:l≠[]):whose picks W l∈l:=by
 have a:0<l.length:=Ez.2 b
 unfold whose
 cases picks[W.turns.length]? with
 | some k=>
  dsimp only
  have:=nj k a
  rw[aP this]
  exact qH this
 | none=>
  dsimp only
  cases hf:l.find? (λp:Nat=>decide (W.last<(p:Int)))with
  | some p=>exact Uv hf
  | none=>
   dsimp only
   rw[aP a]
   exact qH a
theorem vn{p:Nat}(h:p∈ft K P W):(p<P.length/\mr K P W p=aj)\/(p=P.length/\kU K W=aj):=by
 unfold ft at h
 rcases jk.1 h with h | h
 ·rw[List.mem_filter,vD]at h
  exact .inl h
 ·split at h
  ·next e=>exact .inr ⟨by simpa using h,e⟩
  ·cases h
theorem kZ(h:fy K W.E){i:Nat}:i∈gZ K W.E↔∃c,W.E.cs[i]?=ag c/\iX K W.E c=aj:=by
 unfold gZ
 rw[List.mem_filter]
 constructor
 ·rintro⟨-,a⟩
  unfold rY at a
  cases b:W.E.cs[i]? with
  | none=>rw[b]at a;cases a
  | some c=>rw[b]at a;exact⟨c,rfl,a⟩
 ·rintro⟨c,b,a⟩
  refine⟨(h.act i).2 ⟨c,b,λe=>?_⟩,by unfold rY;rw[b];exact a⟩
  unfold iX at a
  rw[e]at a
  simp at a
def sR(K:dw)(N T:Nat)(W:iw):Nat:=6*(T-W.cJ.length)+zY K N W.E
theorem Ru(h:oM K P ae W){t:Nat}(r:W.E.now<=t)(q:GC K { W.E with now:=t }=aj)(ha:kU K W=aj):oM K P ae { W with E:={ W.E with now:=t } }/\∀N T,sR K N T { W with E:={ W.E with now:=t } }+1<=sR K N T W:=by
 refine⟨⟨Xj h.en r,h.len,h.pl,h.Wp,h.tk,λj p c f a=>⟨(h.pc j p c f a).1,λs=>?_⟩,h.ow,h.cov,h.Eu⟩,λN T=>?_⟩
 ·obtain⟨g,k,l,m,n,o⟩:=(h.pc j p c f a).2 s
  exact⟨g,k,l,m,n,o⟩
 ·unfold kU at ha
  cases hl:W.E.cW with
  | none=>rw[hl]at ha;cases ha
  | some i=>
   rw[hl]at ha
   dsimp only at ha
   cases a:W.E.cs[i]? with
   | none=>rw[a]at ha;cases ha
   | some c=>
    rw[a]at ha
    dsimp only at ha
    rw[co]at ha
    have b:=dX ha.1
    have u:GC K W.E=ah:=by
     have d:=ha.2
     cases e:GC K W.E with
     | false=>rfl
     | true=>
      have:i∈gZ K W.E:=(kZ h.en).2 ⟨c,a,by unfold iX;rw[b];simpa using e⟩
      rw[bM this]at d
      cases d
    have w:ph K W.E=1:=by
     unfold ph
     rw[hl]
     dsimp only
     rw[a]
     dsimp only
     rw[bj b,u]
     rfl
    have x:ph K { W.E with now:=t }=2:=by
     unfold ph
     dsimp only
     rw[hl]
     dsimp only
     rw[a]
     dsimp only
     rw[bj b]
     exact bj q
    unfold sR zY
    rw[w,x]
    dsimp only
    omega
structure rX(K:dw)(P:eG)(S:Option Nat->iw->Prop):Prop where
 IM:∀(x:Option Nat) (W:iw) (l:Int) (t:List Nat),S x W->S x { W with last:=l,turns:=t }
 tick:∀(x:Option Nat) (W:iw) (t:Nat),S x W->S x { W with E:={ W.E with now:=t } }
 begin:∀(W:iw) (m:Nat) (t:jb) (l:List fu) (a:fu),oM K P ae W->S ae W->W.ts[m]?=ag t->P[m]?=ag l->t.id=ae->l[t.next]?=ag a->S (ag W.E.cs.length) (fN P W m)
 room:∀(x:Option Nat) (W:iw) (i:Nat) (c:CV),oM K P x W->S x W->W.E.cs[i]?=ag c->c.st=1->c.ask.kind≠5->jp K W.E c.ask.data
 step:∀(x:Option Nat) (W:iw) (m i:Nat) (c:CV) (want:Nat) (t:jb),oM K P x W->S x W->W.ts[m]?=ag t->t.id=ag i->W.E.cs[i]?=ag c->(x=ae\/x=ag i)->iX K W.E c=aj->(x=ag i->c.st=1)->S ae (iH K W m want)
theorem rX.aaa{S:Option Nat->iw->Prop}(o:rX K P S)(q:kX K)(N T:Nat){x:Option Nat}(h:oM K P x W)(s:S x W){m i:Nat}{t:jb}{l:List fu}{c:CV}(k:W.ts[m]?=ag t)(u:P[m]?=ag l)(j:t.id=ag i)(f:W.E.cs[i]?=ag c)(hx:x=ae\/x=ag i)(g:iX K W.E c=aj)(p:x=ag i->c.st=1)(r:W.E.D.length<=N)(d:Nat):
 oM K P ae (iH K W m d)/\S ae (iH K W m d)/\sR K N T (iH K W m d)+1<=sR K N T W:=by
 obtain⟨a,b,-,-,e⟩:=xK q h k u j f hx g (o.room x W i c h s f) d
 have n:=qP h.en f g d
 refine⟨a,o.step x W m i c d t h s k j f hx g p,?_⟩
 unfold sR
 rw[e,b]
 have:=n.zY N r
 omega
theorem Rp{S:Option Nat->iw->Prop}(o:rX K P S)(D:kX K)(X:∀(m:Nat) (l:List fu) (a:fu),P[m]?=ag l->a∈l->Ny K a)(N:Nat)(E:∀(x:Option Nat) (W:iw),oM K P x W->S x W->W.E.D.length<=N){picks:List Nat}{g:iw}(h:oM K P ae W)(s:S ae W)(k:zv K P picks W g):
 oM K P ae g/\S ae g/\sR K N (P.map List.length).sum g+1<=sR K N (P.map List.length).sum W:=by
 obtain⟨d,t,O,G⟩:=k
 have F:=uF picks W O
 obtain⟨p,Z⟩:=bP (whose picks W (ft K P W))
 rw[Z]at F G ⊢
 have f:=h.IM (p:Int) (W.turns++[p])
 have n:=o.IM ae W (p:Int) (W.turns++[p]) s
 rcases vn F with⟨fp,ha⟩ | ⟨rfl,ha⟩
 ·unfold gY
  dsimp only
  rw[bf (by omega)]
  unfold mr at ha
  cases hT:W.ts[p]? with
  | none=>rw[hT]at ha;cases ha
  | some u=>
   cases hL:P[p]? with
   | none=>rw[hT,hL]at ha;cases ha
   | some l=>
    rw[hT,hL]at ha
    dsimp only at ha
    have I:Jw W p=u.id.isNone:=by
     unfold Jw
     rw[hT]
    rcases QA u.id with b | ⟨i,b⟩
    ·rw[b]at ha
     have H:=dX ha
     obtain⟨a,z⟩:∃a,l[u.next]?=ag a:=⟨_,aP H⟩
     have J:=X p l a hL (cG z)
     obtain⟨A,B,b3,⟨bg,b4⟩,-⟩:=vj f hT hL b z J
     have C:=o.begin _ p u l a f n hT hL b z
     have L:(fN P { W with last:=(p:Int),turns:=W.turns++[p] } p).ts[p]?=ag ⟨u.next+1,ag W.E.cs.length,W.cJ.length⟩:=by rw[b3,kj,bj rfl,hT];rfl
     have M:(fN P { W with last:=(p:Int),turns:=W.turns++[p] } p).E.cs[W.E.cs.length]?=ag ⟨a,0,ah,1,0,0,0,[]⟩:=by
      rw[B]
      show(W.E.cs++[_])[W.E.cs.length]?=_
      rw[bH dx,dR]
      rfl
     rw[bj (by rw[I,b];rfl)]
     obtain⟨q,r,w⟩:=o.aaa D N (P.map List.length).sum A C L hL rfl M (.inr rfl) (by unfold iX;rfl) (λ_=>rfl) (E _ _ A C) d
     refine⟨q,r,bJ w ?_⟩
     unfold sR
     rw[b4,aN,cP,B]
     have ll:=h.less hT hL H
     have e1:zY K N (gT W.E a)<=zY K N W.E+6:=by
      have Q:pH (gT W.E a).cs=pH W.E.cs+3:=by
       show pH (W.E.cs++[_])=_
       have:∀(cs:List CV) (c:CV),pH (cs++[c])=pH cs+wt c:=λcs c=>by
        induction cs with
        | nil=>show wt c+0=0+wt c;omega
        | cons y cs ih=>simp only[eF,pH,ih];omega
       rw[this]
       rfl
      have T:ph K (gT W.E a)=ph K W.E:=by
       unfold ph
       show(match W.E.cW with | none=>0 | some i=>_)=_
       cases hle:W.E.cW with
       | none=>rfl
       | some j=>
        dsimp only
        obtain⟨c0,k0,-⟩:=h.en.lead j hle
        have:(gT W.E a).cs[j]?=W.E.cs[j]?:=by
         show(W.E.cs++[_])[j]?=_
         rw[bI (aK.1 k0).1]
        rw[this]
        rfl
      unfold zY
      rw[Q,T]
      show _+5*(N-W.E.du)+_<=_
      omega
     show 6*((P.map List.length).sum-(W.cJ.length+1))+zY K N (gT W.E a)<=6*((P.map List.length).sum-W.cJ.length)+zY K N W.E
     omega
    ·rw[b]at ha
     obtain⟨c,Y,hr⟩:=(kZ h.en).1 (dX ha)
     rw[bf (by rw[I,b];simp)]
     obtain⟨q,r,w⟩:=o.aaa D N (P.map List.length).sum f n hT hL b Y (.inl rfl) hr (λe=>by cases e) (E _ _ f n) d
     exact⟨q,r,w⟩
 ·unfold gY
  dsimp only
  rw[bj rfl]
  obtain⟨U,V⟩:=G rfl
  obtain⟨q1,q2⟩:=Ru f (t:=t) U V ha
  exact⟨q1,o.tick ae _ t n,q2 N _⟩
theorem NK{picks:List Nat}{W b:iw}(k:zv K P picks W b):b.turns.length=W.turns.length+1:=by
 obtain⟨a,t,e,f⟩:=k
 unfold gY
 dsimp only
 split
 ·simp
 ·have d:∀(V:iw) n,(iH K V n a).turns=V.turns:=λV n=>by
   unfold iH
   split
   ·split
    ·dsimp only
     split
     ·split <;> rfl
     ·rfl
    ·rfl
   ·rfl
  have c:∀(V:iw) n,(fN P V n).turns=V.turns:=λV n=>by
   unfold fN
   split
   ·split <;> rfl
   ·rfl
  rw[d]
  split
  ·rw[c];simp
  ·simp
end
end
end Go.Proofs.YtooinenkenobaaaGreat

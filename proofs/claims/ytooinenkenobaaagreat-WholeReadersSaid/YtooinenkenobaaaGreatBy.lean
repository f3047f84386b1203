/- A part of the proof of what LawWholeReaders says. -/
import Derived.Test.YtooinenkenobaaaGreatAa
import Derived.Test.YtooinenkenobaaaGreatBx
import Derived.Test.YtooinenkenobaaaGreatBe
import Derived.Test.YtooinenkenobaaaGreatBc
set_option maxRecDepth 100000
set_option maxHeartbeats 20000000
namespace Go.Proofs.YtooinenkenobaaaGreat
open Option renaming none->ae,some->ag
open Bool renaming false->ah,true->aj
open Go.Proofs.Tryz renaming prog->ax
open Go.Value renaming int->ay,pointer->aA,slice->aB,bool->aC,float->aD
open Go.IntKind renaming i64->az
open Go.FloatKind renaming f64->aE
open Go.Ending renaming returned->aF
open Go.Obj renaming cells->aG
open Go renaming World->am,Value->ar,TypeId->au,Calls->aw
section
def EU(kind n:Nat):List fu:=(List.range n).map λi=>⟨kind,0,[BitVec.ofNat 8 i,7]⟩
def Cg(a n:Nat):List fu:=(List.range n).map λk=>⟨5,a+k,[]⟩
def qu(kind a n ee:Nat):eG:=EU kind n::List.replicate ee (Cg a n)
theorem BJ{kind n i:Nat}{a:fu}(h:(EU kind n)[i]?=ag a):i<n/\a=⟨kind,0,[BitVec.ofNat 8 i,7]⟩:=by
 unfold EU at h
 rw[cZ]at h
 cases b:(List.range n)[i]? with
 | none=>rw[b]at h;cases h
 | some k=>
  rw[b]at h
  have c:=(aK.1 b).1
  rw[gC]at c
  rw[iu c]at b
  injection b with b
  subst b
  injection h with h
  exact⟨c,h.symm⟩
theorem Cf{d n i:Nat}{a:fu}(h:(Cg d n)[i]?=ag a):i<n/\a=⟨5,d+i,[]⟩:=by
 unfold Cg at h
 rw[cZ]at h
 cases b:(List.range n)[i]? with
 | none=>rw[b]at h;cases h
 | some k=>
  rw[b]at h
  have c:=(aK.1 b).1
  rw[gC]at c
  rw[iu c]at b
  injection b with b
  subst b
  injection h with h
  exact⟨c,h.symm⟩
theorem xl{kind a n ee m:Nat}{l:List fu}(h:(qu kind a n ee)[m]?=ag l):(m=0/\l=EU kind n)\/(m≠0/\m<=ee/\l=Cg a n):=by
 unfold qu at h
 cases m with
 | zero=>injection h with h;exact .inl ⟨rfl,h.symm⟩
 | succ m=>
  rw[tI]at h
  have b:=(aK.1 h).1
  rw[dW]at b
  rw[mh,bj b]at h
  injection h with h
  exact .inr ⟨by omega,by omega,h.symm⟩
theorem nI(kind n:Nat):(EU kind n).length=n:=by unfold EU;rw[bZ,gC]
theorem pJ(a n:Nat):(Cg a n).length=n:=by unfold Cg;rw[bZ,gC]
theorem Li{K:dw}{kind n ee m:Nat}{l:List fu}{a:fu}(c:kind=1\/kind=2)(h:(qu kind K.b0 n ee)[m]?=ag l)(ha:a∈l):Ny K a:=by
 obtain⟨i,b⟩:=fg ha
 rcases xl h with⟨-,rfl⟩ | ⟨-,-,rfl⟩
 ·obtain⟨-,rfl⟩:=BJ b
  exact .inl ⟨c,rfl⟩
 ·obtain⟨-,rfl⟩:=Cf b
  exact .inr ⟨rfl,Nat.le_add_right _ _,rfl⟩
structure RdS(x:Option Nat)(W:iw):Prop where
 r0:∀(k j:Nat) (p:kN),W.E.ow[k]?=ag j->W.cJ[j]?=ag p->p.task=0/\p.call=k
 r1:x=ae->∀t0:jb,W.ts[0]?=ag t0->W.E.D.length=t0.next
 r2:∀(j:Nat) (p:kN),x=ag j->W.cJ[j]?=ag p->∀t0:jb,W.ts[0]?=ag t0->(p.task=0->W.E.D.length+1=t0.next/\p.call=W.E.D.length)/\(p.task≠0->W.E.D.length=t0.next)
section
variable{K:dw}{W:iw}{kind n ee:Nat}
theorem La:∀(D:List By),(∀(k:Nat) (d:By),D[k]?=ag d->d.length=2)->(D.map (λd:By=>16+d.length)).sum=18*D.length
 | [],_=>rfl
 | d::D,h=>by
  have a:=h 0 d rfl
  have b:=La D (λk e c=>h (k+1) e (by simpa using c))
  simp only[aV,lJ,bV,b,a]
  omega
theorem oM.ask{x:Option Nat}(h:oM K (qu kind K.b0 n ee) x W)(m:kind=1\/kind=2){j:Nat}{p:kN}(c:W.cJ[j]?=ag p):p.call<n/\p.task<=ee/\((p.task=0/\p.ask=⟨kind,0,[BitVec.ofNat 8 p.call,7]⟩/\p.ask.kind≠5)\/(p.task≠0/\p.ask=⟨5,K.b0+p.call,[]⟩)):=by
 have d:=(aK.1 c).1
 rw[h.pl]at d
 obtain⟨⟨t,l,i,g,b,k,-⟩,-⟩:=h.pc j p _ c (aP d)
 rcases xl g with⟨e,rfl⟩ | ⟨e,f,rfl⟩
 ·obtain⟨a,g2⟩:=BJ b
  exact⟨a,by omega,.inl ⟨e,g2,by rw[g2];dsimp only;omega⟩⟩
 ·obtain⟨a,g2⟩:=Cf b
  exact⟨a,f,.inr ⟨e,g2⟩⟩
theorem xU{x:Option Nat}(h:oM K (qu kind K.b0 n ee) x W):∃b:jb,W.ts[0]?=ag b/\b.next<=n/\(qu kind K.b0 n ee)[0]?=ag (EU kind n):=by
 have a:0<W.ts.length:=by rw[h.len];exact Nat.succ_pos _
 refine⟨_,aP a,?_,rfl⟩
 have:=(h.tk 0 _ _ (aP a) rfl).1
 rw[nI]at this
 exact this
theorem abX{x:Option Nat}(h:oM K (qu kind K.b0 n ee) x W)(d:kind=1\/kind=2)(s:RdS x W):W.E.D.length<=n:=by
 rcases cg n W.E.D.length with a | a
 ·obtain⟨j,b⟩:∃j,W.E.ow[n]?=ag j:=⟨_,aP (by rw[h.en.ow];exact a)⟩
  obtain⟨p,c,-,-⟩:=h.ow n j b
  have e:=(s.r0 n j p b c).2
  have f:=(h.ask d c).1
  omega
 ·exact a
theorem abV(hK:kX K)(M:kind=1\/kind=2)(hn:n<=12)(hb:18<=K.dO):rX K (qu kind K.b0 n ee) RdS:=by
 have C:∀(x:Option Nat) (W:iw) (i:Nat) (c:CV),oM K (qu kind K.b0 n ee) x W->RdS x W->W.E.cs[i]?=ag c->c.st=1->c.ask.kind≠5->jp K W.E c.ask.data:=λx W i c h s z L X=>by
  obtain⟨p,r⟩:∃p,W.cJ[i]?=ag p:=⟨_,aP (by rw[h.pl];exact(aK.1 z).1)⟩
  obtain⟨⟨t,l,-,-,-,-,q⟩,-⟩:=h.pc i p c r z
  have ea:=(q (by omega)).2
  rw[ea]at X ⊢
  obtain⟨b,-,⟨g2,A,-⟩ | ⟨-,A⟩⟩:=h.ask M r
  ·have F:p.ask.data.length=2:=by rw[A];rfl
   have hx:=h.Wp i c z L
   obtain⟨u,k1,k2,-⟩:=xU h
   have hD:=((s.r2 i p hx r u k1).1 g2).1
   have e:=congrArg List.length h.en.q
   rw[aN,lA,cV]at e
   have s2:=La W.E.D (λk d hd=>by
    have lk:=(aK.1 hd).1
    obtain⟨j,S⟩:∃j,W.E.ow[k]?=ag j:=⟨_,aP (by rw[h.en.ow];exact lk)⟩
    obtain⟨f,a1,a2,N⟩:=h.ow k j S
    rw[hd]at N
    injection N with N
    obtain⟨-,-,⟨-,g,-⟩ | ⟨-,g⟩⟩:=h.ask M a1
    ·rw[N,g];rfl
    ·rw[g]at a2
     exact absurd rfl a2)
   refine⟨by omega,by rw[F];exact hb,by omega,?_⟩
   rw[s2,F]
   omega
  ·rw[A]at X
   exact absurd rfl X
 refine⟨λx W l t s=>⟨s.r0,s.r1,s.r2⟩,λx W t s=>⟨s.r0,s.r1,s.r2⟩,λW m t l a h s H T Y ha=>?_,C,λx W m i c o t h s H Y z hx hr L=>?_⟩
 ·have ak:=Li M T (cG ha)
  obtain⟨-,P,b3,⟨bg,b4⟩,-⟩:=vj h H T Y ha ak
  have eD:(fN (qu kind K.b0 n ee) W m).E.D=W.E.D:=by rw[P];rfl
  have eo:(fN (qu kind K.b0 n ee) W m).E.ow=W.E.ow:=by rw[P];rfl
  refine⟨λk j p w r=>?_,λe=>by(cases e),λj p e r u y=>?_⟩
  ·rw[eo]at w
   obtain⟨f,b,-,-⟩:=h.ow k j w
   rw[b4,bI (aK.1 b).1]at r
   exact s.r0 k j p w r
  ·injection e with e
   rw[<-e,<-h.pl,b4,bH dx,dR]at r
   injection r with r
   subst r
   rw[b3,kj]at y
   rw[eD]
   try dsimp only
   by_cases V:m=0
   ·subst V
    rw[bj rfl,H]at y
    injection y with y
    subst y
    have:=s.r1 rfl t H
    exact⟨λ_=>⟨by dsimp only;omega,this.symm⟩,λe=>absurd rfl e⟩
   ·rw[bf V]at y
    exact⟨λe=>absurd e V,λ_=>s.r1 rfl u y⟩
 ·obtain⟨l,T⟩:∃l,(qu kind K.b0 n ee)[m]?=ag l:=⟨_,aP (by rw[<-h.len];exact(aK.1 H).1)⟩
  obtain⟨-,O,P,b3,b4⟩:=xK hK h H T Y z hx hr (C x W i c h s z) o
  have ef:=qP h.en z hr o
  obtain⟨I,D⟩:∃p,W.cJ[i]?=ag p:=⟨_,aP (by rw[h.pl];exact(aK.1 z).1)⟩
  obtain⟨⟨_,_,-,-,-,-,q⟩,-⟩:=h.pc i I c D z
  have ask:c.st=1->c.ask=I.ask:=λe=>(q (by omega)).2
  have B:∀(j:Nat) (f:kN),(iH K W m o).cJ[j]?=ag f->∃p:kN,W.cJ[j]?=ag p/\f.task=p.task/\f.call=p.call:=λj f S=>by
   have lj:=(aK.1 S).1
   rw[b4]at lj
   obtain⟨aa,b,g2,A,-⟩:=b3 j _ (aP lj)
   rw[S]at b
   injection b with b
   subst b
   exact⟨_,aP lj,g2,A⟩
  have nx:∀E:jb,(iH K W m o).ts[0]?=ag E->∃u:jb,W.ts[0]?=ag u/\u.next=E.next:=λE y=>by
   have e:=congrArg (λl=>l[0]?) P
   try dsimp only at e
   rw[cZ,cZ,y]at e
   cases hz:W.ts[0]? with
   | none=>rw[hz]at e;cases e
   | some u=>rw[hz]at e;injection e with e;exact⟨u,rfl,e.symm⟩
  have J:∀(k j:Nat) (f:kN),W.E.ow[k]?=ag j->(iH K W m o).cJ[j]?=ag f->f.task=0/\f.call=k:=λk j f L h2=>by
   obtain⟨p,b,g2,A⟩:=B j f h2
   rw[g2,A]
   exact s.r0 k j p L b
  rcases ef.sg with⟨Q,F,U⟩ | ⟨Q,F,U,d4⟩
  ·refine⟨λk j f w r=>?_,λ_ E y=>?_,λj p e=>by(cases e)⟩
   ·rw[O,U]at w
    exact J k j f w r
   ·obtain⟨u,b,g2⟩:=nx E y
    rw[O,F,<-g2]
    rcases hx with rfl | rfl
    ·exact s.r1 rfl u b
    ·have c1:=L rfl
     refine(s.r2 i I rfl D u b).2 λe=>Q ⟨c1,?_⟩
     rw[ask c1]
     obtain⟨-,-,⟨-,-,g⟩ | ⟨g,-⟩⟩:=h.ask M D
     ·exact g
     ·exact absurd e g
  ·have Z:x=ag i:=h.Wp i c z Q
   subst Z
   have G:I.task=0:=by
    obtain⟨-,-,⟨g,-⟩ | ⟨-,g⟩⟩:=h.ask M D
    ·exact g
    ·rw[ask Q,g]at F
     exact absurd rfl F
   refine⟨λk j f w r=>?_,λ_ E y=>?_,λj p e=>by(cases e)⟩
   ·rw[O,d4]at w
    have lk:=(aK.1 w).1
    rw[aN,cP]at lk
    rcases cg k W.E.ow.length with hh | hh
    ·rw[bI hh]at w
     exact J k j f w r
    ·obtain rfl:k=W.E.ow.length:=by omega
     rw[bH dx,dR]at w
     injection w with w
     subst w
     obtain⟨p,b,g2,A⟩:=B i f r
     rw[D]at b
     injection b with b
     subst b
     obtain⟨u,k1,-,-⟩:=xU h
     have:=((s.r2 i I rfl D u k1).1 G).2
     rw[g2,A,h.en.ow]
     exact⟨G,this⟩
   ·obtain⟨u,b,g2⟩:=nx E y
    rw[O,U,aN,cP,<-g2]
    exact((s.r2 i I rfl D u b).1 G).1
theorem abY(D:kind=1\/kind=2)(hn:1<=n)(Q:1<=ee)(h:oM K (qu kind K.b0 n ee) ae W)(s:RdS ae W)(ha:ft K (qu kind K.b0 n ee) W=[]):
 W.cJ.length=n*(ee+1)/\W.E.du=n/\∀(j:Nat) (p:kN),W.cJ[j]?=ag p->p.fin≠0/\p.err=0/\p.rl=K.b0+p.call/\p.call<n/\p.task<=ee/\(p.task≠0->p.rd=[BitVec.ofNat 8 p.call,7]):=by
 have M:∀m,mr K (qu kind K.b0 n ee) W m=aj->False:=λm z=>by
  have:m∈ft K (qu kind K.b0 n ee) W:=by
   unfold ft
   refine List.mem_append_left _ (List.mem_filter.2 ⟨vD.2 ?_,z⟩)
   unfold mr at z
   cases u:W.ts[m]? with
   | none=>rw[u]at z;cases z
   | some t=>rw[<-h.len];exact(aK.1 u).1
  rw[ha]at this
  cases this
 have a2:kU K W=aj->False:=λz=>by
  have:(qu kind K.b0 n ee).length∈ft K (qu kind K.b0 n ee) W:=by
   unfold ft
   rw[bj z]
   exact oJ _ (cE.2 rfl)
  rw[ha]at this
  cases this
 have o:∀(j:Nat) (c:CV),W.E.cs[j]?=ag c->c.st≠9->iX K W.E c=aj->False:=λj c b r Q=>by
  obtain⟨p,f⟩:∃p,W.cJ[j]?=ag p:=⟨_,aP (by rw[h.pl];exact(aK.1 b).1)⟩
  obtain⟨⟨t,l,w,g2,-,-,y⟩,-⟩:=h.pc j p c f b
  refine M p.task ?_
  unfold mr
  rw[w,g2]
  dsimp only
  rw[(y r).1]
  exact bM ((kZ h.en).2 ⟨c,b,Q⟩)
 have lead:W.E.cW=ae:=by
  cases x:W.E.cW with
  | none=>rfl
  | some j=>
   exfalso
   obtain⟨c,b,k⟩:=h.en.lead j x
   by_cases T:c.st=6
   ·cases hg:GC K W.E with
    | true=>exact o j c b (by omega) (by unfold iX;rw[T];simpa using hg)
    | false=>
     refine a2 ?_
     unfold kU
     rw[x]
     dsimp only
     rw[b]
     dsimp only
     rw[bM T,bC (λe=>?_)]
     ·rfl
     ·obtain⟨c',I,L⟩:=(kZ h.en).1 e
      rw[b]at I
      injection I with I
      subst I
      unfold iX at L
      rw[T]at L
      simp[hg]at L
   ·have U:c.st=7\/c.st=8:=by rcases k with⟨a,-⟩ | ⟨a,-⟩ | ⟨a,-⟩ <;> omega
    refine o j c b (by omega) ?_
    unfold iX
    rw[bf (by omega),bf (by omega),bf (by omega),bf (by omega),bf (by omega),bj U]
 obtain⟨G,S,k2,Z⟩:=xU h
 have dl:=s.r1 rfl G S
 have H:∀(j:Nat) (c:CV),W.E.cs[j]?=ag c->c.st≠9->c.st=4/\c.ask.kind=5:=λj c b r=>by
  rcases h.en.calls j c b with⟨e,-⟩ | e | ⟨-,e,-⟩ | e
  ·exact absurd (h.Wp j c b e) (by simp)
  ·rcases e with⟨e,-⟩ | ⟨e,-⟩ | ⟨e,e2,-⟩
   ·exact(o j c b r (by unfold iX;rw[bf (by omega),bj e,lead];simp)).elim
   ·exact(o j c b r (by unfold iX;rw[bf (by omega),bf (by omega),bj e,lead];simp)).elim
   ·exact⟨e,e2⟩
  ·rw[lead]at e
   cases e
  ·exact absurd e r
 have V:G.next=n:=by
  cases hi:G.id with
  | none=>
   rcases cg G.next n with C | C
   ·refine(M 0 ?_).elim
    unfold mr
    rw[S,Z]
    dsimp only
    rw[hi,nI]
    exact bM C
   ·omega
  | some i=>
   obtain⟨-,c,p,w,g2,y,P⟩:=(h.tk 0 G _ S Z).2 i hi
   obtain⟨-,B⟩:=H i c w y
   obtain⟨⟨_,_,-,-,-,-,q⟩,-⟩:=h.pc i p c g2 w
   rw[(q y).2]at B
   obtain⟨-,-,⟨-,-,g⟩ | ⟨g,-⟩⟩:=h.ask D g2
   ·exact absurd B g
   ·exact absurd P g
 have A:∀(j:Nat) (c:CV),W.E.cs[j]?=ag c->c.st=9:=λj c b=>by
  by_cases r:c.st=9
  ·exact r
  ·obtain⟨e4,B⟩:=H j c b r
   obtain⟨p,f⟩:∃p,W.cJ[j]?=ag p:=⟨_,aP (by rw[h.pl];exact(aK.1 b).1)⟩
   obtain⟨⟨_,_,-,-,-,-,q⟩,-⟩:=h.pc j p c f b
   refine(o j c b r ?_).elim
   unfold iX
   rw[bf (by omega),bf (by omega),bf (by omega),bj e4,lead,(q r).2]
   obtain⟨O,-,⟨-,-,g⟩ | ⟨-,g⟩⟩:=h.ask D f
   ·rw[(q r).2]at B
    exact absurd B g
   ·rw[g]
    dsimp only
    rw[bM (show K.b0+p.call<K.b0+W.E.D.length by omega)]
    simp
 have F:∀(m:Nat) (t:jb) (l:List fu),W.ts[m]?=ag t->(qu kind K.b0 n ee)[m]?=ag l->t.id=ae/\t.next=l.length:=λm t l u x=>by
  obtain⟨w,g2⟩:=h.tk m t l u x
  cases hi:t.id with
  | some i=>
   obtain⟨-,c,p,y,-,P,-⟩:=g2 i hi
   exact absurd (A i c y) P
  | none=>
   refine⟨rfl,?_⟩
   rcases cg t.next l.length with C | C
   ·refine(M m ?_).elim
    unfold mr
    rw[u,x]
    dsimp only
    rw[hi]
    exact bM C
   ·omega
 have done:∀(j:Nat) (p:kN),W.cJ[j]?=ag p->∃c:CV,W.E.cs[j]?=ag c/\Ea K W.E p c j:=λj p f=>by
  have J:=(aK.1 f).1
  rw[h.pl]at J
  exact⟨_,aP J,(h.pc j p _ f (aP J)).2 (A j _ (aP J))⟩
 have N:W.E.du=n:=by
  have:=h.en.o1
  have:=h.en.o2
  have:=h.en.o3
  have l1:(qu kind K.b0 n ee)[1]?=ag (Cg K.b0 n):=by
   show(List.replicate ee (Cg K.b0 n))[0]?=_
   rw[mh,bj (show 0<ee from Q)]
  obtain⟨t1,E⟩:∃t,W.ts[1]?=ag t:=⟨_,aP (by rw[h.len];exact(aK.1 l1).1)⟩
  have e1:=(F 1 t1 _ E l1).2
  rw[pJ]at e1
  obtain⟨j,p,w,g2,y⟩:=h.cov 1 t1 E (n-1) (by omega)
  obtain⟨c,-,d⟩:=done j p w
  obtain⟨-,-,⟨g,-⟩ | ⟨-,g⟩⟩:=h.ask D w
  ·omega
  ·have:=(d.next (by rw[g])).2.2.1
   rw[g]at this
   dsimp only at this
   omega
 refine⟨?_,N,λj p f=>?_⟩
 ·have e:W.ts.map jb.next=(qu kind K.b0 n ee).map List.length:=by
   apply jc
   intro m
   rw[cZ,cZ]
   cases u:W.ts[m]? with
   | none=>
    have:=List.getElem?_eq_none_iff.1 u
    rw[h.len]at this
    rw[List.getElem?_eq_none_iff.2 this]
    rfl
   | some t=>
    obtain⟨l,x⟩:∃l,(qu kind K.b0 n ee)[m]?=ag l:=⟨_,aP (by rw[<-h.len];exact(aK.1 u).1)⟩
    rw[x]
    dsimp only[Option.map_some]
    rw[(F m t l u x).2]
  rw[h.Eu,e]
  unfold qu
  rw[aV,lJ,nI,List.map_replicate,pJ,aen,Nat.mul_add,fR ee n]
  omega
 ·obtain⟨c,b,d⟩:=done j p f
  obtain⟨O,gt,g⟩:=h.ask D f
  refine⟨d.fin,d.err,?_,O,gt,λe=>?_⟩
  ·rcases g with⟨-,-,g⟩ | ⟨-,g⟩
   ·obtain⟨k,q1,q2,-⟩:=d.put g
    rw[d.rl,q1,(s.r0 k j p q2 f).2]
   ·rw[d.rl,(d.next (by rw[g])).1,g]
  ·rcases g with⟨g,-⟩ | ⟨-,g⟩
   ·exact absurd g e
   ·obtain⟨-,-,-,q⟩:=d.next (by rw[g])
    rw[g]at q
    dsimp only at q
    rw[Nat.add_sub_cancel_left]at q
    obtain⟨j',Y⟩:∃j,W.E.ow[p.call]?=ag j:=⟨_,aP (by rw[h.en.ow,dl,V];exact O)⟩
    obtain⟨p',z1,z2,z3⟩:=h.ow _ _ Y
    obtain⟨z4,z5⟩:=s.r0 _ _ _ Y z1
    obtain⟨-,-,⟨-,X,-⟩ | ⟨X,-⟩⟩:=h.ask D z1
    ·rw[z3,X,z5]at q
     injection q with q
     rw[d.rd,<-q]
    ·exact absurd z4 X
theorem QB.start{a bytes:Int}(b:1<=a)(c:a<=1024)(d:1<=bytes)(e:bytes<=16777216):QB a bytes [] []:=by
 constructor <;> first | assumption | (intro x hx;cases hx) | (simp[eR];done) | (simp[eR];omega) | simp
theorem Sh(kind ee:Nat)(a:Nat)(g:kX K):oM K (qu kind K.b0 n ee) ae (iA (fJ a) (qu kind K.b0 n ee))/\RdS ae (iA (fJ a) (qu kind K.b0 n ee)):=by
 have f:∀(P:eG) (m:Nat) (t:jb),(List.replicate P.length (⟨0,ae,0⟩:jb))[m]?=ag t->t=⟨0,ae,0⟩:=λP m t b=>by
  have:=(aK.1 b).1
  rw[dW]at this
  rw[mh,bj this]at b
  injection b with b
  exact b.symm
 have r:fy K (fJ a):=by
  constructor
  case ow=>rfl
  case o1=>exact bT _
  case o2=>exact bT _
  case o3=>exact bT _
  case q=>rfl
  case qb=>exact QB.start g.c1 g.c2 g.y1 g.y2
  case act=>exact λi=>⟨λh=>(by cases h),λ⟨c,h,_⟩=>by simp[fJ]at h⟩
  case nd=>exact vB
  case calls=>exact λi c h=>by simp[fJ]at h
  case lead0=>exact λ_=>⟨rfl,rfl⟩
  case lead=>exact λi h=>by cases h
  case line=>exact λh=>absurd rfl h
  case clk=>exact λh=>absurd rfl h
  case dl=>exact λd h=>by cases h
  case ond=>exact vB
  case owl=>exact λi h=>by cases h
  case fit=>exact cF _
 refine⟨⟨r,?_,rfl,λj c h=>by simp[iA,fJ]at h,λm t l b x=>?_,λj p c u=>by simp[iA]at u,λk j h=>by simp[iA,fJ]at h,λm t b q o=>?_,?_⟩,⟨λk j p h=>by simp[iA,fJ]at h,λ_ w s=>?_,λj p e=>(by cases e)⟩⟩
 ·exact dW
 ·rw[f _ m t b]
  exact⟨cF _,λi e=>by cases e⟩
 ·rw[f _ m t b]at o
  exact absurd o (nF q)
 ·show 0=((List.replicate _ _).map jb.next).sum
  rw[List.map_replicate,aen]
  simp
 ·rw[f _ 0 w s]
  rfl
end
end
section
open Go
section
variable{P:Program}{ops:Array Oper}{md:Region.Mode}{C:am->Prop}
inductive px where
 | done
 | run (π:List Nat) (p:px)
 | fork (i:Nat) (π1:List Nat) (p:px) (j:Nat) (π2:List Nat) (q:px)
 | tri (i:Nat) (π1:List Nat) (p:px) (j:Nat) (π2:List Nat) (q:px) (k:Nat) (π3:List Nat) (r:px)
def dh(Q:Exit->Act->am->Prop)(N:Act->am->Prop)(e:Exit)(a:Act)(w:am):Prop:=
 match e with
 | .normal=>N a w
 | e=>Q e a w
def ags(md:Region.Mode)(ops:Array Oper)(n i:Nat)(o:Oper)(a:Array Bool):Bool:=decide (i<n)&&(if gA o.op then(Region.ready md ops a).contains i&&Region.free md ops a i else Region.ready md ops a==[i])
def sF(md:Region.Mode)(ops:Array Oper)(n:Nat):List Nat->Array Bool->Option (Array Bool)
 | [],bw=>ag bw
 | i::l,bw=>match ops[i]? with
  | none=>ae
  | some o=>if ags md ops n i o bw then sF md ops n l (bw.setIfInBounds i aj)else ae
def lg(md:Region.Mode)(l:List Oper)(n gt:Nat):Nat->px->Array Bool->Bool
 | f,.done,bw=>decide (f=0)&&Region.seqB md l.toArray gt n bw
 | f,.run π p,bw=>(π.all λk=>decide (k<l.length))&&decide (π.length<=f)&&match sF md l.toArray n π bw with
  | none=>ah
  | some li=>lg md l n gt (f-π.length) p li
 | f,.fork i π1 p j π2 q,bw=>((i::π1).all λk=>decide (k<l.length))&&((j::π2).all λk=>decide (k<l.length))&&decide (i<n)&&decide (j<n)&&decide (π1.length+1<=f)&&decide (π2.length+1<=f) &&
  (Region.ready md l.toArray bw==[i,j])&&!gA (l.getD i ⟨ae,.move (.tmp 0),0, "",#[],ae⟩).op&&!gA (l.getD j ⟨ae,.move (.tmp 0),0, "",#[],ae⟩).op &&
  (match sF md l.toArray n π1 (bw.setIfInBounds i aj)with
   | none=>ah
   | some li=>lg md l n gt (f-(π1.length+1)) p li) &&
  (match sF md l.toArray n π2 (bw.setIfInBounds j aj)with
   | none=>ah
   | some li=>lg md l n gt (f-(π2.length+1)) q li)
 | f,.tri i π1 p j π2 q k π3 r,bw=>((i::π1).all λk=>decide (k<l.length))&&((j::π2).all λk=>decide (k<l.length))&&((k::π3).all λk=>decide (k<l.length))&&decide (i<n)&&decide (j<n)&&decide (k<n)&&decide (π1.length+1<=f)&&decide (π2.length+1<=f)&&decide (π3.length+1<=f) &&
  (Region.ready md l.toArray bw==[i,j,k])&&!gA (l.getD i ⟨ae,.move (.tmp 0),0, "",#[],ae⟩).op&&!gA (l.getD j ⟨ae,.move (.tmp 0),0, "",#[],ae⟩).op&&!gA (l.getD k ⟨ae,.move (.tmp 0),0, "",#[],ae⟩).op &&
  (match sF md l.toArray n π1 (bw.setIfInBounds i aj)with
   | none=>ah
   | some li=>lg md l n gt (f-(π1.length+1)) p li) &&
  (match sF md l.toArray n π2 (bw.setIfInBounds j aj)with
   | none=>ah
   | some li=>lg md l n gt (f-(π2.length+1)) q li) &&
  (match sF md l.toArray n π3 (bw.setIfInBounds k aj)with
   | none=>ah
   | some li=>lg md l n gt (f-(π3.length+1)) r li)
def cC(P:Program)(l:List Oper)(C:am->Prop)(Q:Exit->Act->am->Prop)(b:List Oper):px->Act->am->Prop
 | .done,a,w=>wpList P l.toArray Q b a w
 | .run π p,a,w=>fo P l.toArray C (dh Q (cC P l C Q b p)) (pick l π) a w
 | .fork i π1 p j π2 q,a,w=>fo P l.toArray C (dh Q (cC P l C Q b p)) (pick l (i::π1)) a w/\fo P l.toArray C (dh Q (cC P l C Q b q)) (pick l (j::π2)) a w
 | .tri i π1 p j π2 q k π3 r,a,w=>fo P l.toArray C (dh Q (cC P l C Q b p)) (pick l (i::π1)) a w/\fo P l.toArray C (dh Q (cC P l C Q b q)) (pick l (j::π2)) a w/\fo P l.toArray C (dh Q (cC P l C Q b r)) (pick l (k::π3)) a w
theorem jW{Q:Exit->Act->am->Prop}{N:Act->am->Prop}{T:Act->am->Prop}{i:Nat}{o:Oper}{l:List Oper}{a:Act}{w:am}(m:ops[i]?=ag o)(q:gA o.op=ah)(n:C w)
 (step:∀g w',(C w'/\fo P ops C (dh Q N) l g w')->T g w') (h:fo P ops C (dh Q N) (o::l) a w):wpOp P ops Q i T a w:=by
 rw[fo]at h
 unfold wpOp
 simp only[m]
 by_cases j:Region.wanted o (yielded ops a.tmps)=aj
 ·simp only[j,q,kP]at h ⊢
  rcases h with h | ⟨h,k⟩
  ·refine .inl ?_
   have p:LetsOut (dh Q N)->LetsOut Q:=λ⟨a,w,h⟩=>⟨a,w,h⟩
   unfold Oper.wp at *
   generalize(execOp a.eval o).run P w=r at *
   cases r with
   | ok nx w'=>
    cases nx <;> simp only[Oper.upon]at h ⊢
    case value u=>exact step _ _ h
    case skip=>exact step _ _ h
    case defer d=>exact step _ _ h
    case enter f args=>
     refine Calls.mono h λe s b=>?_
     cases e with
     | returned u=>exact step _ _ b
     | panicked c=>exact b
     | outgrown=>exact p b
    case row row args=>exact Rows.mono h λu s b=>step _ _ b
   | halt x w'=>
    cases x <;> simp only[Oper.upon]at h ⊢
    case panic u=>exact h
  ·exact .inr ⟨h,(λ⟨a,w,h⟩=>⟨a,w,h⟩:LetsOut (dh Q N)->LetsOut Q) k⟩
 ·simp only[j]at h ⊢
  exact step _ _ ⟨n,h⟩
theorem Hu{Q:Exit->Act->am->Prop}{n i:Nat}{s:Oper}{v:ar}{L:Array Bool->Act->am->Prop}(D:ops[i]?=ag s)(K:∀(j:Nat) (o:Oper) cs b,ops[j]?=ag o->o.op≠.select cs b)
 (W:∀c a d v w,Q (.panic c) (a.put d v) w->Q (.panic c) a w)
 {X:Array Bool->Prop} (J:∀g,HeadInv md ops n g->X g->∀i,i<n->g.getD i aj=ah->∀t,n<=t->t∉Region.ready md ops g) (Y:∀(g:Array Bool) (i:Nat),X g->X (g.setIfInBounds i aj)) (N:i<n) (t6:∀g a w,L g a w->∀j∈Region.ready md ops g,n<=j):
 ∀(f:Nat) (g:Array Bool) (a:Act) (w:am),(HeadInv md ops n g/\X g)->
  (∀j r,ops[j]?=ag r->j≠i->g.getD j aj=ah->(∀e∈r.after,Region.binds md e=aj->e.on≠i)->s.apart ops r=aj)->
  i∈Region.ready md ops g->kV P ops C s v a->
  zm P md ops C Q n L f (g.setIfInBounds i aj) (a.put s.dst v) w->zm P md ops C Q n L (f+1) g a w:=by
 intro f
 induction f with
 | zero=>
  intro g a w l _ m y H
  have z:=(tA.1 m).1
  refine⟨H.1,λh=>(by rw[h]at m;cases m),λj q=>?_⟩
  have u:j<n:=(cg j n).elim id λh=>absurd q (J _ l.1 l.2 i N z j h)
  refine⟨u,?_⟩
  by_cases p:j=i
  ·subst p;exact y.wpOp D H.1 H
  ·have:=t6 _ _ _ H.2 j (pB q p)
   omega
 | succ f ih=>
  intro g a w l M m y H
  have z:=(tA.1 m).1
  refine⟨H.1,λh=>(by rw[h]at m;cases m),λj q=>?_⟩
  have u:j<n:=(cg j n).elim id λh=>absurd q (J _ l.1 l.2 i N z j h)
  refine⟨u,?_⟩
  by_cases p:j=i
  ·subst p;exact y.wpOp D H.1 H
  ·have x:=(H.2.2 j (pB q p)).2
   obtain⟨O,r,A,rA⟩:=tA.1 q
   have T:∀e∈r.after,Region.binds md e=aj->e.on≠i:=λe he Z B=>by
    have x:=rA e he Z
    rw[B,getD_both z]at x
    cases x
   have V:=sN A (M j r A p O T) (λcs b=>K i s cs b D) (λcs b=>K j r cs b A) W y x
   refine wpOp_mono (λU w' I=>ih (g.setIfInBounds j aj) U w' ⟨l.1.set q u,Y _ _ l.2⟩ (λk ok hk E F S=>?_) (pB m (cQ p)) I.1 ?_) V
   ·refine M k ok hk E ?_ S
    by_cases G:j=k
    ·subst G;exact O
    ·rw[getD_set_ne aj G]at F;exact F
   ·rw[V0 _ _ p]
    exact I.2
theorem ic{Q:Exit->Act->am->Prop}{N:Act->am->Prop}{n f:Nat}{u:Array Bool}{L:Array Bool->Act->am->Prop}(B:Region.noSelect ops=aj){X:Array Bool->Prop}(g:∀b,HeadInv md ops n b->X b->∀i,i<n->b.getD i aj=ah->∀t,n<=t->t∉Region.ready md ops b)(k:∀(b:Array Bool) (i:Nat),X b->X (b.setIfInBounds i aj))(D:∀b a w,L b a w->∀j∈Region.ready md ops b,n<=j)(A:∀c a d v w,Q (.panic c) (a.put d v) w->Q (.panic c) a w)
 (z:∀a w,C w->(HeadInv md ops n u/\X u)->N a w->zm P md ops C Q n L f u a w):
 ∀(π:List Nat) (l:List Oper) (b:Array Bool) (a:Act) (w:am),π.map (ops[·]?)=l.map ag->(HeadInv md ops n b/\X b)->
 sF md ops n π b=ag u->C w->fo P ops C (dh Q N) l a w->zm P md ops C Q n L (π.length+f) b a w
 | [],[],b,a,w,_,inv,hB,hC,h=>by
  simp only[sF,Option.some.injEq]at hB
  subst hB
  rw[eV,cL]
  exact z a w hC inv h
 | [],_::_,_,_,_,e,_,_,_,_=>by simp at e
 | _::_,[],_,_,_,e,_,_,_,_=>by simp at e
 | i::π,o::l,b,a,w,e,inv,hB,hC,h=>by
  simp only[aV,jl]at e
  obtain⟨s,e⟩:=e
  simp only[sF,s]at hB
  split at hB
  case isFalse=>cases hB
  case isTrue F=>
   simp only[ags,co,dH]at F
   obtain⟨x,r⟩:=F
   rw[show(i::π).length+f=(π.length+f)+1 by rw[bV];omega]
   by_cases m:gA o.op=aj
   ·simp only[m,kP,co]at r
    obtain⟨p,J⟩:=r
    have q:i∈Region.ready md ops b:=by simpa using p
    have key:∃v,kV P ops C o v a/\fo P ops C (dh Q N) l (a.put o.dst v) w:=by
     rw[fo]at h
     by_cases g:Region.wanted o (yielded ops a.tmps)=aj
     ·simp only[g,m,kP]at h
      obtain⟨v,K,y⟩:=h
      exact⟨v,.inl ⟨g,λw' I=>nP m (K w' I)⟩,y⟩
     ·simp only[g]at h
      exact⟨undef,.inr ⟨by simpa using g,rfl⟩,h⟩
    obtain⟨v,M,y⟩:=key
    exact Hu s (sA B) A g k x D _ b a w inv (Ii s J) q M
     (ic B g k D A z π l _ _ _ e ⟨inv.1.set q x,k _ _ inv.2⟩ hB hC y)
   ·simp only[m]at r
    have p:Region.ready md ops b=[i]:=by simpa using r
    have q:i∈Region.ready md ops b:=by rw[p];simp
    refine⟨hC,λE=>(by rw[p]at E;cases E),λj H=>?_⟩
    rw[p]at H
    obtain rfl:=cE.1 H
    exact⟨x,jW s (by simpa using m) hC (λO w' G=>ic B g k D A z π l _ _ _ e ⟨inv.1.set q x,k _ _ inv.2⟩ hB G.1 G.2) h⟩
theorem gL{Q:Exit->Act->am->Prop}{n gt:Nat}{l K:List Oper}(B:Region.noSelect l.toArray=aj){X:Array Bool->Prop}(D:∀b,HeadInv md l.toArray n b->X b->∀i,i<n->b.getD i aj=ah->∀t,n<=t->t∉Region.ready md l.toArray b)(u:∀(b:Array Bool) (i:Nat),X b->X (b.setIfInBounds i aj))(A:∀c a d v w,Q (.panic c) (a.put d v) w->Q (.panic c) a w):
 ∀(p:px) (f:Nat) (b:Array Bool) (a:Act) (w:am),lg md l n gt f p b=aj->(HeadInv md l.toArray n b/\X b)->C w->cC P l C Q K p a w->
  zm P md l.toArray C Q n (λb a w=>Region.seqB md l.toArray gt n b=aj/\wpList P l.toArray Q K a w) f b a w
 | .done,f,b,a,w,s,_,hC,h=>by
  simp only[lg,co,dH]at s
  obtain⟨rfl,s⟩:=s
  exact⟨hC,s,h⟩
 | .run π p,f,b,a,w,s,inv,hC,h=>by
  simp only[lg,co,dH]at s
  obtain⟨⟨rA,hf⟩,s⟩:=s
  split at s
  case h_1=>cases s
  case h_2 Y H=>
   have:=ic (f:=f-π.length) B D u (λU e w' F=>ZF F.1) A (λe w' E I o=>gL B D u A p _ _ _ _ s I E o) π (pick l π) b a w (fQ rA) inv H hC h
   rwa [show π.length+(f-π.length)=f by omega]at this
 | .fork i π1 p j π2 q,f,b,a,w,s,inv,hC,h=>by
  simp only[lg,co,dH,aem,Bool.not_eq_true']at s
  obtain⟨⟨⟨⟨⟨⟨⟨⟨⟨⟨yK,yJ⟩,V⟩,W⟩,Gv⟩,WC⟩,J⟩,Z⟩,N⟩,x⟩,y⟩:=s
  have T:=fQ yK
  have L:=fQ yJ
  simp only[aV,pick,jl]at T L
  have O:i∈Region.ready md l.toArray b:=by rw[J];simp
  have S:j∈Region.ready md l.toArray b:=by rw[J];simp
  obtain⟨g,rfl⟩:∃g,f=g+1:=⟨f-1,by omega⟩
  refine⟨hC,λo=>(by rw[J]at o;cases o),λk G=>?_⟩
  rw[J]at G
  rcases cR.1 G with rfl | G
  ·refine⟨V,?_⟩
   split at x
   case h_1=>cases x
   case h_2 Y H=>
    refine jW T.1 Z hC (λe w' z=>?_) h.1
    have:=ic (f:=g+1-(π1.length+1)) B D u (λU e w' F=>ZF F.1) A (λe w' E I o=>gL B D u A p _ _ _ _ x I E o) π1 _ _ e w' T.2 ⟨inv.1.set O V,u _ _ inv.2⟩ H z.1 z.2
    rwa [show π1.length+(g+1-(π1.length+1))=g by omega]at this
  ·obtain rfl:=cE.1 G
   refine⟨W,?_⟩
   split at y
   case h_1=>cases y
   case h_2 Y H=>
    refine jW L.1 N hC (λe w' z=>?_) h.2
    have:=ic (f:=g+1-(π2.length+1)) B D u (λU e w' F=>ZF F.1) A (λe w' E I o=>gL B D u A q _ _ _ _ y I E o) π2 _ _ e w' L.2 ⟨inv.1.set S W,u _ _ inv.2⟩ H z.1 z.2
    rwa [show π2.length+(g+1-(π2.length+1))=g by omega]at this
 | .tri i π1 p j π2 q m π3 r,f,b,a,w,s,inv,hC,h=>by
  simp only[lg,co,dH,aem,Bool.not_eq_true']at s
  obtain⟨⟨⟨⟨⟨⟨⟨⟨⟨⟨⟨⟨⟨⟨⟨yK,yJ⟩,Uj⟩,V⟩,W⟩,hm⟩,Gv⟩,WC⟩,ac⟩,J⟩,Z⟩,N⟩,aa⟩,x⟩,y⟩,M⟩:=s
  have T:=fQ yK
  have L:=fQ yJ
  have Wv:=fQ Uj
  simp only[aV,pick,jl]at T L Wv
  have O:i∈Region.ready md l.toArray b:=by rw[J];simp
  have S:j∈Region.ready md l.toArray b:=by rw[J];simp
  have ab:m∈Region.ready md l.toArray b:=by rw[J];simp
  obtain⟨g,rfl⟩:∃g,f=g+1:=⟨f-1,by omega⟩
  refine⟨hC,λo=>(by rw[J]at o;cases o),λk G=>?_⟩
  rw[J]at G
  rcases cR.1 G with rfl | G
  ·refine⟨V,?_⟩
   split at x
   case h_1=>cases x
   case h_2 Y H=>
    refine jW T.1 Z hC (λe w' z=>?_) h.1
    have:=ic (f:=g+1-(π1.length+1)) B D u (λU e w' F=>ZF F.1) A (λe w' E I o=>gL B D u A p _ _ _ _ x I E o) π1 _ _ e w' T.2 ⟨inv.1.set O V,u _ _ inv.2⟩ H z.1 z.2
    rwa [show π1.length+(g+1-(π1.length+1))=g by omega]at this
  rcases cR.1 G with rfl | G
  ·refine⟨W,?_⟩
   split at y
   case h_1=>cases y
   case h_2 Y H=>
    refine jW L.1 N hC (λe w' z=>?_) h.2.1
    have:=ic (f:=g+1-(π2.length+1)) B D u (λU e w' F=>ZF F.1) A (λe w' E I o=>gL B D u A q _ _ _ _ y I E o) π2 _ _ e w' L.2 ⟨inv.1.set S W,u _ _ inv.2⟩ H z.1 z.2
    rwa [show π2.length+(g+1-(π2.length+1))=g by omega]at this
  ·obtain rfl:=cE.1 G
   refine⟨hm,?_⟩
   split at M
   case h_1=>cases M
   case h_2 Y H=>
    refine jW Wv.1 aa hC (λe w' z=>?_) h.2.2
    have:=ic (f:=g+1-(π3.length+1)) B D u (λU e w' F=>ZF F.1) A (λe w' E I o=>gL B D u A r _ _ _ _ M I E o) π3 _ _ e w' Wv.2 ⟨inv.1.set ab hm,u _ _ inv.2⟩ H z.1 z.2
    rwa [show π3.length+(g+1-(π3.length+1))=g by omega]at this
def Ll(md:Region.Mode)(l:List Oper)(p:px)(n:Nat):Bool:=
 Region.noSelect l.toArray&&decide (n<l.length)&&Region.sinkB md l.toArray n&&Region.chainB md l.toArray n&&lg md l n (l.length-n) n p (Array.replicate l.length ah)
theorem gx{id:Nat}{Q:Exit->Act->am->Prop}{a:Act}{w:am}{l:List Oper}(p:px)(n:Nat)(R:am->Prop)(B:P.follows .mixedOrders=aj)(f:Ll .any l p n=aj)
 (x:∀c a d v w,Q (.panic c) (a.put d v) w->Q (.panic c) a w) (k:R w.drew) (h:Nonempty (In R)->cC P l (λw'=>∃p:In R,w'=p.w) Q (l.drop n) p a w.drew):(Code.region id l.toArray aj).wp P Q a w:=by
 simp only[Ll,co,dH]at f
 obtain⟨⟨⟨⟨E,I⟩,D⟩,y⟩,z⟩:=f
 have F:l.toArray.size=l.length:=by simp
 have r:HeadInv .any l.toArray n (Array.replicate l.length ah):=
  ⟨by simp,λj J _ o=>(by rw[jr]at o;cases o),λt _ b=>getD_in (by simpa using b) (jr _ _)⟩
 refine ID B ?_
 have:=nS (g:=l.length-n) (λu s w' m=>by
  have q:(l.drop n).length=l.length-n:=by simp
  have:=wpAny_of_seq (md:=.any) (Q':=Q) (l.drop n) n u s w' (λj=>by simp) (by rw[q];exact m.1) m.2
  rwa [q]at this) _ _ _ _ (gL (X:=λ_=>True) (gt:=l.length-n) E (λH e _ i A G t b=>tail_waits D y (by omega) e _ i rfl A G t b) (λ_ _ h=>h) x p n _ _ _ z ⟨r,trivial⟩ ⟨⟨_,k⟩,rfl⟩ (h ⟨⟨_,k⟩⟩))
 rw[F]
 rw[show n+(l.length-n)=l.length by omega]at this
 exact this
end
section
variable{P:Program}{ops:Array Oper}{md:Region.Mode}
def aad(md:Region.Mode)(ops:Array Oper)(n a:Nat):Bool:=
 (List.range n).all λi=>i==a || (List.range (n+1)).any λj=>decide (i<j)&&Region.waitsFor md ops j i
theorem Ff{n y:Nat}{h:Array Bool}(G:aad md ops n y=aj)(D:Region.chainB md ops n=aj)(g:HeadInv md ops n h)(w:h.getD y ah=aj):
 ∀(d i:Nat),n-i=d->i<n->h.getD i aj=ah->∀t,n<=t->t∉Region.ready md ops h:=by
 intro d
 induction d using Nat.strongRecOn with
 | _ d ih=>
  intro i J E s t K x
  obtain⟨_,A,f,B⟩:=tA.1 x
  have o:t<ops.size:=(br.1 f).1
  by_cases I:t=n
  ·subst I
   have a:=List.all_eq_true.1 G i (vD.2 E)
   rw[Bool.or_eq_true,aem]at a
   rcases a with a | a
   ·subst a
    rw[getD_both s]at w
    cases w
   obtain⟨j,F,k⟩:=List.any_eq_true.1 a
   simp only[co,dH]at k
   obtain⟨z,u,e,m,l,b⟩:=Region.waitsFor_spec k.2
   have C:j<=t:=by have:=vD.1 F;omega
   by_cases q:j=t
   ·subst q
    have:z=A:=iy (u.symm.trans f)
    subst this
    have c:=B e m l
    rw[b,getD_both s]at c
    cases c
   ·cases hl:h.getD j ah with
    | true=>
     have c:=g.closed j z u hl e m l
     rw[b,getD_both s]at c
     cases c
    | false=>
     have p:j<h.size:=by rw[g.size];omega
     exact ih (t-j) (by omega) j rfl (by omega) (getD_in p hl) t dx x
  ·have a:=List.all_eq_true.1 D t (vD.2 o)
   simp only[Bool.or_eq_true,dH]at a
   rcases a with a | a
   ·omega
   ·obtain⟨H,r,e,m,l,b⟩:=Region.waitsFor_spec a
    have:H=A:=iy (r.symm.trans f)
    subst this
    have c:=B e m l
    rw[b,getD_both (g.tail (t-1) (by omega) (by omega))]at c
    cases c
def Sv(md:Region.Mode)(l:List Oper)(p:px)(n a:Nat):Bool:=
 Region.noSelect l.toArray&&decide (n<l.length)&&aad md l.toArray n a&&Region.chainB md l.toArray n&&decide (a<n)&&decide (1<=n)&&(Region.ready md l.toArray (Array.replicate l.length ah)).contains a&&Region.free md l.toArray (Array.replicate l.length ah) a&&lg md l n (l.length-n) (n-1) p ((Array.replicate l.length ah).setIfInBounds a aj)&&(((l.toArray.getD a ⟨ae,.move (.tmp 0),0, "",#[],ae⟩).after).all λe=>!Region.binds md e)
theorem wE{id:Nat}{Q:Exit->Act->am->Prop}{a:Act}{w:am}{l:List Oper}(b d:Nat)(v:ar)(p:px)(n:Nat)(R:am->Prop)(N:P.follows .mixedOrders=aj)(s:Sv .any l p n b=aj)(K:∃o,l.toArray[b]?=ag o/\o.dst=ag d/\Yields P l.toArray o v a)
 (z:∀c a d v w,Q (.panic c) (a.put d v) w->Q (.panic c) a w) (u:R w.drew) (h:Nonempty (In R)->cC P l (λw'=>∃p:In R,w'=p.w) Q (l.drop n) p (a.put (ag d) v) w.drew):(Code.region id l.toArray aj).wp P Q a w:=by
 obtain⟨o,B,f,T⟩:=K
 rw[<-f]at h
 simp only[Sv,co,dH]at s
 obtain⟨⟨⟨⟨⟨⟨⟨⟨⟨C,hn⟩,S⟩,J⟩,m⟩,h1⟩,F⟩,k⟩,L⟩,I⟩:=s
 have U:l.toArray.size=l.length:=by simp
 have e:b∈Region.ready .any l.toArray (Array.replicate l.length ah):=by simpa using F
 have E:HeadInv .any l.toArray n (Array.replicate l.length ah):=
  ⟨by simp,λj oj _ A=>(by rw[jr]at A;cases A),λt _ q=>getD_in (by simpa using q) (jr _ _)⟩
 have Y:((Array.replicate l.length ah).setIfInBounds b aj).getD b ah=aj:=by
  have:b<l.length:=by omega
  simp[this]
 refine ID N ?_
 have:=nS (g:=l.length-n) (λH G w' y=>by
  have D:(l.drop n).length=l.length-n:=by simp
  have:=wpAny_of_seq (md:=.any) (Q':=Q) (l.drop n) n H G w' (λj=>by simp) (by rw[D];exact y.1) y.2
  rwa [D]at this) _ _ _ _ (gL (X:=λV=>V.getD b ah=aj) (gt:=l.length-n) C (λZ r x i M W t q=>Ff S J r x _ i rfl M W t q) (λ_ _ h=>getD_set_true h) z p (n-1) _ _ _ L ⟨E.set e m,Y⟩ ⟨⟨_,u⟩,rfl⟩ (h ⟨⟨_,u⟩⟩))
 rw[U]
 rw[show n-1+(l.length-n)=l.length-1 by omega]at this
 have first:=wpAny_first B (sA C) (λc a w O=>z c a o.dst v w O) (l.length-1) _ a w.drew (Ii B k) e T this
 rw[show l.length-1+1=l.length by omega]at first
 exact first
end
end
section
section
variable{K:dw}{P:eG}{E:fm}
theorem RA(h:fy K E){i:Nat}{c:CV}(k:E.cs[i]?=ag c)(d:iX K E c=aj)(f:Nat):(fK K E i f).cT+E.du<=E.cT+(fK K E i f).du:=by
 have b:∀E':fm,E'.cT=E.cT/\E'.du=E.du->E'.cT+E.du<=E.cT+E'.du:=λE' e=>by omega
 have g:∀(E':fm) (c:CV),E'.cT=E.cT/\E'.du=E.du->(mq E' i c).cT=E.cT/\(mq E' i c).du=E.du:=λE' c e=>by
  unfold mq
  split <;> exact e
 unfold fK
 rw[k]
 dsimp only
 unfold iX at d
 by_cases l:c.st=1
 ·rw[bj l]
  refine b _ ?_
  unfold od
  split
  ·split <;> exact⟨rfl,rfl⟩
  ·dsimp only
   split
   ·exact g _ _ ⟨rfl,rfl⟩
   ·exact⟨rfl,rfl⟩
 rw[bf l]at d ⊢
 by_cases m:c.st=2
 ·rw[bj m]
  refine b _ ?_
  split
  ·exact g _ _ ⟨rfl,rfl⟩
  ·exact⟨rfl,rfl⟩
 rw[bf m]at d ⊢
 by_cases n:c.st=3
 ·rw[bj n]
  refine b _ ?_
  split <;> exact⟨rfl,rfl⟩
 rw[bf n]at d ⊢
 by_cases o:c.st=4
 ·rw[bj o]
  refine b _ ?_
  split <;> exact⟨rfl,rfl⟩
 rw[bf o]at d ⊢
 by_cases p:c.st=6
 ·rw[bj p]
  exact b _ ⟨rfl,rfl⟩
 rw[bf p]at d ⊢
 by_cases q:c.st=7
 ·rw[bj q]
  exact b _ ⟨rfl,rfl⟩
 rw[bf q]
 by_cases u:c.st=8
 ·have r:E.cW=ag i:=by
   rcases h.calls i c k with⟨a,-⟩ | a | ⟨-,a,-⟩ | a
   ·omega
   ·rcases a with⟨a,-⟩ | ⟨a,-⟩ | ⟨a,-⟩ <;> omega
   ·exact a
   ·omega
  obtain⟨s,j,t⟩:=h.lead i r
  rw[k]at j
  injection j with j
  subst j
  show E.cT+1+E.du<=E.cT+E.wr
  omega
 ·rw[bf (by omega)]at d
  cases d
theorem Jm:∀(n:Nat) (l:List Nat),l.Nodup->(∀x∈l,x<n)->l.length<=n
 | 0,[],_,_=>bT _
 | 0,x::l,_,h=>absurd (h x (List.mem_cons_self ..)) (nF _)
 | n+1,l,hd,h=>by
  by_cases b:n∈l
  ·have a:=Jm n (l.erase n) (hd.erase n) (λx hx=>by
    have c:=h x (List.mem_of_mem_erase hx)
    have d:x≠n:=λe=>by
     subst e
     exact hd.not_mem_erase hx
    omega)
   rw[List.length_erase_of_mem b]at a
   omega
  ·have a:=Jm n l hd (λx hx=>by
    have c:=h x hx
    have d:x≠n:=λe=>b (e▸hx)
    omega)
   omega
theorem DO(h:fy K E):E.act.length<=E.cs.length:=Jm _ _ h.nd λi b=>by
 obtain⟨c,a,-⟩:=(h.act i).1 b
 exact(aK.1 a).1
theorem rf{cs:List CV}{i:Nat}{f:CV->CV}{b:CV}(h:(fh cs i f)[i]?=ag b):∃a,b=f a:=by
 rw[dB,bj rfl]at h
 cases hc:cs[i]? with
 | none=>rw[hc]at h;cases h
 | some a=>
  rw[hc]at h
  injection h with h
  exact⟨a,h.symm⟩
theorem Mz{E:fm}{i:Nat}{c a:CV}(h:(mq E i c).cs[i]?=ag a)(b:a.st=9):a.rd.length<=4096:=by
 unfold mq at h
 split at h
 ·obtain⟨d,e⟩:=rf h
  rw[e]
  exact cF _
 ·obtain⟨d,e⟩:=rf h
  rw[e]at b
  have b:(3:Nat)=9:=b
  omega
theorem ac4{E:fm}(h:∀d∈E.D,d.length<=4096){k:Nat}:(E.D[k]?.getD []).length<=4096:=by
 cases hd:E.D[k]? with
 | none=>exact cF _
 | some d=>exact h d (cG hd)
theorem Xl(h:fy K E){i:Nat}{c:CV}(n:E.cs[i]?=ag c)(o:iX K E c=aj)(m:Nat){g:CV}(d:(fK K E i m).cs[i]?=ag g)(j:g.st=9):g.rd.length<=4096:=by
 unfold fK at d
 rw[n]at d
 dsimp only at d
 have l:∀(cs:List CV) (f:CV->CV) (s:Nat),s≠9->(∀c,(f c).st=s)->(fh cs i f)[i]?=ag g->g.rd.length<=4096:=λcs f s C B k=>by
  obtain⟨q,e⟩:=rf k
  rw[e,B]at j
  exact absurd j C
 have r:∀lsn,(Lg K E i lsn).cs[i]?=ag g->g.rd.length<=4096:=λlsn k=>by
  obtain⟨q,e⟩:=rf k
  rw[e]
  exact ac4 h.dl
 have p:∀b,(mU E i b).cs[i]?=ag g->g.rd.length<=4096:=λb k=>l _ _ 6 (by decide) (λ_=>rfl) k
 by_cases t:c.st=1
 ·rw[bj t]at d
  unfold od at d
  split at d
  ·split at d
   ·exact r _ d
   ·exact l _ _ 4 (by decide) (λ_=>rfl) d
  ·dsimp only at d
   split at d
   ·exact Mz d j
   ·exact l _ _ 2 (by decide) (λ_=>rfl) d
 rw[bf t]at d
 by_cases u:c.st=2
 ·rw[bj u]at d
  split at d
  ·exact Mz d j
  ·exact p _ d
 rw[bf u]at d
 by_cases w:c.st=3
 ·rw[bj w]at d
  split at d
  ·obtain⟨q,e⟩:=rf d
   rw[e]
   exact cF _
  ·exact p _ d
 rw[bf w]at d
 by_cases x:c.st=4
 ·rw[bj x]at d
  split at d
  ·exact r _ d
  ·exact p _ d
 rw[bf x]at d
 by_cases y:c.st=6
 ·rw[bj y]at d
  exact l _ _ 7 (by decide) (λ_=>rfl) d
 rw[bf y]at d
 by_cases z:c.st=7
 ·rw[bj z]at d
  exact l _ _ 8 (by decide) (λ_=>rfl) d
 rw[bf z]at d
 have D:c.st≠9/\(c.back=2\/c.back=3\/c.back=4):=by
  have A:c.st≠9:=λe=>by
   unfold iX at o
   rw[e]at o
   simp at o
  refine⟨A,?_⟩
  rcases h.calls i c n with⟨a,-⟩ | a | ⟨-,-,a⟩ | a
  ·omega
  ·rcases a with⟨a,-⟩ | ⟨a,-⟩ | ⟨a,-⟩ <;> omega
  ·rcases a with⟨a,-⟩ | ⟨a,-⟩ | ⟨a,-⟩
   ·exact .inl a
   ·exact .inr (.inl a)
   ·exact .inr (.inr a)
  ·omega
 have d:(fh E.cs i _)[i]?=ag g:=d
 rw[dB,bj rfl,n]at d
 injection d with d
 rw[<-d]at j
 have j:c.back=9:=j
 omega
end
end
end Go.Proofs.YtooinenkenobaaaGreat

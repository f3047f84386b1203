/- A part of the proof of what LawWholeReaders says. -/
import Derived.Test.YtooinenkenobaaaGreatAa
import Derived.Test.YtooinenkenobaaaGreatCm
import Derived.Test.YtooinenkenobaaaGreatCo
import Derived.Test.YtooinenkenobaaaGreatBl
set_option maxRecDepth 100000
set_option maxHeartbeats 20000000
namespace Go.Proofs.YtooinenkenobaaaGreat
open Option renaming none->ae,some->ag
open Bool renaming false->ah,true->aj
open Go.Proofs.Tryz renaming prog->ax
open Go.Value renaming int->ay,pointer->aA,slice->aB,bool->aC,float->aD
open Go.IntKind renaming i64->az
open Go.FloatKind renaming f64->aE
open Go.Ending renaming returned->aF
open Go.Obj renaming cells->aG
open Go renaming World->am,Value->ar,TypeId->au,Calls->aw
section
open Go.RowKit Go.Maps
theorem qV{w:am}{b:Nat}{e f g i j k l m n o p a c d:ar}{t:au}(h:w.heap[b]?=ag (aG #[e,f,g,i,j,k,l,m,n,o,p,a,c,d] t (0,0))):b<w.heap.size/\w.cell? ⟨b,0,ae⟩=ag e/\w.cell? ⟨b,1,ae⟩=ag f/\w.cell? ⟨b,2,ae⟩=ag g/\w.cell? ⟨b,3,ae⟩=ag i/\w.cell? ⟨b,4,ae⟩=ag j/\w.cell? ⟨b,5,ae⟩=ag k/\w.cell? ⟨b,6,ae⟩=ag l/\w.cell? ⟨b,7,ae⟩=ag m/\w.cell? ⟨b,8,ae⟩=ag n/\w.cell? ⟨b,9,ae⟩=ag o/\w.cell? ⟨b,10,ae⟩=ag p/\w.cell? ⟨b,11,ae⟩=ag a/\w.cell? ⟨b,12,ae⟩=ag c/\w.cell? ⟨b,13,ae⟩=ag d/\w.frozen? ⟨b,0,ae⟩=ah/\w.frozen? ⟨b,1,ae⟩=ah/\w.frozen? ⟨b,2,ae⟩=ah/\w.frozen? ⟨b,3,ae⟩=ah/\w.frozen? ⟨b,4,ae⟩=ah/\w.frozen? ⟨b,5,ae⟩=ah/\w.frozen? ⟨b,6,ae⟩=ah/\w.frozen? ⟨b,7,ae⟩=ah/\w.frozen? ⟨b,8,ae⟩=ah/\w.frozen? ⟨b,9,ae⟩=ah/\w.frozen? ⟨b,10,ae⟩=ah/\w.frozen? ⟨b,11,ae⟩=ah/\w.frozen? ⟨b,12,ae⟩=ah/\w.frozen? ⟨b,13,ae⟩=ah:=
 ⟨aT h,aZ 0 h,aZ 1 h,aZ 2 h,aZ 3 h,aZ 4 h,aZ 5 h,aZ 6 h,aZ 7 h,aZ 8 h,aZ 9 h,aZ 10 h,aZ 11 h,aZ 12 h,aZ 13 h,bQ 0 h,bQ 1 h,bQ 2 h,bQ 3 h,bQ 4 h,bQ 5 h,bQ 6 h,bQ 7 h,bQ 8 h,bQ 9 h,bQ 10 h,bQ 11 h,bQ 12 h,bQ 13 h⟩
theorem sG{w:am}{b:Nat}{r s u x y z A B C D E o p q a c d e f g i j k l m n:ar}{t:au}(h:w.heap[b]?=ag (aG #[r,s,u,x,y,z,A,B,C,D,E,o,p,q,a,c,d,e,f,g,i,j,k,l,m,n] t (0,0))):b<w.heap.size/\w.cell? ⟨b,0,ae⟩=ag r/\w.cell? ⟨b,1,ae⟩=ag s/\w.cell? ⟨b,2,ae⟩=ag u/\w.cell? ⟨b,3,ae⟩=ag x/\w.cell? ⟨b,4,ae⟩=ag y/\w.cell? ⟨b,5,ae⟩=ag z/\w.cell? ⟨b,6,ae⟩=ag A/\w.cell? ⟨b,7,ae⟩=ag B/\w.cell? ⟨b,8,ae⟩=ag C/\w.cell? ⟨b,9,ae⟩=ag D/\w.cell? ⟨b,10,ae⟩=ag E/\w.cell? ⟨b,11,ae⟩=ag o/\w.cell? ⟨b,12,ae⟩=ag p/\w.cell? ⟨b,13,ae⟩=ag q/\w.cell? ⟨b,14,ae⟩=ag a/\w.cell? ⟨b,15,ae⟩=ag c/\w.cell? ⟨b,16,ae⟩=ag d/\w.cell? ⟨b,17,ae⟩=ag e/\w.cell? ⟨b,18,ae⟩=ag f/\w.cell? ⟨b,19,ae⟩=ag g/\w.cell? ⟨b,20,ae⟩=ag i/\w.cell? ⟨b,21,ae⟩=ag j/\w.cell? ⟨b,22,ae⟩=ag k/\w.cell? ⟨b,23,ae⟩=ag l/\w.cell? ⟨b,24,ae⟩=ag m/\w.cell? ⟨b,25,ae⟩=ag n/\w.frozen? ⟨b,0,ae⟩=ah/\w.frozen? ⟨b,1,ae⟩=ah/\w.frozen? ⟨b,2,ae⟩=ah/\w.frozen? ⟨b,3,ae⟩=ah/\w.frozen? ⟨b,4,ae⟩=ah/\w.frozen? ⟨b,5,ae⟩=ah/\w.frozen? ⟨b,6,ae⟩=ah/\w.frozen? ⟨b,7,ae⟩=ah/\w.frozen? ⟨b,8,ae⟩=ah/\w.frozen? ⟨b,9,ae⟩=ah/\w.frozen? ⟨b,10,ae⟩=ah/\w.frozen? ⟨b,11,ae⟩=ah/\w.frozen? ⟨b,12,ae⟩=ah/\w.frozen? ⟨b,13,ae⟩=ah/\w.frozen? ⟨b,14,ae⟩=ah/\w.frozen? ⟨b,15,ae⟩=ah/\w.frozen? ⟨b,16,ae⟩=ah/\w.frozen? ⟨b,17,ae⟩=ah/\w.frozen? ⟨b,18,ae⟩=ah/\w.frozen? ⟨b,19,ae⟩=ah/\w.frozen? ⟨b,20,ae⟩=ah/\w.frozen? ⟨b,21,ae⟩=ah/\w.frozen? ⟨b,22,ae⟩=ah/\w.frozen? ⟨b,23,ae⟩=ah/\w.frozen? ⟨b,24,ae⟩=ah/\w.frozen? ⟨b,25,ae⟩=ah:=
 ⟨aT h,aZ 0 h,aZ 1 h,aZ 2 h,aZ 3 h,aZ 4 h,aZ 5 h,aZ 6 h,aZ 7 h,aZ 8 h,aZ 9 h,aZ 10 h,aZ 11 h,aZ 12 h,aZ 13 h,aZ 14 h,aZ 15 h,aZ 16 h,aZ 17 h,aZ 18 h,aZ 19 h,aZ 20 h,aZ 21 h,aZ 22 h,aZ 23 h,aZ 24 h,aZ 25 h,bQ 0 h,bQ 1 h,bQ 2 h,bQ 3 h,bQ 4 h,bQ 5 h,bQ 6 h,bQ 7 h,bQ 8 h,bQ 9 h,bQ 10 h,bQ 11 h,bQ 12 h,bQ 13 h,bQ 14 h,bQ 15 h,bQ 16 h,bQ 17 h,bQ 18 h,bQ 19 h,bQ 20 h,bQ 21 h,bQ 22 h,bQ 23 h,bQ 24 h,bQ 25 h⟩
def mv(K:dw)(b a:Nat)(base:Int):Prop:=(1<=K.cap/\K.cap<=1024/\1<=K.dO/\K.dO<=16777216)/\oq K.most K.fj b a=aj/\1<=base
theorem yS{K:dw}(j:Nat)(sm base:Int)(b d:Nat){a:Int}{w:am}(g:Tg)(D:nE w g j a [] 0 0 gj)(x:100000<=a/\a<=16777216)(s:b<18446744073709551616)(A:K.bU=b%9223372036854775808)(t:1<=base->(K.b0:Int)=base)(B:base<=1152921504606846976)(z:1000<=sm/\sm<=1048576):
 aw ax 29 #[aA (ag ⟨j,0,ae⟩),.agg #[ay az sm,ay az base,ay az K.cap,ay az K.dO,ay az K.most,ay az K.fj,aD aE b,aD aE d]] w λe w'=>∃l m o p f g',e=aF (.tuple #[.pointer l,.agg #[.bool m,ay az o,ay az p],ay az f])/\((f=0/\mv K b d base)\/(f=1/\¬ mv K b d base))/\Ch TN g w g' w':=by
 have r:∀e w',(e=Ending.returned (.tuple #[aA ae,.agg #[aC ah,ay az 0,ay az 0],ay az 1])/\Below w.heap.size w w')->¬ mv K b d base->∃l m o p f g',e=aF (.tuple #[.pointer l,.agg #[.bool m,ay az o,ay az p],ay az f])/\((f=0/\mv K b d base)\/(f=1/\¬ mv K b d base))/\Ch TN g w g' w':=λe w' h y=>by
  obtain⟨rfl,i⟩:=h
  exact⟨_,_,_,_,_,g,rfl,.inr ⟨rfl,y⟩,Ch.bh TN g i⟩
 by_cases k:1<=K.cap/\K.cap<=1024/\1<=K.dO/\K.dO<=16777216
 ·cases i:oq K.most K.fj b d with
  | false=>exact(PF j sm base K b d w k i).mono λe w' h=>r e w' h λn=>by have:=n.2.1;rw[i]at this;cases this
  | true=>
   by_cases q:1<=base
   ·have u:=t q
    have e:=aaT (K:=K) j sm b d a w g D x k i s A (by omega) (by omega) z
    rw[u]at e
    refine e.mono ?_
    rintro e w' ⟨C,g',rfl,c,-⟩
    exact⟨_,_,_,_,_,g',rfl,.inl ⟨rfl,k,i,q⟩,c⟩
   ·exact(PC j sm base K b d w k i s (by omega)).mono λe w' h=>r e w' h λn=>q n.2.2
 ·exact(PG j sm base K b d w k).mono λe w' h=>r e w' h λn=>k n.1
end
section
section
variable{K:dw}{E:fm}{P:eG}{W W':iw}{picks:List Nat}
theorem Fl(i a:Nat):(fK K E i a).now=E.now:=by
 unfold fK
 split
 ·rfl
 ·split
  ·unfold od
   split
   ·split <;> rfl
   ·dsimp only
    split
    ·unfold mq;split <;> rfl
    ·rfl
  ·split
   ·split
    ·unfold mq;split <;> rfl
    ·rfl
   ·split
    ·split <;> rfl
    ·split
     ·split <;> rfl
     ·split
      ·rfl
      ·split <;> rfl
theorem Rr(h:fy K W.E)(g:W.E.cT<=W.E.du)(k:zv K P picks W W'):W'.E.cT<=W'.E.du/\(whose picks W (ft K P W)≠P.length->W'.E.now=W.E.now):=by
 obtain⟨b,t,w,-⟩:=k
 have o:=uF picks W w
 obtain⟨p,A⟩:=bP (whose picks W (ft K P W))
 rw[A]at o ⊢
 have ST:∀(V:iw) (i:Nat) (c:CV) (u:jb),V.ts[p]?=ag u->u.id=ag i->V.E.cs[i]?=ag c->(iH K V p b).E=fK K V.E i b\/(iH K V p b).E=V.E:=λV i c u y z F=>by
  unfold iH
  rw[y]
  dsimp only
  rw[z]
  dsimp only
  split
  ·split <;> exact .inl rfl
  ·exact .inr rfl
 rcases vn o with⟨D,ha⟩ | ⟨rfl,ha⟩
 ·unfold gY
  dsimp only
  rw[bf (by omega)]
  unfold mr at ha
  cases hT:W.ts[p]? with
  | none=>rw[hT]at ha;cases ha
  | some u=>
   cases hL:P[p]? with
   | none=>rw[hT,hL]at ha;cases ha
   | some l=>
    rw[hT,hL]at ha
    dsimp only at ha
    have r:Jw W p=u.id.isNone:=by
     unfold Jw
     rw[hT]
    rcases QA u.id with d | ⟨i,d⟩
    ·rw[d]at ha
     have C:=dX ha
     obtain⟨a,x⟩:∃a,l[u.next]?=ag a:=⟨_,aP C⟩
     rw[bj (by rw[r,d];rfl)]
     have e:=vk (W:={ W with last:=(p:Int),turns:=W.turns++[p] }) hT hL x
     have s:(fN P { W with last:=(p:Int),turns:=W.turns++[p] } p).ts[p]?=ag ⟨u.next+1,ag W.E.cs.length,W.cJ.length⟩:=by
      rw[e]
      show(jf W.ts p _)[p]?=_
      rw[kj,bj rfl,hT]
      rfl
     have j:(fN P { W with last:=(p:Int),turns:=W.turns++[p] } p).E.cs[W.E.cs.length]?=ag ⟨a,0,ah,1,0,0,0,[]⟩:=by
      rw[e]
      show(W.E.cs++[_])[W.E.cs.length]?=_
      rw[bH dx,dR]
      rfl
     have m:(fN P { W with last:=(p:Int),turns:=W.turns++[p] } p).E=gT W.E a:=by rw[e]
     rcases ST _ _ _ _ s rfl j with f | f
     ·rw[f,m]
      have q:(fK K (gT W.E a) W.E.cs.length b).cT=W.E.cT/\(fK K (gT W.E a) W.E.cs.length b).du=W.E.du:=by
       rw[m]at j
       unfold fK
       rw[j]
       dsimp only
       rw[bj rfl]
       unfold od
       split
       ·split <;> exact⟨rfl,rfl⟩
       ·dsimp only
        split
        ·unfold mq;split <;> exact⟨rfl,rfl⟩
        ·exact⟨rfl,rfl⟩
      refine⟨by rw[q.1,q.2];exact g,λ_=>?_⟩
      rw[Fl]
      rfl
     ·rw[f,m]
      exact⟨g,λ_=>rfl⟩
    ·rw[d]at ha
     obtain⟨c,n,B⟩:=(kZ h).1 (dX ha)
     rw[bf (by rw[r,d];simp)]
     rcases ST { W with last:=(p:Int),turns:=W.turns++[p] } i c u hT d n with f | f
     ·rw[f]
      have:=RA h n B b
      refine⟨?_,λ_=>Fl _ _⟩
      show(fK K W.E i b).cT<=(fK K W.E i b).du
      omega
     ·rw[f]
      exact⟨g,λ_=>rfl⟩
 ·unfold gY
  dsimp only
  rw[bj rfl]
  exact⟨g,λe=>absurd rfl e⟩
end
end
section
def iE:dw:=⟨1,4,1000,8,1000,0⟩
def gu:eG:=[[⟨1,0,[97]⟩],[⟨1,0,[97]⟩]]
theorem Lr:kX iE:=by constructor <;> decide
structure adE(x:Option Nat)(W:iw):Prop where
 n:W.E.D.length<=W.cJ.length
 s:∀i,x=ag i->W.E.D.length+1<=W.cJ.length
section
variable{W:iw}{K:dw}
theorem FV{m:Nat}{l:List fu}(h:gu[m]?=ag l):m<2/\l=[⟨1,0,[97]⟩]:=by
 match m,h with
 | 0,h=>exact⟨by omega,by injection h with h;exact h.symm⟩
 | 1,h=>exact⟨by omega,by injection h with h;exact h.symm⟩
 | m+2,h=>simp[gu]at h
theorem xY{m q:Nat}{l:List fu}{a:fu}(h:gu[m]?=ag l)(ha:l[q]?=ag a):q=0/\a=⟨1,0,[97]⟩:=by
 obtain⟨-,rfl⟩:=FV h
 match q,ha with
 | 0,ha=>exact⟨rfl,by injection ha with ha;exact ha.symm⟩
 | q+1,ha=>simp at ha
theorem AZ{x:Option Nat}(h:oM K gu x W):W.cJ.length<=2:=h.total
theorem X9{x:Option Nat}(h:oM K gu x W):∀(k:Nat) (d:By),W.E.D[k]?=ag d->d.length=1:=λk d c=>by
 obtain⟨j,g⟩:∃j,W.E.ow[k]?=ag j:=⟨_,aP (by rw[h.en.ow];exact(aK.1 c).1)⟩
 obtain⟨p,b,-,a⟩:=h.ow k j g
 obtain⟨⟨t,l,-,e,f,-⟩,-⟩:=h.pc j p _ b (aP (by rw[<-h.pl];exact(aK.1 b).1))
 rw[c]at a
 injection a with a
 rw[a,(xY e f).2]
 rfl
theorem Lc:∀(D:List By),(∀(k:Nat) (d:By),D[k]?=ag d->d.length=1)->(D.map (λd:By=>16+d.length)).sum=17*D.length
 | [],_=>rfl
 | d::D,h=>by
  have a:=h 0 d rfl
  have b:=Lc D (λk e c=>h (k+1) e (by simpa using c))
  simp only[aV,lJ,bV,b,a]
  omega
theorem XU:rX iE gu adE:=by
 have d:∀(x:Option Nat) (W:iw) (i:Nat) (c:CV),oM iE gu x W->adE x W->W.E.cs[i]?=ag c->c.st=1->c.ask.kind≠5->jp iE W.E c.ask.data:=λx W i c h s b o H=>by
  obtain⟨p,E⟩:∃p,W.cJ[i]?=ag p:=⟨_,aP (by rw[h.pl];exact(aK.1 b).1)⟩
  obtain⟨⟨t,l,-,C,D,-,q⟩,-⟩:=h.pc i p c E b
  have A:=(q (by omega)).2
  have g:c.ask.data.length=1:=by rw[A,(xY C D).2];rfl
  have I:=s.s i (h.Wp i c b o)
  have J:=AZ h
  have e:=congrArg List.length h.en.q
  rw[aN,lA,cV]at e
  have F:=Lc W.E.D (X9 h)
  refine⟨by omega,by rw[g];decide,by omega,?_⟩
  rw[F,g]
  omega
 refine⟨λx W l t s=>⟨s.n,s.s⟩,λx W t s=>⟨s.n,s.s⟩,λW m t l a h s k n r ha=>?_,d,λx W m i c f t h s k r b hx u o=>?_⟩
 ·have e:=vk k n ha
  rw[e]
  have:=s.n
  refine⟨?_,λ_ _=>?_⟩
  ·show W.E.D.length<=(W.cJ++[_]).length
   rw[aN,cP]
   omega
  ·show W.E.D.length+1<=(W.cJ++[_]).length
   rw[aN,cP]
   omega
 ·obtain⟨l,n⟩:∃l,gu[m]?=ag l:=⟨_,aP (by rw[<-h.len];exact(aK.1 k).1)⟩
  obtain⟨-,w,G,b3,b4⟩:=xK Lr h k n r b hx u (d x W i c h s b) f
  have B:=qP h.en b u f
  refine⟨?_,λj e=>by cases e⟩
  rw[w,b4]
  rcases B.sg with⟨-,y,-⟩ | ⟨g,-,z,-⟩
  ·rw[y]
   exact s.n
  ·rw[z,aN,cP]
   exact s.s i (h.Wp i c b g)
theorem XV:nV iE gu adE 2:=by
 refine⟨XU,λm l a h ha=>?_,λm l h=>?_,λx W h s=>bJ s.n (AZ h),by decide,by decide⟩
 ·obtain⟨i,b⟩:=fg ha
  obtain⟨-,rfl⟩:=xY h b
  exact⟨.inl ⟨.inl rfl,rfl⟩,by decide⟩
 ·obtain⟨-,rfl⟩:=FV h
  decide
theorem NW(P:eG)(b:Nat)(g:kX K):oM K P ae (iA (fJ b) P):=by
 have f:∀(m:Nat) (t:jb),(List.replicate P.length (⟨0,ae,0⟩:jb))[m]?=ag t->t=⟨0,ae,0⟩:=λm t a=>by
  have:=(aK.1 a).1
  rw[dW]at this
  rw[mh,bj this]at a
  injection a with a
  exact a.symm
 have o:fy K (fJ b):=by
  constructor
  case ow=>rfl
  case o1=>exact bT _
  case o2=>exact bT _
  case o3=>exact bT _
  case q=>rfl
  case qb=>exact QB.start g.c1 g.c2 g.y1 g.y2
  case act=>exact λi=>⟨λh=>(by cases h),λ⟨c,h,_⟩=>by simp[fJ]at h⟩
  case nd=>exact vB
  case calls=>exact λi c h=>by simp[fJ]at h
  case lead0=>exact λ_=>⟨rfl,rfl⟩
  case lead=>exact λi h=>by cases h
  case line=>exact λh=>absurd rfl h
  case clk=>exact λh=>absurd rfl h
  case dl=>exact λd h=>by cases h
  case ond=>exact vB
  case owl=>exact λi h=>by cases h
  case fit=>exact cF _
 refine⟨o,?_,rfl,λj c h=>by simp[iA,fJ]at h,λm t l a s=>?_,λj p c r=>by simp[iA]at r,λk j h=>by simp[iA,fJ]at h,λm t a q n=>?_,?_⟩
 ·exact dW
 ·rw[f m t a]
  exact⟨cF _,λi e=>by cases e⟩
 ·rw[f m t a]at n
  exact absurd n (nF q)
 ·show 0=((List.replicate _ _).map jb.next).sum
  rw[List.map_replicate,aen]
  simp
def ox(a:Nat):Nat->iw
 | 0=>iA (fJ a) gu
 | 1=>gY iE gu (ox a 0) 0 0 0
 | 2=>gY iE gu (ox a 1) 1 0 0
 | k+3=>gY iE gu (ox a (k+2)) 0 0 0
def q8(b a:Nat):Nat->iw
 | 0=>gY iE gu (ox b 5) 0 a 0
 | 1=>gY iE gu (q8 b a 0) 1 0 0
 | k+2=>gY iE gu (q8 b a (k+1)) 0 0 0
def lQ(W:iw)(a t:Nat):iw:=gY iE gu W (whose [] W (ft iE gu W)) a t
theorem aco(b a t:Nat):lQ (ox b 0) a t=ox b 1:=by kernel_rfl
theorem acn(b a t:Nat):lQ (ox b 1) a t=ox b 2:=by kernel_rfl
theorem acm(b a t:Nat):lQ (ox b 2) a t=ox b 3:=by kernel_rfl
theorem acl(b a t:Nat):lQ (ox b 3) a t=ox b 4:=by kernel_rfl
theorem ack(b a t:Nat):lQ (ox b 4) a t=ox b 5:=by kernel_rfl
theorem acj(b a t:Nat):lQ (ox b 5) a t=q8 b a 0:=by kernel_rfl
theorem aci(b c a t:Nat):lQ (q8 b c 0) a t=q8 b c 1:=by kernel_rfl
theorem ach(b c a t:Nat):lQ (q8 b c 1) a t=q8 b c 2:=by kernel_rfl
theorem acg(a b:Nat):ft iE gu (q8 a b 2)=[]:=by kernel_rfl
theorem acf(a:Nat):ft iE gu (ox a 0)=[0,1]:=by kernel_rfl
theorem ace(a:Nat):ft iE gu (ox a 1)=[0,1]:=by kernel_rfl
theorem acd(a:Nat):ft iE gu (ox a 2)=[0,1]:=by kernel_rfl
theorem acc(a:Nat):ft iE gu (ox a 3)=[0]:=by kernel_rfl
theorem acb(a:Nat):ft iE gu (ox a 4)=[0]:=by kernel_rfl
theorem aca(a:Nat):ft iE gu (ox a 5)=[0]:=by kernel_rfl
theorem ab'(a b:Nat):ft iE gu (q8 a b 0)=[0,1]:=by kernel_rfl
theorem ab9(a b:Nat):ft iE gu (q8 a b 1)=[0]:=by kernel_rfl
theorem SQ{b c d f g i:iw}(j l m:Nat->iw)(F:∀a t,lQ b a t=c)(G:∀a t,lQ c a t=d)(H:∀a t,lQ d a t=f)(I:∀a t,lQ f a t=g)(J:∀a t,lQ g a t=i)(L:∀a t,lQ i a t=j a)
 (D:∀u a t,lQ (j u) a t=l u) (E:∀u a t,lQ (l u) a t=m u) (e:∀u,ft iE gu (m u)=[]) (q:ft iE gu b≠[]) (r:ft iE gu c≠[]) (s:ft iE gu d≠[]) (w:ft iE gu f≠[]) (x:ft iE gu g≠[]) (y:ft iE gu i≠[]) (z:∀u,ft iE gu (j u)≠[]) (A:∀u,ft iE gu (l u)≠[])
 {o W:iw} (h:zr iE gu [] o W) (C:o=b) (ha:ft iE gu W=[]):∃u,W=m u:=by
 have n:W=b\/W=c\/W=d\/W=f\/W=g\/W=i\/(∃u,W=j u)\/(∃u,W=l u)\/∃u,W=m u:=by
  clear ha
  induction h with
  | none=>exact .inl C
  | more _ k ih=>
   obtain⟨a,t,B,-⟩:=k
   rename_i p _
   show lQ p a t=b\/_
   rcases ih with rfl | rfl | rfl | rfl | rfl | rfl | ⟨u,rfl⟩ | ⟨u,rfl⟩ | ⟨u,rfl⟩
   ·exact .inr (.inl (F a t))
   ·exact .inr (.inr (.inl (G a t)))
   ·exact .inr (.inr (.inr (.inl (H a t))))
   ·exact .inr (.inr (.inr (.inr (.inl (I a t)))))
   ·exact .inr (.inr (.inr (.inr (.inr (.inl (J a t))))))
   ·exact .inr (.inr (.inr (.inr (.inr (.inr (.inl ⟨a,L a t⟩))))))
   ·exact .inr (.inr (.inr (.inr (.inr (.inr (.inr (.inl ⟨u,D u a t⟩)))))))
   ·exact .inr (.inr (.inr (.inr (.inr (.inr (.inr (.inr ⟨u,E u a t⟩)))))))
   ·exact absurd (e u) B
 rcases n with rfl | rfl | rfl | rfl | rfl | rfl | ⟨u,rfl⟩ | ⟨u,rfl⟩ | ⟨u,rfl⟩
 ·exact absurd ha q
 ·exact absurd ha r
 ·exact absurd ha s
 ·exact absurd ha w
 ·exact absurd ha x
 ·exact absurd ha y
 ·exact absurd ha (z u)
 ·exact absurd ha (A u)
 ·exact⟨u,rfl⟩
theorem agn(a u:Nat):(q8 a u 2).turns.length=8:=by kernel_rfl
theorem agm(a u:Nat):(q8 a u 2).E.du=2:=by kernel_rfl
theorem agp(a u:Nat):(q8 a u 2).cJ.length=2:=by kernel_rfl
theorem ago(a u:Nat):((q8 a u 2).cJ[0]?).map (λp:kN=>p.rl)=ag 1:=by kernel_rfl
theorem XZ{a:Nat}{W:iw}(h:zr iE gu [] (iA (fJ a) gu) W)(ha:ft iE gu W=[]):W.turns.length=8/\W.E.du=2/\W.cJ.length=2/\(W.cJ[0]?).map (λp:kN=>p.rl)=ag 1:=by
 have b:∀{V:iw} {l:List Nat},ft iE gu V=l->l≠[]->ft iE gu V≠[]:=λe h=>by rw[e];exact h
 obtain⟨u,e⟩:=SQ (λu=>q8 a u 0) (λu=>q8 a u 1) (λu=>q8 a u 2) (aco a) (acn a) (acm a) (acl a) (ack a) (acj a) (aci a) (ach a) (acg a)
  (b (acf a) (by simp)) (b (ace a) (by simp)) (b (acd a) (by simp)) (b (acc a) (by simp)) (b (acb a) (by simp)) (b (aca a) (by simp)) (λu=>b (ab' a u) (by simp)) (λu=>b (ab9 a u) (by simp)) h rfl ha
 rw[e]
 exact⟨agn a u,agm a u,agp a u,ago a u⟩
end
end
section
open Go.RowKit Go.Maps
def Cl(K:dw)(S:jR)(base:Int):Array ar:=#[ay az S.uX,ay az S.sm,ay az base,ay az K.cap,ay az K.dO,ay az K.most,ay az K.fj,aD aE S.lr,aD aE S.al,S.fv,S.tv,S.pv,ay az S.most,S.nv]
structure jq(w:am)(g:Tg)(K:dw)(S:jR)(P:eG)(picks:List Int)(base:Int):Prop where
 fv:S.fv=aB ae 0 0
 nv:S.nv=aB ae 0 0
 ask:sk w g S.tv P
 Cm:sK w g S.pv picks
 p1:1<=P.length/\P.length<=15
 ll:∀l∈P,l.length<=256
 pk:picks.length<=65536
 mo:0<=S.most/\S.most<=65536
 dk:100000<=S.uX/\S.uX<=16777216
 lr:S.lr<18446744073709551616
 kl:K.bU=S.lr%9223372036854775808
 b:1<=base->(K.b0:Int)=base
 b2:base<=1152921504606846976
 sm:1000<=S.sm/\S.sm<=1048576
structure KG(w:am)(v:ar)(P:eG):Prop where
 ex:∃ta tc,v=aB ta P.length tc/\∀(m:Nat) (l:List fu),P[m]?=ag l->∃tb off lo lc,ta=ag ⟨tb,off,ae⟩/\tb<w.heap.size/\w.cell? ⟨tb,off+m,ae⟩=ag (aB lo l.length lc)
theorem sk.lens{w:am}{g:Tg}{v:ar}{P:eG}(h:sk w g v P):KG w v P:=by
 obtain⟨p,r,e,k⟩:=h.ex
 refine⟨p,r,e,λm l j=>?_⟩
 obtain⟨q,a,s,b,-,c,d,f⟩:=k m l j
 obtain⟨o,n,i,-⟩:=f.ex
 exact⟨q,a,o,n,b,c,by rw[d,i]⟩
theorem KG.low{w w':am}{v:ar}{P:eG}(h:KG w v P)(c:Below w.heap.size w w'):KG w' v P:=by
 obtain⟨o,p,e,k⟩:=h.ex
 refine⟨o,p,e,λm l i=>?_⟩
 obtain⟨d,a,n,j,f,b,g⟩:=k m l i
 exact⟨d,a,n,j,f,aW b c.size,(cm (c.block d b)).trans g⟩
structure uv(w:am)(g:Tg)(K:dw)(S:jR)(P:eG)(picks:List Int)(base:Int):Prop where
 fv:S.fv=aB ae 0 0
 nv:S.nv=aB ae 0 0
 ask:KG w S.tv P
 Cm:sK w g S.pv picks
 p1:1<=P.length/\P.length<=15
 ll:∀l∈P,l.length<=256
 pk:picks.length<=65536
 mo:0<=S.most/\S.most<=65536
 dk:100000<=S.uX/\S.uX<=16777216
 lr:S.lr<18446744073709551616
 kl:K.bU=S.lr%9223372036854775808
 b:1<=base->(K.b0:Int)=base
 b2:base<=1152921504606846976
 sm:1000<=S.sm/\S.sm<=1048576
theorem jq.aly{w:am}{g:Tg}{K:dw}{S:jR}{P:eG}{picks:List Int}{base:Int}(h:jq w g K S P picks base):uv w g K S P picks base:=
 ⟨h.fv,h.nv,h.ask.lens,h.Cm,h.p1,h.ll,h.pk,h.mo,h.dk,h.lr,h.kl,h.b,h.b2,h.sm⟩
theorem uv.low{w w':am}{g:Tg}{K:dw}{S:jR}{P:eG}{picks:List Int}{base:Int}(h:uv w g K S P picks base)(c:Below w.heap.size w w'):uv w' g K S P picks base:=
 ⟨h.fv,h.nv,h.ask.low c,h.Cm.ch (Ch.bh [] g c) (by simp),h.p1,h.ll,h.pk,h.mo,h.dk,h.lr,h.kl,h.b,h.b2,h.sm⟩
def WG:Tg:=λ_=>99
theorem ju{n:Nat}:∀q,q<n->WG q∉TN:=λq _ h=>absurd (show(99:Nat)∈TN from h) (by decide)
theorem jq.low{w w':am}{g:Tg}{K:dw}{S:jR}{P:eG}{picks:List Int}{base:Int}(h:jq w g K S P picks base)(c:Below w.heap.size w w'):jq w' g K S P picks base:=
 ⟨h.fv,h.nv,h.ask.ch (Ch.bh [] g c) (by simp),h.Cm.ch (Ch.bh [] g c) (by simp),h.p1,h.ll,h.pk,h.mo,h.dk,h.lr,h.kl,h.b,h.b2,h.sm⟩
theorem jq.pW{w w':am}{g g':Tg}{K:dw}{S:jR}{P:eG}{picks:List Int}{base:Int}(h:jq w g K S P picks base)(c:Ch [] g w g' w'):jq w' g' K S P picks base:=
 ⟨h.fv,h.nv,h.ask.ch c (by simp),h.Cm.ch c (by simp),h.p1,h.ll,h.pk,h.mo,h.dk,h.lr,h.kl,h.b,h.b2,h.sm⟩
structure apf(w:am)(K:dw)(S:jR)(picks:List Int)(base:Int)(e:Ending)(w':am):Prop where
 ex:∃b,e=aF (aC b)/\(b=aj↔(∀z∈picks,0<=z)/\mv K S.lr S.al base)/\Below w.heap.size w w'
theorem Z9{w:am}{g:Tg}{K:dw}{S:jR}{P:eG}{picks:List Int}{base:Int}(H:uv w g K S P picks base):
 aw ax 26 #[.agg (Cl K S base)] w (apf w K S picks base):=by
 obtain⟨ta,tc,Bj,tl⟩:=H.ask.ex
 obtain⟨pa,pc,uV,pl⟩:=H.Cm.ex
 have TL:=aH tl
 have PL:=aH pl
 have s:=aH H
 have yB:=H.p1
 have Ep:=H.pk
 have oB:=H.mo
 unfold Cl
 rw[H.fv,H.nv,Bj,uV]
 clear Bj uV tl pl H
 obtain⟨n,hn⟩:=bP P.length
 obtain⟨m,hm⟩:=bP picks.length
 obtain⟨dk,Et⟩:=bP S.uX
 obtain⟨sm,uy⟩:=bP S.sm
 obtain⟨mo,Ub⟩:=bP S.most
 obtain⟨F,qq⟩:=bP S.lr
 obtain⟨E,Ae⟩:=bP S.al
 rw[hn]at yB
 rw[hm]at Ep
 rw[Ub]at oB
 have f:=aH (And.intro hn (And.intro hm (And.intro Et (And.intro uy (And.intro qq Ae)))))
 have i1:(1:Int)<=(n:Int):=by omega
 have i2:(n:Int)<=16:=by omega
 have i3:(m:Int)<=65536:=by omega
 have i4:(0:Int)<=mo:=oB.1
 have i5:mo<=65536:=oB.2
 rw[hn,hm,Et,uy,Ub,qq,Ae]
 clear hn hm Et uy Ub qq Ae oB yB Ep
 obtain⟨b,QS⟩:=bP w.heap.size
 obtain⟨U,gv,dJ,dL⟩:=bG w #[ay az dk,ay az sm,ay az base,ay az K.cap,ay az K.dO,ay az K.most,ay az K.fj,aD aE F,aD aE E,aB ae 0 0,aB ta n tc,aB pa m pc,ay az mo,aB ae 0 0] 34
 have j9:=qV dL.out
 rw[QS]at dL j9
 have eM:=aH (show ∀y,Below U.heap.size U y->y.cell? ⟨b,0,ae⟩=ag (ay az dk)/\y.cell? ⟨b,1,ae⟩=ag (ay az sm)/\y.cell? ⟨b,2,ae⟩=ag (ay az base)/\y.cell? ⟨b,3,ae⟩=ag (ay az K.cap)/\y.cell? ⟨b,4,ae⟩=ag (ay az K.dO)/\y.cell? ⟨b,5,ae⟩=ag (ay az K.most)/\y.cell? ⟨b,6,ae⟩=ag (ay az K.fj)/\y.cell? ⟨b,7,ae⟩=ag (aD aE F)/\y.cell? ⟨b,8,ae⟩=ag (aD aE E)/\y.cell? ⟨b,9,ae⟩=ag (aB ae 0 0)/\y.cell? ⟨b,10,ae⟩=ag (aB ta n tc)/\y.cell? ⟨b,11,ae⟩=ag (aB pa m pc)/\y.cell? ⟨b,12,ae⟩=ag (ay az mo)/\y.cell? ⟨b,13,ae⟩=ag (aB ae 0 0)from λy J=>by
  have k:=qV ((J.block _ (aT dL.out)).trans dL.out)
  exact⟨k.2.1,k.2.2.1,k.2.2.2.1,k.2.2.2.2.1,k.2.2.2.2.2.1,k.2.2.2.2.2.2.1,k.2.2.2.2.2.2.2.1,k.2.2.2.2.2.2.2.2.1,k.2.2.2.2.2.2.2.2.2.1,k.2.2.2.2.2.2.2.2.2.2.1,k.2.2.2.2.2.2.2.2.2.2.2.1,k.2.2.2.2.2.2.2.2.2.2.2.2.1,k.2.2.2.2.2.2.2.2.2.2.2.2.2.1,k.2.2.2.2.2.2.2.2.2.2.2.2.2.2.1⟩)
 go_in
 go_wp2_with fail
 refine(xu dk U WG (by have:=s.out.dk;rw[f.out.2.2.1]at this;omega)).mono ?_
 rintro e w2 ⟨g2,rfl,c2,d2⟩
 obtain⟨db,Pg⟩:=bP (U.heap.size+2)
 rw[Pg]at d2 ⊢
 have C2:=aH c2
 have D2:=aH d2
 have B2:=aH (c2.below (n:=U.heap.size) dx (λ_ _ h=>by cases h))
 have k2:=eM.out w2 B2.out
 clear c2 d2 j9 Pg
 go_wp2_with fail
 refine(Mq db 0 0 dk [] gj w2 g2 D2.out).mono ?_
 rintro e t ⟨g3,rfl,c3,-⟩
 have C3:=aH (C2.out.any.trans (c3.mono (T':=TN) (by decide)))
 have B3:=aH (C3.out.below (n:=U.heap.size) dx ju)
 have B:=aH (dJ.out.trans (B3.out.mono dJ.out.size))
 have k3:=eM.out t B3.out
 clear c3 k2
 go_wp2_with fail
 go_loopw [62] (λi wr=>∃k:Nat,k<=n/\i=ay az k/\Hid (wr=t)) (λi _=>n-(intOf i).toNat)
 case atStart=>exact⟨0,cF _,rfl,aH rfl⟩
 case round=>
  obtain⟨k,hk,rfl,u⟩:=hrel
  by_cases fp:k<n
  ·have kz:(k:Int)<(n:Int):=by omega
   obtain⟨l,hl⟩:∃l,P[k]?=ag l:=⟨_,aP (by rw[f.out.1];exact fp)⟩
   obtain⟨tb,T,lo,lc,rfl,ao,aq⟩:=TL.out k l hl
   have ck:wr.cell? ⟨tb,T+k,ae⟩=ag (aB lo l.length lc):=by
    rw[u.out]
    exact(cm (B.out.block tb ao)).trans aq
   have a7:(l.length:Int)<=256:=by have:=s.out.ll l (cG hl);omega
   obtain⟨ln,yC⟩:=bP l.length
   rw[yC]at ck a7
   clear yC ao aq hl
   go_wp2_with fail
   go_roundw
   case rel=>exact⟨k+1,by omega,by go_num,u⟩
   case measure=>simp[intOf];omega
  ·obtain rfl:k=n:=by omega
   have kz:(k:Int)<=(k:Int):=by omega
   have u:=u.out.symm
   subst u
   go_wp2_with fail
   go_loopw [73] (λi wr=>∃q:Nat,q<=m/\i=ay az q/\Hid (wr=t)/\Hid (∀(j:Nat) (z:Int),j<q->picks[j]?=ag z->0<=z)) (λi _=>m-(intOf i).toNat)
   case atStart=>exact⟨0,cF _,rfl,aH rfl,aH (λj z hj=>absurd hj (nF j))⟩
   case round=>
    obtain⟨q,hq,rfl,u,HJ⟩:=hrel
    by_cases bh:q<m
    ·have qz:(q:Int)<(m:Int):=by omega
     obtain⟨z,hz⟩:∃z,picks[q]?=ag z:=⟨_,aP (by rw[f.out.2.1];exact bh)⟩
     obtain⟨pb,T,rfl,-,Wv,an⟩:=PL.out q z hz
     have cq:wr.cell? ⟨pb,T+q,ae⟩=ag (ay az z):=by
      rw[u.out]
      exact(cm (B.out.block pb Wv)).trans an
     have HZ:=aH hz
     clear Wv an hz
     by_cases z0:0<=z
     ·have a2:=aH (show ∀(j:Nat) (z:Int),j<q+1->picks[j]?=ag z->0<=z from λj y hj J=>by
       rcases cg j q with h | h
       ·exact HJ.out j y h J
       ·obtain rfl:j=q:=by omega
        rw[HZ.out]at J
        injection J with J
        omega)
      go_wp2_with fail
      go_roundw
      case rel=>exact⟨q+1,by omega,by go_num,u,a2⟩
      case measure=>simp[intOf];omega
     ·have z1:z<0:=by omega
      go_wp2_with fail
      go_ret
      refine⟨⟨ah,rfl,⟨λe=>?_,λh=>absurd (h.1 z (cG HZ.out)) (by omega)⟩,?_⟩⟩
      ·cases e
      ·rw[u.out]
       exact B.out
    ·obtain rfl:q=m:=by omega
     have qz:(q:Int)<=(q:Int):=by omega
     have u:=u.out.symm
     subst u
     have KM:=aH (show ∀z∈picks,0<=z from λz hz=>by
      obtain⟨j,hj⟩:=fg hz
      exact HJ.out j z (by rw[<-f.out.2.1];exact(aK.1 hj).1) hj)
     go_wp2_with fail
     refine sw 1 ?_
     rw[KU]
     go_wp2_with fail
     have C:=aH (Ch.bh TN WG (bi t))
     have x:=aH (show ∀y,Below t.heap.size t y->y.cell? ⟨b,1,ae⟩=ag (ay az sm)/\y.cell? ⟨b,2,ae⟩=ag (ay az base)/\y.cell? ⟨b,3,ae⟩=ag (ay az K.cap)/\y.cell? ⟨b,4,ae⟩=ag (ay az K.dO)/\y.cell? ⟨b,5,ae⟩=ag (ay az K.most)/\y.cell? ⟨b,6,ae⟩=ag (ay az K.fj)/\y.cell? ⟨b,7,ae⟩=ag (aD aE F)/\y.cell? ⟨b,8,ae⟩=ag (aD aE E)from λy J=>by
      have k:=eM.out y (B3.out.trans (J.mono B3.out.size))
      exact⟨k.2.1,k.2.2.1,k.2.2.2.1,k.2.2.2.2.1,k.2.2.2.2.2.1,k.2.2.2.2.2.2.1,k.2.2.2.2.2.2.2.1,k.2.2.2.2.2.2.2.2.1⟩)
     clear k3
     have qR:∀p:In (λw'=>w'.cell? ⟨b,1,ae⟩=ag (ay az sm)/\w'.cell? ⟨b,2,ae⟩=ag (ay az base)/\w'.cell? ⟨b,3,ae⟩=ag (ay az K.cap)/\w'.cell? ⟨b,4,ae⟩=ag (ay az K.dO)/\w'.cell? ⟨b,5,ae⟩=ag (ay az K.most)/\w'.cell? ⟨b,6,ae⟩=ag (ay az K.fj)/\w'.cell? ⟨b,7,ae⟩=ag (aD aE F)/\w'.cell? ⟨b,8,ae⟩=ag (aD aE E)),p.w.cell? ⟨b,1,ae⟩=ag (ay az sm)/\p.w.cell? ⟨b,2,ae⟩=ag (ay az base)/\p.w.cell? ⟨b,3,ae⟩=ag (ay az K.cap)/\p.w.cell? ⟨b,4,ae⟩=ag (ay az K.dO)/\p.w.cell? ⟨b,5,ae⟩=ag (ay az K.most)/\p.w.cell? ⟨b,6,ae⟩=ag (ay az K.fj)/\p.w.cell? ⟨b,7,ae⟩=ag (aD aE F)/\p.w.cell? ⟨b,8,ae⟩=ag (aD aE E):=λp=>p.h
     refine gx (.run [1,2] (.fork 0 [] (.fork 3 [4,5,6,7,8,9,10] .done 8 [3,4,5,6,7,9,10] .done) 8 [0,3,4,5,6,7,9,10] .done)) 11 (λw'=>w'.cell? ⟨b,1,ae⟩=ag (ay az sm)/\w'.cell? ⟨b,2,ae⟩=ag (ay az base)/\w'.cell? ⟨b,3,ae⟩=ag (ay az K.cap)/\w'.cell? ⟨b,4,ae⟩=ag (ay az K.dO)/\w'.cell? ⟨b,5,ae⟩=ag (ay az K.most)/\w'.cell? ⟨b,6,ae⟩=ag (ay az K.fj)/\w'.cell? ⟨b,7,ae⟩=ag (aD aE F)/\w'.cell? ⟨b,8,ae⟩=ag (aD aE E)) (by kernel_rfl) (by kernel_rfl) (by intro c a d v w h;cases d <;> exact h) (x.out _ (C.out.below dx ju)) ?_
     intro dF
     unfold cC
     simp only[pick,aV,a8,aQ,aR]
     refine aX 2 (by kernel_rfl) ?_
     simp only[aJ,aO,aI,aL]
     repeat (go_big_quiet_step (fail))
     refine aU ?_
     refine bF ?_
     unfold dh cC
     dsimp only
     refine⟨?_,?_⟩
     ·simp only[pick,aV,a8,aQ]
      refine aS rfl ?_ rfl
      go_wp2_with fail
      refine(xu 16777216 _ WG (by decide)).mono ?_
      rintro e y4 ⟨g4,rfl,c4,d4⟩
      obtain⟨ak,al⟩:=bP (t.drew.heap.size+2)
      rw[al]at d4 ⊢
      have D:=aH (C.out.trans c4.any)
      have Z:=aH d4
      clear c4 d4 al
      go_wp2_with fail
      refine⟨⟨⟨_,(x.out _ (D.out.below dx ju))⟩,rfl⟩,?_⟩
      refine bF ?_
      unfold dh cC
      dsimp only
      refine⟨?_,?_⟩
      ·simp only[pick,aV,a8,aQ,aR]
       refine aS rfl ?_ rfl
       go_wp2_with fail
       refine(yS ak sm base F E g4 Z.out (by decide) (by have:=s.out.lr;rw[f.out.2.2.2.2.1]at this;exact this) (by have:=s.out.kl;rw[f.out.2.2.2.2.1]at this;exact this) s.out.b s.out.b2 (by have:=s.out.sm;rw[f.out.2.2.2.1]at this;exact this)).mono ?_
       rintro e y5 ⟨ev,f0,f1,f2,er,g5,rfl,I,c5⟩
       have L:=aH (D.out.trans c5)
       have ER:=aH I
       clear c5 I
       go_wp2_with fail
       refine⟨⟨⟨_,(x.out _ (L.out.below dx ju))⟩,rfl⟩,?_⟩
       refine aX 4 (by kernel_rfl) ?_
       simp only[aJ,aO,aI,aL]
       repeat (go_big_quiet_step (fail))
       refine aU ?_
       refine aS rfl ?_ rfl
       obtain⟨y6,bm,av,WM⟩:=bG y5 #[aC ah,ay az 0,ay az 0] 67
       go_wp2_with fail
       obtain⟨o,r⟩:=bP y5.heap.size
       obtain⟨g6,O⟩:=bP (tg g5 o 99)
       have c6:Ch [] g5 y5 g6 y6:=by rw[<-O];exact(Ch.bh [] g5 av.out).tg (by rw[<-r];exact bT _)
       have a4:=aH (show Row y6 g6 99 o _ _ from⟨by rw[<-r];exact WM.out,by rw[<-O];exact dG _ _ _⟩)
       have A:=aH (show t.heap.size<=o from by rw[<-r];exact L.out.size)
       have V:=aH (L.out.trans c6.any)
       try rw[r]
       clear c6 O r
       refine⟨⟨⟨_,(x.out _ (V.out.below dx ju))⟩,rfl⟩,?_⟩
       refine aX 1 (by kernel_rfl) ?_
       simp only[aJ,aO,aI,aL]
       repeat (go_big_quiet_step (fail))
       refine aU ?_
       refine aS rfl ?_ rfl
       have q7:=eH a4.out.row
       go_wp2_with fail
       obtain⟨y7,Q⟩:=bP (((y6.setCell ⟨o,0,ae⟩ (.bool f0)).setCell ⟨o,1,ae⟩ (ay az f1)).setCell ⟨o,2,ae⟩ (ay az f2))
       have W:=aH (show Ch TN WG t g6 y7 from by rw[<-Q];exact((V.out.set _ (.inr A.out)).set _ (.inr A.out)).set _ (.inr A.out))
       try rw[Q]
       clear q7 Q
       refine⟨⟨⟨_,(x.out _ (W.out.below dx ju))⟩,rfl⟩,?_⟩
       refine bF ?_
       unfold dh cC
       dsimp only
       clear dF qR
       change wpList _ _ _ _ _ _
       have G:=aH (B.out.trans ((W.out.below dx ju).mono B.out.size))
       rcases ER.out with⟨rfl,ok⟩ | ⟨rfl,no⟩
       ·go_wp2_with fail
        go_ret
        exact⟨⟨aj,rfl,⟨λ_=>⟨KM.out,by rw[f.out.2.2.2.2.1,f.out.2.2.2.2.2];exact ok⟩,λ_=>rfl⟩,G.out⟩⟩
       ·go_wp2_with fail
        go_ret
        exact⟨⟨ah,rfl,⟨λe=>by(cases e),λh=>absurd (by have:=h.2;rw[f.out.2.2.2.2.1,f.out.2.2.2.2.2]at this;exact this) no⟩,G.out⟩⟩
      ·simp only[pick,aV,a8,aQ,aR]
       refine aS rfl ?_ rfl
       obtain⟨y8,Yo,a0,a3⟩:=bG y4 #[aC ah,ay az 0,ay az 0] 67
       go_wp2_with fail
       obtain⟨o,r⟩:=bP y4.heap.size
       obtain⟨g8,se⟩:=bP (tg g4 o 99)
       have c8:Ch [] g4 y4 g8 y8:=by rw[<-se];exact(Ch.bh [] g4 a0.out).tg (by rw[<-r];exact bT _)
       have a5:=aH (show Row y8 g8 99 o _ _ from⟨by rw[<-r];exact a3.out,by rw[<-se];exact dG _ _ _⟩)
       have A:=aH (show t.heap.size<=o from by rw[<-r];exact D.out.size)
       have X:=aH (D.out.trans c8.any)
       have a1:=aH (Z.out.ch c8 (by decide))
       try rw[r]
       clear c8 se r
       refine⟨⟨⟨_,(x.out _ (X.out.below dx ju))⟩,rfl⟩,?_⟩
       refine aS rfl ?_ rfl
       go_wp2_with fail
       refine(yS ak sm base F E g8 a1.out (by decide) (by have:=s.out.lr;rw[f.out.2.2.2.2.1]at this;exact this) (by have:=s.out.kl;rw[f.out.2.2.2.2.1]at this;exact this) s.out.b s.out.b2 (by have:=s.out.sm;rw[f.out.2.2.2.1]at this;exact this)).mono ?_
       rintro e y9 ⟨ev,f0,f1,f2,er,g9,rfl,I,c9⟩
       have Y:=aH (X.out.trans c9)
       have ER:=aH I
       have a6:=aH (a5.out.ch c9 (by decide))
       clear c9 I
       go_wp2_with fail
       refine⟨⟨⟨_,(x.out _ (Y.out.below dx ju))⟩,rfl⟩,?_⟩
       refine aX 5 (by kernel_rfl) ?_
       simp only[aJ,aO,aI,aL]
       repeat (go_big_quiet_step (fail))
       refine aU ?_
       refine aS rfl ?_ rfl
       have bk:=eH a6.out.row
       go_wp2_with fail
       obtain⟨zG,O'⟩:=bP (((y9.setCell ⟨o,0,ae⟩ (.bool f0)).setCell ⟨o,1,ae⟩ (ay az f1)).setCell ⟨o,2,ae⟩ (ay az f2))
       have ai:=aH (show Ch TN WG t g9 zG from by rw[<-O'];exact((Y.out.set _ (.inr A.out)).set _ (.inr A.out)).set _ (.inr A.out))
       try rw[O']
       clear bk O'
       refine⟨⟨⟨_,(x.out _ (ai.out.below dx ju))⟩,rfl⟩,?_⟩
       refine bF ?_
       unfold dh cC
       dsimp only
       clear dF qR
       change wpList _ _ _ _ _ _
       have G:=aH (B.out.trans ((ai.out.below dx ju).mono B.out.size))
       rcases ER.out with⟨rfl,ok⟩ | ⟨rfl,no⟩
       ·go_wp2_with fail
        go_ret
        exact⟨⟨aj,rfl,⟨λ_=>⟨KM.out,by rw[f.out.2.2.2.2.1,f.out.2.2.2.2.2];exact ok⟩,λ_=>rfl⟩,G.out⟩⟩
       ·go_wp2_with fail
        go_ret
        exact⟨⟨ah,rfl,⟨λe=>by(cases e),λh=>absurd (by have:=h.2;rw[f.out.2.2.2.2.1,f.out.2.2.2.2.2]at this;exact this) no⟩,G.out⟩⟩
     ·simp only[pick,aV,a8,aQ,aR]
      refine aS rfl ?_ rfl
      obtain⟨Ef,Gk,VP,a'⟩:=bG t.drew #[aC ah,ay az 0,ay az 0] 67
      go_wp2_with fail
      obtain⟨o,r⟩:=bP t.heap.size
      obtain⟨Yy,M⟩:=bP (tg WG o 99)
      have Bo:Ch [] WG t.drew Yy Ef:=by rw[<-M];exact(Ch.bh [] WG VP.out).tg (by rw[<-r];exact bT _)
      have bc:=aH (show Row Ef Yy 99 o _ _ from⟨by rw[<-r];exact a'.out,by rw[<-M];exact dG _ _ _⟩)
      have A:=aH (show t.heap.size<=o from by rw[<-r];exact C.out.size)
      have af:=aH (C.out.trans Bo.any)
      try rw[r]
      clear Bo M r
      refine⟨⟨⟨_,(x.out _ (af.out.below dx ju))⟩,rfl⟩,?_⟩
      refine aS rfl ?_ rfl
      go_wp2_with fail
      refine(xu 16777216 _ Yy (by decide)).mono ?_
      rintro e Ee ⟨be,rfl,Ev,N⟩
      obtain⟨a9,aa⟩:=bP (Ef.heap.size+2)
      rw[aa]at N ⊢
      have ad:=aH (af.out.trans Ev.any)
      have bd:=aH N
      have bb:=aH (bc.out.ch Ev (by simp))
      clear Ev N aa
      go_wp2_with fail
      refine⟨⟨⟨_,(x.out _ (ad.out.below dx ju))⟩,rfl⟩,?_⟩
      refine aS rfl ?_ rfl
      go_wp2_with fail
      refine(yS a9 sm base F E be bd.out (by decide) (by have:=s.out.lr;rw[f.out.2.2.2.2.1]at this;exact this) (by have:=s.out.kl;rw[f.out.2.2.2.2.1]at this;exact this) s.out.b s.out.b2 (by have:=s.out.sm;rw[f.out.2.2.2.1]at this;exact this)).mono ?_
      rintro e ED ⟨ev,f0,f1,f2,er,bg,rfl,I,J0⟩
      have ac:=aH (ad.out.trans J0)
      have ER:=aH I
      have ba:=aH (bb.out.ch J0 (by decide))
      clear J0 I
      go_wp2_with fail
      refine⟨⟨⟨_,(x.out _ (ac.out.below dx ju))⟩,rfl⟩,?_⟩
      refine aX 5 (by kernel_rfl) ?_
      simp only[aJ,aO,aI,aL]
      repeat (go_big_quiet_step (fail))
      refine aU ?_
      refine aS rfl ?_ rfl
      have bl:=eH ba.out.row
      go_wp2_with fail
      obtain⟨NF,yx⟩:=bP (((ED.setCell ⟨o,0,ae⟩ (.bool f0)).setCell ⟨o,1,ae⟩ (ay az f1)).setCell ⟨o,2,ae⟩ (ay az f2))
      have ab:=aH (show Ch TN WG t bg NF from by rw[<-yx];exact((ac.out.set _ (.inr A.out)).set _ (.inr A.out)).set _ (.inr A.out))
      try rw[yx]
      clear bl yx
      refine⟨⟨⟨_,(x.out _ (ab.out.below dx ju))⟩,rfl⟩,?_⟩
      refine bF ?_
      unfold dh cC
      dsimp only
      clear dF qR
      change wpList _ _ _ _ _ _
      have G:=aH (B.out.trans ((ab.out.below dx ju).mono B.out.size))
      rcases ER.out with⟨rfl,ok⟩ | ⟨rfl,no⟩
      ·go_wp2_with fail
       go_ret
       exact⟨⟨aj,rfl,⟨λ_=>⟨KM.out,by rw[f.out.2.2.2.2.1,f.out.2.2.2.2.2];exact ok⟩,λ_=>rfl⟩,G.out⟩⟩
      ·go_wp2_with fail
       go_ret
       exact⟨⟨ah,rfl,⟨λe=>by(cases e),λh=>absurd (by have:=h.2;rw[f.out.2.2.2.2.1,f.out.2.2.2.2.2]at this;exact this) no⟩,G.out⟩⟩
end
end Go.Proofs.YtooinenkenobaaaGreat

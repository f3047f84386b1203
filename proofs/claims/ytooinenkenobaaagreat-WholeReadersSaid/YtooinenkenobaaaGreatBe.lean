/- A part of the proof of what LawWholeReaders says. -/
import Derived.Test.YtooinenkenobaaaGreatAa
import Derived.Test.YtooinenkenobaaaGreatBc
import Derived.Test.YtooinenkenobaaaGreatBd
import Derived.Test.YtooinenkenobaaaGreatBb
set_option maxRecDepth 100000
set_option maxHeartbeats 20000000
namespace Go.Proofs.YtooinenkenobaaaGreat
open Option renaming none->ae,some->ag
open Bool renaming false->ah,true->aj
open Go.Proofs.Tryz renaming prog->ax
open Go.Value renaming int->ay,pointer->aA,slice->aB,bool->aC,float->aD
open Go.IntKind renaming i64->az
open Go.FloatKind renaming f64->aE
open Go.Ending renaming returned->aF
open Go.Obj renaming cells->aG
open Go renaming World->am,Value->ar,TypeId->au,Calls->aw
section
open Go
section
variable{P:Program}{ops:Array Oper}{md:Region.Mode}{C:am->Prop}
def Gx(P:Program)(md:Region.Mode)(ops:Array Oper)(C:am->Prop)(n:Nat)(L:Array Bool->Act->Prop):Nat->Array Bool->Act->Prop
 | 0,bw,a=>L bw a
 | f+1,bw,a=>Region.ready md ops bw≠[]/\∀i∈Region.ready md ops bw,i<n/\qOp P ops C i (Gx P md ops C n L f (bw.setIfInBounds i aj)) a
theorem DN{n g:Nat}{L:Array Bool->Act->Prop}{R:Exit->Act->am->Prop}(l:∀b a w,C w->L b a->wpAny P md ops R g b a w):
 ∀(f:Nat) (b:Array Bool) (a:Act) (w:am),C w->Gx P md ops C n L f b a->wpAny P md ops R (f+g) b a w:=by
 intro f
 induction f with
 | zero=>intro b a w c h;rw[cL];exact l _ _ _ c h
 | succ f ih=>
  intro b a w c h
  rw[show f+1+g=(f+g)+1 by omega]
  exact⟨λk=>absurd k h.1,λi m=>wpOp_of_qOp c (λe w' d j=>ih _ e w' d j) (h.2 i m).2⟩
theorem Gw{n i:Nat}{q:Oper}{v:ar}{L:Array Bool->Act->Prop}(y:ops[i]?=ag q)(I:∀(j:Nat) (o:Oper) cs b,ops[j]?=ag o->o.op≠.select cs b)
 (G:Region.sinkB md ops n=aj) (E:Region.chainB md ops n=aj) (F:n<ops.size) (K:i<n) (Y:∀c a,L c a->∀j∈Region.ready md ops c,n<=j):
 ∀(f:Nat) (c:Array Bool) (a:Act),HeadInv md ops n c->
  (∀j p,ops[j]?=ag p->j≠i->c.getD j aj=ah->(∀e∈p.after,Region.binds md e=aj->e.on≠i)->q.apart ops p=aj)->
  i∈Region.ready md ops c->YieldsIn P ops C q v a->
  Gx P md ops C n L f (c.setIfInBounds i aj) (a.put q.dst v)->Gx P md ops C n L (f+1) c a:=by
 intro f
 induction f with
 | zero=>
  intro c a d _ g t H
  have u:=(tA.1 g).1
  refine⟨λh=>(by rw[h]at g;cases g),λj m=>?_⟩
  have r:j<n:=(cg j n).elim id λh=>absurd m (tail_waits G E F d _ i rfl K u j h)
  refine⟨r,?_⟩
  by_cases l:j=i
  ·subst l;exact t.qOp y H
  ·have:=Y _ _ H j (pB m l)
   omega
 | succ f ih=>
  intro c a d J g t H
  have u:=(tA.1 g).1
  refine⟨λh=>(by rw[h]at g;cases g),λj m=>?_⟩
  have r:j<n:=(cg j n).elim id λh=>absurd m (tail_waits G E F d _ i rfl K u j h)
  refine⟨r,?_⟩
  by_cases l:j=i
  ·subst l;exact t.qOp y H
  ·have s:=(H.2 j (pB m l)).2
   obtain⟨M,p,w,X⟩:=tA.1 m
   have O:∀e∈p.after,Region.binds md e=aj->e.on≠i:=λe U T x=>by
    have s:=X e U T
    rw[x,getD_both u]at s
    cases s
   have S:=qOp_put w (J j p w l M O) (λcs b=>I i q cs b y) (λcs b=>I j p cs b w) t s
   refine qOp_mono (λQ D=>ih (c.setIfInBounds j aj) Q (d.set m r) (λk W V z A N=>?_) (pB g (cQ l)) D.1 ?_) S
   ·refine J k W V z ?_ N
    by_cases B:j=k
    ·subst B;exact M
    ·rw[getD_set_ne aj B]at A;exact A
   ·rw[V0 _ _ l]
    exact D.2
theorem Pe{n g:Nat}{m:Act->Prop}(F:Region.noSelect ops=aj)(D:Region.sinkB md ops n=aj)(y:Region.chainB md ops n=aj)(A:n<ops.size):
 ∀(l:List Oper) (k:Nat) (b:Array Bool) (a:Act),(∀j,j<l.length->l[j]?=ops[k+j]?)->k+l.length=n->HeadInv md ops n b->
 Region.lexHead md ops g l.length k b=aj->wpQuiet P ops C m l a->Gx P md ops C n (λr q=>Region.seqB md ops g n r=aj/\m q) l.length b a:=by
 intro l
 induction l with
 | nil=>
  intro k b a _ i _ f h
  obtain rfl:k=n:=by simpa using i
  exact⟨by simpa[Region.lexHead]using f,h⟩
 | cons o l ih=>
  intro k b a s i d f h
  have e:ops[k]?=ag o:=by simpa using(s 0 (by simp)).symm
  simp only[bV,Region.lexHead,co]at f
  obtain⟨⟨B,z⟩,u⟩:=f
  have c:k<n:=by simp only[bV]at i;omega
  have p:k∈Region.ready md ops b:=by simpa using B
  have t:qOp P ops C k (wpQuiet P ops C m l) a:=by unfold qOp;simp only[e];exact h
  obtain⟨v,E,w⟩:=yieldsIn_of_qOp e t
  exact Gw e (sA F) D y A c (λr q x=>ZF x.1) l.length b a d (Ii e z) p E
   (ih (k+1) _ _ (λj G=>by have:=s (j+1) (by simp;omega);simpa[Nat.add_assoc,Nat.add_comm 1 j]using this) (by simp only[bV]at i;omega) (d.set p c) u w)
theorem qL{id:Nat}{Q:Exit->Act->am->Prop}{a:Act}{w:am}{l:List Oper}(n:Nat)(y:P.follows .mixedOrders=aj)(e:Region.lexTailB .any l.toArray n=aj)(u:C { w with drawn:=w.drawn+1 })
 (h:wpQuiet P l.toArray C (λc=>∀w',C w'->wpList P l.toArray Q (l.drop n) c w') (l.take n) a):(Code.region id l.toArray aj).wp P Q a w:=by
 simp only[Region.lexTailB,co,dH]at e
 obtain⟨⟨⟨⟨D,m⟩,A⟩,x⟩,d⟩:=e
 have z:n<l.length:=by simpa using m
 have b:(l.take n).length=n:=by simp;omega
 have o:(l.drop n).length=l.toArray.size-n:=by simp
 have p:HeadInv .any l.toArray n (Array.replicate l.toArray.size ah):=
  ⟨by simp,λj E _ k=>(by rw[jr]at k;cases k),λt _ B=>getD_in (by simpa using B) (jr _ _)⟩
 have H:=Pe (md:=.any) (g:=l.toArray.size-n) D A x m (l.take n) 0 _ a (λj i=>by
  have q:j<n:=by rw[b]at i;exact i
  simp[q]) (by simpa using b) p (by rw[b];exact d) h
 refine ID y ?_
 have:=DN (R:=Q) (g:=l.toArray.size-n) (λs c w' r f=>by
  have:=wpAny_of_seq (md:=.any) (Q':=Q) (l.drop n) n s c w' (λj=>by simp) (by rw[o];exact f.1) (f.2 w' r)
  rwa [o]at this) _ _ _ _ u H
 rw[b,show n+(l.toArray.size-n)=l.toArray.size by omega]at this
 exact this
end
theorem cj{P:Program}{id:Nat}{Q:Exit->Act->am->Prop}{a:Act}{w:am}{l:List Oper}(n:Nat)(d:P.follows .mixedOrders=aj)(c:Region.lexTailB .any l.toArray n=aj)
 (h:wpQuiet P l.toArray (λw'=>∃n,w'=w.drewN n) (λb=>∀w',(∃n,w'=w.drewN n)->wpList P l.toArray Q (l.drop n) b w') (l.take n) a):(Code.region id l.toArray aj).wp P Q a w:=
 qL (C:=λw'=>∃n,w'=w.drewN n) n d c ⟨1,rfl⟩ h
end
section
open Go.RowKit
theorem PY(c d b a n g i:Nat)(L:List jo)(lsn:Int)(W:am)(l:W.cell? ⟨c,2,ae⟩=ag (aB (ag ⟨b,a,ae⟩) n g))(o:W.cell? ⟨d,0,ae⟩=ag (ay az lsn))(f:oF W (ag ⟨b,a,ae⟩) L)(m:i<n)(j:L.length=n):
 aw ax 74 (#[ay az i]++#[aA (ag ⟨c,0,ae⟩),aA (ag ⟨d,0,ae⟩)]) W λe w'=>e=aF (aC (decide (lsn<(di L i).base)))/\∃q,w'=W.drewN q:=by
 obtain⟨-,-,k,-,-,-⟩:=f.get (i:=i) (by omega)
 have h:(i:Int)<(n:Int):=by omega
 clear f j
 go_in
 go_wp2_with fail
 go_quiet (fail)
 go_wp2_with fail
 go_ret
 exact⟨rfl,nq,rfl⟩
def ajY(c:xg)(lsn:Int)(i:Nat)(a:Bool):Prop:=(zx c/\c.first<=lsn/\a=aj/\AtC c lsn i)\/(¬(zx c/\c.first<=lsn)/\a=ah/\i=0)
theorem adg(a first lsn:Int)(m:Option Addr)(n g:Nat)(L:List jo)(w:am)(u:L.length=n)(hA:zE w (.agg #[ay az a,ay az first,aB m n g]) ⟨a,first,L⟩):
 aw ax 52 #[.agg #[ay az a,ay az first,aB m n g],ay az lsn] w λe w'=>∃(i:Nat) (ok:Bool),ajY ⟨a,first,L⟩ lsn i ok/\e=aF (.tuple #[ay az i,.bool ok])/\Below w.heap.size w w':=by
 have H:=aY w (aG #[ay az a,ay az first,aB m n g] 157)
 have l:=bp w (aG #[ay az a,ay az first,aB m n g] 157)
 obtain⟨p,W⟩:=bP (w.alloc (aG #[ay az a,ay az first,aB m n g] 157))
 rw[W]at H l
 have f:=aY p (aG #[ay az lsn] 2)
 have G:=bp p (aG #[ay az lsn] 2)
 obtain⟨w2,O⟩:=bP (p.alloc (aG #[ay az lsn] 2))
 rw[O]at G
 rw[O]at f
 have k0:=bL f (aZ 0 l)
 have k1:=bL f (aZ 1 l)
 have k2:=bL f (aZ 2 l)
 have k3:=aZ 0 G
 have S:=aH (aM H f)
 have Q:=aH (hA.below S.out)
 have HN:=aH u
 clear H f l G hA u
 go_in
 obtain⟨t,ht⟩:∃t:Bool,t=aj↔zx ⟨a,first,L⟩:=by
  by_cases h:zx ⟨a,first,L⟩
  ·exact⟨aj,by simp[h]⟩
  ·exact⟨ah,by simp[h]⟩
 have D:=aH ht
 clear ht
 go_wp2_with fail
 refine(Mx w2 Q.out t D.out).mono ?_
 rintro e w3 ⟨rfl,d⟩
 have K0:=bL d k0
 have K1:=bL d k1
 have T:=bL d k2
 have U:=bL d k3
 have B:=aH (Q.out.below d)
 have c:=aH (aM S.out d)
 clear d k0 k1 k2 k3 W O
 cases t
 ·go_wp2_with fail
  go_ret2
  exact⟨0,ah,.inr ⟨λh=>absurd (D.out.2 h.1) (by simp),rfl,rfl⟩,rfl,c.out⟩
 ·by_cases X:first<=lsn
  ·have M:=aH (D.out.1 rfl)
   have A:=aH X
   go_wp2_with fail
   have s:=M.out
   obtain⟨xA,JZ,r,z,o,Ix,-⟩:=B.out.shape
   injection r with r
   simp only[Array.mk.injEq,jl,Value.slice.injEq,and_true,true_and]at r
   obtain⟨rfl,-,rfl⟩:=r
   dsimp only at z o Ix
   have E:=s.some
   dsimp only at E
   obtain⟨-,b,P,rfl,-⟩:=z 0 E
   have u:=HN.out
   have V:=vI 74 #[aA (ag ⟨w.heap.size,0,ae⟩),aA (ag ⟨p.heap.size,0,ae⟩)] n (λi=>decide (lsn<(di L i).base)) w3 (enters_of Tryz.func74 (by kernel_rfl) rfl) (by omega)
    (λw' i N hi=>(PY w.heap.size p.heap.size b P n g i L lsn w' (bL N T) (bL N U) (z.below N) hi u).mono (by rintro e zH ⟨rfl,q,rfl⟩;exact⟨rfl,below_drewN _ _⟩))
    (λx y ab hy hp=>by
     have h3:=dX hp
     have Y:=s.Fy (y-x) x (by dsimp only;omega)
     dsimp only at Y
     rw[show x+(y-x)=y by omega]at Y
     exact bM (by omega))
   refine V.mono ?_
   rintro e w4 ⟨k,rfl,⟨hk,Z,J⟩,qy⟩
   have aa:1<=k:=by
    rcases gV k with I | I
    ·subst I
     have h7:=dX (J 0 dx (by omega))
     have K:=s.low
     dsimp only at K
     omega
    ·exact I
   obtain⟨i,rfl⟩:∃i,k=i+1:=⟨k-1,by omega⟩
   have F:Hid (AtC ⟨a,first,L⟩ lsn i):=aH ⟨by dsimp only;omega,by have:=of_decide_eq_false (Z i (by omega));dsimp only;omega,λj h7 K=>dX (J j (by omega) (by dsimp only at K;omega))⟩
   have C:=aH (aM c.out qy)
   have hi:(i:Int)+1<=140737488355328:=by omega
   clear qy Z J V z o E s K0 K1 T U
   go_wp2_with fail
   go_ret2
   exact⟨i,aj,.inl ⟨M.out,A.out,rfl,F.out⟩,by simp,C.out⟩
  ·have A:=aH X
   go_wp2_with fail
   go_ret2
   exact⟨0,ah,.inr ⟨λh=>by have:=A.out;have:=h.2;dsimp only at this;omega,rfl,rfl⟩,rfl,c.out⟩
end
section
open Go.RowKit
theorem Tryz.Yj:(Tryz.prog.info? 2).map (λi=>(i.zero,i.size,i.bytes))=ag (ag (ay az 0),1,8):=by kernel_rfl
end
section
open Go
section
variable{P:Program}{ops:Array Oper}{md:Region.Mode}{C:am->Prop}
theorem Hx{Q:Exit->Act->am->Prop}{N:Act->am->Prop}{w:am}{a:Act}{o:Oper}(h:wpList P ops (Oy C Q N) [o] a w)(i:Region.wanted o (yielded ops a.tmps)=aj):
 o.wp P a w (λj w'=>C w'/\N j w') Q\/(o.asks P a w/\LetsOut Q):=by
 have g:LetsOut (Oy C Q N)->LetsOut Q:=λ⟨a,w,h⟩=>⟨a,w,h⟩
 rw[wpList]at h
 simp only[i,kP]at h ⊢
 rcases h with h | ⟨k,l⟩
 ·refine .inl ?_
  unfold Oper.wp at *
  generalize(execOp a.eval o).run P w=r at *
  cases r with
  | ok n w'=>
   cases n <;> simp only[Oper.upon]at h ⊢
   case value u=>exact h
   case skip=>exact h
   case defer d=>exact h
   case enter f args=>
    refine Calls.mono h λe m b=>?_
    cases e with
    | returned u=>exact b
    | panicked c=>exact b
    | outgrown=>exact g b
   case row row args=>exact h
  | halt x w'=>
   cases x <;> simp only[Oper.upon]at h ⊢
   case panic u=>exact h
 ·exact .inr ⟨k,g l⟩
theorem Rj{Q:Exit->Act->am->Prop}{i b:Nat}{o:Oper}{d:Array Bool}{a:Act}{w:am}{N:Act->am->Prop}(f:ops[i]?=ag o)(g:∀a w,C w->N a w->ut P md ops C Q b d a w)(c:Region.wanted o (yielded ops a.tmps)=aj)(h:wpList P ops (Oy C Q N) [o] a w):wpOp P ops Q i (ut P md ops C Q b d) a w:=by
 unfold wpOp
 simp only[f,c,kP]
 rcases Hx h c with h | h
 ·exact .inl (Oper.wp_mono (λe w' ⟨j,k⟩=>g e w' j k) h)
 ·exact .inr h
def Us(md:Region.Mode)(l:List Oper)(b:List Nat)(i j e:Nat)(a c d:List Nat):Bool:=
 Region.noSelect l.toArray&&decide (b.length+(a.length+2)=l.length)&&decide (a.length=d.length)&&decide (a.length+1=c.length)&&(b.all λk=>decide (k<l.length))&&((i::e::a).all λk=>decide (k<l.length))&&((j::c).all λk=>decide (k<l.length))&&((j::d).all λk=>decide (k<l.length)) &&
  !gA (l.getD e ⟨ae,.move (.tmp 0),0, "",#[],ae⟩).op&&!gA (l.getD j ⟨ae,.move (.tmp 0),0, "",#[],ae⟩).op &&
  match rP md l.toArray b (Array.replicate l.length ah)with
  | none=>ah
  | some li=>Region.ready md l.toArray li==[i,j]&&Region.ready md l.toArray (li.setIfInBounds i aj)==[e,j]&&kv md l.toArray a ((li.setIfInBounds i aj).setIfInBounds e aj)&&kv md l.toArray d ((li.setIfInBounds i aj).setIfInBounds j aj)&&kv md l.toArray c (li.setIfInBounds j aj)
theorem wG{id:Nat}{Q:Exit->Act->am->Prop}{a:Act}{w:am}{l:List Oper}(e:List Nat)(i j I:Nat)(f u q:List Nat)(R:am->Prop)(V:P.follows .mixedOrders=aj)(K:Us .any l e i j I f u q=aj)
 (x:∀c a d v w,Q (.panic c) (a.put d v) w->Q (.panic c) a w) (L:R w.drew)
 (h:Nonempty (In R)->wpQuiet P l.toArray (λw'=>∃p:In R,w'=p.w) (λb=>
  (Region.wanted (l.getD i ⟨ae,.move (.tmp 0),0, "",#[],ae⟩) (yielded l.toArray b.tmps)=aj/\
   wpList P l.toArray (Oy (λw'=>∃p:In R,w'=p.w) Q (λb w'=>fo P l.toArray (λw'=>∃p:In R,w'=p.w) Q (pick l (I::f)) b w'/\fo P l.toArray (λw'=>∃p:In R,w'=p.w) Q (pick l (j::q)) b w')) [l.getD i ⟨ae,.move (.tmp 0),0, "",#[],ae⟩] b w.drew)/\
  fo P l.toArray (λw'=>∃p:In R,w'=p.w) Q (pick l (j::u)) b w.drew) (pick l e) a):(Code.region id l.toArray aj).wp P Q a w:=by
 simp only[Us,co,dH,Bool.not_eq_true']at K
 obtain⟨⟨⟨⟨⟨⟨⟨⟨⟨⟨y,s⟩,F⟩,E⟩,T⟩,yK⟩,yJ⟩,S⟩,O⟩,t⟩,z⟩:=K
 have H:(∃p:In R,w.drew=p.w):=⟨⟨_,L⟩,rfl⟩
 refine ID V ?_
 split at z
 case h_1=>cases z
 case h_2 M Z=>
  simp only[co,aem]at z
  obtain⟨⟨⟨⟨N,J⟩,X⟩,Y⟩,U⟩:=z
  have A:=fQ yK
  have B:=fQ yJ
  have D:=fQ S
  simp only[aV,pick,jl]at A B D
  have sz:l.toArray.size=l.length:=by simp
  have o:∀(b:Act) (w':am),(∃p:In R,w'=p.w)->(fo P l.toArray (λw'=>∃p:In R,w'=p.w) Q (pick l (I::f)) b w'/\fo P l.toArray (λw'=>∃p:In R,w'=p.w) Q (pick l (j::q)) b w')->
   ut P .any l.toArray (λw'=>∃p:In R,w'=p.w) Q (f.length+1) (M.setIfInBounds i aj) b w':=by
   intro b w' m ⟨G,n⟩
   refine⟨m,λr=>(by rw[J]at r;cases r),λk g=>?_⟩
   rw[J]at g
   rcases cR.1 g with rfl | g
   ·exact lM y x A.2.1 O A.2.2 X m G
   ·obtain rfl:=cE.1 g
    rw[F]
    exact lM y x D.1 t D.2 Y m n
  have step:wpQuiet P l.toArray (λw'=>∃p:In R,w'=p.w) (λb=>ut P .any l.toArray (λw'=>∃p:In R,w'=p.w) Q (f.length+2) M b w.drew) (pick l e) a:=by
   refine nJ ?_ _ _ (h ⟨⟨_,L⟩⟩)
   intro b ⟨⟨W,G⟩,n⟩
   refine⟨H,λr=>(by rw[N]at r;cases r),λk m=>?_⟩
   rw[N]at m
   rcases cR.1 m with rfl | m
   ·exact Rj A.1 o W G
   ·obtain rfl:=cE.1 m
    rw[E]
    exact lM y x B.1 t B.2 U H n
  have:=nT _ _ _ _ (oE y x e (pick l e) _ a (fQ T) Z H step)
  rw[s]at this
  rw[sz]
  exact this
end
end
end Go.Proofs.YtooinenkenobaaaGreat

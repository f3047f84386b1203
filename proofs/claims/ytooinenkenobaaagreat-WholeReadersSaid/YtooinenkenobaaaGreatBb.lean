/- A part of the proof of what LawWholeReaders says. -/
import Derived.Test.YtooinenkenobaaaGreatAa
import Derived.Test.YtooinenkenobaaaGreatChecked
import Derived.Test.YtooinenkenobaaaGreatBa
set_option maxRecDepth 100000
set_option maxHeartbeats 20000000
namespace Go.Proofs.YtooinenkenobaaaGreat
open Option renaming none->ae,some->ag
open Bool renaming false->ah,true->aj
open Go.Proofs.Tryz renaming prog->ax
open Go.Value renaming int->ay,pointer->aA,slice->aB,bool->aC,float->aD
open Go.IntKind renaming i64->az
open Go.FloatKind renaming f64->aE
open Go.Ending renaming returned->aF
open Go.Obj renaming cells->aG
open Go renaming World->am,Value->ar,TypeId->au,Calls->aw
section
open Go
structure In(R:am->Prop) where
 w:am
 h:R w
def gA:Op->Bool
 | .move _ | .assign _ | .pick .. | .load .. | .nilCheck _ | .binOp .. | .unOp .. | .convert .. | .slice .. | .fieldAddr .. | .field .. | .indexAddr .. | .index .. | .extract ..=>aj
 | .call c=>match c.callee with
  | .builtin .len=>aj
  | .builtin .cap=>aj
  | _=>ah
 | _=>ah
section
variable{P:Program}{ops:Array Oper}{md:Region.Mode}{C:am->Prop}
def jJ(P:Program)(s:Sem Next):Prop:=∀(w w':am) (f:FuncId) (args:Array ar),s.run P w≠.ok (.enter f args) w'
theorem jJ.value(v:ar):jJ P (pure (.value v)):=λw w' f args=>by simp[Sem.run_pure]
theorem jJ.bind{α:Type}(s:Sem α){k:α->Sem Next}(h:∀x,jJ P (k x)):jJ P (s >>=k):=λw w' f args=>by
 rw[gG]
 cases s.run P w with
 | ok v w1=>exact h v w1 w' f args
 | halt x w1=>simp[Result.andThen]
theorem jJ.stop(x:Halt):jJ P (Sem.halt x):=λw w' f args h=>by cases h
theorem jJ.nil:jJ P (runtimePanic .nilDeref):=.bind _ λ_=>.stop _
theorem Sw{o:Oper}(h:gA o.op=aj)(ρ:Operand->ar):jJ P (execOp ρ o):=by
 obtain⟨e,op,a,g,d,guard⟩:=o
 cases op <;> simp only[gA]at h <;> simp only[execOp]
 case nilCheck x=>
  split
  ·exact .nil
  ·exact .nil
  ·exact .nil
  ·split
   ·exact .nil
   ·refine .bind _ λ_=>.bind _ λ_=>?_
    split
    ·exact .bind _ λ_=>.value _
    ·exact .value _
   ·exact .value _
  ·exact .value _
 case call c=>
  unfold resolve
  cases hc:c.callee with
  | value f=>simp[hc]at h
  | invoke r m=>simp[hc]at h
  | builtin b=>
   cases b <;> simp[hc]at h
   ·intro w w' f args
    rw[gG,Sem.run_pure,ae']
    show Sem.run P (do pure (Next.value (<-Builtin.cap_ c.argTypes a (c.args.map ρ)))) w≠_
    exact(jJ.bind (P:=P) (Builtin.cap_ _ _ _) λ_=>.value _) w w' f args
   ·intro w w' f args
    rw[gG,Sem.run_pure,ae']
    show Sem.run P (do pure (Next.value (<-Builtin.len_ c.argTypes a (c.args.map ρ)))) w≠_
    exact(jJ.bind (P:=P) (Builtin.len_ _ _ _) λ_=>.value _) w w' f args
 all_goals first | exact .value _ | (refine .bind _ λ_=>?_;exact .value _) | cases h
theorem nP{o:Oper}{a:Act}{w:am}{v:ar}(h:gA o.op=aj)(b:o.quietAt P a C w v):
 (execOp a.eval o).run P w=.ok (.value v) w\/(execOp a.eval o).run P w=.ok .skip w/\v=undef:=by
 have c:=Sw (P:=P) h a.eval
 unfold Oper.quietAt at b
 generalize d:(execOp a.eval o).run P w=r at b
 cases r with
 | ok n w'=>
  cases n <;> simp only[Oper.quietUpon]at b
  case value u=>obtain⟨rfl,rfl⟩:=b;exact .inl rfl
  case skip=>obtain⟨rfl,rfl⟩:=b;exact .inr ⟨rfl,rfl⟩
  case enter f args=>exact absurd d (c _ _ _ _)
 | halt x w'=>simp only[Oper.quietUpon]at b
def ut(P:Program)(md:Region.Mode)(ops:Array Oper)(C:am->Prop)(Q:Exit->Act->am->Prop):Nat->Array Bool->Act->am->Prop
 | 0,bw,a,w=>C w/\Region.ready md ops bw=[]/\Q .normal a w
 | fuel+1,bw,a,w=>C w/\(Region.ready md ops bw=[]->Q .normal a w)/\
  ∀i∈Region.ready md ops bw,wpOp P ops Q i (ut P md ops C Q fuel (bw.setIfInBounds i aj)) a w
theorem nT{Q:Exit->Act->am->Prop}:∀(b:Nat) (c:Array Bool) (a:Act) (w:am),ut P md ops C Q b c a w->wpAny P md ops Q b c a w
 | 0,_,_,_,h=>h.2
 | b+1,_,_,_,h=>⟨h.2.1,λi e=>wpOp_mono (λd w'=>nT b _ d w') (h.2.2 i e)⟩
def kV(P:Program)(ops:Array Oper)(C:am->Prop)(o:Oper)(v:ar)(a:Act):Prop:=
 (Region.wanted o (yielded ops a.tmps)=aj/\∀w,C w->(execOp a.eval o).run P w=.ok (.value v) w\/(execOp a.eval o).run P w=.ok .skip w/\v=undef)\/
 (Region.wanted o (yielded ops a.tmps)=ah/\v=undef)
theorem kV.wpOp{i:Nat}{o:Oper}{v:ar}{a:Act}{Q:Exit->Act->am->Prop}(c:ops[i]?=ag o)(g:kV P ops C o v a){K:Act->am->Prop}{w:am}(f:C w)(h:K (a.put o.dst v) w):wpOp P ops Q i K a w:=by
 unfold Go.wpOp
 simp only[c]
 rcases g with⟨b,d⟩ | ⟨b,rfl⟩
 ·simp only[b,kP]
  refine .inl ?_
  unfold Oper.wp
  rcases d w f with e | ⟨e,rfl⟩
  ·rw[e];exact h
  ·rw[e];exact h
 ·simp only[b,tC,if_false];exact h
theorem kV.of_same{o:Oper}{v:ar}{a b:Act}(e:kV P ops C o v a)(c:execOp b.eval o=execOp a.eval o)
 (d:Region.wanted o (yielded ops b.tmps)=Region.wanted o (yielded ops a.tmps)):kV P ops C o v b:=by
 unfold kV at *
 rw[c,d]
 exact e
theorem sN{j:Nat}{g i:Oper}{v:ar}{Q:Exit->Act->am->Prop}(G:ops[j]?=ag i)(z:g.apart ops i=aj)
 (A:∀cs b,g.op≠.select cs b) (q:∀cs b,i.op≠.select cs b)
 (F:∀c a d v w,Q (.panic c) (a.put d v) w->Q (.panic c) a w) {K:Act->am->Prop} {a:Act} {w:am}
 (k:kV P ops C g v a) (h:wpOp P ops Q j K (a.put g.dst v) w):
 wpOp P ops Q j (λD w'=>kV P ops C g v D/\K (D.put g.dst v) w') a w:=by
 obtain⟨y,m,E⟩:=Oper.apart_spec z
 have l:∀(a:Act),kV P ops C g v a->∀u,kV P ops C g v (a.put i.dst u):=λa k u=>
  k.of_same (execOp_put g A a i.dst u E) (wanted_put g a i.dst u E)
 have s:∀d,kV P ops C g v { a with defers:=d::a.defers }:=λd=>k.of_same rfl rfl
 unfold wpOp at *
 simp only[G]at *
 rw[wanted_put i a g.dst v y]at h
 split
 ·rename_i B
  simp only[B,kP]at h
  rcases h with h | ⟨o,t⟩
  case inr=>exact .inr ⟨by unfold Oper.asks at *;rw[execOp_put i q a g.dst v y]at o;exact o,t⟩
  refine .inl ?_
  unfold Oper.wp at *
  rw[execOp_put i q a g.dst v y]at h
  generalize(execOp a.eval i).run P w=r at *
  cases r with
  | ok n w'=>
   cases n <;> simp only[Oper.upon]at h ⊢
   case value u=>exact⟨l a k u,by rw[<-Act.put_comm a v u m];exact h⟩
   case skip=>exact⟨l a k _,by rw[<-Act.put_comm a v undef m];exact h⟩
   case defer d=>
    refine⟨l _ (s d) _,?_⟩
    rw[<-Act.put_comm _ v undef m,<-Act.put_defers]
    exact h
   case enter f args=>
    refine Calls.mono h λe H p=>?_
    cases e with
    | returned u=>exact⟨l a k u,by rw[<-Act.put_comm a v u m];exact p⟩
    | panicked c=>exact F _ _ _ _ _ p
    | outgrown=>exact p
   case row row args=>exact Rows.mono h λu H p=>⟨l a k u,by rw[<-Act.put_comm a v u m];exact p⟩
  | halt x w'=>
   cases x <;> simp only[Oper.upon]at h ⊢
   case panic u=>exact F _ _ _ _ _ h
 ·rename_i B
  simp only[B]at h
  exact⟨l a k _,by rw[<-Act.put_comm a v undef m];exact h⟩
theorem zo{Q:Exit->Act->am->Prop}{i:Nat}{q:Oper}{v:ar}(A:ops[i]?=ag q)(G:∀(j:Nat) (o:Oper) cs b,ops[j]?=ag o->o.op≠.select cs b)
 (S:∀c a d v w,Q (.panic c) (a.put d v) w->Q (.panic c) a w):
 ∀(f:Nat) (g:Array Bool) (a:Act) (w:am),
  (∀j p,ops[j]?=ag p->j≠i->g.getD j aj=ah->(∀e∈p.after,Region.binds md e=aj->e.on≠i)->q.apart ops p=aj)->
  i∈Region.ready md ops g->kV P ops C q v a->
  ut P md ops C Q f (g.setIfInBounds i aj) (a.put q.dst v) w->ut P md ops C Q (f+1) g a w:=by
 intro f
 induction f with
 | zero=>
  intro g a w _ n t H
  refine⟨H.1,λh=>(by rw[h]at n;cases n),λj s=>?_⟩
  by_cases l:j=i
  ·subst l;exact t.wpOp A H.1 H
  ·have:=pB s l
   rw[H.2.1]at this
   cases this
 | succ f ih=>
  intro g a w I n t H
  refine⟨H.1,λh=>(by rw[h]at n;cases n),λj s=>?_⟩
  by_cases l:j=i
  ·subst l;exact t.wpOp A H.1 H
  ·have m:=H.2.2 j (pB s l)
   obtain⟨K,p,u,W⟩:=tA.1 s
   have M:∀e∈p.after,Region.binds md e=aj->e.on≠i:=λe U T z=>by
    have m:=W e U T
    have E:=(tA.1 n).1
    rw[z]at m
    rcases cg i g.size with y | y
    ·simp[y]at E m;rw[E]at m;cases m
    ·simp[Array.getElem?_eq_none y]at m
   have O:=sN u (I j p u l K M) (λcs b=>G i q cs b A) (λcs b=>G j p cs b u) S t m
   have x:∀k r,ops[k]?=ag r->k≠i->(g.setIfInBounds j aj).getD k aj=ah->
    (∀e∈r.after,Region.binds md e=aj->e.on≠i)->q.apart ops r=aj:=λk r V B J L=>by
    refine I k r V B ?_ L
    by_cases D:j=k
    ·subst D;exact K
    ·rw[getD_set_ne aj D]at J;exact J
   refine wpOp_mono (λN w' F=>ih (g.setIfInBounds j aj) N w' x (pB n (cQ l)) F.1 ?_) O
   rw[V0 _ _ l]
   exact F.2
def kv(md:Region.Mode)(ops:Array Oper):List Nat->Array Bool->Bool
 | [],bw=>(Region.ready md ops bw).isEmpty
 | i::l,bw=>(match ops[i]? with
  | none=>ah
  | some o=>if gA o.op then(Region.ready md ops bw).contains i&&Region.free md ops bw i else Region.ready md ops bw==[i])&&kv md ops l (bw.setIfInBounds i aj)
def agz(md:Region.Mode)(ops:Array Oper)(π:List Nat):Bool:=Region.noSelect ops&&π.length==ops.size&&kv md ops π (Array.replicate ops.size ah)
def fo(P:Program)(ops:Array Oper)(C:am->Prop)(Q:Exit->Act->am->Prop):List Oper->Act->am->Prop
 | [],a,w=>Q .normal a w
 | o::rest,a,w=>
  if Region.wanted o (yielded ops a.tmps)then
   if gA o.op then ∃v,(∀w,C w->o.quietAt P a C w v)/\fo P ops C Q rest (a.put o.dst v) w
   else o.wp P a w (λb w'=>C w'/\fo P ops C Q rest b w') Q\/(o.asks P a w/\LetsOut Q)
  else fo P ops C Q rest (a.put o.dst undef) w
theorem jX{Q:Exit->Act->am->Prop}(q:Region.noSelect ops=aj)(n:∀c a d v w,Q (.panic c) (a.put d v) w->Q (.panic c) a w):∀(π:List Nat) (l:List Oper) (f:Array Bool) (a:Act) (w:am),π.map (ops[·]?)=l.map ag->
 kv md ops π f=aj->C w->fo P ops C Q l a w->ut P md ops C Q π.length f a w
 | [],[],f,a,w,_,hB,hC,h=>⟨hC,by simpa[kv]using hB,h⟩
 | [],_::_,_,_,_,b,_,_,_=>by simp at b
 | _::_,[],_,_,_,b,_,_,_=>by simp at b
 | i::π,o::l,f,a,w,b,hB,hC,h=>by
  simp only[aV,jl]at b
  obtain⟨m,b⟩:=b
  simp only[kv,m,co]at hB
  obtain⟨k,r⟩:=hB
  rw[bV]
  by_cases g:gA o.op=aj
  ·simp only[g,kP,co]at k
   obtain⟨p,z⟩:=k
   have key:∃v,kV P ops C o v a/\fo P ops C Q l (a.put o.dst v) w:=by
    rw[fo]at h
    by_cases e:Region.wanted o (yielded ops a.tmps)=aj
    ·simp only[e,g,kP]at h
     obtain⟨v,B,s⟩:=h
     exact⟨v,.inl ⟨e,λw' x=>nP g (B w' x)⟩,s⟩
    ·simp only[e]at h
     exact⟨undef,.inr ⟨by simpa using e,rfl⟩,h⟩
   obtain⟨v,D,s⟩:=key
   exact zo m (sA q) n π.length f a w (Ii m z) (by simpa using p) D
    (jX q n π l _ _ _ b r hC s)
  ·simp only[g]at k
   have p:Region.ready md ops f=[i]:=by simpa using k
   refine⟨hC,λt=>(by rw[p]at t;cases t),λj u=>?_⟩
   rw[p]at u
   obtain rfl:=cE.1 u
   rw[fo]at h
   unfold wpOp
   simp only[m]
   by_cases e:Region.wanted o (yielded ops a.tmps)=aj
   ·simp only[e,g,kP]at h ⊢
    rcases h with h | h
    ·exact .inl (Oper.wp_mono (λE w' ⟨y,A⟩=>jX q n π l _ _ _ b r y A) h)
    ·exact .inr h
   ·simp only[e]at h ⊢
    exact jX q n π l _ _ _ b r hC h
def pick(l:List Oper)(π:List Nat):List Oper:=π.map λi=>l.getD i ⟨ae,.move (.tmp 0),0, "",#[],ae⟩
theorem fQ{l:List Oper}:∀{π:List Nat},(π.all λi=>decide (i<l.length))=aj->π.map (l.toArray[·]?)=(pick l π).map ag
 | [],_=>rfl
 | i::π,h=>by
  simp only[List.all_cons,co,dH]at h
  have:=fQ (π:=π) (l:=l) h.2
  unfold pick at *
  rw[aV,aV,aV,this]
  simp[h.1]
theorem bX{id:Nat}{Q:Exit->Act->am->Prop}{a:Act}{w:am}{l:List Oper}(π:List Nat)(R:am->Prop)(g:P.follows .mixedOrders=aj)(b:(agz .any l.toArray π&&π.all λi=>decide (i<l.length))=aj)
 (f:∀c a d v w,Q (.panic c) (a.put d v) w->Q (.panic c) a w) (e:R w.drew) (h:Nonempty (In R)->fo P l.toArray (λw'=>∃p:In R,w'=p.w) Q (pick l π) a w.drew):(Code.region id l.toArray aj).wp P Q a w:=by
 simp only[agz,co,aem]at b
 refine ID g ?_
 have:=nT _ _ _ _ (jX b.1.1.1 f π (pick l π) _ _ _ (fQ b.2) b.1.2 ⟨⟨_,e⟩,rfl⟩ (h ⟨⟨_,e⟩⟩))
 rwa [b.1.1.2]at this
theorem bF{Q:Exit->Act->am->Prop}{a:Act}{w:am}(h:Q .normal a w):fo P ops C Q [] a w:=h
theorem qN{Q:Exit->Act->am->Prop}{w:am}:∀(l b:List Oper) (a:Act),(l.all λo=>gA o.op)=aj->wpQuiet P ops C (λd=>fo P ops C Q b d w) l a->fo P ops C Q (l++b) a w
 | [],_,_,_,h=>h
 | o::l,b,a,hp,h=>by
  simp only[List.all_cons,co]at hp
  rw[eF,fo]
  rw[wpQuiet]at h
  split
  ·rename_i c
   simp only[c,hp.1,kP]at h ⊢
   obtain⟨v,f,e⟩:=h
   exact⟨v,f,qN l b _ hp.2 e⟩
  ·rename_i c
   simp only[c]at h
   exact qN l b _ hp.2 h
theorem aX{Q:Exit->Act->am->Prop}{w:am}{a:Act}(n:Nat){l:List Oper}(c:((l.take n).all λo=>gA o.op)=aj)(h:wpQuiet P ops C (λb=>fo P ops C Q (l.drop n) b w) (l.take n) a):fo P ops C Q l a w:=by
 have:=qN (P:=P) (ops:=ops) (C:=C) (Q:=Q) (w:=w) (l.take n) (l.drop n) a c h
 rwa [fO]at this
def Oy(C:am->Prop)(Q:Exit->Act->am->Prop)(N:Act->am->Prop)(e:Exit)(a:Act)(w:am):Prop:=
 match e with
 | .normal=>C w/\N a w
 | e=>Q e a w
theorem aS{Q:Exit->Act->am->Prop}{w:am}{a:Act}{o:Oper}{b:List Oper}(m:gA o.op=ah)(h:wpList P ops (Oy C Q (fo P ops C Q b)) [o] a w)
 (j:Region.wanted o (yielded ops a.tmps)=aj):fo P ops C Q (o::b) a w:=by
 have i:LetsOut (Oy C Q (fo P ops C Q b))->LetsOut Q:=λ⟨a,w,h⟩=>⟨a,w,h⟩
 rw[fo]
 rw[wpList]at h
 simp only[j,m,kP]at h ⊢
 rcases h with h | ⟨k,l⟩
 ·refine .inl ?_
  unfold Oper.wp at *
  generalize(execOp a.eval o).run P w=r at *
  cases r with
  | ok n w'=>
   cases n <;> simp only[Oper.upon]at h ⊢
   case value u=>exact h
   case skip=>exact h
   case defer d=>exact h
   case enter f args=>
    refine Calls.mono h λe p g=>?_
    cases e with
    | returned u=>exact g
    | panicked c=>exact g
    | outgrown=>exact i g
   case row row args=>exact h
  | halt x w'=>
   cases x <;> simp only[Oper.upon]at h ⊢
   case panic u=>exact h
 ·exact .inr ⟨k,i l⟩
end
end
section
open Go
section
variable{P:Program}{ops:Array Oper}{md:Region.Mode}{C:am->Prop}
def zm(P:Program)(md:Region.Mode)(ops:Array Oper)(C:am->Prop)(Q:Exit->Act->am->Prop)(n:Nat)(L:Array Bool->Act->am->Prop):Nat->Array Bool->Act->am->Prop
 | 0,bw,a,w=>C w/\L bw a w
 | fuel+1,bw,a,w=>C w/\Region.ready md ops bw≠[]/\
  ∀i∈Region.ready md ops bw,i<n/\wpOp P ops Q i (zm P md ops C Q n L fuel (bw.setIfInBounds i aj)) a w
theorem nS{Q:Exit->Act->am->Prop}{n g:Nat}{L:Array Bool->Act->am->Prop}(c:∀b a w,L b a w->wpAny P md ops Q g b a w):
 ∀(f:Nat) (b:Array Bool) (a:Act) (w:am),zm P md ops C Q n L f b a w->wpAny P md ops Q (f+g) b a w
 | 0,_,_,_,h=>by rw[cL];exact c _ _ _ h.2
 | f+1,_,_,_,h=>by
  rw[show f+1+g=(f+g)+1 by omega]
  exact⟨λj=>absurd j h.2.1,λi k=>wpOp_mono (λd w' e=>nS c f _ d w' e) (h.2.2 i k).2⟩
theorem Ks{Q:Exit->Act->am->Prop}{n i:Nat}{s:Oper}{v:ar}{L:Array Bool->Act->am->Prop}(B:ops[i]?=ag s)(M:∀(j:Nat) (o:Oper) cs b,ops[j]?=ag o->o.op≠.select cs b)
 (X:∀c a d v w,Q (.panic c) (a.put d v) w->Q (.panic c) a w)
 (K:Region.sinkB md ops n=aj) (I:Region.chainB md ops n=aj) (J:n<ops.size) (O:i<n) (t6:∀g a w,L g a w->∀j∈Region.ready md ops g,n<=j):
 ∀(f:Nat) (g:Array Bool) (a:Act) (w:am),HeadInv md ops n g->
  (∀j r,ops[j]?=ag r->j≠i->g.getD j aj=ah->(∀e∈r.after,Region.binds md e=aj->e.on≠i)->s.apart ops r=aj)->
  i∈Region.ready md ops g->kV P ops C s v a->
  zm P md ops C Q n L f (g.setIfInBounds i aj) (a.put s.dst v) w->zm P md ops C Q n L (f+1) g a w:=by
 intro f
 induction f with
 | zero=>
  intro g a w l _ m x H
  have y:=(tA.1 m).1
  refine⟨H.1,λh=>(by rw[h]at m;cases m),λj q=>?_⟩
  have t:j<n:=(cg j n).elim id λh=>absurd q (tail_waits K I J l _ i rfl O y j h)
  refine⟨t,?_⟩
  by_cases p:j=i
  ·subst p;exact x.wpOp B H.1 H
  ·have:=t6 _ _ _ H.2 j (pB q p)
   omega
 | succ f ih=>
  intro g a w l N m x H
  have y:=(tA.1 m).1
  refine⟨H.1,λh=>(by rw[h]at m;cases m),λj q=>?_⟩
  have t:j<n:=(cg j n).elim id λh=>absurd q (tail_waits K I J l _ i rfl O y j h)
  refine⟨t,?_⟩
  by_cases p:j=i
  ·subst p;exact x.wpOp B H.1 H
  ·have u:=(H.2.2 j (pB q p)).2
   obtain⟨S,r,z,rA⟩:=tA.1 q
   have U:∀e∈r.after,Region.binds md e=aj->e.on≠i:=λe Z Y A=>by
    have u:=rA e Z Y
    rw[A,getD_both y]at u
    cases u
   have W:=sN z (N j r z p S U) (λcs b=>M i s cs b B) (λcs b=>M j r cs b z) X x u
   refine wpOp_mono (λV w' G=>ih (g.setIfInBounds j aj) V w' (l.set q t) (λk ok hk D E T=>?_) (pB m (cQ p)) G.1 ?_) W
   ·refine N k ok hk D ?_ T
    by_cases F:j=k
    ·subst F;exact S
    ·rw[getD_set_ne aj F]at E;exact E
   ·rw[V0 _ _ p]
    exact G.2
def rx(md:Region.Mode)(ops:Array Oper)(n:Nat):List Nat->Array Bool->Bool
 | [],bw=>Region.seqB md ops 1 n bw
 | i::l,bw=>decide (i<n)&&(match ops[i]? with
  | none=>ah
  | some o=>if gA o.op then(Region.ready md ops bw).contains i&&Region.free md ops bw i else Region.ready md ops bw==[i])&&rx md ops n l (bw.setIfInBounds i aj)
def aak(md:Region.Mode)(l:List Oper)(π:List Nat)(n:Nat):Bool:=
 Region.noSelect l.toArray&&decide (n+1=l.length)&&(π.length==n)&&Region.sinkB md l.toArray n&&Region.chainB md l.toArray n&&(π.all λi=>decide (i<l.length))&&rx md l.toArray n π (Array.replicate l.length ah)
def AF(P:Program)(ops:Array Oper)(Q:Exit->Act->am->Prop)(b:List Oper)(e:Exit)(a:Act)(w:am):Prop:=
 match e with
 | .normal=>wpList P ops Q b a w
 | e=>Q e a w
theorem nU{Q:Exit->Act->am->Prop}{n:Nat}{b:List Oper}(I:Region.noSelect ops=aj)(p:Region.sinkB md ops n=aj)(m:Region.chainB md ops n=aj)(H:n<ops.size)(G:∀c a d v w,Q (.panic c) (a.put d v) w->Q (.panic c) a w):
 ∀(π:List Nat) (l:List Oper) (g:Array Bool) (a:Act) (w:am),π.map (ops[·]?)=l.map ag->HeadInv md ops n g->
 rx md ops n π g=aj->C w->fo P ops C (AF P ops Q b) l a w->zm P md ops C Q n (λg a w=>Region.seqB md ops 1 n g=aj/\wpList P ops Q b a w) π.length g a w
 | [],[],g,a,w,_,_,hB,hC,h=>⟨hC,by simpa[rx]using hB,h⟩
 | [],_::_,_,_,_,k,_,_,_,_=>by simp at k
 | _::_,[],_,_,_,k,_,_,_,_=>by simp at k
 | i::π,o::l,g,a,w,k,inv,hB,hC,h=>by
  simp only[aV,jl]at k
  obtain⟨F,k⟩:=k
  simp only[rx,F,co,dH]at hB
  obtain⟨⟨A,B⟩,J⟩:=hB
  rw[bV]
  by_cases y:gA o.op=aj
  ·simp only[y,kP,co]at B
   obtain⟨z,S⟩:=B
   have s:i∈Region.ready md ops g:=by simpa using z
   have key:∃v,kV P ops C o v a/\fo P ops C (AF P ops Q b) l (a.put o.dst v) w:=by
    rw[fo]at h
    by_cases q:Region.wanted o (yielded ops a.tmps)=aj
    ·simp only[q,y,kP]at h
     obtain⟨v,T,K⟩:=h
     exact⟨v,.inl ⟨q,λw' O=>nP y (T w' O)⟩,K⟩
    ·simp only[q]at h
     exact⟨undef,.inr ⟨by simpa using q,rfl⟩,h⟩
   obtain⟨v,U,K⟩:=key
   exact Ks F (sA I) G p m H A (λW D w' L=>ZF L.1) π.length g a w inv (Ii F S) s U
    (nU I p m H G π l _ _ _ k (inv.set s A) J hC K)
  ·simp only[y]at B
   have z:Region.ready md ops g=[i]:=by simpa using B
   have s:i∈Region.ready md ops g:=by rw[z];simp
   refine⟨hC,λE=>(by rw[z]at E;cases E),λj N=>?_⟩
   rw[z]at N
   obtain rfl:=cE.1 N
   refine⟨A,?_⟩
   rw[fo]at h
   unfold wpOp
   simp only[F]
   by_cases q:Region.wanted o (yielded ops a.tmps)=aj
   ·simp only[q,y,kP]at h ⊢
    rcases h with h | ⟨h,E⟩
    ·refine .inl ?_
     have L:LetsOut (AF P ops Q b)->LetsOut Q:=λ⟨a,w,h⟩=>⟨a,w,h⟩
     unfold Oper.wp at *
     generalize(execOp a.eval o).run P w=r at *
     have step:∀D w',(C w'/\fo P ops C (AF P ops Q b) l D w')->zm P md ops C Q n (λg a w=>Region.seqB md ops 1 n g=aj/\wpList P ops Q b a w) π.length (g.setIfInBounds j aj) D w':=
      λD w' M=>nU I p m H G π l _ _ _ k (inv.set s A) J M.1 M.2
     cases r with
     | ok nx w'=>
      cases nx <;> simp only[Oper.upon]at h ⊢
      case value u=>exact step _ _ h
      case skip=>exact step _ _ h
      case defer d=>exact step _ _ h
      case enter f args=>
       refine Calls.mono h λe V t=>?_
       cases e with
       | returned u=>exact step _ _ t
       | panicked c=>exact t
       | outgrown=>exact L t
      case row row args=>exact Rows.mono h λu V t=>step _ _ t
     | halt x w'=>
      cases x <;> simp only[Oper.upon]at h ⊢
      case panic u=>exact h
    ·exact .inr ⟨h,(λ⟨a,w,h⟩=>⟨a,w,h⟩:LetsOut (AF P ops Q b)->LetsOut Q) E⟩
   ·simp only[q]at h ⊢
    exact nU I p m H G π l _ _ _ k (inv.set s A) J hC h
theorem ct{id:Nat}{Q:Exit->Act->am->Prop}{a:Act}{w:am}{l:List Oper}(π:List Nat)(n:Nat)(R:am->Prop)(y:P.follows .mixedOrders=aj)(b:aak .any l π n=aj)
 (s:∀c a d v w,Q (.panic c) (a.put d v) w->Q (.panic c) a w) (e:R w.drew) (h:Nonempty (In R)->fo P l.toArray (λw'=>∃p:In R,w'=p.w) (AF P l.toArray Q (l.drop n)) (pick l π) a w.drew):(Code.region id l.toArray aj).wp P Q a w:=by
 simp only[aak,co,aem,dH]at b
 obtain⟨⟨⟨⟨⟨⟨B,k⟩,F⟩,z⟩,u⟩,E⟩,x⟩:=b
 have D:l.toArray.size=l.length:=by simp
 have o:HeadInv .any l.toArray n (Array.replicate l.length ah):=
  ⟨by simp,λj G _ i=>(by rw[jr]at i;cases i),λt _ A=>getD_in (by simpa using A) (jr _ _)⟩
 refine ID y ?_
 have:=nS (g:=1) (λr q w' f=>by
  have m:(l.drop n).length=1:=by simp;omega
  have:=wpAny_of_seq (md:=.any) (Q':=Q) (l.drop n) n r q w' (λj=>by simp) (by rw[m];exact f.1) f.2
  rwa [m]at this) _ _ _ _ (nU B z u (by omega) s π (pick l π) _ _ _ (fQ E) o x ⟨⟨_,e⟩,rfl⟩ (h ⟨⟨_,e⟩⟩))
 rw[F]at this
 rw[D,<-k]
 rw[<-k]at this
 exact this
end
end
section
open Go
section
variable{P:Program}{ops:Array Oper}{md:Region.Mode}{C:am->Prop}
end
end
section
open Go
section
variable{P:Program}{ops:Array Oper}{md:Region.Mode}{C:am->Prop}
theorem nJ{Q Q':Act->Prop}(b:∀a,Q a->Q' a):∀(l:List Oper) (a:Act),wpQuiet P ops C Q l a->wpQuiet P ops C Q' l a
 | [],a,h=>b a h
 | o::l,a,h=>by
  rw[wpQuiet]at h ⊢
  by_cases c:Region.wanted o (yielded ops a.tmps)=aj
  ·rw[bj c]at h ⊢
   obtain⟨v,e,d⟩:=h
   exact⟨v,e,nJ b l _ d⟩
  ·rw[bf c]at h ⊢
   exact nJ b l _ h
def rP(md:Region.Mode)(ops:Array Oper):List Nat->Array Bool->Option (Array Bool)
 | [],bw=>ag bw
 | i::l,bw=>match ops[i]? with
  | none=>ae
  | some o=>if gA o.op&&(Region.ready md ops bw).contains i&&Region.free md ops bw i then rP md ops l (bw.setIfInBounds i aj)else ae
theorem oE{Q:Exit->Act->am->Prop}{b:Nat}{k:Array Bool}{w:am}(r:Region.noSelect ops=aj)(p:∀c a d v w,Q (.panic c) (a.put d v) w->Q (.panic c) a w):
 ∀(π:List Nat) (l:List Oper) (f:Array Bool) (a:Act),π.map (ops[·]?)=l.map ag->rP md ops π f=ag k->C w->
  wpQuiet P ops C (λj=>ut P md ops C Q b k j w) l a->ut P md ops C Q (π.length+b) f a w
 | [],[],f,a,_,hB,_,h=>by
  simp only[rP,Option.some.injEq]at hB
  subst hB
  rw[eV,cL]
  exact h
 | [],_::_,_,_,e,_,_,_=>by simp at e
 | _::_,[],_,_,e,_,_,_=>by simp at e
 | i::π,o::l,f,a,e,hB,hC,h=>by
  simp only[aV,jl]at e
  obtain⟨m,e⟩:=e
  simp only[rP,m]at hB
  split at hB
  case isFalse=>cases hB
  case isTrue q=>
   simp only[co]at q
   obtain⟨⟨u,x⟩,t⟩:=q
   rw[show(i::π).length+b=(π.length+b)+1 by rw[bV];omega]
   have key:∃v,kV P ops C o v a/\wpQuiet P ops C (λj=>ut P md ops C Q b k j w) l (a.put o.dst v):=by
    rw[wpQuiet]at h
    by_cases g:Region.wanted o (yielded ops a.tmps)=aj
    ·simp only[g,kP]at h
     obtain⟨v,y,n⟩:=h
     exact⟨v,.inl ⟨g,λw' s=>nP u (y w' s)⟩,n⟩
    ·simp only[g]at h
     exact⟨undef,.inr ⟨by simpa using g,rfl⟩,h⟩
   obtain⟨v,z,n⟩:=key
   exact zo m (sA r) p _ f a w (Ii m t) (by simpa using x) z
    (oE r p π l _ _ e hB hC n)
theorem lM{Q:Exit->Act->am->Prop}(j:Region.noSelect ops=aj)(f:∀c a d v w,Q (.panic c) (a.put d v) w->Q (.panic c) a w){i:Nat}{π:List Nat}{o:Oper}{l:List Oper}{b:Array Bool}{a:Act}{w:am}(m:ops[i]?=ag o)(r:gA o.op=ah)(g:π.map (ops[·]?)=l.map ag)
 (e:kv md ops π (b.setIfInBounds i aj)=aj) (n:C w) (h:fo P ops C Q (o::l) a w):wpOp P ops Q i (ut P md ops C Q π.length (b.setIfInBounds i aj)) a w:=by
 rw[fo]at h
 unfold wpOp
 simp only[m]
 by_cases k:Region.wanted o (yielded ops a.tmps)=aj
 ·simp only[k,r,kP]at h ⊢
  rcases h with h | h
  ·exact .inl (Oper.wp_mono (λs w' ⟨p,q⟩=>jX j f π l _ _ _ g e p q) h)
  ·exact .inr h
 ·simp only[k]at h ⊢
  exact jX j f π l _ _ _ g e n h
def aaQ(md:Region.Mode)(l:List Oper)(b:List Nat)(i j:Nat)(a c:List Nat):Bool:=
 Region.noSelect l.toArray&&decide (b.length+(a.length+1)=l.length)&&decide (a.length=c.length)&&(b.all λk=>decide (k<l.length))&&((i::a).all λk=>decide (k<l.length))&&((j::c).all λk=>decide (k<l.length)) &&
  !gA (l.getD i ⟨ae,.move (.tmp 0),0, "",#[],ae⟩).op&&!gA (l.getD j ⟨ae,.move (.tmp 0),0, "",#[],ae⟩).op &&
  match rP md l.toArray b (Array.replicate l.length ah)with
  | none=>ah
  | some li=>Region.ready md l.toArray li==[i,j]&&kv md l.toArray a (li.setIfInBounds i aj)&&kv md l.toArray c (li.setIfInBounds j aj)
theorem qM{id:Nat}{Q:Exit->Act->am->Prop}{a:Act}{w:am}{l:List Oper}(b:List Nat)(i j:Nat)(e m:List Nat)(R:am->Prop)(J:P.follows .mixedOrders=aj)(B:aaQ .any l b i j e m=aj)
 (u:∀c a d v w,Q (.panic c) (a.put d v) w->Q (.panic c) a w) (D:R w.drew)
 (h:Nonempty (In R)->wpQuiet P l.toArray (λw'=>∃p:In R,w'=p.w) (λf=>fo P l.toArray (λw'=>∃p:In R,w'=p.w) Q (pick l (i::e)) f w.drew/\fo P l.toArray (λw'=>∃p:In R,w'=p.w) Q (pick l (j::m)) f w.drew) (pick l b) a):(Code.region id l.toArray aj).wp P Q a w:=by
 simp only[aaQ,co,dH,Bool.not_eq_true']at B
 obtain⟨⟨⟨⟨⟨⟨⟨⟨y,g⟩,s⟩,G⟩,S⟩,O⟩,F⟩,x⟩,o⟩:=B
 have n:(∃p:In R,w.drew=p.w):=⟨⟨_,D⟩,rfl⟩
 refine ID J ?_
 split at o
 case h_1=>cases o
 case h_2 L M=>
  simp only[co,aem]at o
  obtain⟨⟨E,K⟩,H⟩:=o
  have z:=fQ S
  have r:=fQ O
  simp only[aV,pick,jl]at z r
  have N:l.toArray.size=l.length:=by simp
  have step:wpQuiet P l.toArray (λw'=>∃p:In R,w'=p.w) (λf=>ut P .any l.toArray (λw'=>∃p:In R,w'=p.w) Q (e.length+1) L f w.drew) (pick l b) a:=by
   refine nJ ?_ _ _ (h ⟨⟨_,D⟩⟩)
   intro f ⟨I,t⟩
   refine⟨n,λA=>(by rw[E]at A;cases A),λk q=>?_⟩
   rw[E]at q
   rcases cR.1 q with rfl | q
   ·exact lM y u z.1 F z.2 K n I
   ·obtain rfl:=cE.1 q
    rw[s]
    exact lM y u r.1 x r.2 H n t
  have:=nT _ _ _ _ (oE y u b (pick l b) _ a (fQ G) M n step)
  rw[g]at this
  rw[N]
  exact this
end
end
section
open Go Go.RowKit
theorem qf{P:Program}{Q:Exit->Act->List Frame->am->Prop}{a:Act}{cs:List Frame}{w:am}{id:Nat}{ops:Array Oper}(h:∀t,wpOpsS P ops Q (Region.schedule (P.follows .mixedOrders) ops t) a cs { w with drawn:=w.drawn+1 }):(Code.region id ops aj).wpS P Q a cs w:=
 λb k f g=>let ⟨e,d,c,w',q,r⟩:=wp_opsS _ a cs _ (h _) b k f g;⟨e,d,c,w',q,.of_steps (.one step_region_draw) r⟩
structure ja(b:Nat)(w w':am):Prop where
 os:w'.os=w.os
 tape:w'.tape=w.tape
 output:w'.output=w.output
 size:w.heap.size<=w'.heap.size
 block:∀k,k<w.heap.size->k≠b->w'.heap[k]?=w.heap[k]?
theorem ja.refl(b:Nat)(w:am):ja b w w:=⟨rfl,rfl,rfl,bT _,λ_ _ _=>rfl⟩
theorem ja.trans{b:Nat}{w c d:am}(h:ja b w c)(k:ja b c d):ja b w d:=
 ⟨k.os.trans h.os,k.tape.trans h.tape,k.output.trans h.output,bJ h.size k.size,λi e a=>(k.block i (by have:=h.size;omega) a).trans (h.block i e a)⟩
theorem ja.bh{b:Nat}{w a c:am}(h:ja b w a)(k:Below a.heap.size a c):ja b w c:=
 h.trans ⟨k.os,k.tape,k.output,k.size,λi d _=>k.block i d⟩
theorem ja.below{b B:Nat}{a w w':am}(c:Below B a w)(h:ja b w w')(d:B<=b)(f:B<=w.heap.size):Below B a w':=
 c.trans ⟨h.os,h.tape,h.output,h.size,λk e=>h.block k (by omega) (by omega)⟩
theorem ja.qS{b:Nat}{w a:am}(h:ja b w a)(o:Nat)(v:ar):ja b w (a.setCell ⟨b,o,ae⟩ v):=
 h.trans ⟨rfl,rfl,rfl,by simp[World.setCell],λk _ c=>eh _ _ _ _ c⟩
theorem ja.abK{b:Nat}{w c:am}(h:ja b w c)(a:Addr)(ha:w.heap.size<=a.block)(v:ar):ja b w (c.setCell a v):=
 ⟨h.os,h.tape,h.output,by simp[World.setCell];exact h.size,λk e d=>(eh _ _ _ _ (by omega)).trans (h.block k e d)⟩
theorem ja.cell{b:Nat}{w w':am}(h:ja b w w'){a:Addr}{v:ar}(c:w.cell? a=ag v)(d:a.block≠b):w'.cell? a=ag v:=
 (ir (w:=w) (h.block a.block (eK c) d)).trans c
theorem ja.frozen{b:Nat}{w w':am}(h:ja b w w'){a:Addr}(d:a.block<w.heap.size)(c:a.block≠b):w'.frozen? a=w.frozen? a:=
 World.frozen?_of_block (w:=w) (h.block a.block d c)
theorem ja.bytes{b:Nat}{w w':am}(h:ja b w w'){c:Option Addr}{bs:List (BitVec 8)}(k:cD w c bs)(d:∀g a,c=ag ⟨g,a,ae⟩->g≠b):cD w' c bs:=λi j=>by
 obtain⟨g,a,e,f⟩:=k i j
 exact⟨g,a,e,h.cell f (d _ _ e)⟩
structure Ar(b k:Nat)(v:ar)(w w':am):Prop where
 but:ja b w w'
 val:w'.cell? ⟨b,k,ae⟩=ag v
 others:∀j,j≠k->w'.cell? ⟨b,j,ae⟩=w.cell? ⟨b,j,ae⟩
 frozen:∀j,w'.frozen? ⟨b,j,ae⟩=w.frozen? ⟨b,j,ae⟩
theorem Ar.of{b k:Nat}{u v:ar}{w d:am}(h:Below w.heap.size w d)(a:w.cell? ⟨b,k,ae⟩=ag u):Ar b k v w (d.setCell ⟨b,k,ae⟩ v):=by
 have c:=eK a
 refine⟨((ja.refl b w).bh h).qS k v,?_,λj f=>?_,λj=>?_⟩
 ·exact dE _ _ _ (bL h a)
 ·rw[dI _ _ _ _ (by intro e;injection e;omega)]
  exact h.cell (p:=⟨b,j,ae⟩) c
 ·rw[kY]
  exact h.frozen (p:=⟨b,j,ae⟩) c
theorem Ar.aaO{b k:Nat}{v:ar}{w d e:am}(h:Ar b k v d e)(a:Below w.heap.size w d)(c:b<w.heap.size):Ar b k v w e:=
 ⟨((ja.refl b w).bh a).trans h.but,h.val,λj f=>(h.others j f).trans (a.cell (p:=⟨b,j,ae⟩) c),λj=>(h.frozen j).trans (a.frozen (p:=⟨b,j,ae⟩) c)⟩
theorem Fk{p:Option Addr}{w:am}:aw ax 168 #[aA p,.nilIface] w λe w'=>e=aF (aC ah)/\w=w':=by
 go_in
 go_wp2_with fail
 go_ret
 exact⟨rfl,rfl⟩
theorem CK{c j:Addr}{p:Option Addr}{w:am}(f:w.cell? c=ag (aA p)):
 CallsD ax 167 #[aA (ag c),aA (ag j)] .returning w λe k w'=>e=aF (.tuple #[])/\k=.returning/\w'=w.drew:=by
 refine callsD_of_wpS Tryz.func167 rfl λa cs i=>?_
 apply wpS_seq
 apply qf
 intro t
 generalize b:Region.schedule _ _ t=l
 have g:l=[0,1,2]\/l=[1,0,2]:=by
  subst b
  have d:Tryz.prog.follows .mixedOrders=aj:=by kernel_rfl
  rcases Nat.mod_two_eq_zero_or_one t with h | h <;> simp[Region.schedule,d,Region.linearise,Region.linearise.go,h,List.range,List.range.loop,Region.binds,Nat.mod_one]
 clear b
 rcases g with rfl | rfl <;>
 ·simp[wpOpsS,go_sem,recoverD,i,f,Tryz.ntmps167,Exit.thenS]
  refine(Fk).mono ?_
  rintro e w' ⟨rfl,rfl⟩
  refine wpS_cond (t:=ah) (by simp[Act.eval,Array.replicate]) ?_
  simp only[tC,if_false]
  refine wpS_of_wp (wp_skip ?_)
  cases a
  simp_all [bodyPostS,results,Tryz.results167]
end
section
open Go.RowKit
structure nD(w:am)(b:Nat)(bs:List (BitVec 8))(k bad:Nat):Prop where
 bytes:∃ao cap,w.cell? ⟨b,0,ae⟩=ag (aB ao bs.length cap)/\cD w ao bs/\(ao=ae/\cap=0\/∃g,ao=ag ⟨g,0,ae⟩/\g≠b)/\bs.length<=cap/\cap<=9223372036854775807
 at1:w.cell? ⟨b,1,ae⟩=ag (ay az k)
 at2:w.cell? ⟨b,2,ae⟩=ag (ay az bad)
 Ur:w.frozen? ⟨b,1,ae⟩=ah
 aaP:w.frozen? ⟨b,2,ae⟩=ah
 le:k<=bs.length
theorem nD.lt{w:am}{b k a:Nat}{bs:List (BitVec 8)}(h:nD w b bs k a):b<w.heap.size:=eK h.at1
theorem nD.on{w w':am}{b k c:Nat}{bs:List (BitVec 8)}(h:nD w b bs k c)(a:Below w.heap.size w w'):nD w' b bs k c:=by
 obtain⟨e,d,f,g,r⟩:=h.bytes
 exact⟨⟨e,d,bL a f,g.below a,r⟩,bL a h.at1,bL a h.at2,(a.frozen (p:=⟨b,1,ae⟩) h.lt).trans h.Ur,(a.frozen (p:=⟨b,2,ae⟩) h.lt).trans h.aaP,h.le⟩
theorem nD.vN{w w':am}{b k c:Nat}{bs:List (BitVec 8)}(h:nD w b bs k c)(j:Nat)(o:j<=bs.length)(a:Ar b 1 (ay az j) w w'):nD w' b bs j c:=by
 obtain⟨l,f,n,r,m,p,q⟩:=h.bytes
 have i:∀g d,l=ag ⟨g,d,ae⟩->g≠b:=λg d e=>by
  rcases m with⟨rfl,_⟩ | ⟨g',rfl,i⟩
  ·cases e
  ·injection e with e;injection e with e;subst e;exact i
 exact⟨⟨l,f,(a.others 0 (by omega)).trans n,a.but.bytes r i,m,p,q⟩,a.val,(a.others 2 (by omega)).trans h.at2,(a.frozen 1).trans h.Ur,(a.frozen 2).trans h.aaP,o⟩
theorem Jl(h:Option Addr)(bs:List (BitVec 8))(j:Nat)(w:am)(n:cD w h bs)(p:h=ae->j=0)(F:bs.length<=70368744177664):
 aw ax 137 #[aB h bs.length j] w λe w'=>∃b,e=aF (aA (ag ⟨b,0,ae⟩))/\w.heap.size<=b/\nD w' b bs 0 0/\Below w.heap.size w w':=by
 have u:=aH n
 have y:=aH p
 clear n p
 go_in
 go_wp2_with (refine cI (o:=⟨ag 4,_,_,_,_,_⟩) rfl rfl w.heap.size _ [] rfl (cU.nil _ _) h bs.length j bs rfl rfl u.out y.out (by simp;omega) dx ?_)
 intro D a m q A
 have k:Hid (Below w.heap.size w a):=(cU.nil w w.heap.size).below q dx dx
 have B:Hid (cU a w.heap.size D bs):=m
 clear m q A
 obtain⟨c,d,rfl,r,C,l,s,f⟩:=B.out.shape
 have z:Hid (a.heap.size<=a.heap.size/\w.heap.size<=a.heap.size):=⟨bT _,k.out.size⟩
 have i:=aH (s.below (aY a (aG #[aB c bs.length d,ay az 0,ay az 0] 337)))
 have t:Hid (c=ae/\d=0\/∃g,c=ag ⟨g,0,ae⟩/\g≠a.heap.size):=by
  rcases f with rfl | ⟨g,rfl,_,E,_⟩
  ·exact .inl ⟨rfl,r rfl⟩
  ·exact .inr ⟨g,rfl,by omega⟩
 have x:=aH l
 clear r l s f
 go_wp2_with fail
 go_ret
 exact⟨_,rfl,z.out.2,⟨⟨c,d,aZ 0 (bp a _),i.out,t.out,C,by have:=x.out;unfold maxLen at this;omega⟩,aZ 1 (bp a _),aZ 2 (bp a _),bQ _ (bp a _),bQ _ (bp a _),by omega⟩,aM k.out (aY _ _)⟩
def aix(w:am)(bs:List (BitVec 8))(k:Nat)(e:Ending)(w':am):Prop:=
 ∃b a,e=aF (aB b (bs.length-k) a)/\cD w b (bs.drop k)/\(b=ae->a=0)/\bs.length-k<=a/\a<=9223372036854775807/\∃n,w'=w.drewN n
theorem cD.drop{w:am}{b a:Nat}{bs:List (BitVec 8)}(h:cD w (ag ⟨b,a,ae⟩) bs)(k:Nat):cD w (ag ⟨b,a+k,ae⟩) (bs.drop k):=by
 have:=h.sub k (bs.drop k).length
 rwa [List.take_length]at this
theorem FI(b:Nat)(bs:List (BitVec 8))(k:Nat){w:am}(c:nD w b bs k 0):
 aw ax 183 #[aA (ag ⟨b,0,ae⟩)] w (aix w bs k):=by
 obtain⟨e,a,t,l,j,x,y⟩:=c.bytes
 have r:=c.at1
 have s:=c.at2
 have u:=c.le
 have m:=aH l
 clear c l
 by_cases f:a=k
 ·have p:Hid (e=ae->a-k=0):=λ_=>by omega
  have o:bs.length-k=0:=by omega
  have d:Hid (bs.drop k=[]):=List.drop_eq_nil_of_le (by omega)
  subst f
  clear j
  go_in
  go_wp2_with fail
  go_quiet (fail)
  go_wp2_with fail
  go_ret
  exact⟨e,0,by rw[o];rfl,by rw[d.out];exact λi n=>by simp at n,λ_=>rfl,by omega,by omega,nq,rfl⟩
 ·obtain⟨g,rfl,-⟩:∃g,e=ag ⟨g,0,ae⟩/\g≠b:=by
   rcases j with⟨rfl,q⟩ | h
   ·omega
   ·exact h
  have d:=aH (cL k▸m.out.drop k)
  clear j
  go_in
  go_wp2_with fail
  go_quiet (fail)
  go_wp2_with fail
  go_ret
  exact⟨_,_,rfl,d.out,(λh=>by cases h),by omega,by omega,nq,rfl⟩
theorem FG(b:Nat)(bs:List (BitVec 8))(k n a:Nat){w:am}(c:nD w b bs k a)(g:k+n<=bs.length)(h:bs.length<=140737488355328):
 aw ax 184 #[aA (ag ⟨b,0,ae⟩),ay az n,ay az 0] w λe w'=>e=aF (.tuple #[])/\Ar b 1 (ay az (k+n:Nat)) w w':=by
 have d:=c.at1
 have f:=c.Ur
 clear c
 go_in
 go_wp2_with fail
 refine⟨rfl,_,gF rfl _ _ _,rfl,?_⟩
 rw[<-Ed]
 exact Ar.of (cX _ _) d
def rn(bs:List (BitVec 8))(k:Nat)(a:BitVec 64):BitVec 64×Nat×Nat:=
 if(rv (bs.drop k)).2.2=0/\bv a<bv (rv (bs.drop k)).1 then(0#64,0,3)else rv (bs.drop k)
structure Two(w w2:am)(p:Option Addr)(z:ar):Prop where
 below:Below w.heap.size w w2
 recv:w2.cell? ⟨w.heap.size,0,ae⟩=ag (aA p)
 res:w2.cell? ⟨w.heap.size+1,0,ae⟩=ag z
 free:w2.frozen? ⟨w.heap.size+1,0,ae⟩=ah
theorem K8(w:am)(p:Option Addr)(z:ar)(a c:au):Two w ((w.alloc (aG #[aA p] a)).alloc (aG #[z] c)) p z:=by
 have b:=bp (w.alloc (aG #[aA p] a)) (aG #[z] c)
 have e:(w.alloc (aG #[aA p] a)).heap.size=w.heap.size+1:=by show(w.heap.push _).size=_;simp
 refine⟨aM (aY _ _) (aY _ _),bL (aY _ _) (aZ 0 (bp w _)),?_,?_⟩
 ·rw[<-e];exact aZ 0 b
 ·rw[<-e];exact bQ 0 b
theorem Two.but{b:Nat}{w d a:am}{p:Option Addr}{z:ar}(h:Two w d p z)(e:b<w.heap.size)(c:ja b d a):
 a.cell? ⟨w.heap.size,0,ae⟩=ag (aA p)/\a.cell? ⟨w.heap.size+1,0,ae⟩=ag z/\a.frozen? ⟨w.heap.size+1,0,ae⟩=ah:=
 ⟨c.cell h.recv (by simp;omega),c.cell h.res (by simp;omega),(c.frozen (eK h.res) (by simp;omega)).trans h.free⟩
theorem Ar.wrap{b k:Nat}{v u:ar}{w f g:am}{p:Addr}(h:Ar b k v f g)(i:Below w.heap.size w f)(m:b<w.heap.size)(d:w.heap.size<=p.block):Ar b k v w (g.setCell p u):=by
 have a:=h.aaO i m
 have c:∀j,p≠⟨b,j,ae⟩:=λj e=>by subst e;simp at d;omega
 exact⟨a.but.abK p d u,(dI _ _ _ _ (c _)).trans a.val,λj l=>(dI _ _ _ _ (c _)).trans (a.others j l),λj=>by rw[kY];exact a.frozen j⟩
theorem Ar.drew{b k:Nat}{v:ar}{w w':am}(h:Ar b k v w w'):Ar b k v w w'.drew:=⟨h.but.bh (bi _),h.val,h.others,h.frozen⟩
end
section
open Go Go.RowKit
theorem CJ{c j:Addr}{p:Option Addr}{w:am}(f:w.cell? c=ag (aA p)):
 CallsD ax 191 #[aA (ag c),aA (ag j)] .returning w λe k w'=>e=aF (.tuple #[])/\k=.returning/\w'=w.drew:=by
 refine callsD_of_wpS Tryz.func191 rfl λa cs i=>?_
 apply wpS_seq
 apply qf
 intro t
 generalize b:Region.schedule _ _ t=l
 have g:l=[0,1,2]\/l=[1,0,2]:=by
  subst b
  have d:Tryz.prog.follows .mixedOrders=aj:=by kernel_rfl
  rcases Nat.mod_two_eq_zero_or_one t with h | h <;> simp[Region.schedule,d,Region.linearise,Region.linearise.go,h,List.range,List.range.loop,Region.binds,Nat.mod_one]
 clear b
 rcases g with rfl | rfl <;>
 ·simp[wpOpsS,go_sem,recoverD,i,f,Tryz.ntmps191,Exit.thenS]
  refine(Fk).mono ?_
  rintro e w' ⟨rfl,rfl⟩
  refine wpS_cond (t:=ah) (by simp[Act.eval,Array.replicate]) ?_
  simp only[tC,if_false]
  refine wpS_of_wp (wp_skip ?_)
  cases a
  simp_all [bodyPostS,results,Tryz.results191]
end
section
open Go.RowKit
theorem wk{xs ys:List (BitVec 8)}{n:Nat}(hx:xs.length=n)(c:ys.length=n)(h:∀i,i<n->sh xs i=sh ys i):xs=ys:=by
 apply List.ext_getElem (by omega)
 intro i a b
 have:=h i (by omega)
 rwa [rW a,rW b]at this
theorem UB(a b:Option Addr)(xs ys:List (BitVec 8))(u x:Nat)(w:am)(ha:cD w a xs)(g:cD w b ys)(E:xs.length<=140737488355328):
 aw ax 12 #[aB a xs.length u,aB b ys.length x] w λe w'=>e=aF (aC (decide (xs=ys)))/\∃n,w'=w.drewN n:=by
 by_cases f:xs.length=ys.length
 ·have q:=aH ha
  have r:=aH g
  clear ha g
  rw[<-f]
  have o:Hid (ys.length=xs.length):=f.symm
  clear f
  go_in
  go_wp2_with fail
  go_loopw [5] (λi wr=>∃k:Nat,k<=xs.length/\i=ay az k/\(∃n,wr=w.drewN n)/\Hid (∀j,j<k->sh xs j=sh ys j)) (λi _=>xs.length-(intOf i).toNat)
  case atStart=>exact⟨0,by omega,rfl,⟨0,rfl⟩,λj z=>by omega⟩
  case round=>
   obtain⟨k,D,rfl,⟨n,rfl⟩,p⟩:=hrel
   by_cases y:k<xs.length
   ·obtain⟨s,o1,rfl,l⟩:=q.out k y
    obtain⟨t,o2,rfl,m⟩:=r.out k (by have:=o.out;omega)
    have A:(w.drewN n).cell? ⟨s,o1+k,ae⟩=ag (ay .u8 (bv (sh xs k))):=l
    have B:(w.drewN n).cell? ⟨t,o2+k,ae⟩=ag (ay .u8 (bv (sh ys k))):=m
    by_cases d:sh xs k=sh ys k
    ·have C:(sh xs k !=sh ys k)=ah:=by simp[d]
     have c:=aH d
     clear d
     go_wp2_with fail
     go_quiet (fail)
     go_wp2_with fail
     go_roundw
     case rel=>exact⟨k+1,by omega,by go_num,⟨n+nq,rfl⟩,λj z=>by
      rcases cg j k with h | h
      ·exact p.out j h
      ·obtain rfl:j=k:=by omega
       exact c.out⟩
     case measure=>simp[intOf];omega
    ·have C:(sh xs k !=sh ys k)=aj:=by simp[d]
     have c:Hid (¬ xs=ys):=λh=>d (by rw[h])
     clear d
     go_wp2_with fail
     go_quiet (fail)
     go_wp2_with fail
     go_ret
     exact⟨by rw[bC c.out];rfl,n+nq,by simp[go_sem]⟩
   ·obtain rfl:k=xs.length:=by omega
    have c:=aH (wk rfl o.out p.out)
    go_wp2_with fail
    go_ret
    exact⟨by rw[bM c.out];rfl,n,rfl⟩
 ·have c:Hid (¬ xs=ys):=λh=>f (by rw[h])
  clear ha g
  go_in
  go_wp2_with fail
  go_ret
  exact⟨by rw[bC c.out];rfl,0,rfl⟩
theorem cU.slice{w:am}{base:Nat}{v:ar}{bs:List (BitVec 8)}(h:cU w base v bs):∃b a,v=aB b bs.length a/\cD w b bs/\(b=ae->a=0)/\bs.length<=a/\a<=9223372036854775807/\∀g c,b=ag ⟨g,c,ae⟩->base<=g/\g<w.heap.size:=by
 obtain⟨b,a,o,m,k,l,j,n⟩:=h.shape
 refine⟨b,a,o,j,m,k,by unfold maxLen at l;omega,λg c e=>?_⟩
 subst e
 rcases n with h | ⟨g',h,d,f,_⟩
 ·cases h
 ·injection h with h;injection h with i p;subst i;exact⟨d,f⟩
end
end Go.Proofs.YtooinenkenobaaaGreat

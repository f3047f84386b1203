/- A part of the proof of what LawWholeReaders says. -/
import Derived.Test.YtooinenkenobaaaGreatAa
import Derived.Test.YtooinenkenobaaaGreatBe
import Derived.Test.YtooinenkenobaaaGreatBf
set_option maxRecDepth 100000
set_option maxHeartbeats 20000000
namespace Go.Proofs.YtooinenkenobaaaGreat
open Option renaming none->ae,some->ag
open Bool renaming false->ah,true->aj
open Go.Proofs.Tryz renaming prog->ax
open Go.Value renaming int->ay,pointer->aA,slice->aB,bool->aC,float->aD
open Go.IntKind renaming i64->az
open Go.FloatKind renaming f64->aE
open Go.Ending renaming returned->aF
open Go.Obj renaming cells->aG
open Go renaming World->am,Value->ar,TypeId->au,Calls->aw
section
def agK(n:Nat):Operand->Bool
 | .tmp k=>k==n
 | _=>ah
def tf(n:Nat):Code->Option Code
 | .cond c a b=>if agK n c then ag (.cond c a b)else match tf n a with
  | some x=>ag x
  | none=>tf n b
 | .seq a b=>match tf n a with
  | some x=>ag x
  | none=>tf n b
 | .block _ c=>tf n c
 | .loop c=>tf n c
 | .scope c=>tf n c
 | _=>ae
def Tp(n:Nat):Code->Bool
 | .region k _ _=>k==n
 | _=>ah
def xO(n:Nat):Code->Option Code
 | .seq a b=>if Tp n a then ag (.seq a b)else match xO n a with
  | some x=>ag x
  | none=>xO n b
 | .cond _ a b=>match xO n a with
  | some x=>ag x
  | none=>xO n b
 | .block _ c=>xO n c
 | .loop c=>xO n c
 | .scope c=>xO n c
 | _=>ae
end
section
def U'(n:Nat):Code->Bool
 | .region k _ _=>k==n
 | .seq a _=>U' n a
 | _=>ah
def rB(n:Nat):Code->Option Code
 | .seq a b=>if U' n (.seq a b)then ag (.seq a b)else match rB n a with
  | some x=>ag x
  | none=>rB n b
 | .cond _ a b=>match rB n a with
  | some x=>ag x
  | none=>rB n b
 | .block _ c=>rB n c
 | .loop c=>rB n c
 | .scope c=>rB n c
 | _=>ae
def lD(f:Func)(n:Nat):Code:=(f.body.bind (rB n)).getD .skip
end
section
open Go.RowKit Go.Maps
structure iD(S:Nat->Prop)(w w':am):Prop where
 os:w'.os=w.os
 tape:w'.tape=w.tape
 output:w'.output=w.output
 size:w.heap.size<=w'.heap.size
 gP:∀q,q<w.heap.size->¬ S q->w'.heap[q]?=w.heap[q]?
section
variable{S S':Nat->Prop}{w w1 w2:am}
theorem iD.bh(h:Below w.heap.size w w1):iD S w w1:=⟨h.os,h.tape,h.output,h.size,λq a _=>h.block q a⟩
theorem iD.refl(S:Nat->Prop)(w:am):iD S w w:=⟨rfl,rfl,rfl,bT _,λ_ _ _=>rfl⟩
theorem iD.trans(h:iD S w w1)(k:iD S' w1 w2)(d:∀q,q<w.heap.size->S' q->S q):iD S w w2:=
 ⟨k.os.trans h.os,k.tape.trans h.tape,k.output.trans h.output,bJ h.size k.size,λq c a=>(k.gP q (by have:=h.size;omega) (λe=>a (d q c e))).trans (h.gP q c a)⟩
theorem iD.on(h:iD S w w1)(k:Below w1.heap.size w1 w2):iD S w w2:=h.trans (iD.bh (S:=S) k) λ_ _ e=>e
theorem iD.mono(h:iD S w w1)(d:∀q,q<w.heap.size->S q->S' q):iD S' w w1:=⟨h.os,h.tape,h.output,h.size,λq a c=>h.gP q a λe=>c (d q a e)⟩
theorem iD.set(h:iD S w w1){b i:Nat}(v:ar)(a:S b\/w.heap.size<=b):iD S w (w1.setCell ⟨b,i,ae⟩ v):=
 ⟨h.os,h.tape,h.output,by simp[World.setCell];exact h.size,λq d c=>(eh _ _ _ _ (by rintro rfl;rcases a with a | a;exact c a;omega)).trans (h.gP q d c)⟩
theorem iD.grown(h:iD S w w1){row:Option Nat}(g:w1.grownBy w2 row)(d:∀q,row=ag q->S q\/w.heap.size<=q):iD S w w2:=
 ⟨g.os.trans h.os,g.tape.trans h.tape,g.output.trans h.output,bJ h.size g.size,λq c a=>(g.block q (by have:=h.size;omega) (λe=>by rcases d q e.symm with e | e;exact a e;omega)).trans (h.gP q c a)⟩
theorem iD.drewN(h:iD S w w1)(n:Nat):iD S w (w1.drewN n):=h.on (below_drewN _ _)
theorem iD.dV(h:iD S w w1){q:Nat}{o:Obj}(a:w.heap[q]?=ag o)(c:¬ S q):w1.heap[q]?=ag o:=(h.gP q (br.1 a).1 c).trans a
end
theorem gg{w:am}{c d:Nat}{cs i:Array ar}{t u:au}{f g:Nat×Nat}(hx:w.heap[c]?=ag (.cells cs t f))(a:w.heap[d]?=ag (.cells i u g))(j:t≠u):d≠c:=λe=>by
 subst e
 rw[hx]at a
 injection a with a
 injection a with _ h
 exact j h
def Rv(v:ar):Option (DataW ar×List MemPlace):=ag (.held v,[])
def Jt:DataW ar->Option ar
 | .held v=>ag v
 | _=>ae
def vQ(D:DataW ar)(kl:Lit):Option ar:=Jt (D.atKey kl .nil)
structure fL(w:am)(k:au)(b n:Nat)(f:Lit->Option ar):Prop where
 ex:∃D:DataW ar,w.ownsMap ax k Rv b n D/\(∀kl,WideAt.IsKeyLit kl->vQ D kl=f kl)/\(∀kl,WideAt.IsKeyLit kl->has D kl=(f kl).isSome)
def gj:Lit->Option ar:=λ_=>ae
open Classical in
noncomputable def fU (f:Lit->Option ar) (kl:Lit) (v:ar):Lit->Option ar:=λx=>if x=kl then ag v else f x
open Classical in
noncomputable def oD (f:Lit->Option ar) (kl:Lit):Lit->Option ar:=λx=>if x=kl then ae else f x
theorem fL.made(w:am)(k:au):fL (w.alloc (.map #[] 0)) k w.heap.size 0 gj:=
 ⟨_,World.ownsMap_made w _ k Rv,λ_ _=>rfl,λ_ _=>rfl⟩
theorem fL.lt{w:am}{k:au}{b n:Nat}{f:Lit->Option ar}(h:fL w k b n f):b<w.heap.size:=by
 obtain⟨D,h,-,-⟩:=h.ex
 exact h.lt
theorem fL.obj{w:am}{k:au}{b n:Nat}{f:Lit->Option ar}(h:fL w k b n f):∃a c,w.heap[b]?=ag (.map a c):=by
 obtain⟨D,⟨a,c,h,-⟩,-,-⟩:=h.ex
 exact⟨a,c,h⟩
theorem fL.move{w w':am}{k:au}{b n:Nat}{f:Lit->Option ar}(h:fL w k b n f)(i:w'.heap[b]?=w.heap[b]?):fL w' k b n f:=by
 obtain⟨D,⟨a,c,h,r⟩,d,g⟩:=h.ex
 exact⟨D,⟨a,c,i.trans h,r⟩,d,g⟩
theorem fL.pW{S:Nat->Prop}{w w':am}{k:au}{b n:Nat}{f:Lit->Option ar}(h:fL w k b n f)(a:iD S w w')(c:¬ S b):fL w' k b n f:=h.move (a.gP b h.lt c)
theorem fL.mono{w:am}{k:au}{b n a:Nat}{f:Lit->Option ar}(h:fL w k b n f)(i:n<=a):fL w k b a f:=by
 obtain⟨D,c,d,g⟩:=h.ex
 exact⟨D,c.mono i,d,g⟩
theorem fL.gg{w:am}{k:au}{b n q:Nat}{f:Lit->Option ar}{cs:Array ar}{t:au}{a:Nat×Nat}(h:fL w k b n f)(d:w.heap[q]?=ag (.cells cs t a)):b≠q:=λe=>by
 obtain⟨g,c,h⟩:=h.obj
 rw[e,d]at h
 cases h
section
variable{w:am}{k t e:au}{b n:Nat}{f:Lit->Option ar}{key val z:ar}{kl:Lit}
theorem fL.look(h:fL w k b n f)(K:Keyed ax k)(r:Tryz.prog.underlying t=ag (.map k e))(s:(zeroValue e).run ax w=.ok z w)(u:keyOf ax k key=ag kl)(q:WideAt.IsKeyLit kl):
 (Instr.lookup t (.map (ag b)) key ah).run ax w=.ok ((f kl).getD z) w:=by
 obtain⟨D,m,o,A⟩:=h.ex
 obtain⟨x,c,p,F,_,rfl⟩:=m
 have j:=o kl q
 rcases Maps.fit_look ah K r s p F u with⟨i,_,a⟩ | ⟨d,y,_,_,i,g,a,_⟩
 ·rw[<-j,vQ,a]
  exact i
 ·have l:y=(DataW.held d.val,[]):=(iy g).symm
  subst l
  rw[<-j,vQ,a,show(Jt (DataW.held d.val)).getD z=d.val from rfl]
  exact i
theorem fL.look_ok(h:fL w k b n f)(K:Keyed ax k)(u:Tryz.prog.underlying t=ag (.map k e))(x:(zeroValue e).run ax w=.ok z w)(A:keyOf ax k key=ag kl)(m:WideAt.IsKeyLit kl):
 (Instr.lookup t (.map (ag b)) key aj).run ax w=.ok (.tuple #[(f kl).getD z,aC (f kl).isSome]) w:=by
 obtain⟨D,p,q,r⟩:=h.ex
 have l:=r kl m
 obtain⟨B,c,s,F,_,rfl⟩:=p
 have j:=q kl m
 rcases Maps.fit_look aj K u x s F A with⟨i,_,a⟩ | ⟨d,y,_,_,i,g,a,_⟩
 ·rw[<-l,<-j,vQ,a,Maps.has_false_of_atKey a]
  exact i
 ·have o:y=(DataW.held d.val,[]):=(iy g).symm
  subst o
  rw[<-l,<-j,vQ,a,Maps.has_true_of_atKey a,show(Jt (DataW.held d.val)).getD z=d.val from rfl]
  exact i
end
theorem jK{w:am}{ops:Array Oper}{c:List Oper}{o:Oper}{a:Act}{Q:Exit->Act->am->Prop}(r:o.guard=ae){m x v:Operand}(t:au)(i:o.op=Op.mapUpdate t m x v)
 (k e:au) (K:Keyed ax k) (u:Tryz.prog.underlying t=ag (.map k e)) (b n:Nat) (f:Lit->Option ar) (s:a.eval m=.map (ag b)) (hF:fL w k b n f) (C:n<1000000) {key val:ar} (kl:Lit) (hx:a.eval x=key) (A:a.eval v=val)
 (B:keyOf ax k key=ag kl) (h:WideAt.IsKeyLit kl)
 (q:∀w',fL w' k b (n+1) (fU f kl val)->w.grownBy w' (ag b)->wpList ax ops Q c (a.put o.dst undef) w'):wpList ax ops Q (o::c) a w:=by
 obtain⟨D,d,l,p⟩:=hF.ex
 refine wpList_mapUpdate_own w r m x v t i k e K u Rv b n D s d (by unfold maxLen;omega) key val kl hx A B (.held val) [] rfl λw' j g2=>q w' ⟨_,j,λy g=>?_,λy g=>?_⟩ g2
 ·unfold fU vQ
  by_cases e:y=kl
  ·subst e;rw[bj rfl,atKey_put_same d.isMap h];rfl
  ·rw[bf e,atKey_put_other e];exact l y g
 ·unfold fU
  by_cases e:y=kl
  ·subst e;rw[bj rfl,has_put_same d.isMap h];rfl
  ·rw[bf e,has_put_other e];exact p y g
theorem mL{w:am}{ops:Array Oper}{c:List Oper}{o:Oper}{a:Act}{Q:Exit->Act->am->Prop}(q:o.guard=ae){m x:Operand}(t k:au)(g:o.op=Op.call { callee:=Callee.builtin Builtin.delete,args:=#[m,x],argTypes:=#[t,k] })
 (e:au) (K:Keyed ax k) (s:Tryz.prog.underlying t=ag (.map k e)) (b n:Nat) (f:Lit->Option ar) (r:a.eval m=.map (ag b)) (hF:fL w k b n f) {key:ar} {kl:Lit} (hx:a.eval x=key) (u:keyOf ax k key=ag kl)
 (p:∀w',fL w' k b n (oD f kl)->w.grownBy w' (ag b)->wpList ax ops Q c (a.put o.dst (.tuple #[])) w'):wpList ax ops Q (o::c) a w:=by
 obtain⟨D,i,j,l⟩:=hF.ex
 refine wpList_delete_own w q m x t k g e K s Rv b n D r i key kl hx u λw' h g2=>p w' ⟨_,h,λy d=>?_,λy d=>?_⟩ g2.grown
 ·unfold oD vQ
  by_cases e:y=kl
  ·subst e;rw[bj rfl,atKey_del_same];rfl
  ·rw[bf e,atKey_del_other e];exact j y d
 ·unfold oD
  by_cases e:y=kl
  ·subst e;rw[bj rfl,has_del_same];rfl
  ·rw[bf e,has_del_other e];exact l y d
theorem nK{w:am}{ops:Array Oper}{c:List Oper}{o:Oper}{a:Act}{Q:Exit->Act->am->Prop}(r:o.guard=ae){s x:Operand}(T E:au)
 (H:o.op=.call { callee:=.builtin .append,args:=#[s,x],argTypes:=#[T,T] }) {bytes:Nat} {z:ar} (D:Tryz.prog.underlying T=ag (.slice E)) (C:(Tryz.prog.info? E).map (λi=>(i.zero,i.size,i.bytes))=ag (ag z,1,bytes)) (K:z.cells.size=1) (F:bytes<=64)
 (base:Nat) {v:ar} (L:List ar) (I:a.eval s=v) (M:w.ownsRow base E 1 v L.length L) (m:Addr) (u:ar) (hx:a.eval x=aB (ag m) 1 1) (p:∀j t,[u][j]?=ag t->w.cell? (m.add j)=ag t) (J:u.oneCell'=aj) (q:L.length<=1000000) (N:base<=w.heap.size)
 (h:∀g w',w'.ownsRow base E 1 g (L++[u]).length (L++[u])->w.grownBy w' v.ownBlock->(∀j,g.ownBlock=ag j->v.ownBlock=ag j\/w.heap.size<=j)->wpList ax ops Q c (a.put o.dst g) w'):wpList ax ops Q (o::c) a w:=by
 obtain⟨i,G,U,O,P⟩:=sy C
 refine wpList_append_own_at (w:=w) r s x T H base E i z 1 bytes D G U O P K (by decide) v L.length L I M m 1 1 [u] hx rfl p (by intro y p;rw[cE.1 p];exact J)
  (by simp only[maxLen];omega) (by have:=jU (show L.length+1<=1000001 by omega) F;omega) N ?_
 intro g w' A B V d
 refine h g w' (by rw[aN];exact A) B λj l=>?_
 rcases d with d | d
 ·exact .inl (d▸l)
 ·rw[d]at l;injection l with l;exact .inr (by omega)
theorem AW{w:am}{base:Nat}{E:au}{v:ar}{L:List ar}(h:w.ownsRow base E 1 v L.length L):∃c a,v=aB c L.length a/\L.length<=a/\a<=maxLen/\(c=ae->a=0)/\∀i,i<L.length->∃g,c=ag ⟨g,0,ae⟩/\base<=g/\g<w.heap.size/\w.cell? ⟨g,i,ae⟩=L[i]?/\w.frozen? ⟨g,i,ae⟩=ah:=by
 rcases h.2 with⟨rfl,p⟩ | ⟨g,d,o,rfl,q,j,l,r,u,s⟩
 ·exact⟨ae,0,by rw[p],by omega,by simp[maxLen],λ_=>rfl,λi m=>absurd m (by omega)⟩
 ·refine⟨ag ⟨g,0,ae⟩,d,rfl,l,r,(λe=>by cases e),λi m=>⟨g,rfl,q,aT j,?_,bQ _ j⟩⟩
  rw[aZ _ j,<-eQ,<-s,dt,bj (by omega)]
theorem jH{S:Nat->Prop}{w w':am}{base:Nat}{E:au}{k:Nat}{v:ar}{n:Nat}{L:List ar}(h:w.ownsRow base E k v n L)(d:iD S w w')(g:∀q,v.ownBlock=ag q->¬ S q):w'.ownsRow base E k v n L:=
 dC h λq a=>by
  obtain⟨-,c,i⟩:=dq h a
  exact d.gP q (aT i) (g q a)
end
section
open Ieee
def fB:Nat:=4503599627370496
def fI:Nat:=9218868437227405312
def fV(r:Nat):Nat:=if r<fB then r else(fB+r%fB)*2^(r/fB-1)
theorem yO{r:Nat}(h:r<=2*fB):fV r=r:=by
 unfold fV fB at *
 split
 ·rfl
 ·by_cases e:r=2*4503599627370496
  ·subst e;decide
  ·rw[show r/4503599627370496=1 by omega,show r%4503599627370496=r-4503599627370496 by omega];simp;omega
theorem GL(e k:Nat)(d:fB<=k)(f:k<=2*fB):fV (e*fB+k)=k*2^e:=by
 unfold fV
 rw[bf (by have:0<=e*fB:=cF _;omega)]
 have b:0<fB:=by decide
 by_cases h:k=2*fB
 ·subst h
  rw[show e*fB+2*fB=(e+2)*fB by rw[dT]]
  rw[Nat.mul_mod_left,Nat.mul_div_cancel _ b,show e+2-1=e+1 by omega,Nat.pow_succ,fD]
  rw[fR (2^e) 2,<-ig,fR fB 2]
 ·have c:k=fB+(k-fB):=by omega
  have a:k-fB<fB:=by omega
  rw[show e*fB+k=(k-fB)+(e+1)*fB by rw[dT];omega]
  rw[Nat.add_mul_mod_self_right,Nat.add_mul_div_right _ _ b,dD a,zF a,cL,nk,<-c]
theorem YM(r:Nat):(r<fB/\fV r=r)\/∃e k,fB<=k/\k<2*fB/\r=e*fB+k/\fV r=k*2^e:=by
 by_cases h:r<fB
 ·exact .inl ⟨h,bj h⟩
 ·right
  have b:0<fB:=by decide
  have f:1<=r/fB:=(Nat.le_div_iff_mul_le b).2 (by omega)
  have g:r%fB<fB:=nj _ b
  have c:=Nat.div_add_mod r fB
  refine⟨r/fB-1,fB+r%fB,by omega,by omega,?_,by unfold fV;rw[bf h]⟩
  obtain⟨d,a⟩:∃d,r/fB=d+1:=⟨r/fB-1,by omega⟩
  rw[a]at c ⊢
  rw[fR,dT]at c
  rw[nk]
  omega
theorem Mk(r:Nat):fV r<fV (r+1):=by
 rcases YM r with⟨h,e⟩ | ⟨e,k,b,c,rfl,a⟩
 ·rw[e,yO (by omega)];omega
 ·rw[a,show e*fB+k+1=e*fB+(k+1)by omega,GL e (k+1) (by omega) (by omega)]
  exact Ih (by omega) (iz e)
theorem rE{r s:Nat}(h:r<s):fV r<fV s:=by
 obtain⟨d,rfl⟩:∃d,s=r+1+d:=⟨s-r-1,by omega⟩
 clear h
 induction d with
 | zero=>exact Mk r
 | succ d ih=>exact Nat.lt_trans ih (Mk _)
theorem yP{r s:Nat}(h:r<=s):fV r<=fV s:=by
 rcases Nat.eq_or_lt_of_le h with e | e
 ·rw[e];exact bT _
 ·exact dP (rE e)
theorem uU{r s:Nat}:fV r<=fV s↔r<=s:=⟨λh=>ZD λc=>by have:=rE c;omega,yP⟩
theorem YJ:fV 0=0:=rfl
theorem IL(p:Nat)(h:52<=p):fV ((p-51)*fB)=2^p:=by
 obtain⟨q,rfl⟩:∃q,p=q+52:=⟨p-52,by omega⟩
 rw[show(q+52-51)*fB=q*fB+fB by rw[show q+52-51=q+1 by omega,dT,kQ],GL q fB dx (by omega),fe,fR]
 rfl
theorem mX:double.binade=fB:=by decide
theorem mW:double.infRung=fI:=by decide
theorem jV:double.signWeight=9223372036854775808:=by decide
theorem kw:double.leastPlace=-1074:=by decide
theorem jg{r:Nat}(h:r<fI):∃m i,double.read r=.number ah m i/\-1074<=i/\m*2^(i+1074).toNat=fV r:=by
 unfold Format.read
 rw[jV,mX,mW,kw]
 have b:fI<9223372036854775808:=by decide
 rw[zF (by omega)]
 dsimp only
 rw[dD (by omega)]
 unfold fV
 by_cases a:r<fB
 ·rw[bj a,bj a]
  exact⟨r,-1074,rfl,by decide,by simp⟩
 ·rw[bf a,bj h,bf a]
  refine⟨fB+r%fB,-1074+(r/fB-1:Nat),rfl,by omega,?_⟩
  rw[show(-1074+((r/fB-1:Nat):Int)+1074).toNat=r/fB-1 by omega]
theorem mO(n k:Nat):n <<< k=n*2^k:=ZC n k
theorem A5(j:Bool)(f:Nat)(c:Int)(x:f≠0)(I:-1074<=c):
 ∃e i a,double.nearest j f c=double.word j (min (e*fB+i) fI)/\a<=i/\i<=a+1/\
  a*2^e<=f*2^(c+1074).toNat/\f*2^(c+1074).toNat<(a+1)*2^e/\(i=a+1->a*2^e<f*2^(c+1074).toNat)/\a<2*fB/\(e=0\/fB<=a):=by
 unfold Format.nearest
 rw[bf x,mX,mW,kw,show double.fractionBits=52 from rfl]
 have r:2^f.log2<=f:=Nat.log2_self_le x
 have q:f<2^(f.log2+1):=Nat.lt_log2_self
 obtain⟨l,z⟩:=bP f.log2
 rw[z]at r q ⊢
 obtain⟨p,B⟩:∃p:Nat,c=-1074+p:=⟨(c+1074).toNat,by omega⟩
 subst B
 rw[show(-1074+(p:Int)+1074).toNat=p by omega]
 by_cases K:l+p<=52
 ·have s:max (-1074+(p:Int)+(l:Int)-((52:Nat):Int)) (-1074)=-1074:=by omega
  rw[s]
  dsimp only
  rw[show(-1074+(p:Int)- -1074).toNat=p by omega,show((-1074:Int)-(-1074+(p:Int))).toNat=0 by omega,show((-1074:Int)- -1074).toNat=0 by rfl]
  have m:Toward.even.cut j (f <<< p) 0=f*2^p:=by
   unfold Toward.cut
   simp[mO,Nat.mod_one]
  rw[m]
  refine⟨0,f*2^p,f*2^p,rfl,bT _,by omega,by simp,by simp,(λh=>by omega),?_,.inl rfl⟩
  calc f*2^p<2^(l+1)*2^p:=Ih q (iz p)
   _=2^(l+p+1):=by rw[<-fe];congr 1;omega
   _<=2^53:=p9 (by decide) (by omega)
   _=2*fB:=by decide
 ·have s:max (-1074+(p:Int)+(l:Int)-((52:Nat):Int)) (-1074)=-1074+p+l-52:=by omega
  rw[s]
  dsimp only
  by_cases J:l<=52
  ·rw[show(-1074+(p:Int)-(-1074+p+l-52)).toNat=52-l by omega,show(-1074+(p:Int)+l-52-(-1074+(p:Int))).toNat=0 by omega,show(-1074+(p:Int)+l-52- -1074).toNat=l+p-52 by omega]
   have m:Toward.even.cut j (f <<< (52-l)) 0=f*2^(52-l):=by
    unfold Toward.cut
    simp[mO,Nat.mod_one]
   rw[m]
   have hx:f*2^(52-l)*2^(l+p-52)=f*2^p:=by rw[ig,<-fe];congr 2;omega
   refine⟨l+p-52,f*2^(52-l),f*2^(52-l),rfl,bT _,by omega,by rw[hx];exact bT _,by rw[dT,hx,kQ];exact Nat.lt_add_of_pos_right (iz _),(λh=>by omega),?_,.inr ?_⟩
   ·calc f*2^(52-l)<2^(l+1)*2^(52-l):=Ih q (iz _)
     _=2^53:=by rw[<-fe];congr 1;omega
     _=2*fB:=by decide
   ·calc fB=2^l*2^(52-l):=by rw[<-fe,show l+(52-l)=52 by omega];rfl
     _<=f*2^(52-l):=dp _ r
  ·rw[show(-1074+(p:Int)-(-1074+p+l-52)).toNat=0 by omega,show(-1074+(p:Int)+l-52-(-1074+(p:Int))).toNat=l-52 by omega,show(-1074+(p:Int)+l-52- -1074).toNat=l+p-52 by omega]
   obtain⟨d,F⟩:∃d,l=d+52:=⟨l-52,by omega⟩
   subst F
   rw[show d+52-52=d by omega,show d+52+p-52=d+p by omega]
   have G:(1:Nat) <<< min d ((f <<< 0).log2+2)=2^d:=by
    rw[Nat.shiftLeft_zero,z,ae7 (by omega),mO,kQ]
   have C:0<2^d:=iz d
   have k:=Nat.div_add_mod f (2^d)
   have w:=nj f C
   obtain⟨a,A⟩:=bP (f/2^d)
   obtain⟨g,u⟩:=bP (f%2^d)
   rw[A,u]at k
   rw[u]at w
   have m:∃b:Bool,Toward.even.cut j (f <<< 0) d=a+b.toNat/\(b=aj->0<g):=by
    unfold Toward.cut
    dsimp only
    rw[G,Nat.shiftLeft_zero,A,u]
    refine⟨_,rfl,λh=>?_⟩
    rcases gV g with e | e
    ·exfalso
     rw[e]at h
     simp at h
    ·exact e
   obtain⟨b,m,E⟩:=m
   rw[m]
   have L:b.toNat<=1:=by cases b <;> decide
   have t:f*2^p=a*2^(d+p)+g*2^p:=by
    rw[<-k,dT,fe,fR (2^d) a,ig]
   have o:0<2^p:=iz p
   refine⟨d+p,a+b.toNat,a,rfl,by omega,by omega,by rw[t];omega,?_,(λh=>?_),?_,.inr ?_⟩
   ·rw[t,dT,kQ,fe 2 d p]
    have:=Ih w o
    omega
   ·have:b=aj:=by cases b <;> simp_all
    have:=Nat.mul_pos (E this) o
    rw[t];omega
   ·have n:a*2^d<2^(d+53):=by
     have y:2^d*a+g<2^(d+52+1):=by rw[k];exact q
     have D:d+52+1=d+53:=by omega
     rw[D]at y
     rw[fR]at y
     omega
    rw[fe,fR (2^d)]at n
    have:=KO n
    exact this
   ·have n:2^(d+52)<(a+1)*2^d:=by
     rw[dT,kQ,fR a]
     have:2^(d+52)<=2^d*a+g:=by rw[k];exact r
     omega
    rw[fe,fR (2^d)]at n
    have:=KO n
    have H:(2:Nat)^52=fB:=by decide
    omega
theorem tJ(r:Nat):double.word ah r=r:=rfl
theorem Lu{r f:Nat}{a:Int}(i:f≠0)(k:-1074<=a)(l:r<=fI)(h:fV r<=f*2^(a+1074).toNat):r<=double.nearest ah f a:=by
 obtain⟨e,g,b,j,m,n,o,p,q,s,d⟩:=A5 ah f a i k
 rw[j,tJ]
 refine Nat.le_min.2 ⟨?_,l⟩
 refine ZD λc=>?_
 have t:fV (e*fB+(b+1))=(b+1)*2^e:=by
  rcases d with d | d
  ·subst d;rw[io,cL,yO (by omega)];simp
  ·exact GL e (b+1) (by omega) (by omega)
 have:=yP (show e*fB+(b+1)<=r by omega)
 omega
theorem Cq{r g:Nat}{a:Int}(i:g≠0)(m:-1074<=a)(h:g*2^(a+1074).toNat<=fV r):double.nearest ah g a<=r:=by
 obtain⟨e,d,b,k,n,o,p,q,j,s,f⟩:=A5 ah g a i m
 rw[k,tJ]
 refine bJ (Nat.min_le_left _ _) ?_
 refine ZD λc=>?_
 have t:fV (e*fB+b)=b*2^e:=by
  rcases f with f | f
  ·subst f;rw[io,cL,yO (by omega)];simp
  ·exact GL e b (by omega) (by omega)
 by_cases l:d=b+1
 ·have:=j l
  have:=yP (show r<=e*fB+b by omega)
  omega
 ·have u:d=b:=by omega
  have:=rE (show r<e*fB+b by omega)
  omega
theorem Zi{x y:Nat}(hx:x<fI)(s:y<fI):∃z,double.add x y=ag z/\(∀r,r<=fI->fV r<=fV x+fV y->r<=z)/\(∀r,fV x+fV y<=fV r->z<=r):=by
 obtain⟨m,i,k,A,l⟩:=jg hx
 obtain⟨n,j,u,B,w⟩:=jg s
 unfold Format.add
 rw[k,u]
 simp only[Datum.sum,kH,Bool.and_self]
 obtain⟨base,t⟩:=bP (min i j)
 have g:-1074<=base:=by omega
 have o:base<=i:=by omega
 have p:base<=j:=by omega
 rw[t]
 have q:signed ah m (i-base).toNat+signed ah n (j-base).toNat=((m*2^(i-base).toNat+n*2^(j-base).toNat:Nat):Int):=by
  simp[signed,mO]
 rw[q]
 obtain⟨a,e⟩:=bP (m*2^(i-base).toNat+n*2^(j-base).toNat)
 rw[e]
 have d:a*2^(base+1074).toNat=fV x+fV y:=by
  rw[<-e,dT,ig,ig,<-fe,<-fe,show(i-base).toNat+(base+1074).toNat=(i+1074).toNat by omega,show(j-base).toNat+(base+1074).toNat=(j+1074).toNat by omega,l,w]
 have b:(if((a:Nat):Int)=0 then ah else decide (((a:Nat):Int)<0))=ah:=by
  split
  ·rfl
  ·exact bC (by omega)
 rw[b]
 simp only[Format.write,Int.natAbs_natCast]
 by_cases c:a=0
 ·subst c
  refine⟨0,by simp[Format.nearest,tJ],λr f h=>?_,λr _=>cF _⟩
  rw[<-d]at h
  simp at h
  have:fV r<=fV 0:=by rw[h];exact cF _
  exact uU.1 this
 ·exact⟨_,rfl,λr f h=>Lu c g f (by rw[d];exact h),λr h=>Cq c g (by rw[d];exact h)⟩
theorem rN{x y:Nat}(hx:x<fI)(e:y<=x):∃z,double.sub x y=ag z/\(∀r,r<=fI->fV r<=fV x-fV y->r<=z)/\(∀r,fV x-fV y<=fV r->z<=r):=by
 obtain⟨m,i,p,E,q⟩:=jg hx
 obtain⟨n,j,C,F,D⟩:=jg (show y<fI by omega)
 have s:=yP e
 unfold Format.sub
 rw[p,C]
 simp only[Datum.opposite,Datum.sum,kH,Bool.not_false,Bool.and_true]
 obtain⟨base,B⟩:=bP (min i j)
 have o:-1074<=base:=by omega
 have t:base<=i:=by omega
 have u:base<=j:=by omega
 rw[B]
 have g:m*2^(i-base).toNat*2^(base+1074).toNat=fV x:=by
  rw[ig,<-fe,show(i-base).toNat+(base+1074).toNat=(i+1074).toNat by omega,q]
 have k:n*2^(j-base).toNat*2^(base+1074).toNat=fV y:=by
  rw[ig,<-fe,show(j-base).toNat+(base+1074).toNat=(j+1074).toNat by omega,D]
 have w:n*2^(j-base).toNat<=m*2^(i-base).toNat:=by
  refine Nat.le_of_mul_le_mul_right ?_ (iz (base+1074).toNat)
  rw[g,k];exact s
 have A:signed ah m (i-base).toNat+signed aj n (j-base).toNat=((m*2^(i-base).toNat-n*2^(j-base).toNat:Nat):Int):=by
  unfold signed
  rw[mO,mO,bf (by decide),bj rfl]
  omega
 rw[A]
 obtain⟨a,f⟩:=bP (m*2^(i-base).toNat-n*2^(j-base).toNat)
 rw[f]
 have d:a*2^(base+1074).toNat=fV x-fV y:=by
  rw[<-f,Nat.sub_mul,g,k]
 have b:(if((a:Nat):Int)=0 then ah else decide (((a:Nat):Int)<0))=ah:=by
  split
  ·rfl
  ·exact bC (by omega)
 rw[b]
 simp only[Format.write,Int.natAbs_natCast]
 by_cases c:a=0
 ·subst c
  refine⟨0,by simp[Format.nearest,tJ],λr l h=>?_,λr _=>cF _⟩
  rw[<-d]at h
  simp at h
  have:fV r<=fV 0:=by rw[h];exact cF _
  exact uU.1 this
 ·exact⟨_,rfl,λr l h=>Lu c o l (by rw[d];exact h),λr h=>Cq c o (by rw[d];exact h)⟩
theorem Y'(a b:Nat):(compare (a:Int) (b:Int))=compare a b:=by
 rcases kR a b with h | h | h
 ·rw[oO.2 h,Int.compare_eq_lt.2 (by omega)]
 ·rw[oP.2 h,Int.compare_eq_eq.2 (by omega)]
 ·rw[kS.2 h,Int.compare_eq_gt.2 (by omega)]
theorem oY{x y:Nat}(hx:x<fI)(l:y<fI):double.order x y=ag (compare x y):=by
 obtain⟨m,i,e,r,f⟩:=jg hx
 obtain⟨n,j,p,t,q⟩:=jg l
 unfold Format.order
 rw[e,p]
 simp only[Datum.order]
 obtain⟨base,o⟩:=bP (min i j)
 have s:-1074<=base:=by omega
 have g:base<=i:=by omega
 have k:base<=j:=by omega
 rw[o]
 simp only[signed,mO,tC,if_false]
 rw[Y']
 have b:m*2^(i-base).toNat*2^(base+1074).toNat=fV x:=by
  rw[ig,<-fe,show(i-base).toNat+(base+1074).toNat=(i+1074).toNat by omega,f]
 have c:n*2^(j-base).toNat*2^(base+1074).toNat=fV y:=by
  rw[ig,<-fe,show(j-base).toNat+(base+1074).toNat=(j+1074).toNat by omega,q]
 have d:=iz (base+1074).toNat
 congr 1
 rcases kR x y with h | h | h
 ·rw[oO.2 h]
  refine oO.2 (KO (a:=2^(base+1074).toNat) ?_)
  rw[b,c];exact rE h
 ·subst h
  rw[oP.2 rfl]
  refine oP.2 (Nat.eq_of_mul_eq_mul_right d ?_)
  rw[b,c]
 ·rw[kS.2 h]
  refine kS.2 (KO (a:=2^(base+1074).toNat) ?_)
  rw[b,c];exact rE h
def fP(n:Nat):Nat:=(n+1023)*fB
theorem Uz{n:Nat}(h:n<=1023):fP n<fI:=by unfold fP fI fB;omega
theorem Uy(n:Nat):fV (fP n)=2^(n+1074):=by
 have:=IL (n+1074) (by omega)
 rw[show n+1074-51=n+1023 by omega]at this
 exact this
end
end Go.Proofs.YtooinenkenobaaaGreat

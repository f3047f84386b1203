/- A part of the proof of what LawWholeReaders says. -/
import Derived.Test.YtooinenkenobaaaGreatAa
import Derived.Test.YtooinenkenobaaaGreatBe
import Derived.Test.YtooinenkenobaaaGreatBd
import Derived.Test.YtooinenkenobaaaGreatBb
set_option maxRecDepth 100000
set_option maxHeartbeats 20000000
namespace Go.Proofs.YtooinenkenobaaaGreat
open Option renaming none->ae,some->ag
open Bool renaming false->ah,true->aj
open Go.Proofs.Tryz renaming prog->ax
open Go.Value renaming int->ay,pointer->aA,slice->aB,bool->aC,float->aD
open Go.IntKind renaming i64->az
open Go.FloatKind renaming f64->aE
open Go.Ending renaming returned->aF
open Go.Obj renaming cells->aG
open Go renaming World->am,Value->ar,TypeId->au,Calls->aw
section
open Go.RowKit
structure gp where
 lsn:Int
 off:Int
instance:Inhabited gp:=⟨⟨0,0⟩⟩
def ii(L:List gp)(i:Nat):gp:=L.getD i ⟨0,0⟩
def jZ(e:gp):List ar:=[ay az e.lsn,ay az e.off]
structure m7(w:am)(b o:Nat)(e:gp):Prop where
 c0:w.cell? ⟨b,o,ae⟩=ag (ay az e.lsn)
 c1:w.cell? ⟨b,o+1,ae⟩=ag (ay az e.off)
theorem m7.range{w:am}{b o:Nat}{e:gp}(h:m7 w b o e):∀j u,(jZ e)[j]?=ag u->w.cell? ⟨b,o+j,ae⟩=ag u
 | 0,u,hj=>by have a:ag (Value.int .i64 e.lsn)=ag u:=hj;injection a with a;subst a;exact h.c0
 | 1,u,hj=>by have a:ag (Value.int .i64 e.off)=ag u:=hj;injection a with a;subst a;exact h.c1
 | j+2,u,hj=>by simp[jZ]at hj
def DZ(w:am)(c:Option Addr)(L:List gp):Prop:=∀i,i<L.length->∃b a,c=ag ⟨b,a,ae⟩/\m7 w b (a+i*2) (ii L i)
theorem DZ.get{w:am}{b a:Nat}{L:List gp}(h:DZ w (ag ⟨b,a,ae⟩) L){i:Nat}(g:i<L.length):m7 w b (a+i*2) (ii L i):=by
 obtain⟨k,j,e,f⟩:=h i g
 injection e with e
 injection e with c d
 subst c d
 exact f
theorem Tryz.Yk:(Tryz.prog.info? 228).map (λi=>(i.zero,i.size,i.bytes))=ag (ag (.agg #[ay az 0,ay az 0]),2,16):=by kernel_rfl
def wY(w:am)(base:Nat)(v:ar)(L:List gp):Prop:=w.ownsRow base 228 2 v L.length (L.flatMap jZ)
theorem aaR:∀(L:List gp) (i j:Nat),i<L.length->j<2->(L.flatMap jZ)[i*2+j]?=(jZ (ii L i))[j]?
 | [],i,j,h,_=>absurd h (by simp)
 | s::L,0,j,_,hj=>by
  rw[eC,bI (by simp[jZ];omega)]
  simp[ii]
 | s::L,i+1,j,h,hj=>by
  rw[eC,bH (by simp[jZ];omega),show(i+1)*2+j-(jZ s).length=i*2+j by simp[jZ];omega,aaR L i j (by simpa using h) hj]
  simp[ii]
theorem mH:∀L:List gp,(L.flatMap jZ).length=L.length*2
 | []=>rfl
 | s::L=>by rw[eC,aN,mH L];simp[jZ];omega
theorem ug(A B:List gp):(A++B).flatMap jZ=A.flatMap jZ++B.flatMap jZ:=by simp
theorem aeQ(L:List gp):∀u∈L.flatMap jZ,u.oneCell'=aj:=λu b=>by
 obtain⟨s,-,a⟩:=List.mem_flatMap.1 b
 simp only[jZ,cR,dK,iG]at a
 rcases a with rfl | rfl <;> rfl
theorem wY.nil(w:am)(base:Nat):wY w base (aB ae 0 0) []:=ae9 w base _ 2
theorem wY.base{w:am}{base c:Nat}{v:ar}{L:List gp}(h:wY w base v L)(f:c<=base):wY w c v L:=
 ⟨h.1,by
  rcases h.2 with d | ⟨g,a,b,e,i,r⟩
  ·exact .inl d
  ·exact .inr ⟨g,a,b,e,bJ f i,r⟩⟩
def iQ(w:am)(base:Nat)(v:ar)(L:List gp):Prop:=
 (v=aB ae 0 0/\L=[])\/∃g a b,v=aB (ag ⟨g,0,ae⟩) L.length a/\base<=g/\w.heap[g]?=ag (.cells b 228 (0,0))/\L.length<=a/\a<=maxLen/\(b.size=a*2\/a=L.length)/\b.toList.take (L.length*2)=L.flatMap jZ
theorem iQ.pL{w:am}{base:Nat}{v:ar}{L:List gp}(h:wY w base v L):iQ w base v L:=by
 rcases h.2 with⟨d,f⟩ | ⟨g,a,b,e,i,j,c,k,l,m⟩
 ·exact .inl ⟨d,eu f⟩
 ·exact .inr ⟨g,a,b,e,i,j,c,k,.inl l,m⟩
theorem ru{w:am}{base:Nat}{v:ar}{L:List gp}(h:iQ w base v L){g:Nat}(b:v.ownBlock=ag g):base<=g/\∃a,w.heap[g]?=ag (.cells a 228 (0,0)):=by
 rcases h with⟨d,-⟩ | ⟨g',c,a,e,f,i,-⟩
 ·rw[d]at b;cases b
 ·rw[e]at b
  have:g'=g:=by simpa[Value.ownBlock]using b
  subst this
  exact⟨f,a,i⟩
theorem pO{w w':am}{base:Nat}{v:ar}{L:List gp}(h:iQ w base v L)(i:∀g,v.ownBlock=ag g->w'.heap[g]?=w.heap[g]?):iQ w' base v L:=by
 rcases h with c | ⟨g,a,b,e,d,f,r⟩
 ·exact .inl c
 ·exact .inr ⟨g,a,b,e,d,(i g (by rw[e];rfl)).trans f,r⟩
theorem iQ.dV{w w':am}{base:Nat}{v:ar}{L:List gp}(h:iQ w base v L)(b:Below w.heap.size w w'):iQ w' base v L:=
 pO h λg d=>by
  obtain⟨-,a,c⟩:=ru h d
  exact b.block g (aT c)
theorem iQ.nil(w:am)(base:Nat):iQ w base (aB ae 0 0) []:=.inl ⟨rfl,rfl⟩
theorem iQ.shape{w:am}{base:Nat}{v:ar}{L:List gp}(h:iQ w base v L):∃b a,v=aB b L.length a/\DZ w b L/\(b=ae->a=0)/\L.length<=a/\a<=maxLen:=by
 rcases h with⟨rfl,rfl⟩ | ⟨g,a,f,rfl,p,k,d,m,q,o⟩
 ·exact⟨ae,0,rfl,λi c=>absurd c (by simp),λ_=>rfl,bT _,cF _⟩
 ·refine⟨ag ⟨g,0,ae⟩,a,rfl,λi c=>⟨g,0,rfl,?_⟩,(λe=>by cases e),d,m⟩
  have key:∀j u,j<2->(jZ (ii L i))[j]?=ag u->w.cell? ⟨g,0+i*2+j,ae⟩=ag u:=λj u l n=>by
   rw[aZ _ k,<-eQ,<-n,<-aaR L i j c l,<-o,dt,bj (by omega),cL]
  exact⟨key 0 _ (by omega) rfl,key 1 _ (by omega) rfl⟩
theorem iQ.get{w:am}{base:Nat}{c:Option Addr}{n a:Nat}{L:List gp}(h:iQ w base (aB c n a) L){i:Nat}(k:i<L.length):∃g,c=ag ⟨g,0,ae⟩/\base<=g/\m7 w g (i*2) (ii L i)/\L.length=n/\n<=a:=by
 rcases h with⟨-,rfl⟩ | ⟨g,f,d,e,j,q,b,s,t,u⟩
 ·exact absurd k (by simp)
 ·have r:iQ w base (aB (ag ⟨g,0,ae⟩) L.length f) L:=.inr ⟨g,f,d,rfl,j,q,b,s,t,u⟩
  injection e with m o p
  subst m o p
  obtain⟨c,x,e,l,-⟩:=r.shape
  injection e with e
  subst e
  have:=l.get k
  rw[cL]at this
  exact⟨g,rfl,j,this,rfl,b⟩
theorem iQ.len{w:am}{base:Nat}{b:Option Addr}{n a:Nat}{L:List gp}(h:iQ w base (aB b n a) L):L.length=n/\n<=a/\a<=maxLen/\DZ w b L/\(b=ae->a=0):=by
 obtain⟨m,l,e,g,i,j,k⟩:=h.shape
 injection e with c d f
 subst c d f
 exact⟨rfl,j,k,g,i⟩
theorem mM{w:am}{ops:Array Oper}{c:List Oper}{o:Oper}{a:Act}{Q:Exit->Act->am->Prop}(D:o.guard=ae){s x:Operand}
 (I:o.op=.call { callee:=.builtin .append,args:=#[s,x],argTypes:=#[253,253] })
 (base:Nat) (v:ar) {A:List gp} (J:a.eval s=v) (T:iQ w base v A)
 {t:Addr} (e:gp) (hx:a.eval x=aB (ag t) 1 1) (K:∀j u,(jZ e)[j]?=ag u->w.cell? (t.add j)=ag u)
 (H:A.length<=8796093022207) (L:base<=w.heap.size)
 (h:∀d w',iQ w' base d (A++[e])->w.grownBy w' v.ownBlock->(∀j,d.ownBlock=ag j->v.ownBlock=ag j\/w.heap.size<=j)->wpList ax ops Q c (a.put o.dst d) w'):wpList ax ops Q (o::c) a w:=by
 obtain⟨i,G,O,M,N⟩:=sy Tryz.Yk
 have done:∀d w',wY w' base d (A++[e])->w.grownBy w' v.ownBlock->(∀j,d.ownBlock=ag j->v.ownBlock=ag j\/w.heap.size<=j)->wpList ax ops Q c (a.put o.dst d) w':=λd w' n=>h d w' (.pL n)
 have r:wY w base v A->wpList ax ops Q (o::c) a w:=λW=>by
  refine wpList_append_own_at (w:=w) D s x 253 I base 228 i _ 2 16 Tryz.underlying253 G O M N rfl (by decide) v A.length (A.flatMap jZ) J W t 1 1 (jZ e) hx rfl K (by intro u q;simp only[jZ,cR,dK,iG]at q;rcases q with rfl | rfl <;> rfl)
   (by simp only[maxLen];omega) (by omega) L ?_
  intro d w' n l X p
  refine done d w' ?_ l λj f=>?_
  ·unfold wY
   rw[aN,ug,show[e].flatMap jZ=jZ e by simp]
   exact n
  ·rcases p with p | p
   ·exact .inl (p▸f)
   ·rw[p]at f;injection f with f;exact .inr (by omega)
 rcases T with⟨rfl,rfl⟩ | ⟨g,y,z,rfl,S,F,B,V,C,P⟩
 ·exact r (wY.nil w base)
 ·rcases C with C | rfl
  ·exact r ⟨by rw[mH],.inr ⟨g,y,z,rfl,S,F,B,V,C,P⟩⟩
  ·refine wpList_append_grows w D s x 253 I 228 i _ 2 16 Tryz.underlying253 G O M N rfl (by decide) (ag ⟨g,0,ae⟩) A.length A.length (A.flatMap jZ) J (λe=>by cases e) (mH A) (λb m j u f=>?_) t 1 1 (jZ e) hx rfl K (by intro u q;simp only[jZ,cR,dK,iG]at q;rcases q with rfl | rfl <;> rfl)
    (by omega) (by simp only[maxLen];omega) (by omega) ?_
   ·injection m with m
    subst m
    have E:=(aK.1 f).1
    rw[mH]at E
    rw[VW,aZ _ F,<-eQ,<-f,<-P,dt,bj E,cL]
   ·intro d w' n l
    refine done d w' ?_ ⟨l.os,l.tape,l.output,l.size,λk U _=>l.block k U (by simp)⟩ λj f=>.inr (dq n f).1
    refine wY.base (base:=w.heap.size) ?_ L
    unfold wY
    rw[aN,ug,show[e].flatMap jZ=jZ e by simp]
    exact n
end
section
open Go.RowKit
structure jE where
 step:Int
 l:List gp
 told:Bool
 last:gp
def ym(L:List gp):gp:=ii L (L.length-1)
def nh(lsn a:Int):Prop:=lsn<1\/a<0\/2147483647<a
def pA(X:jE)(lsn a:Int):Prop:=X.told=aj/\(X.last.lsn=9223372036854775807\/lsn≠X.last.lsn+1\/a<=X.last.off)
def H'(X:jE)(a:Int):Prop:=X.l.length=0\/X.step<=a-(ym X.l).off
def Nz(X:jE)(lsn a:Int)(Y:jE)(b:Int):Prop:=
 (nh lsn a/\Y=X/\b=1)\/(¬ nh lsn a/\pA X lsn a/\Y=X/\b=63)\/
 (¬ nh lsn a/\¬ pA X lsn a/\H' X a/\Y=⟨X.step,X.l++[⟨lsn,a⟩],aj,⟨lsn,a⟩⟩/\b=0)\/
 (¬ nh lsn a/\¬ pA X lsn a/\¬ H' X a/\Y=⟨X.step,X.l,aj,⟨lsn,a⟩⟩/\b=0)
structure lY(X:jE):Prop where
 step:1<=X.step/\X.step<=1048576
 told:X.told=aj↔1<=X.l.length
 none:X.told=ah->X.last=⟨0,0⟩
 low:X.told=aj->1<=X.last.lsn
 lsn:0<=X.last.lsn/\X.last.lsn<=9223372036854775807
 off:0<=X.last.off/\X.last.off<=2147483647
 YQ:∀i,i<X.l.length->1<=(ii X.l i).lsn/\(ii X.l i).lsn<=X.last.lsn/\0<=(ii X.l i).off/\(ii X.l i).off<=X.last.off
 Fy:∀i,i+1<X.l.length->(ii X.l i).lsn<(ii X.l (i+1)).lsn/\(ii X.l i).off+X.step<=(ii X.l (i+1)).off
theorem lY.up{X:jE}(h:lY X):∀i,i<X.l.length->(i:Int)<=(ii X.l i).off
 | 0,hi=>(h.YQ 0 hi).2.2.1
 | i+1,hi=>by
  have a:=h.up i (by omega)
  have b:=(h.Fy i hi).2
  have c:=h.step.1
  omega
theorem lY.len{X:jE}(h:lY X):X.l.length<=2147483648:=by
 rcases gV X.l.length with a | a
 ·omega
 ·have b:=h.up (X.l.length-1) (by omega)
  have c:=(h.YQ (X.l.length-1) (by omega)).2.2.2
  have d:=h.off.2
  omega
theorem lY.lt{X:jE}(h:lY X):∀k i,i+k+1<X.l.length->(ii X.l i).lsn<(ii X.l (i+k+1)).lsn
 | 0,i,hi=>(h.Fy i hi).1
 | k+1,i,hi=>by
  have a:=h.lt k i (by omega)
  have b:=(h.Fy (i+k+1) (by omega)).1
  have e:i+(k+1)+1=i+k+1+1:=by omega
  rw[e]
  omega
theorem lY.le{X:jE}(h:lY X){i j:Nat}(a:i<=j)(c:j<X.l.length):(ii X.l i).lsn<=(ii X.l j).lsn:=by
 rcases Nat.eq_or_lt_of_le a with rfl | b
 ·omega
 ·have:=h.lt (j-i-1) i (by omega)
  rw[show i+(j-i-1)+1=j by omega]at this
  omega
def Aa(step:Int):jE:=⟨step,[],ah,⟨0,0⟩⟩
theorem Ym{s:Int}(h:1<=s)(b:s<=1048576):lY (Aa s):=
 ⟨⟨h,b⟩,⟨λe=>(by cases e),λe=>(by simp[Aa]at e)⟩,λ_=>rfl,λe=>(by cases e),⟨by simp[Aa],by simp[Aa]⟩,⟨by simp[Aa],by simp[Aa]⟩,λi a=>(by simp[Aa]at a),λi a=>(by simp[Aa]at a)⟩
theorem rT{A B:List gp}{i:Nat}(h:i<A.length):ii (A++B) i=ii A i:=by simp[ii,bI h]
theorem A0(A:List gp)(e:gp):ii (A++[e]) A.length=e:=by simp[ii]
theorem Nz.ok{X:jE}{lsn a:Int}{Y:jE}{n:Int}(h:Nz X lsn a Y n)(hx:lY X)(k:lsn<=9223372036854775807):lY Y:=by
 rcases h with⟨-,rfl,-⟩ | ⟨-,-,rfl,-⟩ | ⟨d,f,g,rfl,-⟩ | ⟨d,f,g,rfl,-⟩
 ·exact hx
 ·exact hx
 all_goals
  have l:X.last.lsn<lsn/\(X.told=aj->X.last.off<a):=by
   rcases hb:X.told with _ | _
   ·have:=hx.none hb
    rw[this]
    exact⟨by unfold nh at d;dsimp only;omega,λe=>by cases e⟩
   ·unfold pA at f
    rw[hb]at f
    simp only[true_and,not_or]at f
    exact⟨by omega,λ_=>by omega⟩
  have o:X.last.off<=a:=by
   rcases hb:X.told with _ | _
   ·have:=hx.none hb
    rw[this]
    unfold nh at d;dsimp only;omega
   ·have:=l.2 hb;omega
  have c:1<=lsn/\0<=a/\a<=2147483647:=by unfold nh at d;omega
 ·refine⟨hx.step,⟨λ_=>(by simp),λ_=>rfl⟩,λe=>(by cases e),λ_=>c.1,⟨by dsimp only;omega,k⟩,⟨c.2.1,c.2.2⟩,λi b=>?_,λi b=>?_⟩
  ·dsimp only at b ⊢
   rw[aN,cP]at b
   rcases cg i X.l.length with h | h
   ·rw[rT h]
    have:=hx.YQ i h
    omega
   ·obtain rfl:i=X.l.length:=by omega
    rw[A0]
    dsimp only
    omega
  ·dsimp only at b ⊢
   rw[aN,cP]at b
   rcases cg (i+1) X.l.length with h | h
   ·rw[rT h,rT (by omega)]
    exact hx.Fy i h
   ·have j:X.l.length=i+1:=by omega
    have e:ii (X.l++[⟨lsn,a⟩]) (i+1)=⟨lsn,a⟩:=by
     have:=A0 X.l ⟨lsn,a⟩
     rw[j]at this
     exact this
    have m:ym X.l=ii X.l i:=by unfold ym;rw[j,nk]
    rw[e,rT (by omega)]
    unfold H' at g
    rw[m]at g
    have:=hx.YQ i (by omega)
    dsimp only
    omega
 ·refine⟨hx.step,⟨λ_=>?_,λ_=>rfl⟩,λe=>(by cases e),λ_=>c.1,⟨by dsimp only;omega,k⟩,⟨c.2.1,c.2.2⟩,λi b=>?_,hx.Fy⟩
  ·unfold H' at g
   dsimp only
   omega
  ·have:=hx.YQ i b
   dsimp only
   omega
structure jF(w:am)(base xb:Nat)(X:jE)(ao:Option Addr)(n cap:Nat):Prop where
 row:w.heap[xb]?=ag (aG #[ay az X.step,aB ao n cap,.bool X.told,ay az X.last.lsn,ay az X.last.off] 255 (0,0))
 held:iQ w base (aB ao n cap) X.l
 low:base<=xb
theorem jF.dV{w w':am}{base d:Nat}{X:jE}{b:Option Addr}{n a:Nat}(h:jF w base d X b n a)(c:Below w.heap.size w w'):jF w' base d X b n a:=
 ⟨(c.block _ (aT h.row)).trans h.row,h.held.dV c,h.low⟩
theorem jF.move{w w':am}{base b:Nat}{X:jE}{c:Option Addr}{n a:Nat}(h:jF w base b X c n a)(d:∀q,q=b\/(Value.slice c n a).ownBlock=ag q->w'.heap[q]?=w.heap[q]?):jF w' base b X c n a:=
 ⟨(d b (.inl rfl)).trans h.row,pO h.held λq e=>d q (.inr e),h.low⟩
structure jw(w w':am)(xb:Nat)(v v':ar):Prop where
 os:w'.os=w.os
 tape:w'.tape=w.tape
 output:w'.output=w.output
 size:w.heap.size<=w'.heap.size
 iZ:∀q,q<w.heap.size->q≠xb->v.ownBlock≠ag q->w'.heap[q]?=w.heap[q]?
 who:∀j,v'.ownBlock=ag j->v.ownBlock=ag j\/w.heap.size<=j
theorem jw.bh{w w':am}(c:Nat)(v:ar)(h:Below w.heap.size w w'):jw w w' c v v:=
 ⟨h.os,h.tape,h.output,h.size,λq b _ _=>h.block q b,λ_ a=>.inl a⟩
theorem jw.trans{w i l:am}{a:Nat}{v f g:ar}(h:jw w i a v f)(k:jw i l a f g):jw w l a v g:=
 ⟨k.os.trans h.os,k.tape.trans h.tape,k.output.trans h.output,bJ h.size k.size,λq d b c=>(k.iZ q (aW d h.size) b (λe=>by
  rcases h.who q e with e | e
  ·exact c e
  ·omega)).trans (h.iZ q d b c),λj m=>by
  rcases k.who j m with e | e
  ·exact h.who j e
  ·exact .inr (bJ h.size e)⟩
theorem Jv(s:Int)(w:am)(a:1<=s)(b:s<=1048576):
 aw ax 155 #[ay az s] w λe w'=>e=aF (.tuple #[aA (ag ⟨w.heap.size,0,ae⟩),ay az 0])/\jF w' w.heap.size w.heap.size (Aa s) ae 0 0/\Below w.heap.size w w':=by
 go_in
 go_wp2_with fail
 go_ret2
 exact⟨rfl,⟨bp w _,iQ.nil _ _,bT _⟩,aY _ _⟩
theorem rm(b:Nat)(s:Int)(t:Bool)(w:am)(c:w.cell? ⟨b,0,ae⟩=ag (ay az s))(a:decide (0<s)=t):
 aw ax 97 #[aA (ag ⟨b,0,ae⟩)] w λe w'=>e=aF (.bool t)/\w=w':=by
 go_in
 subst a
 go_wp2_with fail
 go_ret
 exact⟨rfl,rfl⟩
def VG(L:List gp)(lsn:Int)(k:Nat):Prop:=k<=L.length/\(∀t,t<k->(ii L t).lsn<lsn)/\∀t,k<=t->t<L.length->lsn<=(ii L t).lsn
theorem Gi(b a d g n f i:Nat)(L:List gp)(lsn:Int)(W:am)(hx:W.cell? ⟨b,0,ae⟩=ag (aA (ag ⟨d,0,ae⟩)))(m:W.cell? ⟨a,0,ae⟩=ag (ay az lsn))(k:W.cell? ⟨d,1,ae⟩=ag (aB (ag ⟨g,0,ae⟩) n f))(c:m7 W g (i*2) (ii L i))(l:i<n):
 aw ax 122 (#[ay az i]++#[aA (ag ⟨b,0,ae⟩),aA (ag ⟨a,0,ae⟩)]) W λe w'=>e=aF (aC (decide (lsn<=(ii L i).lsn)))/\∃q,w'=W.drewN q:=by
 have j:=c.c0
 have h:(i:Int)<(n:Int):=by omega
 clear c
 go_in
 go_wp2_with fail
 go_quiet (fail)
 go_wp2_with fail
 go_ret
 exact⟨rfl,nq,rfl⟩
theorem Tt(base a n z:Nat)(X:jE)(I:Option Addr)(lsn:Int)(w:am)(H:Hid (jF w base a X I n z))(D:Hid (lY X)):
 aw ax 98 #[aA (ag ⟨a,0,ae⟩),ay az lsn] w λe w'=>∃k:Nat,e=aF (ay az k)/\VG X.l lsn k/\Below w.heap.size w w':=by
 have m:=aY w (aG #[aA (ag ⟨a,0,ae⟩)] 223)
 have f:=bp w (aG #[aA (ag ⟨a,0,ae⟩)] 223)
 obtain⟨c,J⟩:=bP (w.alloc (aG #[aA (ag ⟨a,0,ae⟩)] 223))
 rw[J]at m f
 have d:=aY c (aG #[ay az lsn] 2)
 have l:=bp c (aG #[ay az lsn] 2)
 obtain⟨U,S⟩:=bP (c.alloc (aG #[ay az lsn] 2))
 rw[S]at l d
 have P:=bL d (aZ 0 f)
 have Q:=aZ 0 l
 have s:=aH (aM m d)
 have h:=aH (H.out.dV s.out)
 have k2:=aZ 1 h.out.row
 have E:=aH P
 have G:=aH Q
 have b:=aH h.out.held.len
 have T:(n:Int)<=2147483648:=by have:=D.out.len;have:=b.out.1;omega
 clear m d f l
 go_in
 go_wp2_with fail
 have u:=vI 122 #[aA (ag ⟨w.heap.size,0,ae⟩),aA (ag ⟨c.heap.size,0,ae⟩)] n (λi=>decide (lsn<=(ii X.l i).lsn)) U (enters_of Tryz.func122 (by kernel_rfl) rfl) (by omega)
  (λw' i o M=>by
   have r:=h.out.dV o
   obtain⟨g,rfl,-,L,-⟩:=r.held.get (i:=i) (by have:=b.out.1;omega)
   refine(Gi w.heap.size c.heap.size a g n z i X.l lsn w' (bL o E.out) (bL o G.out) (aZ 1 r.row) L M).mono ?_
   rintro e zH ⟨rfl,q,rfl⟩
   exact⟨rfl,below_drewN _ _⟩)
  (λx y p hy N=>by
   have V:=dX N
   have W:=D.out.le p (by have:=b.out.1;omega)
   exact bM (by omega))
 refine u.mono ?_
 rintro e w3 ⟨k,rfl,⟨Z,A,B⟩,C⟩
 have F:=aH (show VG X.l lsn k from⟨by have:=b.out.1;omega,λt O=>by have:=of_decide_eq_false (A t O);omega,λt K Y=>dX (B t K (by have:=b.out.1;omega))⟩)
 have j:=aH (aM s.out C)
 clear C A B u
 go_wp2_with fail
 go_ret
 exact⟨k,rfl,F.out,j.out⟩
end
section
open Go.RowKit
structure qF(xb eb:Nat)(lsn off:Int)(v:ar)(w:am):Prop where
 x1:w.cell? ⟨xb,1,ae⟩=ag v
 e0:w.cell? ⟨eb,0,ae⟩=ag (ay az lsn)
 e1:w.cell? ⟨eb,1,ae⟩=ag (ay az off)
theorem qF.below{d c:Nat}{lsn a:Int}{v:ar}{w w':am}(h:qF d c lsn a v w)(b:Below w.heap.size w w'):qF d c lsn a v w':=⟨bL b h.x1,bL b h.e0,bL b h.e1⟩
structure vt(eb:Nat)(lsn off:Int)(w:am):Prop where
 e0:w.cell? ⟨eb,0,ae⟩=ag (ay az lsn)
 e1:w.cell? ⟨eb,1,ae⟩=ag (ay az off)
theorem yQ{w:am}{b:Nat}{lsn a:Int}(h:w.heap[b]?=ag (aG #[ay az lsn,ay az a] 228 (0,0))):vt b lsn a w:=⟨aZ 0 h,aZ 1 h⟩
theorem qF.mk7{w:am}{base f d:Nat}{X:jE}{b:Option Addr}{n c:Nat}{lsn a:Int}(h:jF w base f X b n c)(e:w.heap[d]?=ag (aG #[ay az lsn,ay az a] 228 (0,0))):qF f d lsn a (aB b n c) w:=⟨aZ 1 h.row,aZ 0 e,aZ 1 e⟩
theorem Ml(w:am)(e:gp):∀j u,(jZ e)[j]?=ag u->(w.alloc (aG #[ay az e.lsn,ay az e.off] 228)).cell? ((⟨w.heap.size,0,ae⟩:Addr).add j)=ag u:=λj u a=>by
 have h:=bp w (aG #[ay az e.lsn,ay az e.off] 228)
 have c:m7 (w.alloc (aG #[ay az e.lsn,ay az e.off] 228)) w.heap.size 0 e:=⟨aZ 0 h,aZ 1 h⟩
 rw[VW]
 exact c.range j u a
theorem bE{w:am}{g:Nat}{cs:Array ar}{t:au}(h:w.heap[g]?=ag (.cells cs t (0,0)))(i:Nat)(u:ar):(w.setCell ⟨g,i,ae⟩ u).heap[g]?=ag (aG (cs.setIfInBounds i u) t (0,0)):=jA h u
theorem bD{w:am}{g i q:Nat}{u:ar}(h:q≠g):(w.setCell ⟨g,i,ae⟩ u).heap[q]?=w.heap[q]?:=eh _ _ _ _ h
theorem CT{w:am}{base b:Nat}{v:ar}{L:List gp}{cs:Array ar}{f:Nat×Nat}(h:iQ w base v L)(d:w.heap[b]?=ag (.cells cs 255 f)):v.ownBlock≠ag b:=λe=>by
 obtain⟨-,c,a⟩:=ru h e
 rw[d]at a
 simp at a
structure adC(w0 w3:am)(base xb eb:Nat)(X:jE)(ao:Option Addr)(n ca:Nat)(e:gp)(a3:Option Addr)(n3 c3:Nat):Prop where
 row:w3.heap[xb]?=ag (aG #[ay az X.step,aB ao n ca,.bool X.told,ay az X.last.lsn,ay az X.last.off] 255 (0,0))
 reads:qF xb eb e.lsn e.off (aB ao n ca) w3
 ie:jF (w3.setCell ⟨xb,1,ae⟩ (aB a3 n3 c3)) base xb ⟨X.step,X.l++[e],X.told,X.last⟩ a3 n3 c3
 turned:jw w0 (w3.setCell ⟨xb,1,ae⟩ (aB a3 n3 c3)) xb (aB ao n ca) (aB a3 n3 c3)
 YQ:(w3.setCell ⟨xb,1,ae⟩ (aB a3 n3 c3)).heap[eb]?=ag (aG #[ay az e.lsn,ay az e.off] 228 (0,0))
theorem Gh{s w a:am}{base b l:Nat}{X:jE}{i:Option Addr}{n k:Nat}{e:gp}{c:Option Addr}{g d:Nat}(m:Below s.heap.size s w)(H:jF w base b X i n k)(E:w.heap[l]?=ag (aG #[ay az e.lsn,ay az e.off] 228 (0,0)))
 (B:(Value.slice i n k).ownBlock≠ag l) (u:iQ a base (aB c g d) (X.l++[e])) (f:w.grownBy a (Value.slice i n k).ownBlock) (A:∀j,(Value.slice c g d).ownBlock=ag j->(Value.slice i n k).ownBlock=ag j\/s.heap.size<=j):adC s a base b l X i n k e c g d:=by
 have p:a.heap[b]?=ag (aG #[ay az X.step,aB i n k,.bool X.told,ay az X.last.lsn,ay az X.last.off] 255 (0,0)):=(f.block b (aT H.row) (λe=>CT H.held H.row e.symm)).trans H.row
 have o:a.heap[l]?=ag (aG #[ay az e.lsn,ay az e.off] 228 (0,0)):=(f.block l (aT E) (λe=>B e.symm)).trans E
 have t:l≠b:=λh=>by
  rw[h,p]at o
  simp at o
 refine⟨p,⟨aZ 1 p,aZ 0 o,aZ 1 o⟩,⟨bE p 1 _,pO u λq r=>bD (λh=>CT u p (h▸r)),H.low⟩,⟨?_,?_,?_,?_,λq r x y=>?_,λj z=>?_⟩,(bD t).trans o⟩
 ·exact(show(a.setCell ⟨b,1,ae⟩ (aB c g d)).os=a.os from rfl).trans (f.os.trans m.os)
 ·exact(show(a.setCell ⟨b,1,ae⟩ (aB c g d)).tape=a.tape from rfl).trans (f.tape.trans m.tape)
 ·exact(show(a.setCell ⟨b,1,ae⟩ (aB c g d)).output=a.output from rfl).trans (f.output.trans m.output)
 ·have:(a.setCell ⟨b,1,ae⟩ (aB c g d)).heap.size=a.heap.size:=by simp[World.setCell]
  rw[this]
  exact bJ m.size f.size
 ·exact(bD x).trans ((f.block q (aW r m.size) (λe=>y e.symm)).trans (m.block q r))
 ·exact A j z
structure apD(w:am)(base xb eb:Nat)(X:jE)(ao:Option Addr)(n ca:Nat)(e:gp):Prop where
 r0:w.drew.heap[xb]?=ag (aG #[ay az X.step,aB ao n ca,.bool X.told,ay az X.last.lsn,ay az X.last.off] 255 (0,0))
 e0:vt eb e.lsn e.off w.drew
 r1:(w.drew.setCell ⟨xb,2,ae⟩ (aC aj)).heap[xb]?=ag (aG #[ay az X.step,aB ao n ca,aC aj,ay az X.last.lsn,ay az X.last.off] 255 (0,0))
 e1:vt eb e.lsn e.off (w.drew.setCell ⟨xb,2,ae⟩ (aC aj))
 e2:vt eb e.lsn e.off (((w.drew.setCell ⟨xb,2,ae⟩ (aC aj)).setCell ⟨xb,3,ae⟩ (ay az e.lsn)).setCell ⟨xb,4,ae⟩ (ay az e.off))
 ie:jF (((w.drew.setCell ⟨xb,2,ae⟩ (aC aj)).setCell ⟨xb,3,ae⟩ (ay az e.lsn)).setCell ⟨xb,4,ae⟩ (ay az e.off)) base xb ⟨X.step,X.l,aj,e⟩ ao n ca
 turned:jw w (((w.drew.setCell ⟨xb,2,ae⟩ (aC aj)).setCell ⟨xb,3,ae⟩ (ay az e.lsn)).setCell ⟨xb,4,ae⟩ (ay az e.off)) xb (aB ao n ca) (aB ao n ca)
theorem CD{w:am}{base b g:Nat}{X:jE}{k:Option Addr}{n l:Nat}{e:gp}(H:jF w base b X k n l)(E:w.heap[g]?=ag (aG #[ay az e.lsn,ay az e.off] 228 (0,0)))(f:g≠b):apD w base b g X k n l e:=by
 have m:w.drew.heap[b]?=_:=H.row
 have o:=bE m 2 (aC aj)
 have s:=bE o 3 (ay az e.lsn)
 have t:=bE s 4 (ay az e.off)
 have c:∀q,q≠b->(((w.drew.setCell ⟨b,2,ae⟩ (aC aj)).setCell ⟨b,3,ae⟩ (ay az e.lsn)).setCell ⟨b,4,ae⟩ (ay az e.off)).heap[q]?=w.heap[q]?:=λq d=>(bD d).trans ((bD d).trans (bD (w:=w.drew) d))
 refine⟨m,yQ (w:=w.drew) E,o,yQ ((bD (w:=w.drew) f).trans E),yQ ((c g f).trans E),⟨t,pO H.held λq d=>c q (λh=>CT H.held H.row (h▸d)),H.low⟩,⟨rfl,rfl,rfl,?_,λq _ p _=>c q p,λj r=>.inl r⟩⟩
 have i:∀(W:am) (a:Addr) (u:ar),(W.setCell a u).heap.size=W.heap.size:=λW a u=>by simp[World.setCell]
 rw[i,i,i]
 exact bT _
theorem z7(base g n k:Nat)(l:Int)(L:List gp)(i:Option Addr)(lsn b:Int)(w:am)(H:Hid (jF w base g ⟨l,L,ah,⟨0,0⟩⟩ i n k))(W:Hid (lY ⟨l,L,ah,⟨0,0⟩⟩))(HB:Hid (base<=w.heap.size))(h1:1<=lsn)(h2:0<=b)(h3:b<=2147483647):
 aw ax 178 #[aA (ag ⟨g,0,ae⟩),ay az lsn,ay az b] w λe w'=>∃xA U S,e=aF (ay az 0)/\jF w' base g ⟨l,L++[⟨lsn,b⟩],aj,⟨lsn,b⟩⟩ xA U S/\jw w w' g (aB i n k) (aB xA U S):=by
 have G:L.length=0:=by have:=W.out.told;simp at this;simp[this]
 obtain rfl:n=0:=by have:=H.out.held.len.1;dsimp only at this;omega
 have C:Hid ((⟨l,L,ah,⟨0,0⟩⟩:jE).l.length<=8796093022207):=aH (by dsimp only;omega)
 have s:=aY w (aG #[ay az lsn,ay az b] 228)
 have I:=bp w (aG #[ay az lsn,ay az b] 228)
 obtain⟨N,gv⟩:=bP (w.alloc (aG #[ay az lsn,ay az b] 228))
 rw[gv]at s I
 have B1:=aH s
 have y:=aH I
 have A:=aH (H.out.dV s)
 have NE:=aH (show(Value.slice i 0 k).ownBlock≠ag w.heap.size from λe=>by
  obtain⟨-,c,hc⟩:=ru H.out.held e
  have:=aT hc;omega)
 have IN:=aH (show w.heap.size≠g from λe=>by have:=aT H.out.row;omega)
 have O:=aZ 0 H.out.row
 have x2:=aZ 2 H.out.row
 have Z:=aZ 1 A.out.row
 have t1:decide (lsn<1)=ah:=bC (by omega)
 have t2:decide (b<0)=ah:=bC (by omega)
 have t3:decide (2147483647<b)=ah:=bC (by omega)
 have M:=W.out.step.1
 dsimp only at O Z x2 M
 clear s I h1 h2 h3 G
 go_in
 go_wp2_with fail
 refine(rm g l aj w O (bM (by omega))).mono ?_
 rintro e w' ⟨rfl,rfl⟩
 go_wp2_with fail
 go_quiet (fail)
 obtain⟨u,D⟩:=bP (N.drewN nq)
 rw[D]
 have t:Below N.heap.size N u:=by rw[<-D];exact below_drewN _ _
 have x:=aH (aM B1.out t)
 have Q:=aH (A.out.dV t)
 have z:=aH ((t.block _ (aT y.out)).trans y.out)
 clear t D O Z x2 A y
 go_wp2_with fail
 have J:∀p:In (qF g w.heap.size lsn b (aB i 0 k)),p.w.cell? ⟨g,1,ae⟩=ag (aB i 0 k):=λp=>p.h.x1
 have K:∀p:In (qF g w.heap.size lsn b (aB i 0 k)),p.w.cell? ⟨w.heap.size,0,ae⟩=ag (ay az lsn):=λp=>p.h.e0
 have q2:∀p:In (qF g w.heap.size lsn b (aB i 0 k)),p.w.cell? ⟨w.heap.size,1,ae⟩=ag (ay az b):=λp=>p.h.e1
 refine ct [0,1,2,3,4,5,6,7,8,9] 10 (qF g w.heap.size lsn b (aB i 0 k)) (by kernel_rfl) (by kernel_rfl) (by intro c a d v w h;cases d <;> exact h) ((qF.mk7 Q.out z.out).below (bi _)) ?_
 intro F
 simp only[pick,aV,a8,aQ,aR,aI,aL]
 refine aX 6 (by kernel_rfl) ?_
 simp only[aJ,aO,aI,aL]
 repeat (go_big_quiet_step (fail))
 refine aU ?_
 refine aS rfl ?_ rfl
 go_wp2_with fail
 have r:=aH (aM (bi u) (aY u.drew (aG #[ay az lsn,ay az b] 228)))
 have NC:=aH (Ml u.drew ⟨lsn,b⟩)
 have B:=aH (Q.out.dV r.out)
 have P:=aH ((r.out.block _ (aT z.out)).trans z.out)
 refine⟨⟨⟨_,qF.mk7 B.out P.out⟩,rfl⟩,?_⟩
 refine aS rfl ?_ rfl
 go_wp2_with (refine mM (o:=⟨ag 90,_,_,_,_,_⟩) rfl rfl base (aB i 0 k) rfl B.out.held ⟨lsn,b⟩ rfl NC.out C.out (bJ HB.out (bJ x.out.size r.out.size)) ?_)
 intro v3 w3 E Y X
 obtain⟨a3,c3,T,-⟩:=E.shape
 obtain⟨V,q⟩:=bP (((⟨l,L,ah,⟨0,0⟩⟩:jE).l++[(⟨lsn,b⟩:gp)]).length)
 rw[show((⟨l,L,ah,⟨0,0⟩⟩:jE).l++[(⟨lsn,b⟩:gp)]).length=V from q]at T
 subst T
 have f:=aH (Gh (aM x.out r.out) B.out P.out NE.out E Y (λj hj=>(X j hj).imp id λh=>by have:=x.out.size;omega))
 have k1:=aZ 1 f.out.row
 have f1:=bQ 1 f.out.row
 clear E Y X q
 go_wp2_with fail
 refine⟨⟨⟨_,f.out.reads⟩,rfl⟩,?_⟩
 refine aX 2 (by kernel_rfl) ?_
 simp only[aJ,aO,aI,aL]
 repeat (go_big_quiet_step (fail))
 refine aU ?_
 refine bF ?_
 clear F J K q2
 change wpList _ _ _ _ _ _
 go_wp2_with fail
 have IA:=aH f.out.ie
 have IE:=aH f.out.YQ
 have IT:=aH f.out.turned
 clear k1 f1
 have J:∀p:In (vt w.heap.size lsn b),p.w.cell? ⟨w.heap.size,0,ae⟩=ag (ay az lsn):=λp=>p.h.e0
 have K:∀p:In (vt w.heap.size lsn b),p.w.cell? ⟨w.heap.size,1,ae⟩=ag (ay az b):=λp=>p.h.e1
 have m:=aH (CD (e:=⟨lsn,b⟩) IA.out IE.out IN.out)
 have k2:=aZ 2 f.out.row
 have f2:=bQ 2 f.out.row
 refine bX [0,1,2,3,4,5,6,7,8] (vt w.heap.size lsn b) (by kernel_rfl) (by kernel_rfl) (by intro c a d v w h;cases d <;> exact h) m.out.e0 ?_
 intro F
 simp only[pick,aV,a8,aQ,aR]
 refine aX 5 (by kernel_rfl) ?_
 simp only[aJ,aO,aI,aL]
 repeat (go_big_quiet_step (fail))
 refine aU ?_
 refine aS rfl ?_ rfl
 go_wp2_with fail
 refine⟨⟨⟨_,m.out.e1⟩,rfl⟩,?_⟩
 refine aX 2 (by kernel_rfl) ?_
 simp only[aJ,aO,aI,aL]
 repeat (go_big_quiet_step (fail))
 refine aU ?_
 refine aS rfl ?_ rfl
 clear k2 f2
 have k3:=aZ 3 f.out.row
 have k4:=aZ 4 f.out.row
 have f3:=bQ 3 f.out.row
 have f4:=bQ 4 f.out.row
 go_wp2_with fail
 refine⟨⟨⟨_,m.out.e2⟩,rfl⟩,?_⟩
 refine bF ?_
 clear F J K k3 k4 f3 f4
 go_wp2_with fail
 go_ret
 exact⟨a3,V,c3,rfl,m.out.ie,IT.out.trans m.out.turned⟩
theorem Gj(d:Nat)(c lsn a:Int)(w:am)(j:w.cell? ⟨d,0,ae⟩=ag (ay az c))(k:1<=c)(h:nh lsn a):
 aw ax 178 #[aA (ag ⟨d,0,ae⟩),ay az lsn,ay az a] w λe w'=>e=aF (ay az 1)/\w=w':=by
 have g:=aH h
 clear h
 go_in
 go_wp2_with fail
 refine(rm d c aj w j (bM (by omega))).mono ?_
 rintro e w' ⟨rfl,rfl⟩
 rcases g.out with h | h | h
 ·go_wp2_with fail
  go_ret
  exact⟨rfl,rfl⟩
 ·by_cases b:lsn<1
  ·go_wp2_with fail
   go_ret
   exact⟨rfl,rfl⟩
  ·have i:decide (lsn<1)=ah:=bC b
   clear b
   go_wp2_with fail
   go_ret
   exact⟨rfl,rfl⟩
 ·have f:¬ a<0:=by omega
  have l:decide (a<0)=ah:=bC f
  have m:decide (2147483647<a)=aj:=bM h
  clear f h
  by_cases b:lsn<1
  ·go_wp2_with fail
   go_ret
   exact⟨rfl,rfl⟩
  ·have i:decide (lsn<1)=ah:=bC b
   clear b
   go_wp2_with fail
   go_ret
   exact⟨rfl,rfl⟩
theorem zZ(c:Nat)(i b g lsn a:Int)(w:am)(o:w.cell? ⟨c,0,ae⟩=ag (ay az i))(y:w.cell? ⟨c,2,ae⟩=ag (aC aj))(z:w.cell? ⟨c,3,ae⟩=ag (ay az b))(A:w.cell? ⟨c,4,ae⟩=ag (ay az g))
 (s:1<=i) (r:0<=b/\b<=9223372036854775807) (l:1<=lsn) (m:0<=a) (n:a<=2147483647) (h:b=9223372036854775807\/lsn≠b+1\/a<=g):
 aw ax 178 #[aA (ag ⟨c,0,ae⟩),ay az lsn,ay az a] w λe w'=>e=aF (ay az 63)/\w=w':=by
 have j:=aH h
 have k:=aH r
 have t:decide (lsn<1)=ah:=bC (by omega)
 have u:decide (a<0)=ah:=bC (by omega)
 have x:decide (2147483647<a)=ah:=bC (by omega)
 clear h r l m n
 go_in
 go_wp2_with fail
 refine(rm c i aj w o (bM (by omega))).mono ?_
 rintro e w' ⟨rfl,rfl⟩
 by_cases d:b=9223372036854775807
 ·have p:(b==9223372036854775807)=aj:=by simp[d]
  clear d
  go_wp2_with fail
  go_ret
  exact⟨rfl,rfl⟩
 ·have p:(b==9223372036854775807)=ah:=by simp[d]
  have B:IntKind.i64.wrap (b+1)=b+1:=kT _ (by have:=k.out;omega)
  by_cases f:lsn=b+1
  ·have q:(lsn !=b+1)=ah:=by simp[f]
   have C:decide (a<=g)=aj:=bM (by have:=j.out;omega)
   clear d f
   go_wp2_with fail
   go_ret
   exact⟨rfl,rfl⟩
  ·have q:(lsn !=b+1)=aj:=by simp[f]
   clear d f
   go_wp2_with fail
   go_ret
   exact⟨rfl,rfl⟩
def ai6(w:am)(base h:Nat)(c:Int)(L:List gp)(lsn a:Int)(v:ar)(e:Ending)(w':am):Prop:=
 ∃b g f d,(c<=a-(ym L).off/\b=L++[⟨lsn,a⟩]\/¬ c<=a-(ym L).off/\b=L)/\e=aF (ay az 0)/\jF w' base h ⟨c,b,aj,⟨lsn,a⟩⟩ g f d/\jw w w' h v (aB g f d)
theorem CI(base q n t:Nat)(x l A:Int)(L:List gp)(ao:Option Addr)(lsn b:Int)(w:am)(H:Hid (jF w base q ⟨x,L,aj,⟨l,A⟩⟩ ao n t))(E:Hid (lY ⟨x,L,aj,⟨l,A⟩⟩))(HB:Hid (base<=w.heap.size))(h1:1<=lsn)(h2:0<=b)(h3:b<=2147483647)
 (g1:l≠9223372036854775807) (g2:lsn=l+1) (g3:A<b):
 aw ax 178 #[aA (ag ⟨q,0,ae⟩),ay az lsn,ay az b] w (ai6 w base q x L lsn b (aB ao n t)):=by
 have aa:1<=L.length:=E.out.told.1 rfl
 have Z:=H.out.held.len.1
 dsimp only at Z
 obtain⟨m,rfl⟩:∃m,n=m+1:=⟨n-1,by omega⟩
 have X:Hid ((⟨x,L,aj,⟨l,A⟩⟩:jE).l.length<=8796093022207):=aH (by have:=E.out.len;omega)
 have HE:=aH (E.out.YQ m (by dsimp only;omega))
 obtain⟨D,u⟩:=bP (ii L m)
 have I:=aH (show ym L=D from by unfold ym;rw[Z,nk,u])
 have Q:=aY w (aG #[ay az lsn,ay az b] 228)
 have n1:=bp w (aG #[ay az lsn,ay az b] 228)
 obtain⟨B,gv⟩:=bP (w.alloc (aG #[ay az lsn,ay az b] 228))
 rw[gv]at Q n1
 have B1:=aH Q
 have C:=aH n1
 have y:=aH (H.out.dV Q)
 obtain⟨g,rfl,-,S,-⟩:=y.out.held.get (i:=m) (by dsimp only;omega)
 have c1:B.cell? ⟨g,m*2+1,ae⟩=ag (ay az D.off):=by rw[<-u];exact S.c1
 have he:=HE.out
 dsimp only at he
 rw[u]at he
 have NE:=aH (show(Value.slice (ag ⟨g,0,ae⟩) (m+1) t).ownBlock≠ag w.heap.size from λe=>by
  obtain⟨-,c,S⟩:=ru H.out.held e
  have:=aT S;omega)
 have IN:=aH (show w.heap.size≠q from λe=>by have:=aT H.out.row;omega)
 have T:=aZ 0 H.out.row
 have x2:=aZ 2 H.out.row
 have x3:=aZ 3 H.out.row
 have x4:=aZ 4 H.out.row
 have y0:=aZ 0 y.out.row
 have y1:=aZ 1 y.out.row
 have t1:decide (lsn<1)=ah:=bC (by omega)
 have t2:decide (b<0)=ah:=bC (by omega)
 have t3:decide (2147483647<b)=ah:=bC (by omega)
 have ab:=E.out.step.1
 have lr:=E.out.lsn
 dsimp only at T x2 x3 x4 y0 y1 ab lr
 have z1:(l==9223372036854775807)=ah:=by simp[g1]
 have z2:IntKind.i64.wrap (l+1)=l+1:=kT _ (by omega)
 have z3:(lsn !=l+1)=ah:=by simp[g2]
 have z4:decide (b<=A)=ah:=bC (by omega)
 have z5:IntKind.i64.wrap (b-D.off)=b-D.off:=kT _ (by omega)
 have z6:((m:Int)+1==0)=ah:=by simp;omega
 have mz:(m:Int)<=2147483648:=by have:=E.out.len;dsimp only at this;omega
 clear Q n1 h1 h2 h3 aa g1 g2 g3 Z he u S lr
 go_in
 go_wp2_with fail
 refine(rm q x aj w T (bM (by omega))).mono ?_
 rintro e w' ⟨rfl,rfl⟩
 by_cases K:x<=b-D.off
 ·have W:=aH K
  go_wp2_with fail
  go_quiet (fail)
  obtain⟨F,z⟩:=bP (B.drewN nq)
  rw[z]
  have s:Below B.heap.size B F:=by rw[<-z];exact below_drewN _ _
  have G:=aH (aM B1.out s)
  have H7:=aH (y.out.dV s)
  have U:=aH ((s.block _ (aT C.out)).trans C.out)
  clear s z T x2 x3 x4 y0 y1 c1 y C z1 z2 z3 z4 z5 z6 K
  go_wp2_with fail
  have N:∀p:In (qF q w.heap.size lsn b (aB (ag ⟨g,0,ae⟩) (m+1) t)),p.w.cell? ⟨q,1,ae⟩=ag (aB (ag ⟨g,0,ae⟩) (m+1) t):=λp=>p.h.x1
  have O:∀p:In (qF q w.heap.size lsn b (aB (ag ⟨g,0,ae⟩) (m+1) t)),p.w.cell? ⟨w.heap.size,0,ae⟩=ag (ay az lsn):=λp=>p.h.e0
  have q2:∀p:In (qF q w.heap.size lsn b (aB (ag ⟨g,0,ae⟩) (m+1) t)),p.w.cell? ⟨w.heap.size,1,ae⟩=ag (ay az b):=λp=>p.h.e1
  refine ct [0,1,2,3,4,5,6,7,8,9] 10 (qF q w.heap.size lsn b (aB (ag ⟨g,0,ae⟩) (m+1) t)) (by kernel_rfl) (by kernel_rfl) (by intro c a d v w h;cases d <;> exact h) ((qF.mk7 H7.out U.out).below (bi _)) ?_
  intro J
  simp only[pick,aV,a8,aQ,aR,aI,aL]
  refine aX 6 (by kernel_rfl) ?_
  simp only[aJ,aO,aI,aL]
  repeat (go_big_quiet_step (fail))
  refine aU ?_
  refine aS rfl ?_ rfl
  go_wp2_with fail
  have P:=aH (aM (bi F) (aY F.drew (aG #[ay az lsn,ay az b] 228)))
  have NC:=aH (Ml F.drew ⟨lsn,b⟩)
  have V:=aH (H7.out.dV P.out)
  have E8:=aH ((P.out.block _ (aT U.out)).trans U.out)
  refine⟨⟨⟨_,qF.mk7 V.out E8.out⟩,rfl⟩,?_⟩
  refine aS rfl ?_ rfl
  go_wp2_with (refine mM (o:=⟨ag 90,_,_,_,_,_⟩) rfl rfl base (aB (ag ⟨g,0,ae⟩) (m+1) t) rfl V.out.held ⟨lsn,b⟩ rfl NC.out X.out (bJ HB.out (bJ G.out.size P.out.size)) ?_)
  intro v3 w3 Ua sf pD
  obtain⟨a3,c3,LZ,-⟩:=Ua.shape
  obtain⟨n3,M⟩:=bP (((⟨x,L,aj,⟨l,A⟩⟩:jE).l++[(⟨lsn,b⟩:gp)]).length)
  rw[show((⟨x,L,aj,⟨l,A⟩⟩:jE).l++[(⟨lsn,b⟩:gp)]).length=n3 from M]at LZ
  subst LZ
  have f:=aH (Gh (aM G.out P.out) V.out E8.out NE.out Ua sf (λj hj=>(pD j hj).imp id λh=>by have:=G.out.size;omega))
  have k1:=aZ 1 f.out.row
  have f1:=bQ 1 f.out.row
  clear Ua sf pD M
  go_wp2_with fail
  refine⟨⟨⟨_,f.out.reads⟩,rfl⟩,?_⟩
  refine aX 2 (by kernel_rfl) ?_
  simp only[aJ,aO,aI,aL]
  repeat (go_big_quiet_step (fail))
  refine aU ?_
  refine bF ?_
  clear J N O q2
  change wpList _ _ _ _ _ _
  go_wp2_with fail
  have r:=aH f.out.ie
  have Y:=aH f.out.YQ
  have IT:=aH f.out.turned
  clear k1 f1
  have N:∀p:In (vt w.heap.size lsn b),p.w.cell? ⟨w.heap.size,0,ae⟩=ag (ay az lsn):=λp=>p.h.e0
  have O:∀p:In (vt w.heap.size lsn b),p.w.cell? ⟨w.heap.size,1,ae⟩=ag (ay az b):=λp=>p.h.e1
  have k:=aH (CD (e:=⟨lsn,b⟩) r.out Y.out IN.out)
  have k2:=aZ 2 f.out.row
  have f2:=bQ 2 f.out.row
  refine bX [0,1,2,3,4,5,6,7,8] (vt w.heap.size lsn b) (by kernel_rfl) (by kernel_rfl) (by intro c a d v w h;cases d <;> exact h) k.out.e0 ?_
  intro J
  simp only[pick,aV,a8,aQ,aR]
  refine aX 5 (by kernel_rfl) ?_
  simp only[aJ,aO,aI,aL]
  repeat (go_big_quiet_step (fail))
  refine aU ?_
  refine aS rfl ?_ rfl
  go_wp2_with fail
  refine⟨⟨⟨_,k.out.e1⟩,rfl⟩,?_⟩
  refine aX 2 (by kernel_rfl) ?_
  simp only[aJ,aO,aI,aL]
  repeat (go_big_quiet_step (fail))
  refine aU ?_
  refine aS rfl ?_ rfl
  clear k2 f2
  have k3:=aZ 3 f.out.row
  have k4:=aZ 4 f.out.row
  have f3:=bQ 3 f.out.row
  have f4:=bQ 4 f.out.row
  go_wp2_with fail
  refine⟨⟨⟨_,k.out.e2⟩,rfl⟩,?_⟩
  refine bF ?_
  clear J N O k3 k4 f3 f4
  go_wp2_with fail
  go_ret
  exact⟨_,a3,n3,c3,.inl ⟨by rw[I.out];exact W.out,rfl⟩,rfl,k.out.ie,IT.out.trans k.out.turned⟩
 ·have W:=aH K
  have Ac:decide (x<=b-D.off)=ah:=bC K
  clear K
  go_wp2_with fail
  go_quiet (fail)
  obtain⟨F,z⟩:=bP (B.drewN nq)
  rw[z]
  have s:Below B.heap.size B F:=by rw[<-z];exact below_drewN _ _
  have G:=aH (aM B1.out s)
  have r:=aH (y.out.dV s)
  have Y:=aH ((s.block _ (aT C.out)).trans C.out)
  clear s z T x2 x3 x4 y0 y1 c1 y C z1 z2 z3 z4 z5 z6 Ac
  go_wp2_with fail
  have N:∀p:In (vt w.heap.size lsn b),p.w.cell? ⟨w.heap.size,0,ae⟩=ag (ay az lsn):=λp=>p.h.e0
  have O:∀p:In (vt w.heap.size lsn b),p.w.cell? ⟨w.heap.size,1,ae⟩=ag (ay az b):=λp=>p.h.e1
  have k:=aH (CD (e:=⟨lsn,b⟩) r.out Y.out IN.out)
  have k2:=aZ 2 r.out.row
  have f2:=bQ 2 r.out.row
  refine bX [0,1,2,3,4,5,6,7,8] (vt w.heap.size lsn b) (by kernel_rfl) (by kernel_rfl) (by intro c a d v w h;cases d <;> exact h) k.out.e0 ?_
  intro J
  simp only[pick,aV,a8,aQ,aR]
  refine aX 5 (by kernel_rfl) ?_
  simp only[aJ,aO,aI,aL]
  repeat (go_big_quiet_step (fail))
  refine aU ?_
  refine aS rfl ?_ rfl
  go_wp2_with fail
  refine⟨⟨⟨_,k.out.e1⟩,rfl⟩,?_⟩
  refine aX 2 (by kernel_rfl) ?_
  simp only[aJ,aO,aI,aL]
  repeat (go_big_quiet_step (fail))
  refine aU ?_
  refine aS rfl ?_ rfl
  clear k2 f2
  have k3:=aZ 3 r.out.row
  have k4:=aZ 4 r.out.row
  have f3:=bQ 3 r.out.row
  have f4:=bQ 4 r.out.row
  go_wp2_with fail
  refine⟨⟨⟨_,k.out.e2⟩,rfl⟩,?_⟩
  refine bF ?_
  clear J N O k3 k4 f3 f4
  go_wp2_with fail
  go_ret
  exact⟨_,_,_,_,.inr ⟨by rw[I.out];have:=W.out;omega,rfl⟩,rfl,k.out.ie,(jw.bh _ _ G.out).trans k.out.turned⟩
theorem Yl(base d n p:Nat)(X:jE)(o:Option Addr)(lsn a:Int)(w:am)(H:Hid (jF w base d X o n p))(c:Hid (lY X))(x:Hid (base<=w.heap.size)):
 aw ax 178 #[aA (ag ⟨d,0,ae⟩),ay az lsn,ay az a] w λe w'=>∃Y y u s m,Nz X lsn a Y y/\e=aF (ay az y)/\jF w' base d Y u s m/\jw w w' d (aB o n p) (aB u s m):=by
 obtain⟨l,L,t,⟨j,k⟩⟩:=X
 by_cases f:nh lsn a
 ·refine(Gj d l lsn a w (aZ 0 H.out.row) c.out.step.1 f).mono ?_
  rintro e w' ⟨rfl,rfl⟩
  exact⟨_,_,_,_,_,.inl ⟨f,rfl,rfl⟩,rfl,H.out,jw.bh _ _ (cX _ _)⟩
 ·have b:1<=lsn/\0<=a/\a<=2147483647:=by unfold nh at f;omega
  cases t with
  | false=>
   have C:(⟨j,k⟩:gp)=⟨0,0⟩:=c.out.none rfl
   injection C with D E
   subst D E
   have B:L.length=0:=by
    rcases gV L.length with h | h
    ·exact h
    ·have:=c.out.told.2 h;cases this
   refine(z7 base d n p l L o lsn a w H c x b.1 b.2.1 b.2.2).mono ?_
   rintro e w' ⟨u,s,m,rfl,q,r⟩
   exact⟨_,_,_,_,_,.inr (.inr (.inl ⟨f,λh=>(by cases h.1),.inl B,rfl,rfl⟩)),rfl,q,r⟩
  | true=>
   by_cases i:pA ⟨l,L,aj,⟨j,k⟩⟩ lsn a
   ·refine(zZ d l j k lsn a w (aZ 0 H.out.row) (aZ 2 H.out.row) (aZ 3 H.out.row) (aZ 4 H.out.row) c.out.step.1 c.out.lsn b.1 b.2.1 b.2.2 i.2).mono ?_
    rintro e w' ⟨rfl,rfl⟩
    exact⟨_,_,_,_,_,.inr (.inl ⟨f,i,rfl,rfl⟩),rfl,H.out,jw.bh _ _ (cX _ _)⟩
   ·have g:j≠9223372036854775807/\lsn=j+1/\k<a:=by
     unfold pA at i
     simp only[true_and,not_or]at i
     omega
    refine(CI base d n p l j k L o lsn a w H c x b.1 b.2.1 b.2.2 g.1 g.2.1 g.2.2).mono ?_
    rintro e w' ⟨F,u,s,m,A,rfl,q,r⟩
    have G:1<=L.length:=c.out.told.1 rfl
    rcases A with⟨z,rfl⟩ | ⟨z,rfl⟩
    ·exact⟨_,_,_,_,_,.inr (.inr (.inl ⟨f,i,.inr z,rfl,rfl⟩)),rfl,q,r⟩
    ·exact⟨_,_,_,_,_,.inr (.inr (.inr ⟨f,i,(by unfold H';dsimp only;omega),rfl,rfl⟩)),rfl,q,r⟩
end
section
open Go.RowKit
def vp(L:List gp)(lsn:Int)(e:gp)(a:Bool):Prop:=
 (∃i,i<L.length/\(ii L i).lsn<=lsn/\(∀j,i<j->j<L.length->lsn<(ii L j).lsn)/\e=ii L i/\a=aj)\/((∀j,j<L.length->lsn<(ii L j).lsn)/\e=⟨0,0⟩/\a=ah)
theorem oo{w:am}{b:Nat}{a c:ar}{t:au}(h:w.heap[b]?=ag (aG #[a,c] t (0,0)))(x y:ar):((w.setCell ⟨b,0,ae⟩ x).setCell ⟨b,1,ae⟩ y).heap[b]?=ag (aG #[x,y] t (0,0)):=bE (bE h 0 x) 1 y
theorem iJ{n b:Nat}{w W:am}(h:Below n w W)(a:n<=b){x y:ar}:Below n w ((W.setCell ⟨b,0,ae⟩ x).setCell ⟨b,1,ae⟩ y):=(h.setCell (p:=⟨b,0,ae⟩) a _).setCell (p:=⟨b,1,ae⟩) a _
theorem km{c:Func}{p u:Tmp}(h:c.results=#[.cell p 228,.tmp u]){a:Array ar}{w:am}(b:Nat){x y:ar}
 (f:a.getD p undef=aA (ag ⟨b,0,ae⟩)) (d:w.cell? ⟨b,0,ae⟩=ag x) (e:w.cell? ⟨b,1,ae⟩=ag y):
 (results c a).run ax w=.ok (.tuple #[.agg #[x,y],a.getD u undef]) w:=by
 have g:a[p]?.getD undef=aA (ag ⟨b,0,ae⟩):=by simpa using f
 simp[results,h,g,go_sem,d,e,asAddr,loadVar,Result.andThen]
def abq(w:am)(L:List gp)(lsn:Int)(e:Ending)(w':am):Prop:=∃a b,vp L lsn a b/\e=aF (.tuple #[.agg #[ay az a.lsn,ay az a.off],.bool b])/\Below w.heap.size w w'
theorem Tu(base C n P:Nat)(X:jE)(O:Option Addr)(lsn:Int)(w:am)(H:Hid (jF w base C X O n P))(o:Hid (lY X)):
 aw ax 75 #[aA (ag ⟨C,0,ae⟩),ay az lsn] w (abq w X.l lsn):=by
 have y:=aY w (aG #[ay az 0,ay az 0] 228)
 have L:=bp w (aG #[ay az 0,ay az 0] 228)
 obtain⟨T,Z⟩:=bP (w.alloc (aG #[ay az 0,ay az 0] 228))
 rw[Z]at y L
 have V:=aH y
 have N:=aH L
 have D:=aH (H.out.dV y)
 have b:=aH H.out.held.len.1
 have U:=aZ 0 D.out.row
 have ab:=o.out.step.1
 have aa:(n:Int)<=2147483648:=by have:=o.out.len;have:=b.out;omega
 clear y L
 go_in
 go_wp2_with fail
 refine(rm C X.step aj T U (bM (by omega))).mono ?_
 rintro e w' ⟨rfl,rfl⟩
 go_wp2_with fail
 refine(Tt base C n P X O lsn T D o).mono ?_
 rintro e w2 ⟨k,rfl,hF,A⟩
 have F:=aH hF
 have p:=aH (D.out.dV A)
 have a:=aH ((A.block _ (aT N.out)).trans N.out)
 have W:=aH (aM V.out A)
 have K:k<=n:=by have:=hF.1;have:=b.out;omega
 have x1:=aZ 1 p.out.row
 have e0:=aZ 0 a.out
 have e1:=aZ 1 a.out
 have f0:=bQ 0 a.out
 have f1:=bQ 1 a.out
 clear hF A U
 have s:∀(d:gp) (t:Bool),vp X.l lsn d t->∀E,((w2.setCell ⟨w.heap.size,0,ae⟩ (ay az d.lsn)).setCell ⟨w.heap.size,1,ae⟩ (ay az d.off))=E->abq w X.l lsn (aF (.tuple #[.agg #[ay az d.lsn,ay az d.off],.bool t])) E:=λd t h E e=>⟨d,t,h,rfl,by rw[<-e];exact iJ W.out dx⟩
 have r:=aH s
 clear s
 by_cases I:k<n/\(ii X.l k).lsn=lsn
 ·obtain⟨J,M⟩:=I
  obtain⟨g,rfl,-,f,-⟩:=p.out.held.get (i:=k) (by have:=b.out;omega)
  obtain⟨z,d1⟩:=f
  have S:(k:Int)<(n:Int):=by omega
  rw[M]at z
  have Y:=aH M
  have c:=aH (show vp X.l lsn (ii X.l k) aj from .inl ⟨k,by have:=b.out;omega,by omega,λj G l=>by have:=F.out.2.2 j (by omega) l;have:=o.out.lt (j-k-1) k (by omega);rw[show k+(j-k-1)+1=j by omega]at this;omega,rfl,rfl⟩)
  clear J M K
  go_wp2_with fail
  refine bn (km rfl w.heap.size rfl (aZ 0 (oo a.out _ _)) (aZ 1 (oo a.out _ _))) rfl ?_
  have:=r.out _ _ c.out _ rfl
  rw[Y.out]at this
  exact this
 ·have u:=aH I
  clear I
  rcases gV k with B | B
  ·subst B
   have c:=aH (show vp X.l lsn ⟨0,0⟩ ah from .inr ⟨λj hj=>by
    have G:=F.out.2.2 j Rc hj
    rcases gV j with l | l
    ·subst l
     have:=u.out
     have:=b.out
     omega
    ·have h3:=F.out.2.2 0 Rc (by omega)
     have Q:=o.out.lt (j-1) 0 (by omega)
     rw[show 0+(j-1)+1=j by omega]at Q
     omega,rfl,rfl⟩)
   by_cases x:0<n
   ·obtain⟨g,rfl,-,f,-⟩:=p.out.held.get (i:=0) (by have:=b.out;omega)
    obtain⟨z,-⟩:=f
    have S:(0:Int)<(n:Int):=by omega
    have ne:((ii X.l 0).lsn==lsn)=ah:=by have:=u.out;simp;omega
    rw[io]at z
    clear x
    go_wp2_with fail
    refine bn (km rfl w.heap.size rfl (aZ 0 (oo a.out _ _)) (aZ 1 (oo a.out _ _))) rfl ?_
    exact r.out ⟨0,0⟩ _ c.out _ rfl
   ·obtain rfl:n=0:=by omega
    go_wp2_with fail
    refine bn (km rfl w.heap.size rfl (aZ 0 (oo a.out _ _)) (aZ 1 (oo a.out _ _))) rfl ?_
    exact r.out ⟨0,0⟩ _ c.out _ rfl
  ·obtain⟨m,rfl⟩:∃m,k=m+1:=⟨k-1,by omega⟩
   obtain⟨g,rfl,-,f,-⟩:=p.out.held.get (i:=m) (by have:=b.out;omega)
   obtain⟨c0,c1⟩:=f
   have k1:(m:Int)<(n:Int):=by omega
   have k2:(m:Int)+1<=2147483648:=by omega
   have k3:((m:Int)+1==0)=ah:=by simp;omega
   have c:=aH (show vp X.l lsn (ii X.l m) aj from .inl ⟨m,by have:=b.out;omega,by have:=F.out.2.1 m (by omega);omega,λj G l=>by
    have h3:=F.out.2.2 j (by omega) l
    rcases Nat.eq_or_lt_of_le (show m+1<=j from G)with e | e
    ·subst e
     have:=u.out
     have:=b.out
     omega
    ·have Q:=F.out.2.2 (m+1) dx (by omega)
     have h5:=o.out.lt (j-(m+1)-1) (m+1) (by omega)
     rw[show m+1+(j-(m+1)-1)+1=j by omega]at h5
     omega,rfl,rfl⟩)
   by_cases x:m+1<n
   ·obtain⟨g',q,-,f,-⟩:=p.out.held.get (i:=m+1) (by have:=b.out;omega)
    injection q with q
    injection q with q
    subst q
    obtain⟨z,-⟩:=f
    have S:(m:Int)+1<(n:Int):=by omega
    have ne:((ii X.l (m+1)).lsn==lsn)=ah:=by have:=u.out;simp;omega
    clear x B K
    go_wp2_with fail
    refine bn (km rfl w.heap.size rfl (aZ 0 (oo a.out _ _)) (aZ 1 (oo a.out _ _))) rfl ?_
    exact r.out _ _ c.out _ rfl
   ·obtain rfl:n=m+1:=by omega
    clear x B K k1
    go_wp2_with fail
    refine bn (km rfl w.heap.size rfl (aZ 0 (oo a.out _ _)) (aZ 1 (oo a.out _ _))) rfl ?_
    exact r.out _ _ c.out _ rfl
end
section
open Go.RowKit
end
section
open Go.RowKit
end
section
open Go.RowKit
end
end Go.Proofs.YtooinenkenobaaaGreat

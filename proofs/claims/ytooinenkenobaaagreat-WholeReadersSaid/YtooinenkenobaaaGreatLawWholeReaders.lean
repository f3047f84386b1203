/- WholeReaders: for every input the law returns true, and each argument reads behind the call as it read before. Conditions: those of its row alone. -/
import Derived.Test.YtooinenkenobaaaGreatAa
import Derived.Test.YtooinenkenobaaaGreatCu
import Derived.Test.YtooinenkenobaaaGreatBc
import Derived.Test.YtooinenkenobaaaGreatCa
set_option maxRecDepth 100000
set_option maxHeartbeats 20000000
namespace Go.Proofs.YtooinenkenobaaaGreat
open Option renaming none->ae,some->ag
open Bool renaming false->ah,true->aj
open Go.Proofs.Tryz renaming prog->ax
open Go.Value renaming int->ay,pointer->aA,slice->aB,bool->aC,float->aD
open Go.IntKind renaming i64->az
open Go.FloatKind renaming f64->aE
open Go.Ending renaming returned->aF
open Go.Obj renaming cells->aG
open Go renaming World->am,Value->ar,TypeId->au,Calls->aw
section
open Go.ChangeShapes Go.WideShapes Go.ChangeAt Go.RowKit Go.Deep Go.Maps
section
variable{H:Type}{enc:au×ar->H}
theorem Fa{P:Program}{w:am}{base:Nat}{d:au->Bool}{e:Bool}{t:au}{c:Nat}{cs:List ar}{x:DataW H×List MemPlace}(g:P.underlying t=ag (.float .f64))(h:DataW.trod enc P w base d e c t cs=ag x):∃b,cs=[aD aE b]/\b<18446744073709551616:=by
 cases c with
 | zero=>simp[DataW.trod]at h
 | succ n=>
  unfold DataW.trod at h
  rw[g]at h
  split at h
  all_goals try (simp_all;done)
  rename_i k i b a
  injection a with a
  injection a with a
  subst a
  split at h
  ·next f=>
   obtain⟨rfl,f⟩:=f
   exact⟨b,rfl,dX f⟩
  ·cases h
theorem xH{P:Program}{w:am}{base:Nat}{a:au->Bool}{b:Bool}{t:au}{c d e f:Field}{g:Nat}{cs:List ar}{x:DataW H×List MemPlace}(q:P.underlying t=ag (.struct #[c,d,e,f]))(h:DataW.trod enc P w base a b g t cs=ag x):
 ∃k l m o n,cs.length=P.cellsOf t/\DataW.trod enc P w base a b n c.type ((cs.drop c.offset).take (P.cellsOf c.type))=ag k/\
  DataW.trod enc P w base a b n d.type ((cs.drop d.offset).take (P.cellsOf d.type))=ag l/\DataW.trod enc P w base a b n e.type ((cs.drop e.offset).take (P.cellsOf e.type))=ag m/\
  DataW.trod enc P w base a b n f.type ((cs.drop f.offset).take (P.cellsOf f.type))=ag o:=by
 obtain⟨xs,n,_,rfl,p,i,j⟩:=DataW.trod_struct q h
 match xs,i with
 | [k,l,m,o],_=>exact⟨k,l,m,o,n,p,by simpa using j 0 c rfl,by simpa using j 1 d rfl,by simpa using j 2 e rfl,by simpa using j 3 f rfl⟩
theorem NM{P:Program}{w:am}{base:Nat}{a:au->Bool}{b:Bool}{t:au}{c d:Field}{e:Nat}{cs:List ar}{x:DataW H×List MemPlace}(l:P.underlying t=ag (.struct #[c,d]))(h:DataW.trod enc P w base a b e t cs=ag x):
 ∃g i n,cs.length=P.cellsOf t/\DataW.trod enc P w base a b n c.type ((cs.drop c.offset).take (P.cellsOf c.type))=ag g/\
  DataW.trod enc P w base a b n d.type ((cs.drop d.offset).take (P.cellsOf d.type))=ag i:=by
 obtain⟨xs,n,_,rfl,k,f,j⟩:=DataW.trod_struct l h
 match xs,f with
 | [g,i],_=>exact⟨g,i,n,k,by simpa using j 0 c rfl,by simpa using j 1 d rfl⟩
theorem Za:Tryz.prog.cellsOf 28=8:=by kernel_rfl
theorem Mu:Tryz.prog.cellsOf 23=2:=by kernel_rfl
theorem Mv:Tryz.prog.cellsOf 26=4:=by kernel_rfl
theorem PV:Tryz.prog.cellsOf 2=1:=by kernel_rfl
theorem PW:Tryz.prog.cellsOf 24=1:=by kernel_rfl
theorem Xz{W:am}{d:Nat}{cs:List ar}{x:DataW H×List MemPlace}(h:DataW.trod enc ax W 0 (λ_=>aj) aj d 23 cs=ag x):∃a b:Int,cs=[ay az a,ay az b]/\-9223372036854775808<=b:=by
 obtain⟨o,p,k,c,g,i⟩:=NM Tryz.underlying23 h
 rw[Mu]at c
 match cs,c with
 | [v0,v1],_=>
  simp[PV,uk]at g i
  obtain⟨m,f,_,l⟩:=ZH Tryz.underlying3 g
  obtain⟨n,e,_,j⟩:=ZH Tryz.underlying2 i
  injection f with f;injection e with e
  subst f e
  exact⟨m,n,rfl,(A9 j).1⟩
theorem XA{W:am}{e:Nat}{cs:List ar}{x:DataW H×List MemPlace}(h:DataW.trod enc ax W 0 (λ_=>aj) aj e 26 cs=ag x):∃(a b:Int) (l q:Nat),cs=[ay az a,ay az b,aD aE l,aD aE q]/\l<18446744073709551616:=by
 obtain⟨u,w,y,z,k,c,j,m,g2,n⟩:=xH Tryz.underlying26 h
 rw[Mv]at c
 match cs,c with
 | [v0,v1,v2,v3],_=>
  simp[PW,uk]at j m g2 n
  obtain⟨p,i,_,-⟩:=ZH Tryz.underlying3 j
  obtain⟨r,f,_,-⟩:=ZH Tryz.underlying3 m
  obtain⟨s,g,o⟩:=Fa Tryz.underlying24 g2
  obtain⟨t,d,-⟩:=Fa Tryz.underlying24 n
  injection i with i;injection f with f;injection g with g;injection d with d
  subst i f g d
  exact⟨p,r,s,t,rfl,o⟩
theorem FJ{W:am}{base:Nat}{v:ar}{d:DataW H}{p:List MemPlace}(D:Value.okWide ax W .any base 28 v)(h:DataW.Trod enc ax W 0 (λ_=>aj) aj 28 v d p):
 ∃(sm g i A e B:Int) (y z:Nat),v=.agg #[ay az sm,ay az g,ay az i,ay az A,ay az e,ay az B,aD aE y,aD aE z]/\-9223372036854775808<=g/\y<18446744073709551616:=by
 obtain⟨cs,rfl,_⟩:=okWide_struct Tryz.underlying28 D
 obtain⟨t,C⟩:=h
 obtain⟨K,M,N,O,k,a,u,w,g2,x⟩:=xH Tryz.underlying28 C
 rw[Za]at a
 obtain⟨L⟩:=cs
 have f:L.length=8:=a
 match L,f with
 | [v0,v1,v2,v3,v4,v5,v6,v7],_=>
  simp[Value.cells,uk,Mu,Mv]at u w g2 x
  obtain⟨G,I,j,E⟩:=Xz u
  obtain⟨P,r,_,-⟩:=ZH Tryz.underlying3 w
  obtain⟨Q,s,_,-⟩:=ZH Tryz.underlying3 g2
  obtain⟨g,J,l,q,m,F⟩:=XA x
  injection j with j b
  injection b with b _
  injection r with r
  injection s with s
  injection m with m c
  injection c with c n
  injection n with n o
  injection o with o _
  subst j b r s m c n o
  exact⟨_,_,_,_,_,_,_,_,rfl,E,F⟩
end
theorem zS{W:am}(sm base c d a k:Int)(f p:Nat)(N R:Int)(i:Bool){g:Option Addr}(L:List Int){pc:Nat}(r:VC W g L)(w:f<18446744073709551616)(s:-9223372036854775808<=base):
 aw ax 7 #[.agg #[ay az sm,ay az base,ay az c,ay az d,ay az a,ay az k,aD aE f,aD aE p],ay az N,ay az R,.bool i,aB g L.length pc] W (lH W):=by
 have u:sK W qI (aB g L.length pc) L:=⟨g,pc,rfl,λj z o=>by
  have t:=(aK.1 o).1
  obtain⟨-,b,m,e,l⟩:=r j t
  have q:atI L j=z:=by
   unfold atI
   rw[fX,o]
   rfl
  rw[q]at l
  refine⟨b,m,e,rfl,?_,l⟩
  rcases cg b W.heap.size with h | h
  ·exact h
  ·simp[World.cell?,Array.getElem?_eq_none h]at l⟩
 by_cases hx:N<1\/12<N\/R<1\/4<R\/1000<L.length\/1152921504606846976<base\/d<18
 ·exact XC (K:=⟨base.toNat,c,d,a,k,f%9223372036854775808⟩) N R rfl hx
 ·obtain⟨n,rfl⟩:=ZE (show 0<=N by omega)
  obtain⟨x,rfl⟩:=ZE (show 0<=R by omega)
  exact XG (K:=⟨base.toNat,c,d,a,k,f%9223372036854775808⟩) (kind:=if i then 2 else 1) u rfl (by cases i <;> simp) ⟨by omega,by omega⟩ ⟨by omega,by omega⟩ (by show 18<=d;omega) (by omega) w rfl rfl s (by omega)
end
namespace wholeReaders
open Go.ChangeShapes Go.WideShapes Go.ChangeAt Go.RowKit
theorem contract(H:Type)(enc:au×ar->H)(W:am)(base:Nat)(args:Array ar)(h x:List (DataW H))(b:List MemPlace)
 (a:∀(j:Nat) t v,Tryz.f7.params[j]?=ag t->args[j]?=ag v->Value.okWide ax W .any base t v)
 (z:DataW.Whole enc ax Tryz.f7.params.toList Rows.wholeReadersSpec.vars ah W args.toList h x b)
 (B:(DataW.weightsEach ax (Tryz.f7.params.toList++Rows.wholeReadersSpec.plain.varTypes ax) (h++x)).all (·<=reachBytes)=aj):
 aw ax 7 args W λe r=>∃v,e=aF v/\Rows.wholeReadersSpec.post enc ax Tryz.f7 ah aj ah ah W args v r:=by
 have k:=z
 obtain⟨p,q,c,hV,rfl,ab,ac⟩:=z
 have y:DataW.TrodAll enc ax W 0 (λ_=>aj) aj Tryz.f7.params.toList args.toList h p:=c
 rw[Tryz.params7]at y a B
 obtain⟨E,ad,d0,U,p0,n,S,rfl,rfl,h0,r0⟩:=trodAll_cons y
 obtain⟨F,af,d1,V,p1,q1,rfl,rfl,rfl,h1,r1⟩:=trodAll_cons r0
 obtain⟨G,ai,d2,X,p2,q2,rfl,rfl,rfl,h2,r2⟩:=trodAll_cons r1
 obtain⟨I,ak,d3,Y,p3,q3,rfl,rfl,rfl,h3,r3⟩:=trodAll_cons r2
 obtain⟨J,al,d4,Z,p4,q4,rfl,rfl,rfl,h4,r4⟩:=trodAll_cons r3
 obtain⟨rfl,rfl,rfl⟩:=trodAll_nil r4
 obtain rfl:args=#[E,F,G,I,J]:=by cases args;simp_all
 obtain⟨rfl,rfl⟩:=trodVars_none hV
 clear c
 obtain⟨L,rfl,rfl,rfl,w1⟩:=open_int Tryz.underlying3 (a 1 3 F rfl rfl) h1
 obtain⟨M,rfl,rfl,rfl,w2⟩:=open_int Tryz.underlying3 (a 2 3 G rfl rfl) h2
 obtain⟨D,K,u,O,C,P,A,n,rfl,w0,u0⟩:=FJ (a 0 28 E rfl rfl) h0
 obtain⟨N,rfl,rfl,rfl⟩:=open_bool Tryz.underlying4 (a 3 4 I rfl rfl) h3
 obtain⟨s,g,w,rfl⟩:=okWide_slice Tryz.underlying31 (a 4 31 J rfl rfl)
 obtain⟨aa,l⟩:=h4
 obtain⟨Q,o,T,m,i,n4,l4,z4⟩:=FK (v:=aB s g w) l (Sf B (j:=4) rfl rfl)
 injection m with e1 e2 e3
 subst e1 e2 e3
 have d:aw ax 7 #[Value.agg #[ay az D,ay az K,ay az u,ay az O,ay az C,ay az P,aD aE A,aD aE n],Value.int .i64 L,Value.int .i64 M,Value.bool N,Value.slice s o.length w] W (lH W):=by
  exact zS D K u O C P A n L M N o i u0 w0
 refine d.mono λe r ⟨he,hb⟩=>⟨_,he,?_⟩
 exact Tm Tryz.f7 Rows.wholeReadersSpec rfl rfl (by rw[Tryz.params7];intro t f;simp only[cR,dK,iG]at f;(repeat' (rcases f with rfl | f)) <;> (first | (subst f) | skip) <;> exact⟨by kernel_rfl,dX (by kernel_rfl)⟩) k rfl rfl rfl hb
theorem lifted(d:Os)(a:d.Started)(H:Type)(enc:au×ar->H):
 ReturnsInHanded {} Tryz.checked d 7 .any (Rows.wholeReadersSpec.pre6 enc ax Tryz.f7 Rows.wholeReadersRow.domain ah) (Rows.wholeReadersSpec.post enc ax Tryz.f7 ah aj ah ah):=by
 refine returnsInHanded_of_change_sized (C:=Tryz.checked) Pl a (by kernel_rfl) Tryz.func7
  (ChangeSpec.witness6 (enc:=enc) (C:=Tryz.checked) ah ⟨#[],#[.agg #[ay az 0,ay az 0,ay az 0,ay az 0,ay az 0,ay az 0,aD aE 0,aD aE 0],ay az 0,ay az 0,aC ah,aB ae 0 0],[]⟩ 8 (by kernel_rfl) (by kernel_rfl) (by kernel_rfl) (by kernel_rfl)) ?_
 intro W base args e f b c g _ h _
 exact contract H enc W base args e f b c g h
theorem proved:Rows.WholeReadersSaid:=
 OpenClaim.holds_of_wide 7 Tryz.f7 rfl rfl rfl rfl rfl rfl rfl ⟨rfl,rfl,rfl,rfl,rfl⟩ rfl rfl rfl rfl rfl named Tryz.func7 facts
  avg wrap
  (λb a H enc _=>lifted b a H enc)
#print axioms proved
end wholeReaders
end Go.Proofs.YtooinenkenobaaaGreat

/- A part of the proof of what LawWholeReaders says. -/
import Derived.Test.YtooinenkenobaaaGreatAa
import Derived.Test.YtooinenkenobaaaGreatBg
import Derived.Test.YtooinenkenobaaaGreatBc
import Derived.Test.YtooinenkenobaaaGreatBb
import Derived.Test.YtooinenkenobaaaGreatBa
set_option maxRecDepth 100000
set_option maxHeartbeats 20000000
namespace Go.Proofs.YtooinenkenobaaaGreat
open Option renaming none->ae,some->ag
open Bool renaming false->ah,true->aj
open Go.Proofs.Tryz renaming prog->ax
open Go.Value renaming int->ay,pointer->aA,slice->aB,bool->aC,float->aD
open Go.IntKind renaming i64->az
open Go.FloatKind renaming f64->aE
open Go.Ending renaming returned->aF
open Go.Obj renaming cells->aG
open Go renaming World->am,Value->ar,TypeId->au,Calls->aw
section
open Go.RowKit
theorem Cp(a:Option Addr)(bs:List (BitVec 8))(n c:Nat){w:am}(d:cD w a bs)(f:bs.length=n)(h:a=ae->c=0)(g:n<=70368744177664):
 aw ax 137 #[aB a n c] w λe w'=>∃b,e=aF (aA (ag ⟨b,0,ae⟩))/\w.heap.size<=b/\nD w' b bs 0 0/\Below w.heap.size w w':=by
 subst f;exact Jl a bs c w d h g
structure Vr(w w':am)(b:Nat)(bs:List (BitVec 8))(k:Nat):Prop where
 rd:nD w' b bs k 0
 but:ja b w w'
theorem Ji{w c:am}{b k:Nat}{bs:List (BitVec 8)}{o:Obj}(d:nD w b bs k 0)(e:k+8<=bs.length)(a:Ar b 1 (ay az (k+8:Nat)) (w.alloc o) c):Vr w c b bs (k+8):=
 ⟨(d.on (aY w o)).vN (k+8) e a,((ja.refl b w).bh (aY w o)).trans a.but⟩
theorem wS(b:Nat)(bs:List (BitVec 8))(k:Nat){w:am}(e:nD w b bs k 0)(f:bs.length<=140737488355328)(h:k+8<=bs.length)(a:Int)(p:0<=a)(s:a<=9223372036854775807)(n:BitVec 64)(g:leB ((bs.drop k).take 8)=n)(q:1<=bv n)(r:bv n<=a):
 aw ax 176 #[.agg #[aA (ag ⟨b,0,ae⟩)],ay az a] w λx w'=>x=aF (.tuple #[ay az (bv n),aC aj])/\Vr w w' b bs (k+8):=by
 have c:=aH e
 have j:=aH f
 have d:=aH h
 have l:=aH g
 have o:(w.alloc (aG #[aA (ag ⟨b,0,ae⟩)] 348)).cell? ⟨w.heap.size,0,ae⟩=ag (aA (ag ⟨b,0,ae⟩)):=aZ 0 (bp w _)
 have t:IntKind.i64.wrap (bv n)=bv n:=by rw[IntKind.wrap_i64];omega
 have u:IntKind.u64.wrap a=a:=by rw[nG];omega
 clear e f h g
 go_in
 go_wp2_with fail
 refine(td b bs k (c.out.on (aY _ _)) j.out d.out).mono ?_
 rintro x y ⟨rfl,i⟩
 have m:=aH (Ji c.out d.out i)
 rw[l.out]
 clear i o
 go_wp2_with fail
 go_ret2
 exact⟨rfl,m.out⟩
theorem uS(b:Nat)(bs:List (BitVec 8))(k:Nat){w:am}(m:nD w b bs k 0)(o:bs.length<=140737488355328)(q:k+8<=bs.length)(a:Int)(t:0<=a)(u:a<=9223372036854775807)(n:BitVec 64)(p:leB ((bs.drop k).take 8)=n)(j:bv n<1\/a<bv n):
 aw ax 176 #[.agg #[aA (ag ⟨b,0,ae⟩)],ay az a] w λx w'=>∃z,x=aF (.tuple #[ay az z,aC ah])/\Vr w w' b bs (k+8):=by
 have d:=aH m
 have g:=aH o
 have e:=aH q
 have h:=aH p
 have i:(w.alloc (aG #[aA (ag ⟨b,0,ae⟩)] 348)).cell? ⟨w.heap.size,0,ae⟩=ag (aA (ag ⟨b,0,ae⟩)):=aZ 0 (bp w _)
 have A:IntKind.u64.wrap a=a:=by rw[nG];omega
 clear m o q p
 by_cases l:bv n<1
 ·have r:decide (1<=bv n)=ah:=bC (by omega)
  clear j l
  go_in
  go_wp2_with fail
  refine(td b bs k (d.out.on (aY _ _)) g.out e.out).mono ?_
  rintro x s ⟨rfl,c⟩
  have f:=aH (Ji d.out e.out c)
  rw[h.out]
  clear c i
  go_wp2_with fail
  go_ret2
  exact⟨_,rfl,f.out⟩
 ·have r:decide (1<=bv n)=aj:=bM (by omega)
  have y:decide (bv n<=a)=ah:=bC (by omega)
  clear j l
  go_in
  go_wp2_with fail
  refine(td b bs k (d.out.on (aY _ _)) g.out e.out).mono ?_
  rintro x s ⟨rfl,c⟩
  have f:=aH (Ji d.out e.out c)
  rw[h.out]
  clear c i
  go_wp2_with fail
  go_ret2
  exact⟨_,rfl,f.out⟩
def aa3(w:am)(r:Rd)(e:Ending)(w':am):Prop:=
 ∃v,e=aF (.tuple #[.agg #[ay az (bv r.lsn),v],ay az r.n,ay .u32 (bv r.sum),ay az r.err])/\cU w' w.heap.size v r.data/\Below w.heap.size w w'
theorem ia{c:Func}{p t u v:Tmp}(h:c.results=#[.cell p 72,.tmp t,.tmp u,.tmp v]){a:Array ar}{w:am}(b:Nat)(x y:ar)
 (f:a.getD p undef=aA (ag ⟨b,0,ae⟩)) (d:w.cell? ⟨b,0,ae⟩=ag x) (e:w.cell? ⟨b,1,ae⟩=ag y):
 (results c a).run ax w=.ok (.tuple #[.agg #[x,y],a.getD t undef,a.getD u undef,a.getD v undef]) w:=by
 have g:a[p]?.getD undef=aA (ag ⟨b,0,ae⟩):=by simpa using f
 simp[results,h,g,go_sem,d,e,asAddr,loadVar,Result.andThen]
structure sL(w w':am):Prop where
 a0:w'.cell? ⟨w.heap.size,0,ae⟩=ag (ay az 0)
 a1:w'.cell? ⟨w.heap.size,1,ae⟩=ag (aB ae 0 0)
 fa:∀i,w'.frozen? ⟨w.heap.size,i,ae⟩=ah
 n0:w'.cell? ⟨w.heap.size+1,0,ae⟩=ag (ay az 0)
 n1:w'.cell? ⟨w.heap.size+1,1,ae⟩=ag (aB ae 0 0)
 below:Below w.heap.size w w'
 size:w.heap.size+2<=w'.heap.size
theorem Bu(w:am):sL w ((w.alloc (aG #[ay az 0,aB ae 0 0] 72)).alloc (aG #[ay az 0,aB ae 0 0] 72)):=by
 have d:(w.alloc (aG #[ay az 0,aB ae 0 0] 72)).heap.size=w.heap.size+1:=by show(w.heap.push _).size=_;rw[afa]
 have a:=aY (w.alloc (aG #[ay az 0,aB ae 0 0] 72)) (aG #[ay az 0,aB ae 0 0] 72)
 have b:=bp w (aG #[ay az 0,aB ae 0 0] 72)
 have c:=bp (w.alloc (aG #[ay az 0,aB ae 0 0] 72)) (aG #[ay az 0,aB ae 0 0] 72)
 rw[d]at c
 refine⟨bL a (aZ 0 b),bL a (aZ 1 b),λi=>(a.frozen (p:=⟨w.heap.size,i,ae⟩) (by simp only;omega)).trans (bQ i b),aZ 0 c,aZ 1 c,aM (aY _ _) a,?_⟩
 show _<=((w.alloc _).heap.push _).size
 rw[afa,d];omega
theorem sL.on{w b c:am}(h:sL w b)(a:Below b.heap.size b c):sL w c:=
 ⟨bL a h.a0,bL a h.a1,λi=>(a.frozen (p:=⟨w.heap.size,i,ae⟩) (by have:=h.size;simp only;omega)).trans (h.fa i),bL a h.n0,bL a h.n1,aM h.below a,by have:=h.size;have:=a.size;omega⟩
theorem sL.but{w d e:am}{b:Nat}(h:sL w d)(c:ja b d e)(f:w.heap.size+2<=b):sL w e:=
 ⟨c.cell h.a0 (by simp only;omega),c.cell h.a1 (by simp only;omega),λi=>(c.frozen (a:=⟨w.heap.size,i,ae⟩) (by have:=h.size;simp only;omega) (by simp only;omega)).trans (h.fa i),c.cell h.n0 (by simp only;omega),c.cell h.n1 (by simp only;omega),c.below h.below (by omega) (by have:=h.size;omega),by have:=h.size;have:=c.size;omega⟩
structure FR(w w':am)(b g:Nat)(xs:List (BitVec 8))(k:Nat):Prop where
 box:sL w w'
 rd:nD w' b xs k 0
 ptr:w'.cell? ⟨g,0,ae⟩=ag (aA (ag ⟨b,0,ae⟩))
 hb:w.heap.size+2<=b
 ne:g≠b
theorem FR.on{w c d:am}{b g k:Nat}{xs:List (BitVec 8)}(h:FR w c b g xs k)(a:Below c.heap.size c d):FR w d b g xs k:=
 ⟨h.box.on a,h.rd.on a,bL a h.ptr,h.hb,h.ne⟩
theorem FR.go{w d a:am}{b g k j:Nat}{xs:List (BitVec 8)}(h:FR w d b g xs k)(c:ja b d a)(e:nD a b xs j 0):FR w a b g xs j:=
 ⟨h.box.but c h.hb,e,c.cell h.ptr h.ne,h.hb,h.ne⟩
theorem sL.put{w a:am}(h:sL w a)(x y:ar):
 ((a.setCell ⟨w.heap.size,0,ae⟩ x).setCell ⟨w.heap.size,1,ae⟩ y).cell? ⟨w.heap.size,0,ae⟩=ag x/\((a.setCell ⟨w.heap.size,0,ae⟩ x).setCell ⟨w.heap.size,1,ae⟩ y).cell? ⟨w.heap.size,1,ae⟩=ag y/\Below w.heap.size w ((a.setCell ⟨w.heap.size,0,ae⟩ x).setCell ⟨w.heap.size,1,ae⟩ y):=by
 have b:(a.setCell ⟨w.heap.size,0,ae⟩ x).cell? ⟨w.heap.size,1,ae⟩=ag (aB ae 0 0):=by
  rw[dI _ _ _ _ (by intro e;injection e;omega)];exact h.a1
 refine⟨?_,dE _ _ _ b,(h.below.setCell (p:=⟨w.heap.size,0,ae⟩) dx _).setCell (p:=⟨w.heap.size,1,ae⟩) dx _⟩
 rw[dI _ _ _ _ (by intro e;injection e;omega)]
 exact dE _ _ _ h.a0
theorem rR{w w':am}{base:Nat}{v:ar}{bs:List (BitVec 8)}(h:cU w base v bs)(c:∀g,base<=g->g<w.heap.size->w'.heap[g]?=w.heap[g]?):cU w' base v bs:=
 dC h λg d=>let ⟨a,_,b⟩:=dq h d;c g a (aT b)
theorem cU.set{w:am}{base:Nat}{v u:ar}{p:Addr}{bs:List (BitVec 8)}(h:cU w base v bs)(c:p.block<base):cU (w.setCell p u) base v bs:=
 rR h λg a b=>eh _ _ _ _ (by omega)
theorem rC(b:Nat)(xs:List (BitVec 8))(k:Nat){w:am}(c:nD w b xs k 0)(e:xs.length<=140737488355328)(f:k+4<=xs.length)(N:Nat)(h:nQ ((xs.drop k).take 4)=N):
 aw ax 138 #[aA (ag ⟨b,0,ae⟩)] w λx w'=>x=aF (ay .u32 (N:Nat))/\Ar b 1 (ay az (k+4:Nat)) w w':=by
 refine(JP b xs k w c e f).mono λ_ _ ⟨d,g⟩=>⟨?_,g⟩
 rw[d,<-h]
 have i:((xs.drop k).take 4).length=4:=by simp;omega
 have a:=uN ((xs.drop k).take 4)
 rw[i]at a
 unfold bv
 rw[gI,rg (by omega),dD (by omega)]
theorem uR(bs:List (BitVec 8))(j k m:Nat)(h:k+m<=j):((bs.take j).drop k).take m=(bs.drop k).take m:=by
 rw[List.drop_take,List.take_take,ae7 (by omega)]
theorem JM(seed:BitVec 32)(ao:Option Addr)(bs:List (BitVec 8))(n:Nat)(w:am)(s:cD w ao bs)(hn:ao=ae->n=0)(hc:bs.length<=n)(hm:n<=9223372036854775807):
 aw ax 145 #[ay .u32 (bv seed),aB ao bs.length n] w (aa3 w (rF seed bs)):=by
 by_cases F:bs.length<16
 ·have E:Hid (rF seed bs=Rd.bad 2):=aH (by unfold rF;rw[bj F])
  have X:=aH (Bu w)
  clear s hn
  go_in
  go_wp2_with fail
  refine bn (ia rfl w.heap.size _ _ rfl X.out.a0 X.out.a1) rfl ?_
  rw[E.out]
  exact⟨_,rfl,cU.nil _ _,X.out.below⟩
 ·obtain⟨P,u,rfl,-⟩:=s 0 (by omega)
  have Q0:=aH s
  have HB:=aH (show cD w (ag ⟨P,u,ae⟩) (bs.take 16)from s.take 16)
  have HN:=aH hn
  have X:=aH (Bu w)
  have hl:(bs.take 16).length=16:=by simp;omega
  have k:=aH hl
  have C4:=aH (show(((bs.take 16).drop 0).take 4)=bs.take 4 from uR bs 16 0 4 (by omega))
  have S:=aH (uR bs 16 4 8 (by omega))
  have T:=aH (uR bs 16 12 4 (by omega))
  obtain⟨N,hN⟩:=bP (nQ (bs.take 4):Nat)
  obtain⟨x,hx⟩:∃x:BitVec 64,leB ((bs.drop 4).take 8)=x:=⟨_,rfl⟩
  obtain⟨M,hM⟩:=bP (nQ ((bs.drop 12).take 4):Nat)
  have f:=aH hN
  have K:=aH hx
  have m:=aH (show nQ ((bs.drop 4).take 8)=x.toNat by rw[<-hx,rg (by simp;omega)])
  have l:=aH hM
  have ad:N<4294967296:=by have:=uN (bs.take 4);rw[hN,show(bs.take 4).length=4 by simp;omega]at this;omega
  clear s hn hl hN hx hM
  go_in
  go_wp2_with fail
  refine(Cp (ag ⟨P,u,ae⟩) (bs.take 16) 16 n (HB.out.below X.out.below) k.out HN.out (by omega)).mono ?_
  rintro e Q ⟨b,rfl,aa,hR,iL⟩
  have F1:=aH (show FR w (Q.alloc (aG #[aA (ag ⟨b,0,ae⟩)] 348)) b Q.heap.size (bs.take 16) 0 from
   ⟨(X.out.on iL).on (aY _ _),hR.on (aY _ _),aZ 0 (bp Q _),bJ X.out.size aa,by have:=hR.lt;omega⟩)
  have G1:=aH (show Q.heap.size<(Q.alloc (aG #[aA (ag ⟨b,0,ae⟩)] 348)).heap.size by show _<(Q.heap.push _).size;rw[afa];omega)
  clear hR iL aa X
  go_wp2_with fail
  refine(rC b (bs.take 16) 0 F1.out.rd (by rw[k.out];omega) (by rw[k.out];omega) N (by rw[C4.out];exact f.out)).mono ?_
  rintro e w2 ⟨rfl,d⟩
  have j:=aH (F1.out.go d.but (F1.out.rd.vN 4 (by rw[k.out];omega) d))
  clear d
  by_cases I:4096<N
  ·have E:Hid (rF seed bs=Rd.bad 3):=aH (by unfold rF;rw[bf F,f.out,bj I])
   have n0:=j.out.box.n0
   have n1:=j.out.box.n1
   have L:=j.out.box.a0
   have O:=j.out.box.a1
   have q:=j.out.box.fa 0
   have r:=j.out.box.fa 1
   go_wp2_with fail
   refine bn (ia rfl w.heap.size (ay az 0) (aB ae 0 0) rfl (j.out.box.put _ _).1 (j.out.box.put _ _).2.1) rfl ?_
   rw[E.out]
   exact⟨_,rfl,cU.nil _ _,(j.out.box.put _ _).2.2⟩
  ·have af:(N:Int)<=4096:=by omega
   have p2:=j.out.ptr
   by_cases hX:bv x<1\/9223372036854775806<bv x
   ·have E:Hid (rF seed bs=Rd.bad 4):=aH (by
     unfold rF;rw[bf F,f.out,bf I,m.out,bj]
     unfold bv at hX;omega)
    have A:=aH hX
    clear hX
    go_wp2_with fail
    refine(uS b (bs.take 16) 4 j.out.rd (by rw[k.out];omega) (by rw[k.out];omega) 9223372036854775806 (by decide) (by decide) x (by rw[S.out];exact K.out) A.out).mono ?_
    rintro e g ⟨z,rfl,d⟩
    have c:=aH (j.out.go d.but d.rd)
    clear d p2
    have n0:=c.out.box.n0
    have n1:=c.out.box.n1
    have L:=c.out.box.a0
    have O:=c.out.box.a1
    have q:=c.out.box.fa 0
    have r:=c.out.box.fa 1
    go_wp2_with fail
    refine bn (ia rfl w.heap.size (ay az 0) (aB ae 0 0) rfl (c.out.box.put _ _).1 (c.out.box.put _ _).2.1) rfl ?_
    rw[E.out]
    exact⟨_,rfl,cU.nil _ _,(c.out.box.put _ _).2.2⟩
   ·have A:=aH (show 1<=bv x/\bv x<=9223372036854775806 by omega)
    have Y:Hid (¬ ¬(1<=x.toNat/\x.toNat<=9223372036854775806)):=aH (by have:=A.out;unfold bv at this;omega)
    clear hX
    go_wp2_with fail
    refine(wS b (bs.take 16) 4 j.out.rd (by rw[k.out];omega) (by rw[k.out];omega) 9223372036854775806 (by decide) (by decide) x (by rw[S.out];exact K.out) A.out.1 A.out.2).mono ?_
    rintro e g ⟨rfl,d⟩
    have c:=aH (j.out.go d.but d.rd)
    clear d p2
    by_cases hS:bs.length<16+N
    ·have E:Hid (rF seed bs=Rd.bad 2):=aH (by
      unfold rF;rw[bf F,f.out,bf I,m.out,bf Y.out,bj hS])
     have ab:(bs.length:Int)<16+(N:Int):=by omega
     have n0:=c.out.box.n0
     have n1:=c.out.box.n1
     have L:=c.out.box.a0
     have O:=c.out.box.a1
     have q:=c.out.box.fa 0
     have r:=c.out.box.fa 1
     go_wp2_with fail
     refine bn (ia rfl w.heap.size (ay az 0) (aB ae 0 0) rfl (c.out.box.put _ _).1 (c.out.box.put _ _).2.1) rfl ?_
     rw[E.out]
     exact⟨_,rfl,cU.nil _ _,(c.out.box.put _ _).2.2⟩
    ·have ab:16+(N:Int)<=(bs.length:Int):=by omega
     obtain⟨D,H⟩:=bP ((bs.drop 16).take N)
     have G:=aH (show D.length=N by rw[<-H];simp;omega)
     have y:=aH H
     clear H
     by_cases ac:n=16
     ·obtain rfl:N=0:=by omega
      subst ac
      have HD:=aH (show cD g (ag ⟨P,u,ae⟩) D from λi hi=>by have:=G.out;omega)
      go_wp2_with (refine cI (o:=⟨ag 50,_,_,_,_,_⟩) rfl rfl g.heap.size _ [] rfl (cU.nil _ _) (ag ⟨P,u,ae⟩) _ _ D rfl (by rw[G.out];try omega) HD.out (λh=>nomatch h) (by rw[G.out];simp;try omega) dx ?_)
      intro v4 w4 hv J hi
      have F4:=aH (c.out.on ((cU.nil g g.heap.size).below J dx dx))
      have V:=aH (show cU w4 g.heap.size v4 D from hv)
      have S4:=aH (show g.heap.size<=w4.heap.size from((cU.nil g g.heap.size).below J dx dx).size)
      clear hv J hi
      obtain⟨Z,c4,rfl,x4,n4,-,-,-⟩:=V.out.slice
      have W:=aH x4
      have U:=aH n4
      clear x4 n4
      go_wp2_with fail
      refine(s' seed x Z _ c4 W.out U.out (by rw[G.out];omega)).mono ?_
      rintro e w5 ⟨rfl,s⟩
      have C:=aH (F4.out.on s)
      have O5:=aH (V.out.dV s)
      have p5:=C.out.ptr
      clear s W U
      go_wp2_with fail
      refine(rC b (bs.take 16) 12 C.out.rd (by rw[k.out];omega) (by rw[k.out];omega) M (by rw[T.out];exact l.out)).mono ?_
      rintro e w6 ⟨rfl,d⟩
      have a:=aH (C.out.go d.but (C.out.rd.vN 16 (by rw[k.out];omega) d))
      have O6:=aH (O5.out.but d.but c.out.rd.lt)
      clear d p5
      go_wp2_with fail
      refine(uj _).mono ?_
      rintro e w7 ⟨rfl,rfl⟩
      by_cases B:M=(Crc.mask (iI seed x D)).toNat
      ·have E:Hid (rF seed bs=⟨x,D,16+0,iI seed x D,0⟩):=aH (by
        unfold rF;rw[bf F,f.out,bf I,m.out,bf Y.out,bf hS,l.out,K.out,y.out,bf (λh=>h B)])
       have t:((M:Int) !=bv (Crc.mask (iI seed x D)))=ah:=by rw[B];unfold bv;simp
       clear B
       have L:=a.out.box.a0
       have O:=a.out.box.a1
       have q:=a.out.box.fa 0
       have r:=a.out.box.fa 1
       go_wp2_with fail
       refine bn (ia rfl w.heap.size (ay az (bv x)) (aB Z D.length c4) rfl (a.out.box.put _ _).1 (a.out.box.put _ _).2.1) rfl ?_
       rw[E.out]
       exact⟨_,rfl,((O6.out.set (p:=⟨w.heap.size,0,ae⟩) (by have:=c.out.box.size;simp only;omega)).set (p:=⟨w.heap.size,1,ae⟩) (by have:=c.out.box.size;simp only;omega)).base (by have:=c.out.box.size;omega),(a.out.box.put _ _).2.2⟩
      ·have E:Hid (rF seed bs=Rd.bad 5):=aH (by
        unfold rF;rw[bf F,f.out,bf I,m.out,bf Y.out,bf hS,l.out,K.out,y.out,bj B])
       have t:((M:Int) !=bv (Crc.mask (iI seed x D)))=aj:=by unfold bv;simp;omega
       clear B
       have n0:=a.out.box.n0
       have n1:=a.out.box.n1
       have L:=a.out.box.a0
       have O:=a.out.box.a1
       have q:=a.out.box.fa 0
       have r:=a.out.box.fa 1
       go_wp2_with fail
       refine bn (ia rfl w.heap.size (ay az 0) (aB ae 0 0) rfl (a.out.box.put _ _).1 (a.out.box.put _ _).2.1) rfl ?_
       rw[E.out]
       exact⟨_,rfl,cU.nil _ _,(a.out.box.put _ _).2.2⟩
     ·have HD:=aH (show cD g (ag ⟨P,u+16,ae⟩) D from y.out▸(Q0.out.sub 16 N).below c.out.box.below)
      go_wp2_with (refine cI (o:=⟨ag 50,_,_,_,_,_⟩) rfl rfl g.heap.size _ [] rfl (cU.nil _ _) (ag ⟨P,u+16,ae⟩) _ _ D rfl (by rw[G.out];try omega) HD.out (λh=>nomatch h) (by rw[G.out];simp;try omega) dx ?_)
      intro v4 w4 hv J hi
      have F4:=aH (c.out.on ((cU.nil g g.heap.size).below J dx dx))
      have V:=aH (show cU w4 g.heap.size v4 D from hv)
      have S4:=aH (show g.heap.size<=w4.heap.size from((cU.nil g g.heap.size).below J dx dx).size)
      clear hv J hi
      obtain⟨Z,c4,rfl,x4,n4,-,-,-⟩:=V.out.slice
      have W:=aH x4
      have U:=aH n4
      clear x4 n4
      go_wp2_with fail
      refine(s' seed x Z _ c4 W.out U.out (by rw[G.out];omega)).mono ?_
      rintro e w5 ⟨rfl,s⟩
      have C:=aH (F4.out.on s)
      have O5:=aH (V.out.dV s)
      have p5:=C.out.ptr
      clear s W U
      go_wp2_with fail
      refine(rC b (bs.take 16) 12 C.out.rd (by rw[k.out];omega) (by rw[k.out];omega) M (by rw[T.out];exact l.out)).mono ?_
      rintro e w6 ⟨rfl,d⟩
      have a:=aH (C.out.go d.but (C.out.rd.vN 16 (by rw[k.out];omega) d))
      have O6:=aH (O5.out.but d.but c.out.rd.lt)
      clear d p5
      go_wp2_with fail
      refine(uj _).mono ?_
      rintro e w7 ⟨rfl,rfl⟩
      by_cases B:M=(Crc.mask (iI seed x D)).toNat
      ·have E:Hid (rF seed bs=⟨x,D,16+N,iI seed x D,0⟩):=aH (by
        unfold rF;rw[bf F,f.out,bf I,m.out,bf Y.out,bf hS,l.out,K.out,y.out,bf (λh=>h B)])
       have t:((M:Int) !=bv (Crc.mask (iI seed x D)))=ah:=by rw[B];unfold bv;simp
       clear B
       have L:=a.out.box.a0
       have O:=a.out.box.a1
       have q:=a.out.box.fa 0
       have r:=a.out.box.fa 1
       go_wp2_with fail
       refine bn (ia rfl w.heap.size (ay az (bv x)) (aB Z D.length c4) rfl (a.out.box.put _ _).1 (a.out.box.put _ _).2.1) rfl ?_
       rw[E.out]
       exact⟨_,rfl,((O6.out.set (p:=⟨w.heap.size,0,ae⟩) (by have:=c.out.box.size;simp only;omega)).set (p:=⟨w.heap.size,1,ae⟩) (by have:=c.out.box.size;simp only;omega)).base (by have:=c.out.box.size;omega),(a.out.box.put _ _).2.2⟩
      ·have E:Hid (rF seed bs=Rd.bad 5):=aH (by
        unfold rF;rw[bf F,f.out,bf I,m.out,bf Y.out,bf hS,l.out,K.out,y.out,bj B])
       have t:((M:Int) !=bv (Crc.mask (iI seed x D)))=aj:=by unfold bv;simp;omega
       clear B
       have n0:=a.out.box.n0
       have n1:=a.out.box.n1
       have L:=a.out.box.a0
       have O:=a.out.box.a1
       have q:=a.out.box.fa 0
       have r:=a.out.box.fa 1
       go_wp2_with fail
       refine bn (ia rfl w.heap.size (ay az 0) (aB ae 0 0) rfl (a.out.box.put _ _).1 (a.out.box.put _ _).2.1) rfl ?_
       rw[E.out]
       exact⟨_,rfl,cU.nil _ _,(a.out.box.put _ _).2.2⟩
end
section
open Go.RowKit
def abI(bs:List (BitVec 8)):ByteArray:=strOfNums (bs.map bv)
theorem GX(w:am)(f a c n:Nat)(xs:List (BitVec 8))(j:cD w (ag ⟨f,a,ae⟩) xs)(l:xs.length=n):(convert 48 9 (aB (ag ⟨f,a,ae⟩) n c)).run ax w=.ok (.string (abI xs)) w:=by
 refine run_convert_bytes_arg w 48 5 Tryz.underlying48 Tryz.underlying5 f a n c (xs.map bv) (by simpa using l) (λi m=>?_) 9 Tryz.underlying9
 obtain⟨b,o,e,k⟩:=j i (by omega)
 injection e with e;injection e with g h;subst g h
 rw[k]
 congr 2
 have d:i<xs.length:=by omega
 rw[rW d]
 simp[d]
end
section
open Go.RowKit
def qQ(n:Int):Int:=if n<0\/4096<n then 0 else 16+n
theorem pS(n:Int)(w:am):
 aw ax 244 #[ay az n] w λe w'=>e=aF (ay az (qQ n))/\w=w':=by
 by_cases a:n<0
 ·have E:qQ n=0:=by unfold qQ;rw[bj (.inl a)]
  rw[E]
  go_in
  go_wp2_with fail
  go_ret
  exact⟨rfl,rfl⟩
 by_cases b:4096<n
 ·have E:qQ n=0:=by unfold qQ;rw[bj (.inr b)]
  rw[E]
  go_in
  go_wp2_with fail
  go_ret
  exact⟨rfl,rfl⟩
 ·have E:qQ n=16+n:=by unfold qQ;rw[bf (by omega)]
  rw[E]
  clear E
  go_in
  go_wp2_with fail
  go_ret
  exact⟨rfl,rfl⟩
theorem Af{s:Int}(seed:BitVec 32){lsn:Int}(d:Option Addr)(a:List (BitVec 8))(n b:Nat)(w:am)(k:s=bv seed)(e:cD w d a)(f:a.length=n)(i:d=ae->b=0)(j:-9223372036854775808<=lsn/\lsn<=9223372036854775807)(g:n<=140737488355328)
 {bytes:List (BitVec 8)} {sum:BitVec 32} {c:Nat} (h:wF seed lsn a=(bytes,sum,c)):
 aw ax 306 #[ay .u32 s,ay az lsn,aB d n b] w (zq w bytes sum c):=by
 subst k f;exact GD seed lsn d a b w e i j g bytes sum c h
theorem uf{s:Int}(seed:BitVec 32){b:Option Addr}(bs:List (BitVec 8))(n a:Nat){w:am}(i:s=bv seed)(c:cD w b bs)(e:bs.length=n)(g:b=ae->a=0)(d:n<=a)(f:a<=9223372036854775807)(r:Rd)(h:rF seed bs=r):
 aw ax 145 #[ay .u32 s,aB b n a] w (aa3 w r):=by
 subst i e h;exact JM seed b bs a w c g d f
end
section
open Go.RowKit
structure aa2(w:am)(g:Nat)(x:Int)(v:ar):Prop where
 c0:w.cell? ⟨g,0,ae⟩=ag (ay az x)
 c1:w.cell? ⟨g,1,ae⟩=ag v
theorem Xy(w:am)(x:Int)(v:ar):aa2 (w.alloc (aG #[ay az x,v] 72)) w.heap.size x v:=
 ⟨aZ 0 (bp w _),aZ 1 (bp w _)⟩
end
end Go.Proofs.YtooinenkenobaaaGreat

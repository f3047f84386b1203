/- A part of the proof of what LawWholeReaders says. -/
import Derived.Test.YtooinenkenobaaaGreatAa
import Derived.Test.YtooinenkenobaaaGreatBr
import Derived.Test.YtooinenkenobaaaGreatBl
import Derived.Test.YtooinenkenobaaaGreatBg
set_option maxRecDepth 100000
set_option maxHeartbeats 20000000
namespace Go.Proofs.YtooinenkenobaaaGreat
open Option renaming none->ae,some->ag
open Bool renaming false->ah,true->aj
open Go.Proofs.Tryz renaming prog->ax
open Go.Value renaming int->ay,pointer->aA,slice->aB,bool->aC,float->aD
open Go.IntKind renaming i64->az
open Go.FloatKind renaming f64->aE
open Go.Ending renaming returned->aF
open Go.Obj renaming cells->aG
open Go renaming World->am,Value->ar,TypeId->au,Calls->aw
section
open Go.RowKit Go.Maps
theorem RP(l db:Nat)(Y:ByteArray)(af b:Nat)(sd:BitVec 32)(x:List (List (BitVec 8)))(d:List (BitVec 8))(ad:Bool){w:am}(g:Tg)(j sm:Int)(H:lX w g l db Y af b sd x ad)(hb:b+(x++[d]).length<=2000000000000000000)(hs:32+(bY sd b (x++[d])).length<=1000)
 (lC:j=16+d.length) (uy:sm=bv (dS sd b (x++[d]))):
 aw ax 146 #[aA (ag ⟨l,0,ae⟩),ay az j,ay .u32 sm] w λe w'=>e=aF (.tuple #[])/\∃g',Ch [17,18,19,20] g w g' w'/\lX w' g' l db Y af b sd (x++[d]) ad:=by
 obtain⟨O,Z,R,I,M⟩:=H.ex
 obtain⟨l1,l2⟩:=H.low
 have fl:=ue sd b x d
 have nl:(x++[d]).length=x.length+1:=by simp
 have SM:=aH uy
 have W:=aH fl
 have r:=aH nl
 rw[fl]at hs
 rw[nl]at hb
 obtain⟨n,hn⟩:=bP x.length
 obtain⟨F,hF⟩:=bP ((bY sd b x).length)
 obtain⟨s0,L9⟩:=bP (bv (dS sd b x))
 have o:=aH hn
 have X:=aH hF
 have H0:=aH L9
 rw[hn,hF,L9]at R
 rw[hn,hF]at I
 rw[hn]at M hb l2
 rw[hF]at hs
 obtain⟨t,aa⟩:=bP (bv sd)
 have HD:=aH aa
 rw[aa]at M
 have M0:=aH M
 obtain⟨f,kA⟩:=bP ((b:Int)+(n:Int))
 have y:=aH kA
 obtain⟨k,qv⟩:=bP ((32:Int)+(F:Int))
 have Q:=aH qv
 rw[kA,qv]at R
 rw[qv]at I
 have R0:=aH R
 have I0:=aH I
 have C:=sc R
 have HB:=aH hb
 have HS:=aH hs
 have L1:=aH l1
 have K:=aH lC
 have n0:0<=f:=by omega
 have n1:f<=2000000000000000000:=by omega
 have y0:0<=k:=by omega
 have y1:k<=1000:=by omega
 have q0:0<=j:=by omega
 have q1:j<=1000:=by omega
 clear H R I M hn hF L9 aa fl nl uy l1 l2 kA qv
 go_in
 go_wp2_with fail
 refine cj 12 (by kernel_rfl) (by kernel_rfl) ?_
 simp only[aJ,aO,aI,aL]
 repeat (go_big_quiet_step (fail))
 refine aU ?_
 intro N T
 obtain⟨nq,rfl⟩:=T
 go_wp2_with fail
 refine(acw O b n k (k+j) f g (I0.out.ch (Ch.drewN (Ch.refl [] _ _) _) (by decide)) (by have:=L1.out;omega) (by have:=HS.out;have:=K.out;have:=Q.out;omega) (by have:=K.out;omega) y.out.symm (by have:=HB.out;have:=y.out;omega)).mono ?_
 rintro e z ⟨⟨er,rfl⟩,g2,c2,i2⟩
 have C2:=aH (show Ch [18,19] g w g2 z from((Ch.refl [18,19] g w).drewN _).trans c2)
 have L:=aH (R0.out.ch C2.out (by decide))
 have M2:=aH (M0.out.ch C2.out (by decide))
 have I2:=aH i2
 clear C c2 i2 hs hb lC
 go_wp2_with fail
 have qR:∀p:In (λw'=>w'.cell? ⟨l,10,ae⟩=ag (aA (ag ⟨O,0,ae⟩))/\w'.cell? ⟨l,5,ae⟩=ag (ay az f)),p.w.cell? ⟨l,10,ae⟩=ag (aA (ag ⟨O,0,ae⟩))/\p.w.cell? ⟨l,5,ae⟩=ag (ay az f):=λp=>p.h
 refine qM [0,1,2,3,4,5,6,7] 8 12 [9,10,11,12,13,14] [8,9,10,11,13,14] (λw'=>w'.cell? ⟨l,10,ae⟩=ag (aA (ag ⟨O,0,ae⟩))/\w'.cell? ⟨l,5,ae⟩=ag (ay az f)) (by kernel_rfl) (by kernel_rfl) (by intro c a d v w h;cases d <;> exact h) ⟨L.out.cell 10,L.out.cell 5⟩ ?_
 intro dF
 simp only[pick,aV,a8,aQ,aR]
 repeat (go_big_quiet_step (fail))
 refine aU ?_
 refine⟨?_,?_⟩
 ·refine aS rfl ?_ rfl
  go_wp2_with fail
  refine(Cz O b (n+1) (k+j) f _ g2 (I2.out.ch (Ch.drewN (Ch.refl [] _ _) 1) (by decide)) (by omega) (by have:=y.out;omega)).mono ?_
  rintro e J ⟨rfl,iL⟩
  have V:=aH (show Below z.heap.size z J from aM (bi _) iL)
  have R3:=aH (L.out.below V.out)
  go_wp2_with fail
  refine⟨⟨⟨_,⟨R3.out.cell 10,R3.out.cell 5⟩⟩,rfl⟩,?_⟩
  refine aX 3 (by kernel_rfl) ?_
  simp only[aJ,aO,aI,aL]
  repeat (go_big_quiet_step (fail))
  refine aU ?_
  have bz:=aY J (aG #[ay az 0,ay az 0] 228)
  have G:=bp J (aG #[ay az 0,ay az 0] 228)
  have kz:=gc G
  have BZ:=aH (aM V.out bz)
  have RZ:=aH (L.out.below BZ.out)
  refine aS rfl ?_ rfl
  go_wp2_with fail
  refine⟨⟨⟨_,⟨RZ.out.cell 10,RZ.out.cell 5⟩⟩,rfl⟩,?_⟩
  refine aS rfl ?_ rfl
  have u:=aH (aM V.out (aY J (aG #[ay az b,ay az 32] 228)))
  have m:=aH (L.out.below u.out)
  go_wp2_with fail
  refine⟨⟨⟨_,⟨m.out.cell 10,m.out.cell 5⟩⟩,rfl⟩,?_⟩
  refine aX 1 (by kernel_rfl) ?_
  simp only[aJ,aO,aI,aL]
  repeat (go_big_quiet_step (fail))
  refine aU ?_
  refine bF ?_
  clear dF qR
  have kE:=gc (bp J (aG #[ay az b,ay az 32] 228))
  obtain⟨N,T⟩:=bP (J.alloc (aG #[ay az b,ay az 32] 228))
  rw[T]at u m kE
  rw[T]
  obtain⟨eb,oC⟩:=bP J.heap.size
  rw[oC]at kE
  rw[oC]
  clear T oC bz G kz BZ RZ R3
  have I3:=aH (I2.out.ch (Ch.bh [] g2 u.out) (by decide))
  have P:=aH (M2.out.below u.out)
  have W3:=sc m.out
  have C3:=aH (C2.out.on u.out)
  clear C2 L M2 I2 iL V u
  by_cases S:n=0
  ·have E:(b:Int)=f:=by have:=y.out;omega
   have d1:decide ((b:Int)=f)=aj:=bM E
   have D:=aH S
   have A:=P.out.map
   clear S
   go_wp2_with fail
   go_quiet (fail)
   go_wp2_with fail
   refine cj 12 (by kernel_rfl) (by kernel_rfl) ?_
   simp only[aJ,aO,aI,aL]
   repeat (go_big_quiet_step (fail))
   refine aU ?_
   intro wz ab
   obtain⟨G,rfl⟩:=ab
   go_wp2_with (at_mapUpdate;refine jK rfl 224 rfl 2 211 ly Tryz.underlying224 Z n (BV b t n) rfl (A.move rfl) (by have:=D.out;omega) (kI f) rfl rfl (uO (by omega)) trivial ?_)
   intro U m5 g5
   have C5:=aH (show Ch [20] g2 N g2 U from((Ch.refl [20] g2 N).drewN _).grown g5 (λq hq=>by injection hq with hq;subst hq;exact .inl (by rw[P.out.tag];decide)))
   have B:=aH (m.out.ch C5.out (by decide))
   have M5:=aH (show i9 U g2 20 2 Z (n+1) (fU (BV b t n) (kI f) (ay .u32 s0))from⟨by rw[E];exact m5,P.out.tag⟩)
   have W5:=sc B.out
   clear W3 m5 g5 A kE
   go_wp2_with fail
   go_end0
   have R6:=(B.out.set 5 (ay az (f+1))).set 6 (ay az (k+j)) |>.set 7 (ay .u32 sm)
   have s:Ch [17] g2 U g2 (((U.setCell ⟨l,5,ae⟩ (ay az (f+1))).setCell ⟨l,6,ae⟩ (ay az (k+j))).setCell ⟨l,7,ae⟩ (ay .u32 sm)):=(((Ch.refl _ _ _).set _ (.inl (by rw[B.out.tag];decide))).set _ (.inl (by rw[B.out.tag];decide))).set _ (.inl (by rw[B.out.tag];decide))
   have e0:s0=t:=by
    have:x=[]:=eu (by rw[o.out,D.out])
    rw[<-H0.out,<-HD.out,this]
    rfl
   refine⟨rfl,g2,((C3.out.mono (by decide)).trans (C5.out.mono (by decide))).trans (s.mono (by decide)),⟨O,Z,?_,?_,?_⟩,?_⟩
   ·rw[r.out,W.out,o.out,X.out,<-SM.out,show(b:Int)+((n+1:Nat):Int)=f+1 by have:=y.out;omega,show(32:Int)+((F+(16+d.length):Nat):Int)=k+j by have:=Q.out;have:=K.out;omega]
    exact R6
   ·rw[r.out,W.out,o.out,X.out,show((n+1:Nat):Int)=(n:Int)+1 by omega,show(32:Int)+((F+(16+d.length):Nat):Int)=k+j by have:=Q.out;have:=K.out;omega]
    exact(I3.out.ch C5.out (by decide)).ch s (by decide)
   ·have:=D.out
    subst this
    have hf:BV b t ((0+1:Nat):Int)=fU (BV b t ((0:Nat):Int)) (kI f) (ay .u32 s0):=by
     unfold BV
     rw[bf (by omega),bj (by omega),e0,E]
    rw[r.out,o.out,HD.out,hf]
    exact M5.out.ch s (by decide)
   ·rw[r.out,o.out]
    exact⟨L1.out,HB.out⟩
  ·have E:¬(b:Int)=f:=by have:=y.out;omega
   have d1:decide ((b:Int)=f)=ah:=bC E
   have D:=aH S
   clear S
   go_wp2_with fail
   go_quiet (fail)
   go_wp2_with fail
   go_end0
   have R4:=((m.out.dn nq).set 5 (ay az (f+1))).set 6 (ay az (k+j)) |>.set 7 (ay .u32 sm)
   have s:Ch [17] g2 N g2 ((((N.drewN nq).setCell ⟨l,5,ae⟩ (ay az (f+1))).setCell ⟨l,6,ae⟩ (ay az (k+j))).setCell ⟨l,7,ae⟩ (ay .u32 sm)):=((((Ch.refl _ _ _).drewN nq).set _ (.inl (by rw[m.out.tag];decide))).set _ (.inl (by rw[m.out.tag];decide))).set _ (.inl (by rw[m.out.tag];decide))
   refine⟨rfl,g2,(C3.out.mono (by decide)).trans (s.mono (by decide)),⟨O,Z,?_,?_,?_⟩,?_⟩
   ·rw[r.out,W.out,o.out,X.out,<-SM.out,show(b:Int)+((n+1:Nat):Int)=f+1 by have:=y.out;omega,show(32:Int)+((F+(16+d.length):Nat):Int)=k+j by have:=Q.out;have:=K.out;omega]
    exact R4
   ·rw[r.out,W.out,o.out,X.out,show((n+1:Nat):Int)=(n:Int)+1 by omega,show(32:Int)+((F+(16+d.length):Nat):Int)=k+j by have:=Q.out;have:=K.out;omega]
    exact I3.out.ch s (by decide)
   ·rw[r.out,o.out,HD.out,show BV b t ((n+1:Nat):Int)=BV b t n by unfold BV;rw[bf (by omega),bf (by have:=D.out;omega)]]
    have A:=P.out.ch s (by decide)
    exact⟨A.map.mono (by omega),A.tag⟩
   ·rw[r.out,o.out]
    exact⟨L1.out,HB.out⟩
 ·have bz:=aY z.drew (aG #[ay az 0,ay az 0] 228)
  have G:=bp z.drew (aG #[ay az 0,ay az 0] 228)
  obtain⟨eb,oC⟩:=bP z.drew.heap.size
  have EB:=aH (show z.heap.size<=eb by rw[<-oC];exact bT _)
  obtain⟨y1,LR⟩:=bP (z.drew.alloc (aG #[ay az 0,ay az 0] 228))
  rw[LR]at bz G
  rw[oC]at G
  have kz:=gc G
  have BZ:=aH (show Below z.heap.size z y1 from aM (bi _) bz)
  have RZ:=aH (L.out.below BZ.out)
  refine aS rfl ?_ rfl
  go_wp2_with fail
  refine⟨⟨⟨_,⟨RZ.out.cell 10,RZ.out.cell 5⟩⟩,rfl⟩,?_⟩
  refine aS rfl ?_ rfl
  go_wp2_with fail
  refine(Cz O b (n+1) (k+j) f _ g2 (I2.out.ch (Ch.bh [] g2 BZ.out) (by decide)) (by omega) (by have:=y.out;omega)).mono ?_
  rintro e J ⟨rfl,iL⟩
  have V:=aH (show Below z.heap.size z J from aM BZ.out iL)
  have R3:=aH (L.out.below V.out)
  have ac:J.heap[eb]?=ag (aG #[ay az 0,ay az 0] 228 (0,0)):=(iL.block _ (aT G)).trans G
  have kx:=gc ac
  clear kz
  go_wp2_with fail
  refine⟨⟨⟨_,⟨R3.out.cell 10,R3.out.cell 5⟩⟩,rfl⟩,?_⟩
  refine aX 3 (by kernel_rfl) ?_
  simp only[aJ,aO,aI,aL]
  repeat (go_big_quiet_step (fail))
  refine aU ?_
  refine aS rfl ?_ rfl
  go_wp2_with fail
  have u:=aH (bK (bK V.out EB.out (ay az b) (i:=0)) EB.out (ay az 32) (i:=1))
  have m:=aH (L.out.below u.out)
  have kE:=gc (bE (bE ac 0 (ay az b)) 1 (ay az 32))
  refine⟨⟨⟨_,⟨m.out.cell 10,m.out.cell 5⟩⟩,rfl⟩,?_⟩
  refine aX 1 (by kernel_rfl) ?_
  simp only[aJ,aO,aI,aL]
  repeat (go_big_quiet_step (fail))
  refine aU ?_
  refine bF ?_
  clear dF qR
  obtain⟨N,T⟩:=bP ((J.setCell ⟨eb,0,ae⟩ (ay az b)).setCell ⟨eb,1,ae⟩ (ay az 32))
  rw[T]at u m kE
  rw[T]
  clear T oC LR bz G kx ac BZ RZ R3 EB
  have I3:=aH (I2.out.ch (Ch.bh [] g2 u.out) (by decide))
  have P:=aH (M2.out.below u.out)
  have W3:=sc m.out
  have C3:=aH (C2.out.on u.out)
  clear C2 L M2 I2 iL V u
  by_cases S:n=0
  ·have E:(b:Int)=f:=by have:=y.out;omega
   have d1:decide ((b:Int)=f)=aj:=bM E
   have D:=aH S
   have A:=P.out.map
   clear S
   go_wp2_with fail
   go_quiet (fail)
   go_wp2_with fail
   refine cj 12 (by kernel_rfl) (by kernel_rfl) ?_
   simp only[aJ,aO,aI,aL]
   repeat (go_big_quiet_step (fail))
   refine aU ?_
   intro wz ab
   obtain⟨G,rfl⟩:=ab
   go_wp2_with (at_mapUpdate;refine jK rfl 224 rfl 2 211 ly Tryz.underlying224 Z n (BV b t n) rfl (A.move rfl) (by have:=D.out;omega) (kI f) rfl rfl (uO (by omega)) trivial ?_)
   intro U m5 g5
   have C5:=aH (show Ch [20] g2 N g2 U from((Ch.refl [20] g2 N).drewN _).grown g5 (λq hq=>by injection hq with hq;subst hq;exact .inl (by rw[P.out.tag];decide)))
   have B:=aH (m.out.ch C5.out (by decide))
   have M5:=aH (show i9 U g2 20 2 Z (n+1) (fU (BV b t n) (kI f) (ay .u32 s0))from⟨by rw[E];exact m5,P.out.tag⟩)
   have W5:=sc B.out
   clear W3 m5 g5 A kE
   go_wp2_with fail
   go_end0
   have R6:=(B.out.set 5 (ay az (f+1))).set 6 (ay az (k+j)) |>.set 7 (ay .u32 sm)
   have s:Ch [17] g2 U g2 (((U.setCell ⟨l,5,ae⟩ (ay az (f+1))).setCell ⟨l,6,ae⟩ (ay az (k+j))).setCell ⟨l,7,ae⟩ (ay .u32 sm)):=(((Ch.refl _ _ _).set _ (.inl (by rw[B.out.tag];decide))).set _ (.inl (by rw[B.out.tag];decide))).set _ (.inl (by rw[B.out.tag];decide))
   have e0:s0=t:=by
    have:x=[]:=eu (by rw[o.out,D.out])
    rw[<-H0.out,<-HD.out,this]
    rfl
   refine⟨rfl,g2,((C3.out.mono (by decide)).trans (C5.out.mono (by decide))).trans (s.mono (by decide)),⟨O,Z,?_,?_,?_⟩,?_⟩
   ·rw[r.out,W.out,o.out,X.out,<-SM.out,show(b:Int)+((n+1:Nat):Int)=f+1 by have:=y.out;omega,show(32:Int)+((F+(16+d.length):Nat):Int)=k+j by have:=Q.out;have:=K.out;omega]
    exact R6
   ·rw[r.out,W.out,o.out,X.out,show((n+1:Nat):Int)=(n:Int)+1 by omega,show(32:Int)+((F+(16+d.length):Nat):Int)=k+j by have:=Q.out;have:=K.out;omega]
    exact(I3.out.ch C5.out (by decide)).ch s (by decide)
   ·have:=D.out
    subst this
    have hf:BV b t ((0+1:Nat):Int)=fU (BV b t ((0:Nat):Int)) (kI f) (ay .u32 s0):=by
     unfold BV
     rw[bf (by omega),bj (by omega),e0,E]
    rw[r.out,o.out,HD.out,hf]
    exact M5.out.ch s (by decide)
   ·rw[r.out,o.out]
    exact⟨L1.out,HB.out⟩
  ·have E:¬(b:Int)=f:=by have:=y.out;omega
   have d1:decide ((b:Int)=f)=ah:=bC E
   have D:=aH S
   clear S
   go_wp2_with fail
   go_quiet (fail)
   go_wp2_with fail
   go_end0
   have R4:=((m.out.dn nq).set 5 (ay az (f+1))).set 6 (ay az (k+j)) |>.set 7 (ay .u32 sm)
   have s:Ch [17] g2 N g2 ((((N.drewN nq).setCell ⟨l,5,ae⟩ (ay az (f+1))).setCell ⟨l,6,ae⟩ (ay az (k+j))).setCell ⟨l,7,ae⟩ (ay .u32 sm)):=((((Ch.refl _ _ _).drewN nq).set _ (.inl (by rw[m.out.tag];decide))).set _ (.inl (by rw[m.out.tag];decide))).set _ (.inl (by rw[m.out.tag];decide))
   refine⟨rfl,g2,(C3.out.mono (by decide)).trans (s.mono (by decide)),⟨O,Z,?_,?_,?_⟩,?_⟩
   ·rw[r.out,W.out,o.out,X.out,<-SM.out,show(b:Int)+((n+1:Nat):Int)=f+1 by have:=y.out;omega,show(32:Int)+((F+(16+d.length):Nat):Int)=k+j by have:=Q.out;have:=K.out;omega]
    exact R4
   ·rw[r.out,W.out,o.out,X.out,show((n+1:Nat):Int)=(n:Int)+1 by omega,show(32:Int)+((F+(16+d.length):Nat):Int)=k+j by have:=Q.out;have:=K.out;omega]
    exact I3.out.ch s (by decide)
   ·rw[r.out,o.out,HD.out,show BV b t ((n+1:Nat):Int)=BV b t n by unfold BV;rw[bf (by omega),bf (by have:=D.out;omega)]]
    have A:=P.out.ch s (by decide)
    exact⟨A.map.mono (by omega),A.tag⟩
   ·rw[r.out,o.out]
    exact⟨L1.out,HB.out⟩
theorem ahA(x:Bool)(w:am):(Op.unary .not (.bool x)).run ax w=.ok (aC (!x)) w:=rfl
theorem Od(c rb a:Nat)(b:Bool)(w:am)(f:w.cell? ⟨c,0,ae⟩=ag (aC b))(g:w.cell? ⟨rb,0,ae⟩=ag (aA (ag ⟨a,0,ae⟩))){x:ar}(h:w.cell? ⟨a,8,ae⟩=ag x)(i:w.frozen? ⟨a,8,ae⟩=ah):
 CallsD ax 302 #[aA (ag ⟨c,0,ae⟩),aA (ag ⟨rb,0,ae⟩)] .returning w λe d w'=>d=.returning/\(e=aF (.tuple #[])/\w'=w.setCell ⟨a,8,ae⟩ (aC (!b))):=by
 go_enter_d Tryz.func302,Tryz.ntmps302
 go_wp2_with fail
 go_end0
 exact⟨rfl,rfl⟩
theorem Oc(c rb a:Nat)(b:Bool){w:am}(f:w.cell? ⟨c,0,ae⟩=ag (aC b))(g:w.cell? ⟨rb,0,ae⟩=ag (aA (ag ⟨a,0,ae⟩))){x:ar}(h:w.cell? ⟨a,8,ae⟩=ag x)(i:w.frozen? ⟨a,8,ae⟩=ah):
 CallsD ax 270 #[aA (ag ⟨c,0,ae⟩),aA (ag ⟨rb,0,ae⟩)] .returning w λe d w'=>d=.returning/\(e=aF (.tuple #[])/\w'=w.setCell ⟨a,8,ae⟩ (aC (!b))):=by
 go_enter_d Tryz.func270,Tryz.ntmps270
 go_wp2_with fail
 go_end0
 exact⟨rfl,rfl⟩
theorem tO(j k:Nat)(a:ByteArray)(c b:Nat)(f:BitVec 32)(d:List (List (BitVec 8)))(w:am)(g:Tg)(H:lX w g j k a c b f d ah):
 aw ax 71 #[aA (ag ⟨j,0,ae⟩)] w λe w'=>e=aF (.agg #[.string a,ay az c,ay az b,ay .u32 0,ay az (b+d.length),ay az (32+(bY f b d).length),ay .u32 (bv (dS f b d)),aC ah])/\Below w.heap.size w w':=by
 obtain⟨p,n,R,I,M⟩:=H.ex
 have C:=sc R
 clear H I M R
 go_in
 go_wp2_with fail
 refine cj 31 (by kernel_rfl) (by kernel_rfl) ?_
 simp only[aJ,aO,aI,aL]
 repeat (go_big_quiet_step (fail))
 refine aU ?_
 intro o m
 obtain⟨nq,rfl⟩:=m
 go_wp2_with fail
 have i:((w.alloc (aG #[.string ⟨#[]⟩,ay az 0,ay az 0,ay .u32 0,ay az 0,ay az 0,ay .u32 0,aC ah] 215)).drewN nq).heap[w.heap.size]?=_:=bp w (aG #[.string ⟨#[]⟩,ay az 0,ay az 0,ay .u32 0,ay az 0,ay az 0,ay .u32 0,aC ah] 215)
 have h:Below w.heap.size w ((w.alloc (aG #[.string ⟨#[]⟩,ay az 0,ay az 0,ay .u32 0,ay az 0,ay az 0,ay .u32 0,aC ah] 215)).drewN nq):=lG (aY _ _) _
 generalize(w.alloc (aG #[.string ⟨#[]⟩,ay az 0,ay az 0,ay .u32 0,ay az 0,ay az 0,ay .u32 0,aC ah] 215)).drewN nq=w1 at i h ⊢
 refine bn (cH rfl _ _ w.heap.size 215 _ (0,0) _ rfl (bE (bE (bE (bE (bE (bE (bE (bE i 0 _) 1 _) 2 _) 3 _) 4 _) 5 _) 6 _) 7 _) Tryz.underlying215 rfl (by kernel_rfl)) rfl ?_
 refine⟨rfl,?_⟩
 have l:=bT w.heap.size
 exact bK (bK (bK (bK (bK (bK (bK (bK h l _) l _) l _) l _) l _) l _) l _) l _
theorem RU(k o n m E:Nat)(h:Int)(L:List gW)(f:Lit->Option ar)(B:List (BitVec 8))(a:ByteArray)(j l:Nat)(J:BitVec 32)(u:List (List (BitVec 8)))(w:am)(g:Tg)(H:lX w g k o a j l J u ah)
 (D:nE w g o h L n m f) (F:uw w g 11 E B) (hs:kK a=aj) (hf:f (fS a)=ag (aA (ag ⟨E,0,ae⟩))) (hB:B.length<=16777216):
 aw ax 266 #[aA (ag ⟨k,0,ae⟩)] w λe w'=>e=aF (ay az 0)/\∃g',Ch [1,11,12,13,17] g w g' w'/\lX w' g' k o a j l J u ah/\nE w' g' o h L n m f/\uw w' g' 11 E B:=by
 obtain⟨d,gv,s,t⟩:=bG w #[aA (ag ⟨k,0,ae⟩)] 182
 have j9:=jY t.out
 obtain⟨K,lU,lZ,kG⟩:=bG d #[aC ah] 4
 have QK:=jY kG.out
 have z:=aH (Ch.start g (aM s.out lZ.out))
 have U:=aH (H.ch z.out (by decide))
 have D2:=aH (D.ch z.out (by decide))
 have F2:=aH (F.ch z.out (by decide))
 have Y:=aH (show Row K (eJ g w.heap.size 0) 0 w.heap.size _ _ from⟨(lZ.out.block _ (aT t.out)).trans t.out,dQ dx⟩)
 have X2:=aH (show Row K (eJ g w.heap.size 0) 0 d.heap.size _ _ from⟨kG.out,dQ s.out.size⟩)
 have W:=aH (show ∃N G,Row d g 17 k (uI o a j l 0 (l+u.length) (32+(bY J l u).length) (bv (dS J l u)) ah N G) 226 from by obtain⟨N,G,R,-⟩:=H.ex;exact⟨N,G,R.below s.out⟩)
 obtain⟨xa,ma,X⟩:=W.out
 have Ca:=sc X
 obtain⟨N,G,R,I,M⟩:=U.out.ex
 have C:=sc R
 have kx:=jY Y.out.row
 clear R I M H D F X W
 go_enter_defers Tryz.func266,Tryz.ntmps266
 go_wp2_with fail
 refine cj 8 (by kernel_rfl) (by kernel_rfl) ?_
 simp only[aJ,aO,aI,aL]
 repeat (go_big_quiet_step (fail))
 refine aU ?_
 intro wq lT
 obtain⟨nq,rfl⟩:=lT
 go_wp2_with fail
 obtain⟨x,hx⟩:=bP ((K.setCell ⟨d.heap.size,0,ae⟩ (aC ah)).drewN nq)
 have S:w.heap.size<=d.heap.size:=s.out.size
 have O:=aH (show Ch [0] (eJ g w.heap.size 0) K (eJ g w.heap.size 0) x from by rw[<-hx];exact((Ch.refl _ _ _).set _ (.inl (by rw[dQ S];decide))).drewN _)
 have CZ:=aH (show Ch [] g w (eJ g w.heap.size 0) x from by rw[<-hx];exact(z.out.set _ (.inr S)).drewN _)
 have Y1:=aH (show Row x (eJ g w.heap.size 0) 0 w.heap.size _ _ from by rw[<-hx];exact(Y.out.iZ (by have:=aT t.out;omega)).dn nq)
 have Y2:=aH (show Row x (eJ g w.heap.size 0) 0 d.heap.size _ _ from by rw[<-hx];exact(X2.out.set 0 (aC ah)).dn nq)
 rw[hx]
 clear hx S
 refine(yU o n m 11 E h L f a B x _ (D2.out.ch O.out (by decide)) (F2.out.ch O.out (by decide)) hs hf hB (by decide)).mono ?_
 rintro e y ⟨rfl,p,q,Z,f3⟩
 have C3:=aH q
 have D3:=aH Z
 have F3:=aH f3
 have H3:=aH ((U.out.ch O.out (by decide)).ch q (by decide))
 have Z1:=aH (Y1.out.ch q (by decide))
 have P:=aH (Y2.out.ch q (by decide))
 have aa:=jY P.out.row
 clear q Z f3 C Ca kx j9 QK
 go_wp2_with fail
 have T1:=Z1.out.iZ (b:=w.heap.size) (c:=d.heap.size) (i:=0) (v:=aC aj) (by have:=aT t.out;omega)
 have T2:=P.out.set 0 (aC aj)
 have Q:Ch [0] p y p (y.setCell ⟨d.heap.size,0,ae⟩ (aC aj)):=(Ch.refl _ _ _).set _ (.inl (by rw[P.out.tag];decide))
 have V:=H3.out.ch Q (by decide)
 obtain⟨xe,me,A,I4,M4⟩:=V.ex
 refine leaves_cons (f:=270) (args:=#[aA (ag ⟨d.heap.size,0,ae⟩),aA (ag ⟨w.heap.size,0,ae⟩)]) (by simp) (by simp[go_sem]) ?_
 refine(Oc d.heap.size w.heap.size k aj (T2.cell 0) (T1.cell 0) (A.cell 8) (A.free 8)).mono ?_
 rintro e u' zH ⟨rfl,rfl,rfl⟩
 have r:Ch [17] p (y.setCell ⟨d.heap.size,0,ae⟩ (aC aj)) p ((y.setCell ⟨d.heap.size,0,ae⟩ (aC aj)).setCell ⟨k,8,ae⟩ (aC (!aj))):=(Ch.refl _ _ _).set _ (.inl (by rw[A.tag];decide))
 have WJ:Ch [1,11,12,13,17] g w p (y.setCell ⟨d.heap.size,0,ae⟩ (aC aj)):=((CZ.out.any (T:=[1,11,12,13,17])).trans (C3.out.mono (by decide))).set _ (.inr s.out.size)
 refine⟨_,results_tmp rfl _ _ _,rfl,p,WJ.trans (r.mono (by decide)),⟨⟨xe,me,A.set 8 _,I4.ch r (by decide),M4.ch r (by decide)⟩,V.low⟩,(D3.out.ch Q (by decide)).ch r (by decide),(F3.out.ch Q (by decide)).ch r (by decide)⟩
theorem cm{w w':am}{b i:Nat}(h:w'.heap[b]?=w.heap[b]?):w'.cell? ⟨b,i,ae⟩=w.cell? ⟨b,i,ae⟩:=by
 simp only[World.cell?,h]
structure vu(w:am)(g:Tg)(S:List Nat)(b:Nat)(Ds:List (List (BitVec 8))):Prop where
 tag:g b∈S
 lt:b<w.heap.size
 ie:∀i d,Ds[i]?=ag d->∃ai ca,w.cell? ⟨b,i,ae⟩=ag (aB ai d.length ca)/\d.length<=ca/\ca<=9223372036854775807/\cD w ai d/\(ai=ae->ca=0)/\(∀q off,ai=ag ⟨q,off,ae⟩->d≠[]->g q∈S/\q<w.heap.size)
theorem vu.ch{S T:List Nat}{w w':am}{g g':Tg}{b:Nat}{k:List (List (BitVec 8))}(h:vu w g S b k)(c:Ch T g w g' w')(l:∀t,t∈S->t∉T):vu w' g' S b k:=by
 have x:=c.gP b h.lt (l _ h.tag)
 refine⟨by rw[c.tag b h.lt];exact h.tag,aW h.lt c.size,λi d y=>?_⟩
 obtain⟨n,o,p,r,m,s,u,j⟩:=h.ie i d y
 refine⟨n,o,by rw[<-p];exact cm x,r,m,s.same λq a e f=>?_,u,λq a e f=>⟨by rw[c.tag q (j q a e f).2];exact(j q a e f).1,aW (j q a e f).2 c.size⟩⟩
 exact c.gP q (j q a e f).2 (l _ (j q a e f).1)
def xF(i:Int):List ar:=[ay .u32 i]
theorem xE(i:Int):(xF i).length=1:=rfl
theorem Ro(i:Int):∀u∈xF i,u.oneCell'=aj:=λu a=>by
 unfold xF at a
 rw[cE.1 a]
 rfl
theorem Tryz.Tq:(Tryz.prog.info? 211).map (λi=>(i.zero,i.size,i.bytes))=ag (ag (ay .u32 0),1,4):=by kernel_rfl
theorem af0{seed:BitVec 32}{Y k:Nat}{D:List (BitVec 8)}(a:1<=Y+k)(b:Y+k<=9223372036854775806)(c:D.length<=4096):wF seed ((Y:Int)+(k:Int)) D=(ij seed (BitVec.ofNat 64 (Y+k)) D,iI seed (BitVec.ofNat 64 (Y+k)) D,0):=by
 unfold wF
 rw[bf (by omega),bf (by omega)]
 have e:BitVec.ofInt 64 ((Y:Int)+(k:Int))=BitVec.ofNat 64 (Y+k):=by rw[<-Ed,BitVec.ofInt_natCast]
 rw[e]
def nM(b:BitVec 32)(n:Nat)(a:List (List (BitVec 8)))(k:Nat):List Int:=(List.range k).map λj=>bv (dS b n (a.take (j+1)))
theorem IR(b:BitVec 32)(n:Nat)(a:List (List (BitVec 8)))(k:Nat):nM b n a (k+1)=nM b n a k++[bv (dS b n (a.take (k+1)))]:=by
 unfold nM
 rw[List.range_succ,gM]
 rfl
theorem JL:∀(b:BitVec 32) (n:Nat) (a:List (List (BitVec 8))),(∀d∈a,d.length<=4096)->a.length<=1000->(bY b n a).length<=5000000:=λb n a h f=>by
 have:∀(a:List (List (BitVec 8))) (b:BitVec 32) (n:Nat),(∀d∈a,d.length<=4096)->(bY b n a).length<=a.length*4112:=by
  intro a
  induction a with
  | nil=>intro b n _;simp[bY]
  | cons d a ih=>
   intro b n h
   have c:=h d (List.mem_cons_self ..)
   have e:=ih (iI b (BitVec.ofNat 64 n) d) (n+1) (λx hx=>h x (fW _ hx))
   simp only[bY,aN,iK,bV]
   omega
 have:=this a b n h
 omega
theorem IZ(sb db:Nat)(file:ByteArray)(num b0:Nat)(sd:BitVec 32)(ds:List (List (BitVec 8)))(brk:Bool)(w:am)(g:Tg)(S:List Nat)(da:Nat)(Ds:List (List (BitVec 8)))(n ca:Nat)(H:lX w g sb db file num b0 sd ds brk)(X:vu w g S da Ds)(hn:Ds.length=n)(hk:n<=1000)(hd:∀d∈Ds,d.length<=4096):
 aw ax 301 #[aA (ag ⟨sb,0,ae⟩),aB (ag ⟨da,0,ae⟩) n ca] w λe w'=>∃u v,e=aF (.tuple #[u,v,ay az 0])/\cU w' w.heap.size u (bY (dS sd b0 ds) (b0+ds.length) Ds)/\fC xF 211 1 w' v (nM (dS sd b0 ds) (b0+ds.length) Ds n)/\(∀q,v.ownBlock=ag q->w.heap.size<=q)/\Below w.heap.size w w':=by
 obtain⟨xb,mb,R,I,M⟩:=H.ex
 obtain⟨l1,l2⟩:=H.low
 obtain⟨s0,L9⟩:=bP (dS sd b0 ds)
 obtain⟨N,hN⟩:=bP (b0+ds.length)
 rw[show(b0:Int)+(ds.length:Int)=(N:Int)by omega,L9]at R
 rw[L9,hN]
 rw[hN]at l2
 have N1:1<=N:=by omega
 have R0:=aH R
 have XX:=aH X
 have HN:=aH hn
 have HD:=aH hd
 have C:=sc R
 clear R I M H X hn hd L9 hN l1
 go_in
 go_wp2_with fail
 go_loopw [4,5,7,19] (λu v s i wr=>∃k:Nat,k<=n/\i=ay az k/\s=ay .u32 (bv (dS s0 N (Ds.take k)))/\Hid (cU wr w.heap.size u (bY s0 N (Ds.take k)))/\Hid (fC xF 211 1 wr v (nM s0 N Ds k))/\Hid (∀q,v.ownBlock=ag q->w.heap.size<=q)/\Hid (Below w.heap.size w wr)) (λ_ _ _ i _=>n-(intOf i).toNat)
 case atStart=>exact⟨0,cF _,rfl,rfl,aH (cU.nil _ _),aH (fC.nil _ _ _ _),aH (λq hq=>by cases hq),aH (cX _ _)⟩
 case round=>
  obtain⟨k,hk,rfl,rfl,HU,HV,HQ,HB⟩:=hrel
  by_cases fp:k<n
  ·have kz:(k:Int)<(n:Int):=by omega
   have KL:=aH (show k<Ds.length by rw[HN.out];exact fp)
   obtain⟨d,hx⟩:∃x,Ds[k]?=ag x:=⟨Ds[k]'KL.out,aP KL.out⟩
   have HX:=aH hx
   obtain⟨ai,ci,x1,x2,x2',x3,x4,x5⟩:=XX.out.ie k d hx
   have XL:=aH (show da<w.heap.size from XX.out.lt)
   have dl:=HD.out d (cG hx)
   have y1:wr.cell? ⟨da,k,ae⟩=ag (aB ai d.length ci):=by rw[<-x1];exact cm (HB.out.block _ XL.out)
   have BY:=aH (show cD wr ai d from x3.same λq off e hn=>HB.out.block q (x5 q off e hn).2)
   have AN:=aH x4
   have C2:=sc (R0.out.below HB.out)
   have DL:=aH dl
   clear C hx x1 x3 x4 x5
   obtain⟨m,hm⟩:=bP d.length
   have HM:=aH hm
   rw[hm]at y1 dl x2
   clear hm
   go_wp2_with fail
   have ew:=af0 (seed:=dS s0 N (Ds.take k)) (Y:=N) (k:=k) (D:=d) (by omega) (by omega) DL.out
   refine(Af (dS s0 N (Ds.take k)) ai d m ci wr rfl BY.out HM.out AN.out (by omega) (by omega) ew).mono ?_
   rintro e w2 ⟨f,rfl,ho,hb⟩
   obtain⟨af,cf,rfl,Gv,WC,hf3,hf4,hf5⟩:=ho.slice
   have B2:=aH (aM HB.out hb)
   have HU2:=aH (HU.out.dV hb)
   have HV2:=aH (HV.out.below hb)
   have F1:=aH Gv
   have F2:=aH WC
   have fl:(ij (dS s0 N (Ds.take k)) (BitVec.ofNat 64 (N+k)) d).length=16+m:=by rw[iK,HM.out]
   have TK:Ds.take (k+1)=Ds.take k++[d]:=by rw[ip,HX.out];rfl
   have tl:(Ds.take k).length=k:=by rw[dg,HN.out];omega
   have es:iI (dS s0 N (Ds.take k)) (BitVec.ofNat 64 (N+k)) d=dS s0 N (Ds.take (k+1)):=by rw[TK,vK,tl]
   have ef:bY s0 N (Ds.take k)++ij (dS s0 N (Ds.take k)) (BitVec.ofNat 64 (N+k)) d=bY s0 N (Ds.take (k+1)):=by rw[TK,pR,tl]
   have EF:=aH ef
   have FL:=aH fl
   have LN:=aH (show(bY s0 N (Ds.take k)).length<=5000000 from JL s0 N (Ds.take k) (λx hx=>HD.out x (Az hx)) (by rw[tl];omega))
   rw[es]
   rw[fl]at hf3 ⊢
   clear es ef fl TK tl ew ho hb Gv WC hf4 hf5 HU HV HB C2 y1
   go_wp2_with (at_builtin;first | refine cI (o:=⟨ag 42,_,_,_,_,_⟩) rfl rfl w.heap.size u4 (bY s0 N (Ds.take k)) rfl HU2.out af (16+m) cf (ij (dS s0 N (Ds.take k)) (BitVec.ofNat 64 (N+k)) d) rfl FL.out.symm F1.out F2.out (by rw[FL.out];have:=LN.out;omega) B2.out.size ?_)
   intro u' w3 hu' sf WA
   have HU3:=aH (show cU w3 w.heap.size u' (bY s0 N (Ds.take (k+1)))from by rw[<-EF.out];exact hu')
   have ne:∀q,u5.ownBlock=ag q->ag q≠u4.ownBlock:=λq hq e=>by
    obtain⟨-,c1,r1⟩:=dq HV2.out hq
    obtain⟨-,c2,r2⟩:=dq HU2.out e.symm
    exact gg r1 r2 (by decide) rfl
   have HV3:=aH (HV2.out.same λq hq=>sf.block q (HV2.out.lt q hq) (ne q hq))
   have B3:=aH (B2.out.grown sf B2.out.size (λq hq=>(dq HU2.out hq).1))
   obtain⟨sx,CL⟩:=bP (bv (dS s0 N (Ds.take (k+1))))
   rw[CL]
   have SX:=aH CL
   clear hu' sf WA HU2 HV2 B2 F1 F2 CL ne
   have CN:=iT w3 (xF sx) 211
   have A3:=aY w3 (aG (xF sx).toArray 211)
   have HV4:=aH (HV3.out.below A3)
   have HU4:=aH (HU3.out.dV A3)
   have B4:=aH (aM B3.out A3)
   have S3:=aH B3.out.size
   have SL:=aH (show(nM s0 N Ds k).length<=1000000 by unfold nM;rw[bZ,gC];omega)
   unfold xF at CN HV4 HU4 B4
   clear A3
   go_wp2_with (at_builtin;refine cY (o:=⟨ag 46,_,_,_,_,_⟩) rfl _ _ 436 211 rfl Tryz.underlying436 Tryz.Tq rfl (by decide) (by decide) xF xE Ro _ (nM s0 N Ds k) rfl HV4.out ⟨w3.heap.size,0,ae⟩ sx rfl CN SL.out ?_)
   intro v5 w5 h5 kL oA
   have H5:=aH (show fC xF 211 1 w5 v5 (nM s0 N Ds (k+1))from by rw[IR,SX.out];exact h5)
   have ne5:∀q,u'.ownBlock=ag q->ag q≠u5.ownBlock:=λq hq e=>by
    obtain⟨-,c1,r1⟩:=dq HU4.out hq
    obtain⟨-,c2,r2⟩:=dq HV4.out e.symm
    exact gg r1 r2 (by decide) rfl
   have U5:=aH (show cU w5 w.heap.size u' (bY s0 N (Ds.take (k+1)))from dC HU4.out λq hq=>kL.block q (kt (HU4.out.base Rc) q hq) (ne5 q hq))
   have B5:=aH (B4.out.grown kL B4.out.size HQ.out)
   have Q5:=aH (show ∀q,v5.ownBlock=ag q->w.heap.size<=q from λq hq=>by
    rcases oA q hq with h | h
    ·exact HQ.out q h
    ·have:=S3.out;omega)
   clear h5 kL oA CN HV4 HU4 B4 HU3 HV3 B3 ne5 HQ
   go_wp2_with fail
   go_roundw
   case rel=>exact⟨k+1,by omega,by go_num,by rw[SX.out],U5,H5,Q5,B5⟩
   case measure=>simp[intOf];omega
  ·obtain rfl:k=n:=by omega
   have kz:(k:Int)<=(k:Int):=by omega
   have e:Ds.take k=Ds:=fE (by rw[HN.out];omega)
   rw[e]at HU
   clear e C
   go_wp2_with fail
   go_ret3
   exact⟨_,_,rfl,HU.out,HV.out,HQ.out,HB.out⟩
theorem Oe(j:Nat)(a:ByteArray)(d c:Nat)(l:BitVec 32){s:Int}(w:am)(g:Tg)(B:1<=c)(C:c<=2000000000000000000)(F:s=bv l):
 aw ax 119 #[aA (ag ⟨j,0,ae⟩),.string a,.agg #[ay az d,ay az c,ay .u32 0],ay .u32 s] w λe w'=>∃o g',e=aF (aA (ag ⟨o,0,ae⟩))/\w.heap.size<=o/\Ch [] g w g' w'/\lX w' g' o j a d c l [] ah:=by
 subst F
 have D:=@run_makeMap ax
 obtain⟨i,L,t,u⟩:=bG w #[ay az d,ay az c,ay .u32 0] 213
 go_in
 go_wp2_with fail
 refine(Jv 1024 i (by decide) (by decide)).mono ?_
 rintro e f ⟨rfl,n,m⟩
 have p:=aH (aM t.out m)
 have r:=aH (show i.heap.size<f.heap.size/\f.heap[i.heap.size]?=_ from⟨aT n.row,n.row⟩)
 have M:=eH ((m.block _ (aT u.out)).trans u.out)
 have z:=aH t.out.size
 clear n m
 go_wp2_with fail
 go_ret
 have b3:=aY f (.map #[] 0)
 obtain⟨h,k⟩:=bP (f.alloc (.map #[] 0))
 have H:h.heap.size=f.heap.size+1:=by rw[<-k];simp
 have x:fL h 2 f.heap.size 0 gj:=by rw[<-k];exact fL.made f _
 rw[k]at b3
 rw[k]
 have b4:=aY h (aG (uI j a d c 0 c 32 (bv l) ah i.heap.size f.heap.size) 226)
 have G:=bp h (aG (uI j a d c 0 c 32 (bv l) ah i.heap.size f.heap.size) 226)
 have y:=aM (aM p.out b3) b4
 have K:=p.out.size
 have J:=z.out
 have I:=r.out.1
 refine⟨h.heap.size,tg (tg (tg (eJ g w.heap.size 0) i.heap.size 18) f.heap.size 20) h.heap.size 17,by simp[H],by omega,(((Ch.start g y).tg J).tg K).tg (b:=h.heap.size) (show w.heap.size<=h.heap.size by omega),⟨⟨i.heap.size,f.heap.size,⟨?_,dG _ _ _⟩,⟨⟨Aa 1024,ae,0,0,⟨?_,iQ.nil _ _,cF _⟩,Ym (by decide) (by decide),.inl ⟨rfl,rfl,rfl⟩,λq E=>by cases E⟩,?_⟩,⟨?_,?_⟩⟩,⟨B,by simpa using C⟩⟩⟩
 ·have A:(c:Int)+(([]:List (List (BitVec 8))).length:Int)=c:=by simp
  rw[A]
  exact G
 ·exact(b4.block _ (by omega)).trans ((b3.block _ I).trans r.out.2)
 ·rw[dA (by omega),dA (by omega)];exact dG _ _ _
 ·exact x.move (b4.block _ x.lt)
 ·rw[dA (by omega)];exact dG _ _ _
def C'(a b:Nat):List (BitVec 8):=Gy (BitVec.ofInt 64 a) (BitVec.ofInt 64 b) 0#32
def t7(a b:Nat):BitVec 32:=Crc.sum (nR (BitVec.ofInt 64 a) (BitVec.ofInt 64 b) 0#32)
theorem pP(a b:Nat):(C' a b).length=32:=by
 unfold C' Gy
 simp[nR,oy,dN]
theorem I7(l:Nat)(i:Int)(a:ByteArray)(c j:Nat)(w:am)(g:Tg)(D:nE w g l i [] 0 0 gj)(hm:100000<=i/\i<=16777216)(C:kK a=aj)(h0:1<=c/\c<=1000)(h1:1<=j)(h2:j<=2000000000000000000):
 aw ax 93 #[aA (ag ⟨l,0,ae⟩),.string a,.agg #[ay az c,ay az j,ay .u32 0]] w λe w'=>∃r k g',e=aF (.tuple #[aA (ag ⟨r,0,ae⟩),ay az 0])/\Ch [1,5,10,11,12,13] g w g' w'/\lX w' g' r l a c j (t7 c j) [] ah/\
  nE w' g' l i [.created a (ag ⟨k,0,ae⟩)] 1 0 (fU gj (fS a) (aA (ag ⟨k,0,ae⟩)))/\uw w' g' 11 k (C' c j):=by
 have n:wH ⟨c,j,0#32⟩=(C' c j,t7 c j,0):=by unfold wH;unfold C' t7;exact bf (by dsimp only;omega)
 have DD:=aH D
 obtain⟨w1,gv,O,y⟩:=bG w #[ay az c,ay az j,ay .u32 0] 213
 have j9:=eH y.out
 clear D
 go_in
 go_wp2_with fail
 refine(IH ⟨c,j,0#32⟩ ⟨by dsimp only;omega,by dsimp only;omega⟩ w1 n).mono ?_
 rintro e F ⟨v,rfl,V,A⟩
 obtain⟨p,cb,rfl,W,X,Y,k4,E⟩:=V.slice
 have B2:=aH (aM O.out A)
 have G:=aH (Ch.start g B2.out)
 have D2:=aH (DD.out.ch G.out (by decide))
 have B:=pP c j
 have I:=aH B
 rw[B]at Y ⊢
 have K1:=aH W
 have K2:=aH X
 have o:=aH (show ∀b d,p=ag ⟨b,d,ae⟩->eJ g w.heap.size 0 b=0/\b<F.heap.size from λb d e=>⟨dQ (bJ O.out.size (E b d e).1),(E b d e).2⟩)
 have X2:=aH (show Row F (eJ g w.heap.size 0) 0 w.heap.size _ _ from⟨(A.block _ (aT y.out)).trans y.out,dQ dx⟩)
 clear W X E A V B n j9
 go_wp2_with fail
 refine(yV l 0 0 11 i [] gj a F _ D2.out (by decide) (by decide) C rfl).mono ?_
 rintro e w3 ⟨rfl,k,S,aa,m,P,L⟩
 have C3:=aH m
 have t:=aH P
 have D3:=aH L
 have X3:=aH (X2.out.ch m (by decide))
 have K3:=aH (show cD w3 p (C' c j)from K1.out.same λq d e _=>m.gP q (o.out q d e).2 (by rw[(o.out q d e).1];decide))
 have T3:=aH (show ∀b d,p=ag ⟨b,d,ae⟩->S b=0 from λb d e=>(m.tag b (o.out b d e).2).trans (o.out b d e).1)
 clear m P L
 go_wp2_with fail
 have U:fU gj (fS a) (aA (ag ⟨k,0,ae⟩)) (fS a)=ag (aA (ag ⟨k,0,ae⟩)):=by unfold fU;rw[bj rfl]
 have H:=rD t.out t.out (K:=1000) (by decide) (by decide) (f:=fU gj (fS a) (aA (ag ⟨k,0,ae⟩))) (λkl v h=>by
  unfold fU at h
  split at h
  ·exact .inl (by injection h with h;exact h.symm)
  ·cases h)
 refine(te l 1 0 11 k 1000 i _ _ a [] (C' c j) p 32 cb w3 S D3.out t.out C U (by decide) (by decide) H (by decide) (by decide) (by omega) I.out K3.out (λb d e _=>by rw[T3.out b d e];decide) K2.out Y (by omega)).mono ?_
 rintro e w4 ⟨rfl,g4,u,M,z⟩
 have C4:=aH u
 rw[fY]at z
 have F4:=aH z
 have D4:=aH M
 have X4:=aH (X3.out.ch u (by decide))
 clear u z M H
 go_wp2_with fail
 refine(yU l 1 0 11 k i _ _ a (C' c j) w4 g4 D4.out F4.out C U (by rw[I.out];decide) (by decide)).mono ?_
 rintro e w5 ⟨rfl,T,x,N,Q⟩
 have C5:=aH x
 have F5:=aH Q
 have D5:=aH N
 have X5:=aH (X4.out.ch x (by decide))
 have x5:=eH X5.out.row
 clear x Q N
 go_wp2_with fail
 refine(Oe l a c j (t7 c j) w5 T h1 h2 rfl).mono ?_
 rintro e w6 ⟨r,g6,rfl,js,J,Z⟩
 have s:=aH J
 have S6:=aH Z
 clear J Z x5
 go_wp2_with fail
 go_ret2
 have ca:Ch [1,5,10,11,12,13] g w T w5:=((G.out.any.trans (C3.out.mono (by decide))).trans (C4.out.mono (by decide))).trans (C5.out.mono (by decide))
 exact⟨r,k,g6,rfl,ca.trans s.out.any,S6.out,D5.out.ch s.out (by decide),F5.out.ch s.out (by decide)⟩
theorem Fu(t B:Nat)(b:ByteArray)(c j:Nat)(J:BitVec 32)(o:List (List (BitVec 8)))(w:am)(g:Tg)(S:List Nat)(l:Nat)(a:List (List (BitVec 8)))(n A:Nat)(H:lX w g t B b c j J o ah)(X:vu w g S l a)(r:a.length=n)(O:1<=n)(E:n<=1000)(p:∀d∈a,d.length<=4096):
 aw ax 300 #[aA (ag ⟨t,0,ae⟩),aB (ag ⟨l,0,ae⟩) n A] w λe w'=>e=aF (ay az 0)/\w'=w:=by
 obtain⟨Z,U,R,I,M⟩:=H.ex
 obtain⟨f,s⟩:=bP ((j:Int)+(o.length:Int))
 have:=H.low
 have V:0<=f:=by omega
 have W:f<=2000000000000000000:=by omega
 rw[s]at R
 have C:=sc R
 have y:=aH r
 have u:=aH p
 have z:=aH X
 have Y:¬(n:Int)=0:=by omega
 have G:¬ n=0:=by omega
 clear H I M R s this r p X
 go_in
 go_wp2_with fail
 go_loopw [28] (λi wr=>∃k:Nat,k<=n/\i=ay az k/\wr=w) (λi _=>n-(intOf i).toNat)
 case atStart=>exact⟨0,cF _,rfl,rfl⟩
 case round=>
  obtain⟨k,E,rfl,rfl⟩:=hrel
  by_cases D:k<n
  ·have F:(k:Int)<(n:Int):=by omega
   have h:=aH (show k<a.length by rw[y.out];exact D)
   obtain⟨d,hx⟩:∃x,a[k]?=ag x:=⟨a[k]'h.out,aP h.out⟩
   obtain⟨L,N,K,-⟩:=z.out.ie k d hx
   have dl:=u.out d (cG hx)
   obtain⟨m,q⟩:=bP d.length
   rw[q]at K dl
   have P:¬(m:Int) > 4096:=by omega
   have Q:¬ 4096<m:=by omega
   clear q hx
   go_wp2_with fail
   go_roundw
   case rel=>exact⟨k+1,by omega,by go_num,trivial⟩
   case measure=>simp[intOf];omega
  ·obtain rfl:k=n:=by omega
   have F:(k:Int)<=(k:Int):=by omega
   have T:¬(k:Int) > 9223372036854775806-f+1:=by omega
   go_wp2_with fail
   go_ret
   exact⟨rfl,rfl⟩
structure DW(w:am)(g:Tg)(db:Nat)(most:Int)(n m:Nat)(f:Lit->Option ar)(fb cb:Nat)(file:ByteArray)(B CB:List (BitVec 8)):Prop where
 dk:nE w g db most [] n m f
 fl:uw w g 11 fb B
 cf:uw w g 14 cb CB
 nm:f (fS file)=ag (aA (ag ⟨fb,0,ae⟩))
 all:∀kl v,f kl=ag v->v=aA (ag ⟨fb,0,ae⟩)\/v=aA (ag ⟨cb,0,ae⟩)
 may:kK file=aj
 n9:n<=9
 mo:100000<=most/\most<=16777216
 b9:B.length<=1000/\CB.length<=1000
theorem DW.ch{T:List Nat}{w w':am}{g g':Tg}{j:Nat}{d:Int}{n m:Nat}{f:Lit->Option ar}{k i:Nat}{b:ByteArray}{B e:List (BitVec 8)}(h:DW w g j d n m f k i b B e)(c:Ch T g w g' w')(a:∀t,t∈[1,5,6,10,11,12,13,14,15,16]->t∉T):DW w' g' j d n m f k i b B e:=
 ⟨h.dk.ch c ⟨a 1 (by decide),a 5 (by decide),a 6 (by decide),a 10 (by decide)⟩,h.fl.ch c ⟨a 11 (by decide),a 12 (by decide),a 13 (by decide)⟩,h.cf.ch c ⟨a 14 (by decide),a 15 (by decide),a 16 (by decide)⟩,h.nm,h.all,h.may,h.n9,h.mo,h.b9⟩
end
end Go.Proofs.YtooinenkenobaaaGreat

/- A part of the proof of what LawWholeReaders says. -/
import Derived.Test.YtooinenkenobaaaGreatAa
import Derived.Test.YtooinenkenobaaaGreatBl
set_option maxRecDepth 100000
set_option maxHeartbeats 20000000
namespace Go.Proofs.YtooinenkenobaaaGreat
open Option renaming none->ae,some->ag
open Bool renaming false->ah,true->aj
open Go.Proofs.Tryz renaming prog->ax
open Go.Value renaming int->ay,pointer->aA,slice->aB,bool->aC,float->aD
open Go.IntKind renaming i64->az
open Go.FloatKind renaming f64->aE
open Go.Ending renaming returned->aF
open Go.Obj renaming cells->aG
open Go renaming World->am,Value->ar,TypeId->au,Calls->aw
section
open Go.RowKit Go.Maps
@[go_sem] theorem QF{P:Program}{w:am}{a:Addr}{m:Mode}(k:FloatKind)(b:Nat):(store a (.float k b) m).run P w=stored P w a (.float k b) m:=run_store P w a _ m rfl
def agx:Nat:=9221120237041090561
structure oI(b:Nat):Prop where
 nan:(Ieee.double.read b).isNaN=aj->b=agx
def lW(b:Nat):Nat:=if(Ieee.double.read b).isNaN then b else Ieee.double.write ((Ieee.double.read b).integral .up)
theorem UZ(b:Nat)(h:oI b)(w:am):(callFunc 292 #[aD aE b]).run ax w=.ok (.value (aD aE (lW b))) w:=by
 rw[run_callFunc_extern (e:=Extern.MathFloor.toIntegral "math.archCeil" .up) Tryz.func292 (by kernel_rfl) (by kernel_rfl) (by kernel_rfl) (by kernel_rfl)]
 have key:(Extern.MathFloor.toIntegral "math.archCeil" .up #[aD aE b]).run ax w=.ok (aD aE (lW b)) w:=by
  by_cases a:(Ieee.double.read b).isNaN=aj
  ·have e:=h.nan a
   subst e
   rfl
  ·show Sem.run _ (match FloatKind.f64.decode b with | .nan s t=>_ | d=>_) w=_
   unfold lW
   rw[bf a]
   have e:FloatKind.f64.decode b=Ieee.double.read b:=rfl
   rw[e]
   cases hr:Ieee.double.read b with
   | nan s t=>rw[hr]at a;exact absurd rfl a
   | infinity s=>rfl
   | number s m i=>rfl
 rw[key]
 rfl
theorem Hl(b:Nat)(w:am):(callFunc 79 #[aD aE b]).run ax w=.ok (.value (ay .u64 b)) w:=by
 rw[run_callFunc_extern (e:=Extern.MathFloatBits.float64bits) Tryz.func79 (by kernel_rfl) (by kernel_rfl) (by kernel_rfl) (by kernel_rfl)]
 rfl
theorem pQ(n:Int)(w:am):(callFunc 78 #[ay .u64 n]).run ax w=.ok (.value (aD aE n.toNat)) w:=by
 rw[run_callFunc_extern (e:=Extern.MathFloatBits.float64frombits) Tryz.func78 (by kernel_rfl) (by kernel_rfl) (by kernel_rfl) (by kernel_rfl)]
 rfl
def nA:Nat:=4607182418800017408
def Dc(a b:Nat):Bool:=Ieee.double.order a b==ag .gt || Ieee.double.order a b==ag .eq
def EZ(b:Nat)(a:Int):Int:=
 if Dc (lW b) (floatOfInt .f64 a)then a else if Dc (lW b) nA then(((Ieee.double.read (lW b)).toInt .zero).getD 0)else 1
theorem qY{c:Nat}(h:c/9223372036854775808%2=0):Ieee.double.read c=Ieee.double.read (c%9223372036854775808):=by
 unfold Ieee.Format.read
 rw[jV,h,Nat.mod_mod,zF (nj c (by decide))]
theorem ac5{c x:Nat}(hx:0<x)(b:x<fI)(h:Dc c x=aj):c/9223372036854775808%2=0/\c%9223372036854775808<=fI:=by
 unfold Dc Ieee.Format.order at h
 obtain⟨m,i,g,l,j⟩:=jg b
 rw[g]at h
 have p:m≠0:=λe=>by
  rw[e,io]at j
  have:=rE hx
  rw[YJ]at this
  omega
 have f:c/9223372036854775808%2=0\/c/9223372036854775808%2=1:=by omega
 rcases f with e | e
 ·refine⟨e,?_⟩
  rw[qY e]at h
  unfold Ieee.Format.read at h
  rw[jV,mX,mW,kw,Nat.mod_mod]at h
  have o:fB<=fI:=by decide
  refine ZD λk=>?_
  rw[bf (by omega),bf (by omega),bf (by omega)]at h
  simp[Ieee.Datum.order]at h
 ·exfalso
  unfold Ieee.Format.read at h
  rw[jV,e]at h
  dsimp only at h
  have key:∀(d:Nat) (a:Int),(Ieee.Datum.order (.number aj d a) (.number ah m i)==ag .gt || Ieee.Datum.order (.number aj d a) (.number ah m i)==ag .eq)=ah:=λd a=>by
   simp only[Ieee.Datum.order,Ieee.signed,mO,kP,tC,if_false]
   have n:0<m*2^(i-min a i).toNat:=Nat.mul_pos (by omega) (iz _)
   rw[Int.compare_eq_lt.2 (by omega)]
   rfl
  split at h
  ·rw[show((1:Nat)==1)=aj from rfl,key]at h;cases h
  ·split at h
   ·rw[show((1:Nat)==1)=aj from rfl,key]at h;cases h
   ·split at h
    ·simp[Ieee.Datum.order]at h
    ·simp[Ieee.Datum.order]at h
theorem Db{a b:Nat}(ha:a<fI)(c:b<fI):Dc a b=decide (b<=a):=by
 unfold Dc
 rw[oY ha c]
 rcases kR a b with h | h | h
 ·rw[oO.2 h,bC (by omega)];rfl
 ·rw[oP.2 h,bM (by omega)];rfl
 ·rw[kS.2 h,bM (by omega)];rfl
theorem Yw{c x:Nat}(h:c/9223372036854775808%2=0):Dc c x=Dc (c%9223372036854775808) x:=by
 unfold Dc Ieee.Format.order
 rw[qY h]
theorem Yx{x:Nat}(hx:x<fI):Dc fI x=aj:=by
 obtain⟨m,i,a,b,c⟩:=jg hx
 unfold Dc Ieee.Format.order
 rw[a,show Ieee.double.read fI=.infinity ah from by decide]
 rfl
theorem AD(k:Nat):(2:Nat)^(8+k)=256*2^k:=by rw[fe]
theorem A6{a:Int}(h:1<=a/\a<=256):floatOfInt .f64 a<=fP 8:=by
 obtain⟨n,rfl⟩:=ZE (show 0<=a by omega)
 unfold floatOfInt FloatKind.nearest FloatKind.encode
 rw[bC (by omega)]
 show Ieee.double.nearest ah n 0<=_
 refine Cq (by omega) (by decide) ?_
 have e:((0:Int)+1074).toNat=1074:=rfl
 have b:=(Uy 8).trans (AD 1074)
 have c:n<=256:=by omega
 revert b
 rw[e]
 generalize(1074:Nat)=k
 exact λb=>bJ (dp _ c) (jy b.symm)
theorem Fc{r:Nat}(h:r<fP 8):∃z:Nat,(Ieee.double.read r).toInt .zero=ag (z:Int)/\z<=256:=by
 have n:r<fI:=Nat.lt_trans h (Uz (by decide))
 obtain⟨m,i,g,p,j⟩:=jg n
 have e:=rE h
 rw[Uy]at e
 rw[g]
 unfold Ieee.Datum.toInt Ieee.Datum.integral
 dsimp only
 obtain⟨z,f⟩:=bP (Ieee.Toward.zero.cut ah (m <<< i.toNat) (-i).toNat)
 rw[f]
 refine⟨z,by simp[Ieee.signed],?_⟩
 have a:z*2^(-i).toNat<=m*2^i.toNat:=by
  rw[<-f]
  unfold Ieee.Toward.cut
  dsimp only
  rw[mO,mO,kQ,Bool.toNat_false,fD]
  rcases Nat.le_total (-i).toNat ((m*2^i.toNat).log2+2)with b | b
  ·rw[ae7 b]
   exact Nat.div_mul_le_self _ _
  ·rw[Nat.min_eq_right b]
   have:m*2^i.toNat<2^((m*2^i.toNat).log2+2):=Nat.lt_trans Nat.lt_log2_self (Nat.pow_lt_pow_right (by decide) (by omega))
   rw[zF this,io]
   exact cF _
 have d:z*2^1074<=m*2^(i+1074).toNat:=by
  rcases Int.le_total 0 i with o | o
  ·rw[show(-i).toNat=0 by omega,Nat.pow_zero,dY]at a
   rw[show(i+1074).toNat=i.toNat+1074 by omega,fe,<-ig]
   exact dp _ a
  ·rw[show i.toNat=0 by omega,Nat.pow_zero,dY]at a
   rw[show(1074:Nat)=(-i).toNat+(i+1074).toNat by omega,fe,<-ig]
   exact dp _ a
 rw[j]at d
 have k:=AD 1074
 have l:0<2^1074:=iz 1074
 generalize(1074:Nat)=kk at d k l e
 refine ZD λc=>?_
 have q:257*2^kk<=z*2^kk:=dp _ c
 omega
theorem PU{c:Nat}{a:Int}(n:1<=a/\a<=256)(k:Dc c nA=aj)(b:Dc c (floatOfInt .f64 a)=ah)(w:am):
 (convert 24 3 (aD aE c)).run ax w=.ok (ay az (((Ieee.double.read c).toInt .zero).getD 0)) w:=by
 have q:=A6 n
 have o:=Uz (show 8<=1023 by decide)
 obtain⟨e,p⟩:=ac5 (by decide) (by decide) k
 rw[Yw e]at b
 have j:c%9223372036854775808<fP 8:=by
  rcases cg (c%9223372036854775808) fI with f | f
  ·rw[Db f (by omega)]at b
   have:=of_decide_eq_false b
   omega
  ·have d:c%9223372036854775808=fI:=by omega
   rw[d,Yx (by omega)]at b
   cases b
 rw[qY e]
 obtain⟨z,g,r⟩:=Fc j
 rw[g]
 have m:(FloatKind.f64.decode c).toInt .zero=ag (z:Int):=by
  show(Ieee.double.read c).toInt .zero=_
  rw[qY e,g]
 have l:IntKind.i64.min<=(z:Int)/\(z:Int)<=IntKind.i64.max:=by
  have i:IntKind.i64.min=-9223372036854775808:=by decide
  have d:IntKind.i64.max=9223372036854775807:=by decide
  rw[i,d];omega
 simp[convert,run_underlying Tryz.underlying24,run_underlying Tryz.underlying3,Conv.floatToInt,m,l]
 intro h
 omega
def ou(b bytes:Int)(d a c:Nat):Array ar:=#[aC aj,ay az b,ay az bytes,aD aE d,aD aE a,aD aE c]
theorem pc{w:am}{g:Tg}{t pb:Nat}{b bytes:Int}{d a c:Nat}{e:au}(h:Row w g t pb (ou b bytes d a c) e):
 pb<w.heap.size/\w.cell? ⟨pb,0,ae⟩=ag (aC aj)/\w.cell? ⟨pb,1,ae⟩=ag (ay az b)/\w.cell? ⟨pb,2,ae⟩=ag (ay az bytes)/\w.cell? ⟨pb,3,ae⟩=ag (aD aE d)/\w.cell? ⟨pb,4,ae⟩=ag (aD aE a)/\w.cell? ⟨pb,5,ae⟩=ag (aD aE c):=
 ⟨h.lt,h.cell 0,h.cell 1,h.cell 2,h.cell 3,h.cell 4,h.cell 5⟩
theorem Co(pb:Nat)(b bytes:Int)(k f a:Nat)(w:am){g:Tg}{t:Nat}{p:au}(H:Row w g t pb (ou b bytes k f a) p)(m:oI a)(l:1<=b/\b<=256):
 aw ax 282 #[aA (ag ⟨pb,0,ae⟩)] w λe w'=>e=aF (ay az (EZ a b))/\w'=w:=by
 have C:=pc H
 have q:=UZ a m
 have i:=λd h=>PU (c:=lW a) l d h
 have j:=aH i
 unfold EZ
 clear i
 cases d:Dc (lW a) (floatOfInt .f64 b)with
 | true=>
  have n:(FloatKind.f64.format.order (lW a) (floatOfInt .f64 b)==ag .gt || FloatKind.f64.format.order (lW a) (floatOfInt .f64 b)==ag .eq)=aj:=d
  clear d H
  go_in
  go_wp2_with (first | (go_at_call 281;go_in) | (go_at_call 286;go_in) | fail)
  go_ret
  exact⟨rfl,rfl⟩
 | false=>
  have n:(FloatKind.f64.format.order (lW a) (floatOfInt .f64 b)==ag .gt || FloatKind.f64.format.order (lW a) (floatOfInt .f64 b)==ag .eq)=ah:=d
  cases h:Dc (lW a) nA with
  | true=>
   have o:(FloatKind.f64.format.order (lW a) 4607182418800017408==ag .gt || FloatKind.f64.format.order (lW a) 4607182418800017408==ag .eq)=aj:=h
   have r:=j.out h d
   clear d h H
   go_in
   go_wp2_with (first | (go_at_call 281;go_in) | (go_at_call 286;go_in) | fail)
   go_ret
   exact⟨rfl,rfl⟩
  | false=>
   have o:(FloatKind.f64.format.order (lW a) 4607182418800017408==ag .gt || FloatKind.f64.format.order (lW a) 4607182418800017408==ag .eq)=ah:=h
   clear d h H
   go_in
   go_wp2_with (first | (go_at_call 281;go_in) | (go_at_call 286;go_in) | fail)
   go_ret
   exact⟨rfl,rfl⟩
theorem tM{a b z:Nat}(h:Ieee.double.sub a b=ag z)(w:am):(binOp .sub 24 (aD aE a) (aD aE b)).run ax w=.ok (aD aE z) w:=by
 have c:FloatKind.f64.format.sub a b=ag z:=h
 simp[binOp,Op.floatArith,c]
def qA(a bytes:Int)(c b:Nat)(n d:Int)(e:Nat):Bool:=decide (a<=n) || decide (bytes<=d) || decide (c<=e) || (decide (0<n)&&decide (EZ b a<=n))
theorem lP(a b:Nat)(ha:a<fI)(c:b<fI):(FloatKind.f64.format.order a b==ag .gt)=decide (b<a):=by
 show(Ieee.double.order a b==ag .gt)=_
 rw[oY ha c]
 rcases kR a b with h | h | h
 ·rw[oO.2 h,bC (by omega)];rfl
 ·rw[oP.2 h,bC (by omega)];rfl
 ·rw[kS.2 h,bM (by omega)];rfl
theorem ab5(pb:Nat)(a bytes:Int)(c f b:Nat)(n j:Int)(i:Nat)(w:am){g:Tg}{t:Nat}{S:au}(H:Row w g t pb (ou a bytes c f b) S)(J:oI b)(I:1<=a/\a<=256)(C:c<fI)(ha:i<fI):
 aw ax 277 #[aA (ag ⟨pb,0,ae⟩),ay az n,ay az j,aD aE i] w λe w'=>∃z,e=aF (.agg #[aC (qA a bytes c b n j i),aD aE z])/\Below w.heap.size w w'/\(qA a bytes c b n j i=ah->1<=z/\z<=c):=by
 obtain⟨K,V,d,l⟩:=bG w #[aC ah,aD aE 0] 420
 have W:=gc l.out
 have T:=pc (H.below d.out)
 have F:=aH (H.below d.out)
 have X:=lP i 0 ha (by decide)
 have Y:(FloatKind.f64.format.order i c==ag .gt || FloatKind.f64.format.order i c==ag .eq)=decide (c<=i):=Db ha C
 have Z:(FloatKind.f64.format.order 0 c==ag .gt || FloatKind.f64.format.order 0 c==ag .eq)=decide (c<=0):=Db (by decide) C
 clear H
 by_cases Q:0<i
 ·have U:decide (0<i)=aj:=bM Q
  by_cases A:a<=n
  ·have G:qA a bytes c b n j i=aj:=by unfold qA;simp[A]
   rw[G]
   clear G
   go_in
   go_wp2_with (first | (go_at_call 281;go_in) | fail)
   refine bn (cH rfl _ _ w.heap.size 420 _ (0,0) _ rfl (bE (bE l.out 0 _) 1 _) Tryz.underlying420 rfl (by kernel_rfl)) rfl ?_
   first | exact⟨⟨0,rfl⟩,bK (bK d.out dx _) dx _⟩ | exact⟨0,rfl,bK (bK d.out dx _) dx _,λh=>by cases h⟩
  ·by_cases B:bytes<=j
   ·have G:qA a bytes c b n j i=aj:=by unfold qA;simp[B]
    rw[G]
    clear G
    go_in
    go_wp2_with (first | (go_at_call 281;go_in) | fail)
    refine bn (cH rfl _ _ w.heap.size 420 _ (0,0) _ rfl (bE (bE l.out 0 _) 1 _) Tryz.underlying420 rfl (by kernel_rfl)) rfl ?_
    first | exact⟨⟨0,rfl⟩,bK (bK d.out dx _) dx _⟩ | exact⟨0,rfl,bK (bK d.out dx _) dx _,λh=>by cases h⟩
   ·by_cases p:c<=i
    ·have L:decide (c<=i)=aj:=bM p
     have G:qA a bytes c b n j i=aj:=by unfold qA;simp[p]
     rw[G]
     clear G
     go_in
     go_wp2_with (first | (go_at_call 281;go_in) | fail)
     refine bn (cH rfl _ _ w.heap.size 420 _ (0,0) _ rfl (bE (bE l.out 0 _) 1 _) Tryz.underlying420 rfl (by kernel_rfl)) rfl ?_
     first | exact⟨⟨0,rfl⟩,bK (bK d.out dx _) dx _⟩ | exact⟨0,rfl,bK (bK d.out dx _) dx _,λh=>by cases h⟩
    ·have L:decide (c<=i)=ah:=bC p
     by_cases D:0<n
     ·by_cases E:EZ b a<=n
      ·have G:qA a bytes c b n j i=aj:=by unfold qA;simp[D,E]
       rw[G]
       clear G
       go_in
       go_wp2_with (first | (go_at_call 281;go_in) | fail)
       refine(Co pb a bytes c f b K F.out J I).mono ?_
       rintro e P ⟨rfl,rfl⟩
       go_wp2_with fail
       refine bn (cH rfl _ _ w.heap.size 420 _ (0,0) _ rfl (bE (bE l.out 0 _) 1 _) Tryz.underlying420 rfl (by kernel_rfl)) rfl ?_
       first | exact⟨⟨0,rfl⟩,bK (bK d.out dx _) dx _⟩ | exact⟨0,rfl,bK (bK d.out dx _) dx _,λh=>by cases h⟩
      ·have G:qA a bytes c b n j i=ah:=by unfold qA;simp[A,B,p,E]
       rw[G]
       clear G
       have o:i<c:=by omega
       obtain⟨z,q,r,s⟩:=rN C (dP o)
       have y:fV 1=1:=by decide
       have k:=rE o
       have u:1<=z:=r 1 (by decide) (by omega)
       have x:z<=c:=s c (Nat.sub_le _ _)
       have M:=tM q
       have N:=lP z 0 (by omega) (by decide)
       have O:decide (0<z)=aj:=bM (by omega)
       have m:=aH (And.intro u x)
       clear q r s u x y k
       go_in
       go_wp2_with (first | (go_at_call 281;go_in) | fail)
       refine(Co pb a bytes c f b K F.out J I).mono ?_
       rintro e P ⟨rfl,rfl⟩
       go_wp2_with fail
       refine bn (cH rfl _ _ w.heap.size 420 _ (0,0) _ rfl (bE (bE l.out 0 _) 1 _) Tryz.underlying420 rfl (by kernel_rfl)) rfl ?_
       first | exact⟨z,rfl,bK (bK d.out dx _) dx _,λ_=>m.out⟩ | exact⟨z,rfl,bK (bK d.out dx _) dx _,m.out⟩
     ·have G:qA a bytes c b n j i=ah:=by unfold qA;simp[A,B,p,D]
      rw[G]
      clear G
      have o:i<c:=by omega
      obtain⟨z,q,r,s⟩:=rN C (dP o)
      have y:fV 1=1:=by decide
      have k:=rE o
      have u:1<=z:=r 1 (by decide) (by omega)
      have x:z<=c:=s c (Nat.sub_le _ _)
      have M:=tM q
      have N:=lP z 0 (by omega) (by decide)
      have O:decide (0<z)=aj:=bM (by omega)
      have m:=aH (And.intro u x)
      clear q r s u x y k
      go_in
      go_wp2_with (first | (go_at_call 281;go_in) | fail)
      refine bn (cH rfl _ _ w.heap.size 420 _ (0,0) _ rfl (bE (bE l.out 0 _) 1 _) Tryz.underlying420 rfl (by kernel_rfl)) rfl ?_
      first | exact⟨z,rfl,bK (bK d.out dx _) dx _,λ_=>m.out⟩ | exact⟨z,rfl,bK (bK d.out dx _) dx _,m.out⟩
 ·obtain rfl:i=0:=by omega
  by_cases A:a<=n
  ·have G:qA a bytes c b n j 0=aj:=by unfold qA;simp[A]
   rw[G]
   clear G
   go_in
   go_wp2_with (first | (go_at_call 281;go_in) | fail)
   refine bn (cH rfl _ _ w.heap.size 420 _ (0,0) _ rfl (bE (bE l.out 0 _) 1 _) Tryz.underlying420 rfl (by kernel_rfl)) rfl ?_
   first | exact⟨⟨0,rfl⟩,bK (bK d.out dx _) dx _⟩ | exact⟨0,rfl,bK (bK d.out dx _) dx _,λh=>by cases h⟩
  ·by_cases B:bytes<=j
   ·have G:qA a bytes c b n j 0=aj:=by unfold qA;simp[B]
    rw[G]
    clear G
    go_in
    go_wp2_with (first | (go_at_call 281;go_in) | fail)
    refine bn (cH rfl _ _ w.heap.size 420 _ (0,0) _ rfl (bE (bE l.out 0 _) 1 _) Tryz.underlying420 rfl (by kernel_rfl)) rfl ?_
    first | exact⟨⟨0,rfl⟩,bK (bK d.out dx _) dx _⟩ | exact⟨0,rfl,bK (bK d.out dx _) dx _,λh=>by cases h⟩
   ·by_cases p:c<=0
    ·have L:decide (c<=0)=aj:=bM p
     have G:qA a bytes c b n j 0=aj:=by unfold qA;simp[p]
     rw[G]
     clear G
     go_in
     go_wp2_with (first | (go_at_call 281;go_in) | fail)
     refine bn (cH rfl _ _ w.heap.size 420 _ (0,0) _ rfl (bE (bE l.out 0 _) 1 _) Tryz.underlying420 rfl (by kernel_rfl)) rfl ?_
     first | exact⟨⟨0,rfl⟩,bK (bK d.out dx _) dx _⟩ | exact⟨0,rfl,bK (bK d.out dx _) dx _,λh=>by cases h⟩
    ·have L:decide (c<=0)=ah:=bC p
     by_cases D:0<n
     ·by_cases E:EZ b a<=n
      ·have G:qA a bytes c b n j 0=aj:=by unfold qA;simp[D,E]
       rw[G]
       clear G
       go_in
       go_wp2_with (first | (go_at_call 281;go_in) | fail)
       refine(Co pb a bytes c f b K F.out J I).mono ?_
       rintro e P ⟨rfl,rfl⟩
       go_wp2_with fail
       refine bn (cH rfl _ _ w.heap.size 420 _ (0,0) _ rfl (bE (bE l.out 0 _) 1 _) Tryz.underlying420 rfl (by kernel_rfl)) rfl ?_
       first | exact⟨⟨0,rfl⟩,bK (bK d.out dx _) dx _⟩ | exact⟨0,rfl,bK (bK d.out dx _) dx _,λh=>by cases h⟩
      ·have G:qA a bytes c b n j 0=ah:=by unfold qA;simp[A,B,p,E]
       rw[G]
       clear G
       have o:0<c:=by omega
       obtain⟨z,q,r,s⟩:=rN C (dP o)
       have y:fV 1=1:=by decide
       have k:=rE o
       have u:1<=z:=r 1 (by decide) (by omega)
       have x:z<=c:=s c (Nat.sub_le _ _)
       have M:=tM q
       have N:=lP z 0 (by omega) (by decide)
       have O:decide (0<z)=aj:=bM (by omega)
       have m:=aH (And.intro u x)
       clear q r s u x y k
       go_in
       go_wp2_with (first | (go_at_call 281;go_in) | fail)
       refine(Co pb a bytes c f b K F.out J I).mono ?_
       rintro e P ⟨rfl,rfl⟩
       go_wp2_with fail
       refine bn (cH rfl _ _ w.heap.size 420 _ (0,0) _ rfl (bE (bE l.out 0 _) 1 _) Tryz.underlying420 rfl (by kernel_rfl)) rfl ?_
       first | exact⟨z,rfl,bK (bK d.out dx _) dx _,λ_=>m.out⟩ | exact⟨z,rfl,bK (bK d.out dx _) dx _,m.out⟩
     ·have G:qA a bytes c b n j 0=ah:=by unfold qA;simp[A,B,p,D]
      rw[G]
      clear G
      have o:0<c:=by omega
      obtain⟨z,q,r,s⟩:=rN C (dP o)
      have y:fV 1=1:=by decide
      have k:=rE o
      have u:1<=z:=r 1 (by decide) (by omega)
      have x:z<=c:=s c (Nat.sub_le _ _)
      have M:=tM q
      have N:=lP z 0 (by omega) (by decide)
      have O:decide (0<z)=aj:=bM (by omega)
      have m:=aH (And.intro u x)
      clear q r s u x y k
      go_in
      go_wp2_with (first | (go_at_call 281;go_in) | fail)
      refine bn (cH rfl _ _ w.heap.size 420 _ (0,0) _ rfl (bE (bE l.out 0 _) 1 _) Tryz.underlying420 rfl (by kernel_rfl)) rfl ?_
      first | exact⟨z,rfl,bK (bK d.out dx _) dx _,λ_=>m.out⟩ | exact⟨z,rfl,bK (bK d.out dx _) dx _,m.out⟩
theorem sV(b:Nat):(FloatKind.f64.format.order b b !=ag .eq)=(Ieee.double.read b).isNaN:=by
 show(Ieee.double.order b b !=ag .eq)=_
 unfold Ieee.Format.order
 cases Ieee.double.read b with
 | nan s t=>rfl
 | infinity s=>cases s <;> rfl
 | number s m i=>
  simp only[Ieee.Datum.order]
  rw[Int.compare_eq_eq.2 rfl]
  rfl
theorem Dd(op:BinOp)(h:op=.add\/op=.sub\/op=.mul)(a b:Nat)(w:am):∃r j,(binOp op 24 (aD aE a) (aD aE b)).run ax w=.ok (aD aE r) (w.drewN j):=by
 have key:∀(x:Option Nat),∃r j,Sem.run ax ((match x with | some r=>pure (Value.float .f64 r) | none=>do pure (Value.float .f64 (<-choose (.nanBits .f64 a b)))):Sem ar) w=.ok (aD aE r) (w.drewN j):=λx=>by
  cases x with
  | some r=>exact⟨r,0,rfl⟩
  | none=>exact⟨_,1,by
   rw[gG,run_choose_drew,bf (λh=>by cases h)]
   rfl⟩
 rcases h with rfl | rfl | rfl
 ·exact key (FloatKind.f64.format.add a b)
 ·exact key (FloatKind.f64.format.sub a b)
 ·exact key (FloatKind.f64.format.mul a b)
theorem XI(b:Nat){w:am}:aw ax 307 #[aD aE b] w λe w'=>∃c,e=aF (aD aE c)/\w'=w/\oI c:=by
 have a:=pQ 9221120237041090561 w
 have q:=sV b
 cases h:(Ieee.double.read b).isNaN with
 | true=>
  rw[h]at q
  go_in
  go_wp2_with (first | (go_at_call 310;go_in) | fail)
  go_ret
  exact⟨agx,rfl,rfl,⟨λ_=>rfl⟩⟩
 | false=>
  rw[h]at q
  go_in
  go_wp2_with (first | (go_at_call 310;go_in) | fail)
  go_ret
  exact⟨b,rfl,rfl,⟨λe=>by rw[h]at e;cases e⟩⟩
theorem Up(v x a:Nat){w:am}(hx:(Ieee.double.read x).isNaN=ah)(ha:(FloatKind.f64.format.order a 0==ag .gt)=aj)(f:(FloatKind.f64.format.order a 4607182418800017408==ag .lt || FloatKind.f64.format.order a 4607182418800017408==ag .eq)=aj):
 aw ax 303 #[aD aE v,aD aE x,aD aE a] w λe w'=>∃c,e=aF (.tuple #[aD aE c,ay az 0])/\Below w.heap.size w w'/\oI c:=by
 have j:=sV x
 rw[hx]at j
 have d:=sV v
 cases h:(Ieee.double.read v).isNaN with
 | true=>
  rw[h]at d
  go_in
  go_wp2_with fail
  go_ret2
  exact⟨x,rfl,cX _ _,⟨λe=>by rw[hx]at e;cases e⟩⟩
 | false=>
  rw[h]at d
  obtain⟨k,b,n⟩:=Dd .sub (.inr (.inl rfl)) x v w
  obtain⟨l,i,o⟩:=Dd .mul (.inr (.inr rfl)) a k (w.drewN b)
  obtain⟨m,q,p⟩:=Dd .add (.inl rfl) v l (w.drewN (b+i))
  go_in
  go_wp2_with fail
  refine(XI m).mono ?_
  rintro e r ⟨c,rfl,rfl,g⟩
  go_wp2_with fail
  go_ret2
  exact⟨c,rfl,below_drewN _ _,g⟩
theorem Yi{n:Int}(h:1<=n/\n<=256):(Ieee.double.read (floatOfInt .f64 n)).isNaN=ah:=by
 have b:=A6 h
 obtain⟨m,i,a,-⟩:=jg (tw b (Uz (show 8<=1023 by decide)))
 rw[a]
 rfl
theorem Jh(pb:Nat)(i bytes:Int)(q b f:Nat)(n:Int)(w:am){g:Tg}(H:Row w g 40 pb (ou i bytes q b f) 185)(s:oI f)(F:1<=i/\i<=256)(ha:(FloatKind.f64.format.order b 0==ag .gt)=aj)(m:(FloatKind.f64.format.order b 4607182418800017408==ag .lt || FloatKind.f64.format.order b 4607182418800017408==ag .eq)=aj):
 aw ax 298 #[aA (ag ⟨pb,0,ae⟩),ay az n] w λe w'=>e=aF (.tuple #[])/\∃o,oI o/\Ch [40] g w g w'/\Row w' g 40 pb (ou i bytes q b o) 185:=by
 have C:=pc H
 have k:=aH H
 clear H
 by_cases D:1<=n
 ·by_cases E:n<=i
  ·have x:=aH (Yi (show 1<=n/\n<=256 by omega))
   go_in
   go_wp2_with (first | (go_at_call 281;go_in) | fail)
   have z:∀p:In (λw'=>w'.cell? ⟨pb,5,ae⟩=ag (aD aE f)/\w'.cell? ⟨pb,4,ae⟩=ag (aD aE b)),p.w.cell? ⟨pb,5,ae⟩=ag (aD aE f)/\p.w.cell? ⟨pb,4,ae⟩=ag (aD aE b):=λp=>p.h
   refine bX [0,1,2,3,4,5,6,7,8,9,10,11,12,13,14,15,16] (λw'=>w'.cell? ⟨pb,5,ae⟩=ag (aD aE f)/\w'.cell? ⟨pb,4,ae⟩=ag (aD aE b)) (by kernel_rfl) (by kernel_rfl) (by intro c a d v w h;cases d <;> exact h) ⟨k.out.cell 5,k.out.cell 4⟩ ?_
   intro y
   simp only[pick,aV,a8,aQ,aR]
   refine aX 11 (by kernel_rfl) ?_
   simp only[aJ,aO,aI,aL]
   repeat (go_big_quiet_step (fail))
   refine aU ?_
   refine aS rfl ?_ rfl
   go_wp2_with fail
   refine(Up f (floatOfInt .f64 n) b x.out ha m).mono ?_
   rintro e G ⟨c,rfl,l,r⟩
   have j:=aH ((show Row w.drew g 40 pb _ _ from⟨k.out.row,k.out.tag⟩).below l)
   have t:=aH (aM (bi w) l)
   have B:=j.out.free 5
   have A:=pc j.out
   have u:=aH r
   clear l r C
   go_wp2_with fail
   refine⟨⟨⟨_,⟨j.out.cell 5,j.out.cell 4⟩⟩,rfl⟩,?_⟩
   refine aX 5 (by kernel_rfl) ?_
   simp only[aJ,aO,aI,aL]
   repeat (go_big_quiet_step (fail))
   refine aU ?_
   refine bF ?_
   clear y z
   go_wp2_with fail
   go_end0
   exact⟨rfl,c,u.out,(Ch.bh [40] g t.out).set _ (.inl (by rw[j.out.tag];decide)),j.out.set 5 _⟩
  ·go_in
   go_wp2_with (first | (go_at_call 281;go_in) | fail)
   refine bn (gF rfl _ _ _) rfl ?_
   exact⟨rfl,f,s,Ch.refl _ _ _,k.out⟩
 ·go_in
  go_wp2_with (first | (go_at_call 281;go_in) | fail)
  refine bn (gF rfl _ _ _) rfl ?_
  exact⟨rfl,f,s,Ch.refl _ _ _,k.out⟩
def leW(a b:Nat):Bool:=Ieee.double.order a b==ag .lt || Ieee.double.order a b==ag .eq
def gtW(a b:Nat):Bool:=Ieee.double.order a b==ag .gt
def sW:Nat:=4697254411347427328
def oq(b bytes:Int)(c a:Nat):Bool:=decide (1<=b/\b<=256)&&decide (1<=bytes/\bytes<=1048576)&&(Dc c 0&&leW c sW)&&(gtW a 0&&leW a nA)
theorem OJ{l:Nat}(a:Dc l 0=aj)(b:leW l sW=aj):l%9223372036854775808<=sW:=by
 have n:l/9223372036854775808%2=0\/l/9223372036854775808%2=1:=by omega
 have j:sW<fI:=by decide
 rcases n with e | e
 ·unfold leW Ieee.Format.order at b
  rw[qY e]at b
  rcases cg (l%9223372036854775808) fI with k | k
  ·have g:leW (l%9223372036854775808) sW=aj:=b
   unfold leW at g
   rw[oY k j]at g
   rcases kR (l%9223372036854775808) sW with c | c | c
   ·omega
   ·omega
   ·rw[kS.2 c]at g;cases g
  ·exfalso
   obtain⟨m,i,o,-⟩:=jg j
   rw[o]at b
   unfold Ieee.Format.read at b
   rw[jV,mX,mW,kw,Nat.mod_mod,zF (nj l (by decide))]at b
   have q:fB<=fI:=by decide
   dsimp only at b
   rw[bf (by omega),bf (by omega)]at b
   split at b <;> simp[Ieee.Datum.order]at b
 ·unfold Dc Ieee.Format.order at a
  rw[show Ieee.double.read 0=.number ah 0 (-1074)from by decide]at a
  unfold Ieee.Format.read at a
  rw[jV,e,mX,mW,kw]at a
  dsimp only at a
  rw[show((1:Nat)==1)=aj from rfl]at a
  have key:∀(d:Nat) (f:Int),(Ieee.Datum.order (.number aj d f) (.number ah 0 (-1074))==ag .gt || Ieee.Datum.order (.number aj d f) (.number ah 0 (-1074))==ag .eq)=aj->d=0:=λd f h=>by
   simp only[Ieee.Datum.order,Ieee.signed,mO,kP,tC,if_false,io]at h
   rcases gV d with c | c
   ·exact c
   ·have p:0<d*2^(f-min f (-1074)).toNat:=Nat.mul_pos c (iz _)
    rw[Int.compare_eq_lt.2 (by omega)]at h
    cases h
  split at a
  ·rw[key _ _ a];exact cF _
  ·split at a
   ·have:=key _ _ a
    have:fB=4503599627370496:=rfl
    omega
   ·split at a <;> simp[Ieee.Datum.order]at a
theorem rH(l:Nat)(h:l<18446744073709551616):(bits BinOp.andNot IntKind.u64 (l:Int) 9223372036854775808)=((l%9223372036854775808:Nat):Int):=by
 have e:=u64_andNot_nat l 9223372036854775808 h (by decide)
 rw[show(18446744073709551615-9223372036854775808:Nat)=2^63-1 by decide,Nat.and_two_pow_sub_one_eq_mod]at e
 exact e
theorem FS(c bytes:Int)(b a:Nat)(w:am)(h:oq c bytes b a=aj)(m:b<18446744073709551616):
 aw ax 41 #[.agg #[ay az c,ay az bytes,aD aE b,aD aE a]] w λe w'=>e=aF (.tuple #[aA (ag ⟨w.heap.size+1,0,ae⟩),ay az 0])/\Below w.heap.size w w'/\w'.heap[w.heap.size+1]?=ag (aG (ou c bytes (b%9223372036854775808) a nA) 185 (0,0)):=by
 unfold oq at h
 simp only[co,dH]at h
 obtain⟨⟨⟨o,p⟩,g,i⟩,j,k⟩:=h
 have q:(FloatKind.f64.format.order b 0==ag .gt || FloatKind.f64.format.order b 0==ag .eq)=aj:=g
 have r:(FloatKind.f64.format.order b 4697254411347427328==ag .lt || FloatKind.f64.format.order b 4697254411347427328==ag .eq)=aj:=i
 have s:(FloatKind.f64.format.order a 0==ag .gt)=aj:=j
 have t:(FloatKind.f64.format.order a 4607182418800017408==ag .lt || FloatKind.f64.format.order a 4607182418800017408==ag .eq)=aj:=k
 have n:=Hl b
 have b3:=rH b m
 obtain⟨d,f⟩:=bP (b%9223372036854775808)
 rw[f]at b3 ⊢
 have l:=pQ (d:Int)
 rw[show(d:Int).toNat=d from rfl]at l
 clear f
 clear g i j k
 go_in
 go_wp2_with (first | (go_at_call 54;go_in) | fail)
 go_ret2
 exact⟨rfl,aM (aY w _) (aY _ _),heap_alloc2_new w _ _⟩
theorem Sy(b bytes:Int)(c a:Nat)(w:am)(h:oq b bytes c a=ah):
 aw ax 41 #[.agg #[ay az b,ay az bytes,aD aE c,aD aE a]] w λe w'=>e=aF (.tuple #[aA ae,ay az 1])/\Below w.heap.size w w':=by
 have i:=aY w (aG #[ay az b,ay az bytes,aD aE c,aD aE a] 26)
 by_cases q:1<=b/\b<=256
 ·by_cases r:1<=bytes/\bytes<=1048576
  ·obtain⟨l,d⟩:=bP (Dc c 0)
   obtain⟨m,f⟩:=bP (leW c sW)
   obtain⟨n,g⟩:=bP (gtW a 0)
   obtain⟨o,j⟩:=bP (leW a nA)
   unfold oq at h
   rw[bM q,bM r,d,f,g,j]at h
   have t:(FloatKind.f64.format.order c 0==ag .gt || FloatKind.f64.format.order c 0==ag .eq)=l:=d
   have s:(FloatKind.f64.format.order c 4697254411347427328==ag .lt || FloatKind.f64.format.order c 4697254411347427328==ag .eq)=m:=f
   have p:(FloatKind.f64.format.order a 0==ag .gt)=n:=g
   have k:(FloatKind.f64.format.order a 4607182418800017408==ag .lt || FloatKind.f64.format.order a 4607182418800017408==ag .eq)=o:=j
   clear d f g j
   cases l with
   | false=>
    clear s p k h
    go_in
    go_wp2_with fail
    go_ret2
    exact⟨rfl,i⟩
   | true=>
    cases m with
    | false=>
     clear p k h
     go_in
     go_wp2_with fail
     go_ret2
     exact⟨rfl,i⟩
    | true=>
     cases n with
     | false=>
      clear k h
      go_in
      go_wp2_with fail
      go_ret2
      exact⟨rfl,i⟩
     | true=>
      cases o with
      | false=>
       clear h
       go_in
       go_wp2_with fail
       go_ret2
       exact⟨rfl,i⟩
      | true=>cases h
  ·clear h
   go_in
   go_wp2_with fail
   all_goals first | (go_ret2;exact⟨rfl,i⟩) | (exfalso;omega)
 ·clear h
  go_in
  go_wp2_with fail
  all_goals first | (go_ret2;exact⟨rfl,i⟩) | (exfalso;omega)
theorem xX(a b:Nat)(ha:a<fI)(c:b<fI):(FloatKind.f64.format.order a b==ag .eq)=decide (a=b):=by
 show(Ieee.double.order a b==ag .eq)=_
 rw[oY ha c]
 rcases kR a b with h | h | h
 ·rw[oO.2 h,bC (by omega)];rfl
 ·rw[oP.2 h,bM (by omega)];rfl
 ·rw[kS.2 h,bC (by omega)];rfl
theorem SE(a b:Nat)(ha:a<fI)(c:b<fI):(FloatKind.f64.format.order a b !=ag .eq)=decide (a≠b):=by
 have h:=xX a b ha c
 rw[bne,h]
 by_cases e:a=b <;> simp[e]
theorem SF(a b:Nat)(ha:a<fI)(c:b<fI):(FloatKind.f64.format.order a b==ag .lt)=decide (a<b):=by
 show(Ieee.double.order a b==ag .lt)=_
 rw[oY ha c]
 rcases kR a b with h | h | h
 ·rw[oO.2 h,bM (by omega)];rfl
 ·rw[oP.2 h,bC (by omega)];rfl
 ·rw[kS.2 h,bC (by omega)];rfl
def pN(a:Nat):Array ar:=#[aC aj,aD aE a,ay az 0,aB ae 0 0]
theorem kc{w:am}{g:Tg}{t kb:Nat}{a:Nat}{b:au}(h:Row w g t kb (pN a) b):
 kb<w.heap.size/\w.cell? ⟨kb,0,ae⟩=ag (aC aj)/\w.cell? ⟨kb,1,ae⟩=ag (aD aE a)/\w.cell? ⟨kb,2,ae⟩=ag (ay az 0)/\w.cell? ⟨kb,3,ae⟩=ag (aB ae 0 0):=
 ⟨h.lt,h.cell 0,h.cell 1,h.cell 2,h.cell 3⟩
theorem agF(w:am):aw ax 42 #[aD aE 0] w λe w'=>e=aF (.tuple #[aA (ag ⟨w.heap.size,0,ae⟩),ay az 0])/\Below w.heap.size w w'/\w'.heap[w.heap.size]?=ag (aG (pN 0) 170 (0,0)):=by
 have a:=xX 0 0 (by decide) (by decide)
 have b:=lP 0 9218868437227405311 (by decide) (by decide)
 go_in
 go_wp2_with (first | (go_at_call 55;go_in) | (go_at_call 56;go_in) | fail)
 go_ret2
 exact⟨rfl,aY _ _,bp _ _⟩
theorem yp(kb a:Nat)(w:am){g:Tg}{t:Nat}{b:au}(H:Row w g t kb (pN a) b):aw ax 36 #[aA (ag ⟨kb,0,ae⟩)] w λe w'=>e=aF (aD aE a)/\w=w':=by
 have C:=kc H
 go_in
 go_wp2_with (first | (go_at_call 46;go_in) | fail)
 go_ret
 exact⟨rfl,rfl⟩
theorem ams(kb b a:Nat)(w:am){g:Tg}(H:Row w g 41 kb (pN b) 170)(l:b<=a)(d:a<fI):
 aw ax 321 #[aA (ag ⟨kb,0,ae⟩),aD aE a] w λe w'=>e=aF (.tuple #[aB ae 0 0,ay az 0])/\Ch [41] g w g w'/\Row w' g 41 kb (pN a) 170:=by
 have C:=kc H
 have k:=H.free 1
 have c:=aH H
 have h:(9218868437227405311:Nat)<fI:=by decide
 have o:=xX a 0 d (by decide)
 have p:=lP a 0 d (by decide)
 have q:=SF a b d (by omega)
 have r:=lP a 9218868437227405311 d h
 have m:¬ a<b:=by omega
 have n:¬ 9218868437227405311<a:=by have:fI=9218868437227405312:=rfl;omega
 clear H
 by_cases f:a=0
 ·subst f
  go_in
  go_wp2_with (first | (go_at_call 55;go_in) | (go_at_call 56;go_in) | (go_at_call 46;go_in) | fail)
  refine sw 1 ?_
  rw[KU]
  go_wp2_with fail
  go_ret2
  exact⟨rfl,(Ch.refl _ _ _).set _ (.inl (by rw[c.out.tag];decide)),c.out.set 1 _⟩
 ·have i:decide (a=0)=ah:=bC f
  have j:0<a:=by omega
  go_in
  go_wp2_with (first | (go_at_call 55;go_in) | (go_at_call 56;go_in) | (go_at_call 46;go_in) | fail)
  refine sw 1 ?_
  rw[KU]
  go_wp2_with fail
  go_ret2
  exact⟨rfl,(Ch.refl _ _ _).set _ (.inl (by rw[c.out.tag];decide)),c.out.set 1 _⟩
theorem XT(t:Nat)(h:t<9223372036854775808):bits BinOp.or IntKind.u64 (t:Int) 9223372036854775808=(t:Int)+9223372036854775808:=by
 have e:=u64_or_nat t 9223372036854775808 (by omega) (by decide)
 have a:=Nat.two_pow_add_eq_or_of_lt (i:=63) (b:=t) (by omega) 1
 rw[Nat.or_comm]at e
 rw[show(9223372036854775808:Nat) ||| t=9223372036854775808+t from by simpa using a.symm]at e
 rw[show((9223372036854775808+t:Nat):Int)=(t:Int)+9223372036854775808 by omega]at e
 exact e
theorem Kt(t:Nat)(h:t+1<9223372036854775808):bits BinOp.andNot IntKind.u64 ((t:Int)+9223372036854775808+1) 9223372036854775808=(t:Int)+1:=by
 have e:=rH (t+9223372036854775808+1) (by omega)
 rw[show(t+9223372036854775808+1)%9223372036854775808=t+1 by omega]at e
 rw[show((t+9223372036854775808+1:Nat):Int)=(t:Int)+9223372036854775808+1 by omega]at e
 exact e
theorem Hv(t:Nat)(h:t+1<9223372036854775808):bits BinOp.andNot IntKind.u64 ((t:Int)+1) 9223372036854775808=(t:Int)+1:=by
 have e:=rH (t+1) (by omega)
 rw[show(t+1)%9223372036854775808=t+1 by omega]at e
 exact e
theorem OY(t:Nat)(h:t+1<fI):∃z y x:Int,∃a:Nat,a=t+1/\bits BinOp.or IntKind.u64 (t:Int) 9223372036854775808=z/\IntKind.u64.wrap (z+1)=y/\bits BinOp.andNot IntKind.u64 y 9223372036854775808=x/\bits BinOp.andNot IntKind.u64 x 9223372036854775808=x/\(y==18446744073709551615)=ah/\
 decide ((9223372036854775808:Int)<=(t:Int))=ah/\decide (y<9223372036854775808)=ah/\decide (9218868437227405312<x)=ah/\x.toNat=a:=by
 have b:fI=9218868437227405312:=rfl
 refine⟨(t:Int)+9223372036854775808,(t:Int)+9223372036854775808+1,(t:Int)+1,t+1,rfl,XT t (by omega),?_,Kt t (by omega),Hv t (by omega),?_,bC (by omega),bC (by omega),bC (by omega),by omega⟩
 ·rw[nG];omega
 ·simp;omega
theorem abZ(t:Nat)(w:am)(h:t+1<fI):aw ax 320 #[aD aE t] w λe w'=>e=aF (aD aE (t+1))/\w'=w:=by
 have o:=SE t t (by omega) (by omega)
 have d:=Hl t
 obtain⟨z,y,x,p,a,f,g,i,j,k,l,m,n,b⟩:=OY t h
 rw[<-a]
 have c:=pQ x
 rw[b]at c
 clear h a b
 go_in
 go_wp2_with (first | (go_at_call 323;go_in) | (go_at_call 322;go_in) | fail)
 go_ret
 exact⟨rfl,rfl⟩
end
end Go.Proofs.YtooinenkenobaaaGreat

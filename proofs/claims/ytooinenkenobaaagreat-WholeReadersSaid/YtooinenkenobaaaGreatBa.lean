/- A part of the proof of what LawWholeReaders says. -/
import Derived.Test.YtooinenkenobaaaGreatAa
import Derived.Test.YtooinenkenobaaaGreatChecked
set_option maxRecDepth 100000
set_option maxHeartbeats 20000000
namespace Go.Proofs.YtooinenkenobaaaGreat
open Option renaming none->ae,some->ag
open Bool renaming false->ah,true->aj
open Go.Proofs.Tryz renaming prog->ax
open Go.Value renaming int->ay,pointer->aA,slice->aB,bool->aC,float->aD
open Go.IntKind renaming i64->az
open Go.FloatKind renaming f64->aE
open Go.Ending renaming returned->aF
open Go.Obj renaming cells->aG
open Go renaming World->am,Value->ar,TypeId->au,Calls->aw
section
def bv{n:Nat}(x:BitVec n):Int:=(x.toNat:Int)
theorem adi{n:Nat}{a b:BitVec n}:bv a=bv b↔a=b:=by
 unfold bv;constructor
 ·intro h;exact oL (by omega)
 ·rintro rfl;rfl
theorem jn{n:Nat}(a:BitVec n):0<=bv a:=by unfold bv;omega
theorem ahS{n:Nat}(a:BitVec n):bv a<2^n:=by
 unfold bv;have:=a.isLt;have h:((a.toNat:Nat):Int)<((2^n:Nat):Int):=by omega
 simpa using h
def ix{n:Nat}(x:BitVec n):Nat:=x.toNat
theorem U2{n:Nat}(a:BitVec n):(bv a).toNat=ix a:=by unfold bv ix;omega
theorem agJ{n:Nat}{a:BitVec n}:ix a<2^n:=a.isLt
theorem yX{n k:Nat}(h:k<2^n):bv (BitVec.ofNat n k)=(k:Int):=by
 unfold bv;rw[fk,dD h]
theorem th{n:Nat}(k:Nat)(h:k<2^n):(OfNat.ofNat k:Int)=bv (BitVec.ofNat n k):=(yX h).symm
theorem uq(a b:BitVec 32):bits .xor .u32 (bv a) (bv b)=bv (a ^^^ b):=by
 unfold bv;rw[u32_xor_nat _ _ a.isLt b.isLt,BitVec.toNat_xor]
theorem us(a b:BitVec 32):bits .and .u32 (bv a) (bv b)=bv (a &&& b):=by
 unfold bv;rw[u32_and_nat _ _ a.isLt b.isLt,BitVec.toNat_and]
theorem Hn(a b:BitVec 32):bits .or .u32 (bv a) (bv b)=bv (a ||| b):=by
 unfold bv;rw[u32_or_nat _ _ a.isLt b.isLt,BitVec.toNat_or]
theorem wu(a b:BitVec 8):bits .xor .u8 (bv a) (bv b)=bv (a ^^^ b):=by
 unfold bv;rw[u8_xor_nat _ _ a.isLt b.isLt,BitVec.toNat_xor]
theorem wv(a b:BitVec 8):bits .and .u8 (bv a) (bv b)=bv (a &&& b):=by
 unfold bv;rw[u8_and_nat _ _ a.isLt b.isLt,BitVec.toNat_and]
theorem zi(a b:BitVec 8):bits .or .u8 (bv a) (bv b)=bv (a ||| b):=by
 unfold bv;rw[u8_or_nat _ _ a.isLt b.isLt,BitVec.toNat_or]
theorem DA(a b:BitVec 64):bits .xor .u64 (bv a) (bv b)=bv (a ^^^ b):=by
 unfold bv;rw[u64_xor_nat _ _ a.isLt b.isLt,BitVec.toNat_xor]
theorem ur(a b:BitVec 64):bits .and .u64 (bv a) (bv b)=bv (a &&& b):=by
 unfold bv;rw[u64_and_nat _ _ a.isLt b.isLt,BitVec.toNat_and]
theorem Hm(a b:BitVec 64):bits .or .u64 (bv a) (bv b)=bv (a ||| b):=by
 unfold bv;rw[u64_or_nat _ _ a.isLt b.isLt,BitVec.toNat_or]
theorem pf(a:BitVec 32)(k:Nat)(h:(OfNat.ofNat k:Nat)<4294967296):bits .xor .u32 (bv a) (OfNat.ofNat k:Int)=bv (a ^^^ BitVec.ofNat 32 (OfNat.ofNat k)):=by
 rw[<-uq];exact congrArg _ (th (n:=32) k (show k<2^_ from h))
theorem vh(a:BitVec 32)(k:Nat)(h:(OfNat.ofNat k:Nat)<4294967296):bits .and .u32 (bv a) (OfNat.ofNat k:Int)=bv (a &&& BitVec.ofNat 32 (OfNat.ofNat k)):=by
 rw[<-us];exact congrArg _ (th (n:=32) k (show k<2^_ from h))
theorem wV(a:BitVec 8)(k:Nat)(h:(OfNat.ofNat k:Nat)<256):bits .and .u8 (bv a) (OfNat.ofNat k:Int)=bv (a &&& BitVec.ofNat 8 (OfNat.ofNat k)):=by
 rw[<-wv];exact congrArg _ (th (n:=8) k (show k<2^_ from h))
theorem zg(a:BitVec 8)(k:Nat)(h:(OfNat.ofNat k:Nat)<256):bits .or .u8 (bv a) (OfNat.ofNat k:Int)=bv (a ||| BitVec.ofNat 8 (OfNat.ofNat k)):=by
 rw[<-zi];exact congrArg _ (th (n:=8) k (show k<2^_ from h))
theorem wU(a:BitVec 8)(k:Nat)(h:(OfNat.ofNat k:Nat)<256):bits .xor .u8 (bv a) (OfNat.ofNat k:Int)=bv (a ^^^ BitVec.ofNat 8 (OfNat.ofNat k)):=by
 rw[<-wu];exact congrArg _ (th (n:=8) k (show k<2^_ from h))
theorem vg(a:BitVec 64)(k:Nat)(h:(OfNat.ofNat k:Nat)<18446744073709551616):bits .and .u64 (bv a) (OfNat.ofNat k:Int)=bv (a &&& BitVec.ofNat 64 (OfNat.ofNat k)):=by
 rw[<-ur];exact congrArg _ (th (n:=64) k (show k<2^_ from h))
theorem Kq{n:Nat}(a b:BitVec n):(bv a==bv b)=(a==b):=by
 rw[Bool.eq_iff_iff];simp[adi]
theorem adk{n:Nat}(a b:BitVec n):(bv a !=bv b)=(a !=b):=by
 unfold bne;rw[Kq]
theorem el{n:Nat}(a:BitVec n)(k:Nat)(h:(OfNat.ofNat k:Nat)<2^n):(bv a==(OfNat.ofNat k:Int))=(a==BitVec.ofNat n (OfNat.ofNat k)):=by
 rw[<-Kq];exact congrArg _ (th (n:=n) k h)
theorem eI{n:Nat}(a:BitVec n)(k:Nat)(h:(OfNat.ofNat k:Nat)<2^n):(bv a !=(OfNat.ofNat k:Int))=(a !=BitVec.ofNat n (OfNat.ofNat k)):=by
 unfold bne;rw[el _ _ h]
theorem uZ{n:Nat}(a:BitVec n)(j k:Nat)(h:(OfNat.ofNat k:Nat)=2^j):bv a/(OfNat.ofNat k:Int)=bv (a >>> j):=by
 unfold bv;rw[sB,qJ,<-h];rfl
theorem Hf{n:Nat}(a:BitVec n):bv a/(2:Int)=bv (a >>> 1):=uZ a 1 2 rfl
theorem zd{n:Nat}(a:BitVec n):bv a/(128:Int)=bv (a >>> 7):=uZ a 7 128 rfl
theorem za{n:Nat}(a:BitVec n):bv a/(256:Int)=bv (a >>> 8):=uZ a 8 256 rfl
theorem Ka{n:Nat}(a:BitVec n):bv a/(134217728:Int)=bv (a >>> 27):=uZ a 27 134217728 rfl
theorem Qa{n:Nat}(a:BitVec n):(bv a).tdiv (2:Int)=bv (a >>> 1):=by rw[Int.tdiv_eq_ediv_of_nonneg (jn a)];exact Hf a
theorem Hd{n:Nat}(a:BitVec n):(bv a).tdiv (128:Int)=bv (a >>> 7):=by rw[Int.tdiv_eq_ediv_of_nonneg (jn a)];exact zd a
theorem Hc{n:Nat}(a:BitVec n):(bv a).tdiv (256:Int)=bv (a >>> 8):=by rw[Int.tdiv_eq_ediv_of_nonneg (jn a)];exact za a
theorem Dq{n:Nat}(a:BitVec n)(j k:Nat)(b:(OfNat.ofNat k:Nat)=2^j)(c:2^j-1<2^n):bv a%(OfNat.ofNat k:Int)=bv (a &&& BitVec.ofNat n (2^j-1)):=by
 have e:((a.toNat:Int)%((2^j:Nat):Int))=bv (a &&& BitVec.ofNat n (2^j-1)):=by
  unfold bv
  rw[BitVec.toNat_and,fk,dD c,Nat.and_two_pow_sub_one_eq_mod];rfl
 rw[<-e,<-b];rfl
theorem He(a:BitVec 32):bv a%(2:Int)=bv (a &&& 1#32):=Dq a 1 2 rfl (by decide)
theorem P'(a:BitVec 32):(bv a).tmod (2:Int)=bv (a &&& 1#32):=by rw[qd (jn a)];exact He a
theorem Bt(a:BitVec 64):bv a%(2:Int)=bv (a &&& 1#64):=Dq a 1 2 rfl (by decide)
theorem J1(a:BitVec 64):(bv a).tmod (2:Int)=bv (a &&& 1#64):=by rw[qd (jn a)];exact Bt a
theorem yZ(a:BitVec 64):bv a%(128:Int)=bv (a &&& 127#64):=Dq a 7 128 rfl (by decide)
theorem Hb(a:BitVec 64):(bv a).tmod (128:Int)=bv (a &&& 127#64):=by rw[qd (jn a)];exact yZ a
theorem yY(a:BitVec 64):bv a%(256:Int)=bv (a &&& 255#64):=Dq a 8 256 rfl (by decide)
theorem Ha(a:BitVec 64):(bv a).tmod (256:Int)=bv (a &&& 255#64):=by rw[qd (jn a)];exact yY a
theorem IJ{n:Nat}(a:BitVec n):IntKind.u8.wrap (bv a)=bv (a.setWidth 8):=by
 unfold bv;rw[IntKind.wrap_u8',gI];omega
theorem EM{n:Nat}(a:BitVec n):IntKind.u32.wrap (bv a)=bv (a.setWidth 32):=by
 unfold bv;rw[mi,gI];omega
theorem EJ{n:Nat}(a:BitVec n):IntKind.u64.wrap (bv a)=bv (a.setWidth 64):=by
 unfold bv;rw[nG,gI];omega
theorem J9{n:Nat}(a:BitVec n):(0<=bv a)=True:=eq_true (jn a)
theorem J8{n:Nat}(a:BitVec n):(bv a<0)=False:=eq_false (by have:=jn a;omega)
theorem adj(a:BitVec 8):(bv a<256)=True:=eq_true (ahS a)
theorem pp(a:BitVec 32):bits .xor .u32 (bv a) (2197175160:Int)=bv (a ^^^ 2197175160#32):=pf a 2197175160 (by decide)
theorem pj(a:BitVec 32):bits .xor .u32 (bv a) (4294967295:Int)=bv (a ^^^ 4294967295#32):=pf a 4294967295 (by decide)
theorem zk(a:BitVec 32):bits .and .u32 (bv a) (1:Int)=bv (a &&& 1#32):=vh a 1 (by decide)
theorem wW(a:BitVec 8):bits .and .u8 (bv a) (127:Int)=bv (a &&& 127#8):=wV a 127 (by decide)
theorem zh(a:BitVec 8):bits .or .u8 (bv a) (128:Int)=bv (a ||| 128#8):=zg a 128 (by decide)
theorem ze(a:BitVec 8):bits .xor .u8 (bv a) (85:Int)=bv (a ^^^ 85#8):=wU a 85 (by decide)
theorem zj(a:BitVec 64):bits .and .u64 (bv a) (1:Int)=bv (a &&& 1#64):=vg a 1 (by decide)
theorem Qj(a:BitVec 8):(bv a==(0:Int))=(a==0#8):=el a 0 (by decide)
theorem Qf(a:BitVec 8):(bv a !=(0:Int))=(a !=0#8):=eI a 0 (by decide)
theorem Qi(a:BitVec 8):(bv a==(1:Int))=(a==1#8):=el a 1 (by decide)
theorem Qe(a:BitVec 8):(bv a !=(1:Int))=(a !=1#8):=eI a 1 (by decide)
theorem Qh(a:BitVec 8):(bv a==(2:Int))=(a==2#8):=el a 2 (by decide)
theorem Qd(a:BitVec 8):(bv a !=(2:Int))=(a !=2#8):=eI a 2 (by decide)
theorem Hs(a:BitVec 8):(bv a==(128:Int))=(a==128#8):=el a 128 (by decide)
theorem Hk(a:BitVec 8):(bv a !=(128:Int))=(a !=128#8):=eI a 128 (by decide)
theorem Hr(a:BitVec 8):(bv a==(171:Int))=(a==171#8):=el a 171 (by decide)
theorem Hj(a:BitVec 8):(bv a !=(171:Int))=(a !=171#8):=eI a 171 (by decide)
theorem Hq(a:BitVec 8):(bv a==(172:Int))=(a==172#8):=el a 172 (by decide)
theorem Hi(a:BitVec 8):(bv a !=(172:Int))=(a !=172#8):=eI a 172 (by decide)
theorem Hp(a:BitVec 8):(bv a==(255:Int))=(a==255#8):=el a 255 (by decide)
theorem Hh(a:BitVec 8):(bv a !=(255:Int))=(a !=255#8):=eI a 255 (by decide)
theorem Kp(a:BitVec 32):(bv a==(0:Int))=(a==0#32):=el a 0 (by decide)
theorem Ki(a:BitVec 32):(bv a !=(0:Int))=(a !=0#32):=eI a 0 (by decide)
theorem Ko(a:BitVec 32):(bv a==(1:Int))=(a==1#32):=el a 1 (by decide)
theorem Kh(a:BitVec 32):(bv a !=(1:Int))=(a !=1#32):=eI a 1 (by decide)
theorem Kn(a:BitVec 32):(bv a==(2:Int))=(a==2#32):=el a 2 (by decide)
theorem Kg(a:BitVec 32):(bv a !=(2:Int))=(a !=2#32):=eI a 2 (by decide)
theorem DJ(a:BitVec 32):(bv a==(128:Int))=(a==128#32):=el a 128 (by decide)
theorem Dz(a:BitVec 32):(bv a !=(128:Int))=(a !=128#32):=eI a 128 (by decide)
theorem DI(a:BitVec 32):(bv a==(171:Int))=(a==171#32):=el a 171 (by decide)
theorem Dy(a:BitVec 32):(bv a !=(171:Int))=(a !=171#32):=eI a 171 (by decide)
theorem DH(a:BitVec 32):(bv a==(172:Int))=(a==172#32):=el a 172 (by decide)
theorem Dx(a:BitVec 32):(bv a !=(172:Int))=(a !=172#32):=eI a 172 (by decide)
theorem DG(a:BitVec 32):(bv a==(255:Int))=(a==255#32):=el a 255 (by decide)
theorem Dw(a:BitVec 32):(bv a !=(255:Int))=(a !=255#32):=eI a 255 (by decide)
theorem Km(a:BitVec 64):(bv a==(0:Int))=(a==0#64):=el a 0 (by decide)
theorem Kf(a:BitVec 64):(bv a !=(0:Int))=(a !=0#64):=eI a 0 (by decide)
theorem Kl(a:BitVec 64):(bv a==(1:Int))=(a==1#64):=el a 1 (by decide)
theorem Ke(a:BitVec 64):(bv a !=(1:Int))=(a !=1#64):=eI a 1 (by decide)
theorem Kk(a:BitVec 64):(bv a==(2:Int))=(a==2#64):=el a 2 (by decide)
theorem Kd(a:BitVec 64):(bv a !=(2:Int))=(a !=2#64):=eI a 2 (by decide)
theorem DF(a:BitVec 64):(bv a==(128:Int))=(a==128#64):=el a 128 (by decide)
theorem Dv(a:BitVec 64):(bv a !=(128:Int))=(a !=128#64):=eI a 128 (by decide)
theorem DE(a:BitVec 64):(bv a==(171:Int))=(a==171#64):=el a 171 (by decide)
theorem Du(a:BitVec 64):(bv a !=(171:Int))=(a !=171#64):=eI a 171 (by decide)
theorem DC(a:BitVec 64):(bv a==(172:Int))=(a==172#64):=el a 172 (by decide)
theorem Dt(a:BitVec 64):(bv a !=(172:Int))=(a !=172#64):=eI a 172 (by decide)
theorem DB(a:BitVec 64):(bv a==(255:Int))=(a==255#64):=el a 255 (by decide)
theorem Dr(a:BitVec 64):(bv a !=(255:Int))=(a !=255#64):=eI a 255 (by decide)
attribute [go_sem] Qa Hd Hc He P' Bt J1 yZ Hb yY Ha
 uq us Hn wu wv zi DA ur Hm
 Kq adk Hf zd za Ka IJ EM EJ U2 J9 J8 adj
 pp pj zk wW zh ze zj Qj Qf Qi Qe Qh Qd Hs Hk Hr Hj Hq Hi Hp Hh Kp Ki Ko Kh Kn Kg DJ Dz DI Dy DH Dx DG Dw Km Kf Kl Ke Kk Kd DF Dv DE Du DC Dt DB Dr
end
section
open Go.RowKit
def sh(bs:List (BitVec 8))(i:Nat):BitVec 8:=bs.getD i 0#8
theorem rW{bs:List (BitVec 8)}{i:Nat}(h:i<bs.length):sh bs i=bs[i]:=by simp[sh,h]
def cD(w:am)(c:Option Addr)(bs:List (BitVec 8)):Prop:=
 ∀i,i<bs.length->∃b a,c=ag ⟨b,a,ae⟩/\w.cell? ⟨b,a+i,ae⟩=ag (ay .u8 (bv (sh bs i)))
theorem cD.below{w w':am}{c:Option Addr}{bs:List (BitVec 8)}(h:cD w c bs)(f:Below w.heap.size w w'):cD w' c bs:=λi g=>by
 obtain⟨b,a,e,d⟩:=h i g
 exact⟨b,a,e,(f.cell (eK d)).trans d⟩
theorem bi(w:am):Below w.heap.size w w.drew:=⟨rfl,rfl,rfl,bT _,λ_ _=>rfl⟩
theorem aM{w a b:am}(h:Below w.heap.size w a)(k:Below a.heap.size a b):Below w.heap.size w b:=h.trans (k.mono h.size)
theorem aY(w:am)(o:Obj):Below w.heap.size w (w.alloc o):=(cX _ _).alloc dx _
theorem bL{w w':am}(b:Below w.heap.size w w'){a:Addr}{v:ar}(h:w.cell? a=ag v):w'.cell? a=ag v:=(b.cell (eK h)).trans h
theorem below_drewN(w:am)(n:Nat):Below w.heap.size w (w.drewN n):=⟨rfl,rfl,rfl,bT _,λ_ _=>rfl⟩
theorem nY{w:am}{b o n:Nat}(h:w.there b o n){a:Addr}{v:ar}:(w.setCell a v).there b o n:=λj g=>by
 obtain⟨d,f⟩:=h j g
 obtain⟨u,c⟩:=sq.1 d
 refine⟨?_,by rw[kY];exact f⟩
 by_cases e:a=⟨b,o+j,ae⟩
 ·subst e;rw[dE _ _ _ c];rfl
 ·rw[dI _ _ _ _ e,c];rfl
theorem rM(w:am)(cs:Array ar)(t:au):(w.alloc (.cells cs t)).there w.heap.size 0 cs.size:=λj b=>by
 have a:=bp w (.cells cs t)
 constructor
 ·rw[aZ _ a];simp[b]
 ·exact bQ _ a
theorem uJ{P:Program}{e:Func}{p:Tmp}{c:au}(h:e.results=#[.cell p c]){a:Array ar}{w:am}(b o:Nat)(cs:List ar){d:TypeDesc}
 (j:a.getD p undef=aA (ag ⟨b,o,ae⟩)) (f:w.rangeAt b o cs)
 (k:P.underlying c=ag d) (g:d.isRow=aj) (i:(P.info? c).map (·.size)=ag cs.length):
 (results e a).run P w=.ok (.agg cs.toArray) w:=by
 have l:a[p]?.getD undef=aA (ag ⟨b,o,ae⟩):=by simpa using j
 simp[results,h,l,asAddr,run_loadVar_mid w b o c cs d f k g i]
theorem mY{B:Nat}{w:am}(b:Nat):∀(cs:List ar) (o:Nat) (a:am),B<=b->Below B w a->Below B w (a.setCells b o cs)
 | [],_,_,_,h=>h
 | v::r,o,_,hB,h=>by rw[World.setCells];exact mY b r (o+1) _ hB (h.setCell hB v)
structure xc(w wr:am)(b n:Nat)(val:Nat->ar)(k:Nat):Prop where
 below:Below w.heap.size w wr
 own:w.heap.size<=b
 there:wr.there b 0 n
 cells:∀i,i<k->wr.cell? ⟨b,i,ae⟩=ag (val i)
theorem xc.start{w:am}(cs:Array ar)(t:au)(n:Nat)(b:cs.size=n)(a:Nat->ar):xc w (w.alloc (.cells cs t)) w.heap.size n a 0:=
 ⟨(cX _ _).alloc dx _,bT _,b▸rM w cs t,λi c=>by omega⟩
theorem xc.next{w wr:am}{b n:Nat}{a:Nat->ar}{k:Nat}(h:xc w wr b n a k)(d:k<n):xc w (wr.setCell ⟨b,k,ae⟩ (a k)) b n a (k+1):=by
 refine⟨h.below.setCell h.own _,h.own,nY h.there,λi f=>?_⟩
 by_cases e:i=k
 ·subst e
  obtain⟨u,c⟩:=sq.1 (h.there i d).1
  rw[cL]at c
  exact dE _ _ _ c
 ·rw[dI _ _ _ _ (by intro h;injection h;omega)]
  exact h.cells i (by omega)
theorem xc.at{w wr:am}{b n:Nat}{a:Nat->ar}{k i:Nat}(h:xc w wr b n a k)(e:i<n):∃u,wr.cell? ⟨b,i,ae⟩=ag u/\wr.frozen? ⟨b,i,ae⟩=ah:=by
 obtain⟨c,d⟩:=h.there i e
 rw[cL]at c d
 obtain⟨u,f⟩:=sq.1 c
 exact⟨u,f,d⟩
def G'(x:BitVec 8):ar:=ay .u8 (bv x)
def gm(bs:List (BitVec 8)):List ar:=bs.map G'
theorem gd(bs:List (BitVec 8)):(gm bs).length=bs.length:=by simp[gm]
theorem pX(a b:List (BitVec 8)):gm (a++b)=gm a++gm b:=by simp[gm]
theorem mK{bs:List (BitVec 8)}{i:Nat}(h:i<bs.length):(gm bs)[i]?=ag (ay .u8 (bv (sh bs i))):=by
 simp[gm,G',h,rW h]
theorem Bq(bs:List (BitVec 8)):∀v∈gm bs,v.oneCell'=aj:=by
 intro v a
 obtain⟨i,_,rfl⟩:=qG.1 a
 rfl
theorem Tryz.rk:(Tryz.prog.info? 5).map (λi=>(i.zero,i.size,i.bytes))=ag (ag (ay .u8 0),1,1):=by kernel_rfl
def cU(w:am)(base:Nat)(v:ar)(bs:List (BitVec 8)):Prop:=w.ownsRow base 5 1 v bs.length (gm bs)
theorem cU.nil(w:am)(base:Nat):cU w base (aB ae 0 0) []:=ae9 w base _ 1
theorem cU.shape{w:am}{base:Nat}{v:ar}{bs:List (BitVec 8)}(h:cU w base v bs):
 ∃c a,v=aB c bs.length a/\(c=ae->a=0)/\bs.length<=a/\a<=maxLen/\cD w c bs/\(c=ae\/∃g,c=ag ⟨g,0,ae⟩/\base<=g/\g<w.heap.size/\w.there g 0 a):=by
 obtain⟨_,h⟩:=h
 rcases h with⟨rfl,k⟩ | ⟨g,a,b,rfl,l,d,n,m,q,o⟩
 ·exact⟨ae,0,by rw[k],λ_=>rfl,by omega,by simp[maxLen],λi f=>by omega,.inl rfl⟩
 ·refine⟨ag ⟨g,0,ae⟩,a,rfl,(λh=>by cases h),n,m,λi f=>⟨g,0,rfl,?_⟩,.inr ⟨g,rfl,l,(br.1 d).1,λj p=>?_⟩⟩
  ·rw[cL,oR w g i b _ _ d]
   have e:=mK f
   rw[<-o,dt]at e
   rw[bj (by omega)]at e
   simpa using e
  ·rw[cL]
   constructor
   ·rw[oR w g j b _ _ d];simp;omega
   ·exact frozen_of_row w g j b _ d
theorem cU.dV{w w':am}{base:Nat}{v:ar}{bs:List (BitVec 8)}(h:cU w base v bs)(e:Below w.heap.size w w'):cU w' base v bs:=by
 refine⟨h.1,?_⟩
 rcases h.2 with d | ⟨g,a,b,i,f,c,r⟩
 ·exact .inl d
 ·exact .inr ⟨g,a,b,i,f,(e.block g (br.1 c).1).trans c,r⟩
theorem cU.base{w:am}{base c:Nat}{v:ar}{bs:List (BitVec 8)}(h:cU w base v bs)(f:c<=base):cU w c v bs:=by
 refine⟨h.1,?_⟩
 rcases h.2 with d | ⟨g,a,b,e,i,r⟩
 ·exact .inl d
 ·exact .inr ⟨g,a,b,e,by omega,r⟩
theorem cU.below{w w':am}{base B:Nat}{v:ar}{bs:List (BitVec 8)}(h:cU w base v bs)(a:w.grownBy w' v.ownBlock)(d:B<=base)(c:B<=w.heap.size):Below B w w':=
 (cX B w).grown a c (λk b=>by have:=(h.lt k b).1;omega)
theorem cI{w:am}{ops:Array Oper}{c:List Oper}{o:Oper}{a:Act}{Q:Exit->Act->am->Prop}(m:o.guard=ae){s x:Operand}
 (y:o.op=.call { callee:=.builtin .append,args:=#[s,x],argTypes:=#[48,48] })
 (base:Nat) (v:ar) (xs:List (BitVec 8)) (z:a.eval s=v) (k:cU w base v xs)
 (g:Option Addr) (n d:Nat) (bs:List (BitVec 8)) (hx:a.eval x=aB g n d) (H:n=bs.length) (p:cD w g bs) (M:g=ae->d=0)
 (t:xs.length+bs.length<=140737488355328) (I:base<=w.heap.size)
 (h:∀f w',cU w' base f (xs++bs)->w.grownBy w' v.ownBlock->(f=aB ae 0 0↔v=aB ae 0 0/\n=0)->wpList ax ops Q c (a.put o.dst f) w'):wpList ax ops Q (o::c) a w:=by
 subst H
 obtain⟨i,q,L,J,K⟩:=sy Tryz.rk
 cases g with
 | none=>
  have C:bs.length=0:=by
   rcases gV bs.length with h | h
   ·exact h
   ·obtain⟨b,l,e,_⟩:=p 0 h;cases e
  have N:bs=[]:=eu C
  subst N
  rw[M rfl]at hx
  refine wpList_append_own_none m s x 48 y base 5 i 1 Tryz.underlying48 q v xs.length (gm xs) z k hx ?_
  exact h v w (by simpa using k) (World.grownBy.refl _ _) (by simp)
 | some ad=>
  have B:∀j u,(gm bs)[j]?=ag u->w.cell? (ad.add j)=ag u:=by
   intro j u A
   have r:j<bs.length:=by have:=(aK.1 A).1;rwa [gd]at this
   obtain⟨b,l,e,G⟩:=p j r
   obtain rfl:=iy e
   rw[VW,G,<-mK r,A]
  refine wpList_append_own (w:=w) m s x 48 y base 5 i (ay .u8 0) 1 1 Tryz.underlying48 q L J K rfl (by decide) v xs.length (gm xs) z k ad bs.length d (gm bs) hx (by rw[gd,dY]) B (Bq bs)
   (by simp only[maxLen];omega) (by omega) I ?_
  intro f w' D E F
  refine h f w' ?_ E F
  unfold cU
  rw[aN,pX]
  exact D
theorem Bp(w:am)(bs:List (BitVec 8))(t:au)(a:Nat×Nat):cD (w.alloc (aG (gm bs).toArray t a)) (ag ⟨w.heap.size,0,ae⟩) bs:=λi b=>by
 refine⟨w.heap.size,0,rfl,?_⟩
 rw[cL,aZ _ (bp w _)]
 have h:=mK b
 simp only[oK]
 exact h
theorem rG{w:am}{a:Addr}{bs:List (BitVec 8)}(f:cD w (ag a) bs):∀j u,(gm bs)[j]?=ag u->w.cell? (a.add j)=ag u:=by
 intro j u d
 have c:j<bs.length:=by have:=(aK.1 d).1;rwa [gd]at this
 obtain⟨b,h,e,g⟩:=f j c
 obtain rfl:=iy e
 rw[VW,g,<-mK c,d]
theorem Ow{w:am}{base a b:Nat}{xs bs:List (BitVec 8)}(z:ar)(i:z.cells.size=1)(j:base<=w.heap.size)(h:a=xs.length+bs.length)(_:b<a)(c:a<=maxLen):
 cU (w.drew.alloc (aG ((gm xs).toArray++(gm bs).toArray++Builtin.zeroCells z.cells (grownCap w a b 5-a)) 5)) base (aB (ag ⟨w.heap.size,0,ae⟩) a (grownCap w a b 5)) (xs++bs):=by
 have d:=grownCap_ge w a b 5
 have f:grownCap w a b 5<=maxLen:=grownCap_le_maxLen w a b 5 c
 unfold cU
 rw[aN,<-h,pX]
 have e:(gm xs++gm bs).length=a*1:=by rw[aN,gd,gd];omega
 refine⟨e,.inr ⟨w.heap.size,_,_,rfl,j,bp w.drew _,d,f,?_,?_⟩⟩
 ·simp only[Array.size_append,iq,size_zeroCells,i,gd]
  omega
 ·simp only[Array.toList_append,de]
  rw[<-de,<-e]
  exact List.take_left
theorem mN{w:am}{ops:Array Oper}{b:List Oper}{o:Oper}{a:Act}{Q:Exit->Act->am->Prop}(z:o.guard=ae){s x:Operand}
 (F:o.op=.call { callee:=.builtin .append,args:=#[s,x],argTypes:=#[48,48] })
 (base:Nat) (f:Addr) (xs:List (BitVec 8)) (m d:Nat) (H:a.eval s=aB (ag f) m d) (j:m=xs.length) (l:cD w (ag f) xs)
 (q:Option Addr) (n c:Nat) (bs:List (BitVec 8)) (hx:a.eval x=aB q n c) (E:n=bs.length) (r:cD w q bs)
 (e:d<xs.length+bs.length) (A:0<bs.length) (t:xs.length+bs.length<=140737488355328) (I:base<=w.heap.size)
 (h:∀y w',cU w' base y (xs++bs)->w.grownBy w' ae->wpList ax ops Q b (a.put o.dst y) w'):wpList ax ops Q (o::b) a w:=by
 subst E j
 obtain⟨i,C,M,u,J⟩:=sy Tryz.rk
 obtain⟨g,L,rfl,-⟩:=r 0 A
 have p:xs.length+bs.length<=maxLen:=by simp only[maxLen];omega
 have G:=run_append_grow (P:=ax) w 48 o.type 5 i (ay .u8 0) Tryz.underlying48 C M f xs.length d (gm xs) (by rw[gd,u,dY]) (rG l) _ bs.length c (gm bs) (by rw[gd,u,dY]) (rG r) e (by simp only[maxLen]at p;omega)
  (by rw[J];exact growslice_fits e (by omega))
 refine wpList_plain z λK B=>?_
 unfold Oper.wp execOp
 simp only[F,resolve,invoke,builtin,gG,Sem.run_pure,ae',List.map_toArray,aV,a8,H,hx,G]
 refine B _ _ (h _ _ (Ow (ay .u8 0) rfl I rfl e p) ?_)
 exact⟨rfl,rfl,rfl,by simp,λk D _=>(aY w.drew _).block k D⟩
end
section
open Go.RowKit
end
section
def af':List (BitVec 8)->Nat->BitVec 64->BitVec 64×Nat×Nat
 | [],_,_=>(0#64,0,2)
 | c::r,i,n=>
  if i=9/\1<bv c then(0#64,0,4)
  else if 128<=bv c then af' r (i+1) (n ||| (c.setWidth 64 &&& 127#64) <<< (7*i))
  else if 0<i/\c=0#8 then(0#64,0,4)
  else(n ||| (c.setWidth 64 &&& 127#64) <<< (7*i),i+1,0)
def rv(bs:List (BitVec 8)):BitVec 64×Nat×Nat:=af' bs 0 0#64
theorem cD.sub{w:am}{b a:Nat}{bs:List (BitVec 8)}(h:cD w (ag ⟨b,a,ae⟩) bs)(k m:Nat):cD w (ag ⟨b,a+k,ae⟩) ((bs.drop k).take m):=λi j=>by
 have c:i<m/\i<bs.length-k:=by simp at j;omega
 obtain⟨n,l,e,g⟩:=h (k+i) (by omega)
 injection e with e;injection e with d f;subst d f
 refine⟨b,a+k,rfl,?_⟩
 rw[Nat.add_assoc,g]
 congr 3
 unfold sh
 simp[c.1]
theorem abJ{m:BitVec 64}(h:128<=bv m):(bv (m >>> 7)).toNat<(bv m).toNat:=by
 unfold bv at *
 rw[sB,qJ]
 omega
def mB:Nat->BitVec 64->List (BitVec 8)
 | 0,n=>[n.setWidth 8]
 | f+1,n=>if 128<=bv n then(n.setWidth 8 ||| 128#8)::mB f (n >>> 7)else[n.setWidth 8]
def nX(n:BitVec 64):List (BitVec 8):=mB 9 n
theorem vH:∀(f:Nat) (n:BitVec 64),1<=(mB f n).length/\(mB f n).length<=f+1
 | 0,n=>by simp[mB]
 | f+1,n=>by
  rw[mB]
  split
  ·have h:=vH f (n >>> 7);simp only[bV];omega
  ·simp
theorem sP(n:BitVec 64):1<=(nX n).length/\(nX n).length<=10:=vH 9 n
def DP(n:BitVec 64)(xs:List (BitVec 8))(m:BitVec 64):Prop:=xs.length<=9/\xs++mB (9-xs.length) m=nX n/\m.toNat<2^(64-7*xs.length)
theorem DP.start(n:BitVec 64):DP n [] n:=⟨by simp,rfl,by simpa using n.isLt⟩
theorem DP.next{n m:BitVec 64}{xs:List (BitVec 8)}(h:DP n xs m)(a:128<=bv m):DP n (xs++[m.setWidth 8 ||| 128#8]) (m >>> 7):=by
 obtain⟨e,c,b⟩:=h
 have d:xs.length<=8:=by
  rcases cg xs.length 9 with h | h
  ·omega
  ·have:xs.length=9:=by omega
   rw[this]at b
   unfold bv at a
   omega
 refine⟨by simp;omega,?_,?_⟩
 ·rw[<-c,de,aN]
  congr 1
  rw[show 9-xs.length=(9-(xs.length+1))+1 by omega,mB,bj a];rfl
 ·rw[sB,qJ,aN]
  rw[Nat.div_lt_iff_lt_mul (by decide),<-fe]
  refine aW b (p9 (by decide) (by simp;omega))
theorem DP.done{n m:BitVec 64}{xs:List (BitVec 8)}(h:DP n xs m)(a:bv m<128):xs++[m.setWidth 8]=nX n:=by
 rw[<-h.2.1]
 congr 1
 cases 9-xs.length with
 | zero=>rfl
 | succ f=>rw[mB,bf (by omega)]
def rs(bs:List (BitVec 8))(a:Int):List (BitVec 8)×Nat×Nat:=
 if a<0 then([],0,1)
 else if(rv bs).2.2≠0 then([],0,(rv bs).2.2)
 else if a<bv (rv bs).1 then([],0,3)
 else if((bs.length-(rv bs).2.1:Nat):Int)<bv (rv bs).1 then([],0,2)
 else((bs.drop (rv bs).2.1).take (ix (rv bs).1),(rv bs).2.1+ix (rv bs).1,0)
end
section
end
section
open Go.RowKit
theorem EO(x:BitVec 64)(j:Nat):IntKind.u64.wrap (bv x*2^j)=bv (x <<< j):=by
 unfold bv
 rw[nG,aeo,ZC,Int.natCast_emod,Int.natCast_mul,Int.natCast_pow]
 rfl
theorem IK(x:BitVec 64):IntKind.u64.wrap (bv x*9223372036854775808)=bv (x <<< 63):=EO x 63
attribute [go_sem] EO IK
theorem ES(x y:BitVec 64):IntKind.u64.wrap (bv x*bv y)=bv (x*y):=by
 unfold bv
 rw[nG,BitVec.toNat_mul,Int.natCast_emod,Int.natCast_mul]
 rfl
theorem Ri(x y:BitVec 64):IntKind.u64.wrap (bv x+bv y)=bv (x+y):=by
 unfold bv
 rw[nG,BitVec.toNat_add,Int.natCast_emod,Ed]
 rfl
theorem BI(x:BitVec 64):IntKind.u64.wrap (bv x*128)=bv (x*128#64):=ES x 128#64
attribute [go_sem] ES Ri BI
end
section
open Go.RowKit
structure Qu(w wr:am)(g:Nat)(bs:List (BitVec 8)):Prop where
 below:Below w.heap.size w wr
 own:w.heap.size<=g
 there:wr.there g 0 bs.length
 bytes:∀i,i<bs.length->wr.cell? ⟨g,i,ae⟩=ag (ay .u8 (bv (sh bs i)))
theorem Qu.at{w wr:am}{g:Nat}{bs:List (BitVec 8)}(h:Qu w wr g bs):cD wr (ag ⟨g,0,ae⟩) bs:=λi a=>⟨g,0,rfl,by rw[cL];exact h.bytes i a⟩
theorem vG(n:BitVec 64){w:am}:
 aw ax 157 #[ay .u64 (bv n)] w λe w'=>∃v,e=aF v/\cU w' w.heap.size v (nX n)/\Below w.heap.size w w':=by
 go_in
 go_wp2_with fail
 go_loopw [0,3] (λz v wr=>∃(m:BitVec 64) (xs:List (BitVec 8)),z=ay .u64 (bv m)/\Hid (cU wr w.heap.size v xs)/\Hid (DP n xs m)/\Hid (Below w.heap.size w wr)) (λz _ _=>(intOf z).toNat)
 case atStart=>exact⟨n,[],rfl,cU.nil _ _,DP.start n,cX _ _⟩
 case round=>
  obtain⟨m,xs,rfl,r,g,a⟩:=hrel
  by_cases q:128<=bv m
  ·have t:=aH (g.out.next q)
   have d:=aH (r.out.dV (aY wr (aG (gm [m.setWidth 8 ||| 128#8]).toArray 5 (0,0))))
   have j:=aH (Bp wr [m.setWidth 8 ||| 128#8] 5 (0,0))
   have b:Hid (w.heap.size<=(wr.alloc (aG (gm [m.setWidth 8 ||| 128#8]).toArray 5 (0,0))).heap.size):=bJ a.out.size (aY wr _).size
   go_wp2_with (refine cI (o:=⟨ag 11,_,_,_,_,_⟩) rfl rfl w.heap.size _ xs rfl d.out (ag ⟨wr.heap.size,0,ae⟩) 1 1 [m.setWidth 8 ||| 128#8] rfl rfl j.out (λh=>nomatch h) (by have:=g.out.1;simp;omega) b.out ?_)
   intro u p c f l
   have i:Hid (Below w.heap.size w p):=(a.out.trans ((aY wr _).mono a.out.size)).trans (d.out.below f dx b.out)
   have k:=aH c
   clear l f c
   go_wp2_with fail
   go_roundw
   case rel=>exact⟨m >>> 7,_,rfl,k,t,i⟩
   case measure=>exact abJ q
  ·have s:=aH (g.out.done (by omega))
   have d:=aH (r.out.dV (aY wr (aG (gm [m.setWidth 8]).toArray 5 (0,0))))
   have j:=aH (Bp wr [m.setWidth 8] 5 (0,0))
   have b:Hid (w.heap.size<=(wr.alloc (aG (gm [m.setWidth 8]).toArray 5 (0,0))).heap.size):=bJ a.out.size (aY wr _).size
   go_wp2_with (refine cI (o:=⟨ag 18,_,_,_,_,_⟩) rfl rfl w.heap.size _ xs rfl d.out (ag ⟨wr.heap.size,0,ae⟩) 1 1 [m.setWidth 8] rfl rfl j.out (λh=>nomatch h) (by have:=g.out.1;simp;omega) b.out ?_)
   intro u p c f l
   have i:Hid (Below w.heap.size w p):=(a.out.trans ((aY wr _).mono a.out.size)).trans (d.out.below f dx b.out)
   have k:=aH c
   clear l f c
   go_wp2_with fail
   go_ret
   exact⟨_,rfl,s.out▸k.out,i.out⟩
end
section
open Go.RowKit
end
end Go.Proofs.YtooinenkenobaaaGreat

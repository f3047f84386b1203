/- A part of the proof of what LawWholeReaders says. -/
import Derived.Test.YtooinenkenobaaaGreatAa
import Derived.Test.YtooinenkenobaaaGreatBc
import Derived.Test.YtooinenkenobaaaGreatBd
import Derived.Test.YtooinenkenobaaaGreatBe
import Derived.Test.YtooinenkenobaaaGreatBa
set_option maxRecDepth 100000
set_option maxHeartbeats 20000000
namespace Go.Proofs.YtooinenkenobaaaGreat
open Option renaming none->ae,some->ag
open Bool renaming false->ah,true->aj
open Go.Proofs.Tryz renaming prog->ax
open Go.Value renaming int->ay,pointer->aA,slice->aB,bool->aC,float->aD
open Go.IntKind renaming i64->az
open Go.FloatKind renaming f64->aE
open Go.Ending renaming returned->aF
open Go.Obj renaming cells->aG
open Go renaming World->am,Value->ar,TypeId->au,Calls->aw
section
open Go.RowKit
section
variable{w w':am}{kb lo z i g m cap c gl N:Nat}{xs:List ar}{x:ar}
end
theorem Sz{w:am}{lo g m cap e:Nat}{bs:List (BitVec 8)}(h:cU w lo (aB (ag ⟨g,0,ae⟩) m cap) bs)(b:bs.length=m)(a:e<m):w.cell? ⟨g,e,ae⟩=ag (ay .u8 (bv (sh bs e)))/\w.frozen? ⟨g,e,ae⟩=ah:=by
 subst b
 refine⟨?_,World.ownsRow.frozenAt h e⟩
 have:=World.ownsRow.cellAt h e (by omega)
 rw[mK a]at this
 exact this
end
section
open Go.ChangeShapes Go.WideShapes Go.ChangeAt Go.RowKit Go.Deep
section
variable{H:Type}{enc:au×ar->H}
end
end
section
open Go.RowKit
theorem U6(a:BitVec 32):IntKind.u32.wrap (-(bv a))=bv (-a):=by
 unfold bv;rw[mi,BitVec.toNat_neg];have:=a.isLt;omega
theorem Qc(a:BitVec 32):IntKind.u32.wrap (bv a*125613361)=bv (a*125613361#32):=by
 unfold bv;rw[mi,BitVec.toNat_mul]
 show((a.toNat:Int)*125613361)%4294967296=((a.toNat*125613361%4294967296:Nat):Int)
 omega
theorem Qb(a:BitVec 32):IntKind.u32.wrap (bv a-1)=bv (a-1#32):=by
 unfold bv;rw[mi,BitVec.toNat_sub];have:=a.isLt
 show((a.toNat:Int)-1)%4294967296=(((4294967296-1+a.toNat)%4294967296:Nat):Int)
 omega
attribute [local go_sem] U6 Qc Qb
end
section
open Go.RowKit
end
section
namespace Crc
def mask(s:R):R:=(s >>> 15 ||| s <<< 17)+2726488792#32
end Crc
open Go.RowKit
theorem Kc{n:Nat}(a:BitVec n):bv a/(32768:Int)=bv (a >>> 15):=uZ a 15 32768 rfl
theorem Kb{n:Nat}(a:BitVec n):bv a/(131072:Int)=bv (a >>> 17):=uZ a 17 131072 rfl
theorem Bs(a:BitVec 32):bv a*(32768:Int)%(4294967296:Int)=bv (a <<< 15):=by
 unfold bv;rw[aeo,ZC];show((a.toNat:Int)*32768)%4294967296=((a.toNat*32768%4294967296:Nat):Int);omega
theorem Br(a:BitVec 32):bv a*(131072:Int)%(4294967296:Int)=bv (a <<< 17):=by
 unfold bv;rw[aeo,ZC];show((a.toNat:Int)*131072)%4294967296=((a.toNat*131072%4294967296:Nat):Int);omega
theorem J7(a:BitVec 32):IntKind.u32.wrap (bv a*(32768:Int))=bv (a <<< 15):=by rw[mi,Bs]
theorem J6(a:BitVec 32):IntKind.u32.wrap (bv a*(131072:Int))=bv (a <<< 17):=by rw[mi,Br]
theorem un(a:BitVec 32):(bv a+2726488792)%4294967296=bv (a+2726488792#32):=by
 unfold bv;rw[BitVec.toNat_add];show((a.toNat:Int)+2726488792)%4294967296=(((a.toNat+2726488792)%4294967296:Nat):Int);omega
theorem um(a:BitVec 32):(bv a-2726488792)%4294967296=bv (a-2726488792#32):=by
 unfold bv;rw[BitVec.toNat_sub];have:=a.isLt
 show((a.toNat:Int)-2726488792)%4294967296=(((4294967296-2726488792+a.toNat)%4294967296:Nat):Int);omega
theorem Aq(a:BitVec 32):IntKind.u32.wrap (bv a+2726488792)=bv (a+2726488792#32):=by rw[mi,un]
theorem Ap(a:BitVec 32):IntKind.u32.wrap (bv a-2726488792)=bv (a-2726488792#32):=by rw[mi,um]
attribute [local go_sem] Kc Kb Bs Br J7 J6 un um Aq Ap
theorem N8:bits .and .u64 (IntKind.u64.wrap (-15)) 31=17:=by decide
theorem uj(c:BitVec 32){w:am}:
 aw ax 152 #[ay .u32 (bv c)] w λe w'=>e=aF (ay .u32 (bv (Crc.mask c)))/\w=w':=by
 have h:=N8
 have e:Crc.mask c=(c <<< 17 ||| c >>> 15)+2726488792#32:=by unfold Crc.mask;rw[BitVec.or_comm]
 rw[e];clear e
 go_in
 go_wp2
 go_ret
 exact⟨rfl,rfl⟩
end
section
theorem xn:∀{xs ys:List (BitVec 8)},xs.length=ys.length->nQ xs=nQ ys->xs=ys
 | [],[],_,_=>rfl
 | [],_::_,h,_=>by simp at h
 | _::_,[],h,_=>by simp at h
 | a::xs,b::ys,h,e=>by
  simp only[nQ]at e
  have d:=a.isLt
  have f:=b.isLt
  have c:a.toNat=b.toNat:=by omega
  rw[oL c,xn (xs:=xs) (ys:=ys) (by simpa using h) (by omega)]
theorem JO{xs:List (BitVec 8)}{k:Nat}(h:xs.length=k)(a:k<=8):cK (leB xs) k=xs:=by
 refine xn (by rw[dN,h]) ?_
 rw[o0,rg (by omega)]
 exact dD (h▸uN xs)
theorem vS(n:BitVec 32):nQ (cK (n.setWidth 64) 4)=n.toNat:=by
 have:=n.isLt
 rw[o0,gI]
 omega
theorem Ge(n:BitVec 64):nQ (cK n 8)=n.toNat:=by
 rw[o0]
 exact dD n.isLt
theorem yj{n:Nat}(h:n<4294967296):nQ (cK (BitVec.ofNat 64 n) 4)=n:=by
 rw[o0,fk]
 omega
theorem GI{xs:List (BitVec 8)}{c:BitVec 32}(a:xs.length=4)(h:nQ xs=c.toNat):cK (c.setWidth 64) 4=xs:=
 xn (by rw[dN,a]) (by rw[vS,h])
theorem JN{xs:List (BitVec 8)}{n:Nat}(a:xs.length=4)(h:nQ xs=n):cK (BitVec.ofNat 64 n) 4=xs:=by
 have:=uN xs
 rw[a]at this
 exact xn (by rw[dN,a]) (by rw[yj (by omega),h])
def iI(seed:BitVec 32)(lsn:BitVec 64)(a:List (BitVec 8)):BitVec 32:=
 Crc.sum (cK (seed.setWidth 64) 4++cK (BitVec.ofNat 64 a.length) 4++cK lsn 8++a)
def ij(seed:BitVec 32)(lsn:BitVec 64)(a:List (BitVec 8)):List (BitVec 8):=
 cK (BitVec.ofNat 64 a.length) 4++cK lsn 8++cK ((Crc.mask (iI seed lsn a)).setWidth 64) 4++a
theorem iK(seed:BitVec 32)(lsn:BitVec 64)(a:List (BitVec 8)):(ij seed lsn a).length=16+a.length:=by
 unfold ij;simp only[aN,dN]
structure Rd where
 lsn:BitVec 64
 data:List (BitVec 8)
 n:Nat
 sum:BitVec 32
 err:Nat
def Rd.bad(e:Nat):Rd:=⟨0#64,[],0,0#32,e⟩
def rF(seed:BitVec 32)(bs:List (BitVec 8)):Rd:=
 if bs.length<16 then .bad 2
 else if 4096<nQ (bs.take 4)then .bad 3
 else if ¬(1<=nQ ((bs.drop 4).take 8)/\nQ ((bs.drop 4).take 8)<=9223372036854775806)then .bad 4
 else if bs.length<16+nQ (bs.take 4)then .bad 2
 else if nQ ((bs.drop 12).take 4)≠(Crc.mask (iI seed (leB ((bs.drop 4).take 8)) ((bs.drop 16).take (nQ (bs.take 4))))).toNat then .bad 5
 else⟨leB ((bs.drop 4).take 8),(bs.drop 16).take (nQ (bs.take 4)),16+nQ (bs.take 4),iI seed (leB ((bs.drop 4).take 8)) ((bs.drop 16).take (nQ (bs.take 4))),0⟩
theorem FN{seed:BitVec 32}{lsn:BitVec 64}{a b:List (BitVec 8)}(n:a.length<=4096)(l:1<=lsn.toNat)(m:lsn.toNat<=9223372036854775806):
 rF seed (ij seed lsn a++b)=⟨lsn,a,16+a.length,iI seed lsn a,0⟩:=by
 obtain⟨B,e⟩:=bP (ij seed lsn a++b)
 have g:B=cK (BitVec.ofNat 64 a.length) 4++(cK lsn 8++(cK ((Crc.mask (iI seed lsn a)).setWidth 64) 4++(a++b))):=by
  rw[<-e];unfold ij;simp only[de]
 have o:B.length=16+a.length+b.length:=by rw[<-e,aN,iK]
 have k:B.take 4=cK (BitVec.ofNat 64 a.length) 4:=by rw[g,List.take_left' (dN _ _)]
 have f:B.drop 4=cK lsn 8++(cK ((Crc.mask (iI seed lsn a)).setWidth 64) 4++(a++b)):=by rw[g,List.drop_left' (dN _ _)]
 have c:B.drop 12=cK ((Crc.mask (iI seed lsn a)).setWidth 64) 4++(a++b):=by
  rw[show 12=4+8 from rfl,<-KT,f,List.drop_left' (dN _ _)]
 have d:B.drop 16=a++b:=by
  rw[show 16=12+4 from rfl,<-KT,c,List.drop_left' (dN _ _)]
 have h:nQ (B.take 4)=a.length:=by rw[k,yj (by omega)]
 have i:(B.drop 4).take 8=cK lsn 8:=by rw[f,List.take_left' (dN _ _)]
 have j:(B.drop 12).take 4=cK ((Crc.mask (iI seed lsn a)).setWidth 64) 4:=by rw[c,List.take_left' (dN _ _)]
 rw[e]
 unfold rF
 rw[h,i,j,Ge,Gf,vS,d,List.take_left]
 rw[bf (by omega),bf (by omega),bf (by omega),bf (by omega),bf (by simp)]
theorem agh{seed:BitVec 32}{bs:List (BitVec 8)}(h:(rF seed bs).err=0):
 1<=(rF seed bs).lsn.toNat/\(rF seed bs).lsn.toNat<=9223372036854775806/\(rF seed bs).data.length<=4096/\(rF seed bs).n=16+(rF seed bs).data.length/\(rF seed bs).n<=bs.length/\
  (rF seed bs).sum=iI seed (rF seed bs).lsn (rF seed bs).data/\ij seed (rF seed bs).lsn (rF seed bs).data=bs.take (rF seed bs).n:=by
 revert h
 unfold rF
 repeat' split
 all_goals first | (intro h;exact absurd h (by decide)) | skip
 rename_i k l c m d
 intro _
 have c:1<=nQ ((bs.drop 4).take 8)/\nQ ((bs.drop 4).take 8)<=9223372036854775806:=Decidable.not_not.1 c
 have d:=Decidable.not_not.1 d
 have i:((bs.drop 4).take 8).length=8:=by simp;omega
 have g:(bs.take 4).length=4:=by simp;omega
 have f:((bs.drop 12).take 4).length=4:=by simp;omega
 have j:((bs.drop 16).take (nQ (bs.take 4))).length=nQ (bs.take 4):=by simp;omega
 dsimp only
 refine⟨by rw[rg (by omega)];exact c.1,by rw[rg (by omega)];exact c.2,by omega,by omega,by omega,rfl,?_⟩
 unfold ij
 rw[j,JN g rfl,JO i (by decide),GI f d]
 have e:∀a b:Nat,bs.take (a+b)=bs.take a++(bs.drop a).take b:=λa b=>List.take_add
 rw[e 16,show(16:Nat)=12+4 from rfl,e 12 4,show(12:Nat)=4+8 from rfl,e 4 8]
def oy:List (BitVec 8):=[70#8,76#8,85#8,77#8,69#8,76#8,79#8,71#8]
def nR(a base:BitVec 64)(seed:BitVec 32):List (BitVec 8):=oy++cK a 8++cK base 8++cK (seed.setWidth 64) 4
def Gy(a base:BitVec 64)(seed:BitVec 32):List (BitVec 8):=nR a base seed++cK ((Crc.mask (Crc.sum (nR a base seed))).setWidth 64) 4
theorem Bw(a base:BitVec 64)(seed:BitVec 32):(nR a base seed).length=28:=by unfold nR oy;simp only[aN,dN];rfl
def okN(xs:List (BitVec 8)):Prop:=1<=nQ xs/\nQ xs<=9223372036854775807
instance (xs:List (BitVec 8)):Decidable (okN xs):=by unfold okN;exact inferInstance
end
section
open Go.RowKit
theorem wh(n:BitVec 64)(size:Nat){w:am}(E:size<=8):
 aw ax 180 #[ay .u64 (bv n),ay az size] w λe w'=>∃v,e=aF v/\cU w' w.heap.size v (cK n size)/\Below w.heap.size w w':=by
 obtain⟨A,o,s,q,r⟩:=sy Tryz.rk
 have z:∀u:am,(Instr.makeSlice 48 (ay az (size:Int)) (ay az (size:Int))).run ax u=
  .ok (aB (ag ⟨u.heap.size,0,ae⟩) size size) (u.alloc (aG (madeCells #[ay .u8 0] size) 5)):=λu=>by
  have h:=run_make (P:=ax) u 48 5 A (ay .u8 0) Tryz.underlying48 o s .i64 .i64 (size:Int) (size:Int) (by omega) (Q9 _) (by rw[r];omega) (by omega)
  simpa[q,Value.cells]using h
 have t:Hid (cU (w.alloc (aG (madeCells #[ay .u8 0] size) 5)) w.heap.size (aB (ag ⟨w.heap.size,0,ae⟩) size size) (List.replicate size 0#8)):=aH (by
  have h:=World.ownsRow_lit (base:=w.heap.size) (e:=5) (size:=1) w (madeCells #[ay .u8 0] size) size dx (by simp only[maxLen];omega) (by simp[madeCells])
  rw[toList_madeCells_one]at h
  unfold cU
  rw[dW,show gm (List.replicate size 0#8)=List.replicate size (ay .u8 0)from by simp[gm,G',bv]]
  exact h)
 clear o s q r
 go_in
 go_wp2_with fail
 go_loopw [11] (λi wr=>∃(k:Nat) (bs:List (BitVec 8)),k<=size/\i=ay az k/\Hid (cU wr w.heap.size (aB (ag ⟨w.heap.size,0,ae⟩) size size) bs)/\Hid (bs.length=size/\∀j,j<k->sh bs j=QJ n j)/\Below w.heap.size w wr) (λi _=>size-(intOf i).toNat)
 case atStart=>exact⟨0,_,by omega,rfl,t,aH ⟨by simp,λj c=>by omega⟩,aY _ _⟩
 case round=>
  obtain⟨k,bs,D,rfl,d,a,m⟩:=hrel
  have g:=aH m
  clear m
  by_cases l:k<size
  ·obtain⟨B,C⟩:=Sz d.out a.out.1 l
   have T:∀b:BitVec 8,cU (wr.setCell ⟨w.heap.size,k,ae⟩ (ay .u8 (bv b))) w.heap.size (aB (ag ⟨w.heap.size,0,ae⟩) size size) (bs.set k b):=λb=>by
    have h:=(World.ownsRow.stored (show wr.ownsRow w.heap.size 5 1 (aB (ag ⟨w.heap.size,0,ae⟩) size size) size (gm bs)by have:=d.out;unfold cU at this;rwa [a.out.1]at this) k (ay .u8 (bv b))).1
    unfold cU
    rw[fZ,a.out.1,show gm (bs.set k b)=(gm bs).set k (ay .u8 (bv b))from List.map_set (f:=G')]
    exact h
   have y:Hid ((bs.set k (QJ n k)).length=size/\∀j,j<k+1->sh (bs.set k (QJ n k)) j=QJ n j):=aH (by
    refine⟨by rw[fZ];exact a.out.1,λj c=>?_⟩
    by_cases e:k=j
    ·subst e
     unfold sh
     rw[fX,List.getElem?_set_self (by rw[a.out.1];exact l)];rfl
    ·have:=a.out.2 j (by omega)
     unfold sh at this ⊢
     rw[fX,List.getElem?_set_ne e,<-fX];exact this)
   go_wp2_with fail
   go_roundw
   case rel=>exact⟨k+1,_,by omega,by go_num,aH (T _),y,g.out.setCell (p:=⟨w.heap.size,k,ae⟩) dx _⟩
   case measure=>simp[intOf];omega
  ·obtain rfl:k=size:=by omega
   have x:Hid (bs=cK n k):=aH (wk a.out.1 (dN _ _) λj c=>by rw[a.out.2 j c,Bi _ _ _ c])
   go_wp2_with fail
   go_ret
   exact⟨_,rfl,x.out▸d.out,g.out⟩
theorem Ah(n:BitVec 64)(w:am):
 aw ax 150 #[ay .u64 (bv n)] w λe w'=>∃v,e=aF v/\cU w' w.heap.size v (cK n 8)/\Below w.heap.size w w':=by
 go_in
 go_wp2_with fail
 refine(wh n 8 (by omega)).mono ?_
 rintro e c ⟨v,rfl,a,b⟩
 have d:=aH (show cU c w.heap.size v (cK n 8)/\Below w.heap.size w c from⟨a,b⟩)
 clear a b
 go_wp2_with fail
 go_ret
 exact⟨_,rfl,d.out⟩
theorem jD(n:BitVec 32){w:am}:
 aw ax 151 #[ay .u32 (bv n)] w λe w'=>∃v,e=aF v/\cU w' w.heap.size v (cK (n.setWidth 64) 4)/\Below w.heap.size w w':=by
 go_in
 go_wp2_with fail
 refine(wh (n.setWidth 64) 4 (by omega)).mono ?_
 rintro e c ⟨v,rfl,a,b⟩
 have d:=aH (show cU c w.heap.size v (cK (n.setWidth 64) 4)/\Below w.heap.size w c from⟨a,b⟩)
 clear a b
 go_wp2_with fail
 go_ret
 exact⟨_,rfl,d.out⟩
end
section
open Go.RowKit
theorem agD(n:Nat)(h:n<4294967296):(n:Int)=bv (BitVec.ofNat 32 n):=(yX (n:=32) h).symm
theorem Ti(n:Nat)(h:n<4294967296):(BitVec.ofNat 32 n).setWidth 64=BitVec.ofNat 64 n:=by
 apply oL
 rw[gI,fk,fk]
 omega
theorem wj{x:Int}(n:Nat){w:am}(a:n<4294967296)(hx:x=n):
 aw ax 151 #[ay .u32 x] w λe w'=>∃v,e=aF v/\cU w' w.heap.size v (cK (BitVec.ofNat 64 n) 4)/\Below w.heap.size w w':=by
 subst hx
 rw[agD n a,<-Ti n a]
 exact jD _
theorem pU{x:Int}(n:BitVec 64){w:am}(hx:x=bv n):
 aw ax 150 #[ay .u64 x] w λe w'=>∃v,e=aF v/\cU w' w.heap.size v (cK n 8)/\Below w.heap.size w w':=by
 subst hx;exact Ah n w
theorem yW{v:ar}{base:Nat}{bs:List (BitVec 8)}{w:am}(f:cU w base v bs)(d:bs.length<=140737488351232):
 aw ax 139 #[v] w λe w'=>e=aF (ay .u32 (bv (Crc.sum bs)))/\Below w.heap.size w w':=by
 obtain⟨b,a,rfl,c,-,-,-,-⟩:=f.slice
 exact Mr b bs a w c d
theorem s'(seed:BitVec 32)(lsn:BitVec 64)(k:Option Addr)(a:List (BitVec 8))(h:Nat){w:am}(b:cD w k a)(D:k=ae->h=0)(Y:a.length<=4096):
 aw ax 177 #[ay .u32 (bv seed),ay az (bv lsn),aB k a.length h] w λe w'=>e=aF (ay .u32 (bv (iI seed lsn a)))/\Below w.heap.size w w':=by
 have M:=aH b
 have N:=aH D
 have B:∀n,(cK n 4).length=4:=λn=>dN n 4
 have C:∀n,(cK n 8).length=8:=λn=>dN n 8
 have c:=aH B
 have p:=aH C
 clear b D B C
 go_in
 go_wp2_with fail
 refine(jD seed).mono ?_
 rintro e w1 ⟨Z,rfl,d,b⟩
 have x:=aH d
 have I:=aH b
 clear d b
 go_wp2_with fail
 refine(wj a.length (by omega) (by first | rfl | simp)).mono ?_
 rintro e w2 ⟨v2,rfl,d,b⟩
 obtain⟨P,S,rfl,G,E,-,-,-⟩:=d.slice
 have z:=aH G
 have t:=aH E
 have q:=aH (x.out.dV b)
 have l:=aH (aM I.out b)
 clear d b G E x
 go_wp2_with (refine cI (o:=⟨ag 14,_,_,_,_,_⟩) rfl rfl w.heap.size _ (cK (seed.setWidth 64) 4) rfl q.out P _ S (cK (BitVec.ofNat 64 a.length) 4) rfl rfl z.out t.out (by rw[c.out,c.out];omega) l.out.size ?_)
 intro v3 w3 g f i
 have J:=aH (l.out.trans (q.out.below f dx l.out.size))
 have y:=aH g
 clear g f i q z t
 go_wp2_with fail
 refine(pU lsn (by first | rfl | simp)).mono ?_
 rintro e w4 ⟨v4,rfl,d,b⟩
 obtain⟨Q,T,rfl,H,F,-,-,-⟩:=d.slice
 have A:=aH H
 have u:=aH F
 have r:=aH (y.out.dV b)
 have m:=aH (aM J.out b)
 clear d b H F y
 go_wp2_with (refine cI (o:=⟨ag 19,_,_,_,_,_⟩) rfl rfl w.heap.size _ (cK (seed.setWidth 64) 4++cK (BitVec.ofNat 64 a.length) 4) rfl r.out Q _ T (cK lsn 8) rfl rfl A.out u.out (by rw[aN,c.out,c.out,p.out];omega) m.out.size ?_)
 intro U W g f i
 have j:=aH (m.out.trans (r.out.below f dx m.out.size))
 have s:=aH (show cU W w.heap.size U (cK (seed.setWidth 64) 4++cK (BitVec.ofNat 64 a.length) 4++cK lsn 8)from by simpa only[de]using g)
 clear g f i r A u
 go_wp2_with (refine cI (o:=⟨ag 22,_,_,_,_,_⟩) rfl rfl w.heap.size _ (cK (seed.setWidth 64) 4++cK (BitVec.ofNat 64 a.length) 4++cK lsn 8) rfl s.out k _ h a rfl rfl (M.out.below j.out) N.out (by rw[aN,aN,c.out,c.out,p.out];omega) j.out.size ?_)
 intro V X g f i
 have K:=aH (j.out.trans (s.out.below f dx j.out.size))
 have O:=aH (show cU X w.heap.size V (cK (seed.setWidth 64) 4++cK (BitVec.ofNat 64 a.length) 4++cK lsn 8++a)from by simpa only[de]using g)
 clear g f i s
 go_wp2_with fail
 refine(yW O.out (by rw[aN,aN,aN,c.out,c.out,p.out];omega)).mono ?_
 rintro e w7 ⟨rfl,b⟩
 have L:=aH (aM K.out b)
 clear b
 go_wp2_with fail
 go_ret
 exact⟨rfl,L.out⟩
def wF(seed:BitVec 32)(lsn:Int)(a:List (BitVec 8)):List (BitVec 8)×BitVec 32×Nat:=
 if lsn<1\/9223372036854775806<lsn then([],0#32,1)else if 4096<a.length then([],0#32,3)else(ij seed (BitVec.ofInt 64 lsn) a,iI seed (BitVec.ofInt 64 lsn) a,0)
def zq(w:am)(bytes:List (BitVec 8))(sum:BitVec 32)(a:Nat)(e:Ending)(w':am):Prop:=
 ∃v,e=aF (.tuple #[v,ay .u32 (bv sum),ay az a])/\cU w' w.heap.size v bytes/\Below w.heap.size w w'
theorem Jq{lsn:Int}(a:0<=lsn)(b:lsn<=9223372036854775807):bv (BitVec.ofInt 64 lsn)=lsn:=by
 unfold bv
 rw[BitVec.toNat_ofInt]
 have:((2^64:Nat):Int)=18446744073709551616:=rfl
 omega
theorem yL(seed:BitVec 32)(lsn:BitVec 64)(i:Option Addr)(a:List (BitVec 8))(c:Nat)(w:am)(b:cD w i a)(G:i=ae->c=0)(U:a.length<=4096)(h1:¬ bv lsn<1)(h2:¬ 9223372036854775806<bv lsn):
 aw ax 306 #[ay .u32 (bv seed),ay az (bv lsn),aB i a.length c] w (zq w (ij seed lsn a) (iI seed lsn a) 0):=by
 have u:=aH b
 have x:=aH G
 have E:∀n,(cK n 4).length=4:=λn=>dN n 4
 have F:∀n,(cK n 8).length=8:=λn=>dN n 8
 have h:=aH E
 have p:=aH F
 have V:¬ 4096<(a.length:Int):=by omega
 clear b G E F
 go_in
 go_wp2_with fail
 refine(s' seed lsn i a c u.out x.out U).mono ?_
 rintro e w1 ⟨rfl,b⟩
 have t:=aH b
 clear b
 go_wp2_with fail
 refine(wj a.length (by omega) (by first | rfl | simp)).mono ?_
 rintro e w2 ⟨v2,rfl,d,b⟩
 have L:=aH (aM t.out b)
 have A:=aH (d.base t.out.size)
 clear d b
 go_wp2_with fail
 refine(pU lsn (by first | rfl | simp)).mono ?_
 rintro e w4 ⟨v4,rfl,d,b⟩
 obtain⟨P,S,rfl,J,H,-,-,-⟩:=d.slice
 have C:=aH J
 have y:=aH H
 have q:=aH (A.out.dV b)
 have l:=aH (aM L.out b)
 clear d b J H A
 go_wp2_with (refine cI (o:=⟨ag 33,_,_,_,_,_⟩) rfl rfl w.heap.size _ (cK (BitVec.ofNat 64 a.length) 4) rfl q.out P _ S (cK lsn 8) rfl rfl C.out y.out (by rw[h.out,p.out];omega) l.out.size ?_)
 intro v5 w5 g f j
 have M:=aH (l.out.trans (q.out.below f dx l.out.size))
 have B:=aH g
 clear g f j q C y
 go_wp2_with fail
 refine(uj (iI seed lsn a)).mono ?_
 rintro e w6 ⟨rfl,rfl⟩
 go_wp2_with fail
 refine(jD (Crc.mask (iI seed lsn a))).mono ?_
 rintro e w7 ⟨v7,rfl,d,b⟩
 obtain⟨Q,T,rfl,K,I,-,-,-⟩:=d.slice
 have D:=aH K
 have z:=aH I
 have r:=aH (B.out.dV b)
 have m:=aH (aM M.out b)
 clear d b K I B
 go_wp2_with (refine cI (o:=⟨ag 38,_,_,_,_,_⟩) rfl rfl w.heap.size _ (cK (BitVec.ofNat 64 a.length) 4++cK lsn 8) rfl r.out Q _ T (cK ((Crc.mask (iI seed lsn a)).setWidth 64) 4) rfl rfl D.out z.out (by rw[aN,h.out,p.out,h.out];omega) m.out.size ?_)
 intro W Y g f j
 have k:=aH (m.out.trans (r.out.below f dx m.out.size))
 have s:=aH (show cU Y w.heap.size W (cK (BitVec.ofNat 64 a.length) 4++cK lsn 8++cK ((Crc.mask (iI seed lsn a)).setWidth 64) 4)from by simpa only[de]using g)
 clear g f j r D z
 go_wp2_with (refine cI (o:=⟨ag 41,_,_,_,_,_⟩) rfl rfl w.heap.size _ (cK (BitVec.ofNat 64 a.length) 4++cK lsn 8++cK ((Crc.mask (iI seed lsn a)).setWidth 64) 4) rfl s.out i _ c a rfl rfl (u.out.below k.out) x.out (by rw[aN,aN,h.out,p.out,h.out];omega) k.out.size ?_)
 intro X Z g f j
 have N:=aH (k.out.trans (s.out.below f dx k.out.size))
 have O:=aH (show cU Z w.heap.size X (ij seed lsn a)from by unfold ij;simpa only[de]using g)
 clear g f j s
 go_wp2_with fail
 go_ret3
 exact⟨_,rfl,O.out,N.out⟩
theorem GD(seed:BitVec 32)(lsn:Int)(i:Option Addr)(a:List (BitVec 8))(b:Nat)(w:am)(j:cD w i a)(k:i=ae->b=0)(q:-9223372036854775808<=lsn/\lsn<=9223372036854775807)(m:a.length<=140737488355328)
 (bytes:List (BitVec 8)) (sum:BitVec 32) (g:Nat) (h:wF seed lsn a=(bytes,sum,g)):
 aw ax 306 #[ay .u32 (bv seed),ay az lsn,aB i a.length b] w (zq w bytes sum g):=by
 by_cases n:lsn<1
 ·unfold wF at h
  rw[bj (.inl n)]at h
  injection h with c h;injection h with f d
  subst c f d
  clear j k m
  go_in
  go_wp2_with fail
  go_ret3
  exact⟨_,rfl,cU.nil _ _,cX _ _⟩
 by_cases o:9223372036854775806<lsn
 ·unfold wF at h
  rw[bj (.inr o)]at h
  injection h with c h;injection h with f d
  subst c f d
  clear j k m
  go_in
  go_wp2_with fail
  go_ret3
  exact⟨_,rfl,cU.nil _ _,cX _ _⟩
 by_cases f:4096<a.length
 ·unfold wF at h
  rw[bf (by omega),bj f]at h
  injection h with c h;injection h with l d
  subst c l d
  have p:4096<(a.length:Int):=by omega
  clear j k m
  go_in
  go_wp2_with fail
  go_ret3
  exact⟨_,rfl,cU.nil _ _,cX _ _⟩
 ·unfold wF at h
  rw[bf (by omega),bf f]at h
  injection h with c h;injection h with l d
  subst c l d
  have e:=Jq (lsn:=lsn) (by omega) (by omega)
  have:=yL seed (BitVec.ofInt 64 lsn) i a b w j k (by omega) (by rw[e];exact n) (by rw[e];exact o)
  rwa [e]at this
end
section
open Go.ChangeShapes Go.WideShapes Go.ChangeAt Go.RowKit Go.Deep
structure aoB where
 lsn:Int
 data:List (BitVec 8)
instance:Inhabited aoB:=⟨⟨0,[]⟩⟩
structure Ns where
 num:Int
 base:Int
 seed:BitVec 32
def aaF(h:Ns):ar:=.agg #[ay az h.num,ay az h.base,ay .u32 (bv h.seed)]
def adW(h:Ns):Prop:=(-9223372036854775808<=h.num/\h.num<=9223372036854775807)/\(-9223372036854775808<=h.base/\h.base<=9223372036854775807)
section
variable{H:Type}{enc:au×ar->H}
end
end
section
open Go.ChangeShapes Go.WideShapes Go.ChangeAt Go.RowKit Go.Deep
section
variable{H:Type}{enc:au×ar->H}
end
end
section
open Go.RowKit
def wH(h:Ns):List (BitVec 8)×BitVec 32×Nat:=
 if h.num<1\/h.base<1 then([],0#32,1)else(Gy (BitVec.ofInt 64 h.num) (BitVec.ofInt 64 h.base) h.seed,Crc.sum (nR (BitVec.ofInt 64 h.num) (BitVec.ofInt 64 h.base) h.seed),0)
structure p6(w w':am)(num base:Int)(seed:BitVec 32):Prop where
 c0:w'.cell? ⟨w.heap.size,0,ae⟩=ag (ay az num)
 c1:w'.cell? ⟨w.heap.size,1,ae⟩=ag (ay az base)
 c2:w'.cell? ⟨w.heap.size,2,ae⟩=ag (ay .u32 (bv seed))
 below:Below w.heap.size w w'
 size:w.heap.size+1<=w'.heap.size
theorem vW(w:am)(a base:Int)(seed:BitVec 32):p6 w (w.alloc (aG #[ay az a,ay az base,ay .u32 (bv seed)] 213)) a base seed:=by
 have b:=bp w (aG #[ay az a,ay az base,ay .u32 (bv seed)] 213)
 refine⟨aZ 0 b,aZ 1 b,aZ 2 b,aY _ _,?_⟩
 show _<=(w.heap.push _).size
 rw[afa];omega
theorem p6.on{w c d:am}{b base:Int}{seed:BitVec 32}(h:p6 w c b base seed)(a:Below c.heap.size c d):p6 w d b base seed:=
 ⟨bL a h.c0,bL a h.c1,bL a h.c2,aM h.below a,by have:=h.size;have:=a.size;omega⟩
theorem p6.grown{w c f:am}{a base:Int}{seed:BitVec 32}{v:ar}{xs:List (BitVec 8)}(h:p6 w c a base seed)(d:cU c (w.heap.size+1) v xs)(e:c.grownBy f v.ownBlock):p6 w f a base seed:=by
 have b:=d.below e dx h.size
 exact⟨(b.cell (p:=⟨w.heap.size,0,ae⟩) (gX _)).trans h.c0,(b.cell (p:=⟨w.heap.size,1,ae⟩) (gX _)).trans h.c1,(b.cell (p:=⟨w.heap.size,2,ae⟩) (gX _)).trans h.c2,h.below.trans (d.below e (Nat.le_succ _) (by have:=h.size;omega)),by have:=h.size;have:=b.size;omega⟩
def acs:Array ar:=#[ay .u8 70,ay .u8 76,ay .u8 85,ay .u8 77,ay .u8 69,ay .u8 76,ay .u8 79,ay .u8 71]
def Jp(w:am):am:=w.alloc (.cells acs 5 (8,9))
theorem Tc(w:am):cD (Jp w) (ag ⟨w.heap.size,0,ae⟩) oy:=λi a=>⟨w.heap.size,0,rfl,by
 rw[cL]
 show(w.alloc _).cell? _=_
 rw[aZ _ (bp w _)]
 have h:i<8:=a
 match i,h with
 | 0,_=>rfl
 | 1,_=>rfl
 | 2,_=>rfl
 | 3,_=>rfl
 | 4,_=>rfl
 | 5,_=>rfl
 | 6,_=>rfl
 | 7,_=>rfl⟩
theorem Gc{w:am}:Below w.heap.size w (Jp w):=aY _ _
theorem Jo(w:am)(g:Nat)(a:g=w.heap.size):(convert 48 48 (aB (ag ⟨g,0,ae⟩) 8 8)).run ax (w.alloc (aG #[ay .u8 70,ay .u8 76,ay .u8 85,ay .u8 77,ay .u8 69,ay .u8 76,ay .u8 79,ay .u8 71] 5))=.ok (aB (ag ⟨g,0,ae⟩) 8 8) (Jp w):=
 a▸Lib.run_convert_bytes_const (P:=ax) w 48 5 #[ay .u8 70,ay .u8 76,ay .u8 85,ay .u8 77,ay .u8 69,ay .u8 76,ay .u8 79,ay .u8 71] 8 8 Tryz.underlying48 Tryz.underlying5
theorem zQ(a base:BitVec 64)(seed:BitVec 32)(w:am)(h1:¬ bv a<1)(h2:¬ bv base<1):
 aw ax 115 #[.agg #[ay az (bv a),ay az (bv base),ay .u32 (bv seed)]] w (zq w (Gy a base seed) (Crc.sum (nR a base seed)) 0):=by
 have W:∀n,(cK n 4).length=4:=λn=>dN n 4
 have X:∀n,(cK n 8).length=8:=λn=>dN n 8
 have D:=aH W
 have g:=aH X
 have h:Hid (oy.length=8):=aH rfl
 have r:=aH (vW w (bv a) (bv base) seed)
 clear W X
 obtain⟨C,p⟩:=bP (w.alloc (aG #[ay az (bv a),ay az (bv base),ay .u32 (bv seed)] 213))
 rw[p]at r
 have kc:=Jo C C.heap.size rfl
 have M:=aH (r.out.on (Gc))
 have F:=aH (Tc C)
 have c0:=r.out.c0
 have c1:=r.out.c1
 have l:=M.out.c0
 go_in
 go_wp2_with fail
 refine(pU a (by first | rfl | simp)).mono ?_
 rintro e w2 ⟨v2,rfl,c,b⟩
 obtain⟨a2,c2,rfl,x2,n2,-,-,-⟩:=c.slice
 have T:=aH x2
 have N:=aH (M.out.on b)
 have E:=aH (F.out.below b)
 clear c b x2 n2 l c0 c1
 go_wp2_with (refine mN (o:=⟨ag 21,_,_,_,_,_⟩) rfl rfl (w.heap.size+1) _ oy _ 8 rfl h.out.symm E.out a2 _ c2 (cK a 8) rfl rfl T.out (by rw[h.out,g.out];omega) (by rw[g.out];omega) (by rw[h.out,g.out];omega) N.out.size ?_)
 intro v3 w3 f d
 have I:=aH (show cU w3 (w.heap.size+1) v3 (oy++cK a 8)from f)
 have O:=aH (N.out.on ((cU.nil w2 w2.heap.size).below d dx dx))
 clear f d E T F kc p
 have l:=O.out.c1
 go_wp2_with fail
 refine(pU base (by first | rfl | simp)).mono ?_
 rintro e w4 ⟨v4,rfl,c,b⟩
 obtain⟨a4,c4,rfl,x4,Y,-,-,-⟩:=c.slice
 have U:=aH x4
 have G:=aH Y
 have t:=aH (I.out.dV b)
 have P:=aH (O.out.on b)
 clear c b x4 Y I l
 go_wp2_with (refine cI (o:=⟨ag 27,_,_,_,_,_⟩) rfl rfl (w.heap.size+1) _ (oy++cK a 8) rfl t.out a4 _ c4 (cK base 8) rfl rfl U.out G.out (by rw[aN,h.out,g.out,g.out];omega) P.out.size ?_)
 intro v5 w5 f d m
 have J:=aH (show cU w5 (w.heap.size+1) v5 (oy++cK a 8++cK base 8)from by simpa only[de]using f)
 have Q:=aH (P.out.grown t.out d)
 clear f d m t U G
 have l:=Q.out.c2
 go_wp2_with fail
 refine(jD seed).mono ?_
 rintro e w6 ⟨v6,rfl,c,b⟩
 obtain⟨a6,c6,rfl,x6,Z,-,-,-⟩:=c.slice
 have V:=aH x6
 have H:=aH Z
 have u:=aH (J.out.dV b)
 have S:=aH (Q.out.on b)
 clear c b x6 Z J l
 go_wp2_with (refine cI (o:=⟨ag 32,_,_,_,_,_⟩) rfl rfl (w.heap.size+1) _ (oy++cK a 8++cK base 8) rfl u.out a6 _ c6 (cK (seed.setWidth 64) 4) rfl rfl V.out H.out (by rw[aN,aN,h.out,g.out,g.out,D.out];omega) S.out.size ?_)
 intro v7 w7 f d m
 have x:=aH (show cU w7 (w.heap.size+1) v7 (nR a base seed)from by unfold nR;simpa only[de]using f)
 have X7:=aH (S.out.grown u.out d)
 clear f d m u V H
 go_wp2_with fail
 refine(yW x.out (by rw[Bw];omega)).mono ?_
 rintro e w8 ⟨rfl,b⟩
 have K:=aH (x.out.dV b)
 have X8:=aH (X7.out.on b)
 clear b x
 go_wp2_with fail
 refine(uj (Crc.sum (nR a base seed))).mono ?_
 rintro e w9 ⟨rfl,rfl⟩
 go_wp2_with fail
 refine(jD (Crc.mask (Crc.sum (nR a base seed)))).mono ?_
 rintro e NJ ⟨aa,rfl,c,b⟩
 obtain⟨Kw,nt,rfl,L,q,-,-,-⟩:=c.slice
 have k:=aH L
 have i:=aH q
 have z:=aH (K.out.dV b)
 have j:=aH (X8.out.on b)
 clear c b L q K
 go_wp2_with (refine cI (o:=⟨ag 39,_,_,_,_,_⟩) rfl rfl (w.heap.size+1) _ (nR a base seed) rfl z.out Kw _ nt (cK ((Crc.mask (Crc.sum (nR a base seed))).setWidth 64) 4) rfl rfl k.out i.out (by rw[Bw,D.out];omega) j.out.size ?_)
 intro A B f d m
 have s:=aH (show cU B w.heap.size A (Gy a base seed)from f.base (Nat.le_succ _))
 have y:=aH (j.out.grown z.out d)
 clear f d m z k i
 go_wp2_with fail
 go_ret3
 exact⟨_,rfl,s.out,y.out.below⟩
theorem IH(h:Ns)(n:adW h)(w:am){bytes:List (BitVec 8)}{sum:BitVec 32}{c:Nat}(a:wH h=(bytes,sum,c)):
 aw ax 115 #[aaF h] w (zq w bytes sum c):=by
 obtain⟨b,base,seed⟩:=h
 obtain⟨o,p⟩:=n
 dsimp only at o p
 unfold aaF
 dsimp only
 have f:=aH (vW w b base seed)
 have q:=f.out.c0
 have r:=f.out.c1
 by_cases k:b<1
 ·unfold wH at a
  rw[bj (.inl k)]at a
  injection a with d a;injection a with g e
  subst d g e
  go_in
  go_wp2_with fail
  go_ret3
  exact⟨_,rfl,cU.nil _ _,f.out.below⟩
 by_cases l:base<1
 ·unfold wH at a
  rw[bj (.inr l)]at a
  injection a with d a;injection a with g e
  subst d g e
  go_in
  go_wp2_with fail
  go_ret3
  exact⟨_,rfl,cU.nil _ _,f.out.below⟩
 ·unfold wH at a
  rw[bf (by simp only;omega)]at a
  injection a with d a;injection a with m e
  subst d m e
  have i:=Jq (lsn:=b) (by omega) (by omega)
  have j:=Jq (lsn:=base) (by omega) (by omega)
  have:=zQ (BitVec.ofInt 64 b) (BitVec.ofInt 64 base) seed w (by rw[i];exact k) (by rw[j];exact l)
  rwa [i,j]at this
end
end Go.Proofs.YtooinenkenobaaaGreat

/- A part of the proof of what LawWholeReaders says. -/
import Derived.Test.YtooinenkenobaaaGreatAa
import Derived.Test.YtooinenkenobaaaGreatChecked
import Derived.Test.YtooinenkenobaaaGreatBa
import Derived.Test.YtooinenkenobaaaGreatBc
import Derived.Test.YtooinenkenobaaaGreatBb
set_option maxRecDepth 100000
set_option maxHeartbeats 20000000
namespace Go.Proofs.YtooinenkenobaaaGreat
open Option renaming none->ae,some->ag
open Bool renaming false->ah,true->aj
open Go.Proofs.Tryz renaming prog->ax
open Go.Value renaming int->ay,pointer->aA,slice->aB,bool->aC,float->aD
open Go.IntKind renaming i64->az
open Go.FloatKind renaming f64->aE
open Go.Ending renaming returned->aF
open Go.Obj renaming cells->aG
open Go renaming World->am,Value->ar,TypeId->au,Calls->aw
section
open Go.RowKit
theorem Zd{x:BitVec 32}(h:(x &&& 1#32==1#32)=aj):(x >>> 1) ^^^ 2197175160#32=Crc.bit x:=by unfold Crc.bit;rw[bj h]
theorem adl{x:BitVec 32}(h:(x &&& 1#32==1#32)=ah):x >>> 1=Crc.bit x:=by unfold Crc.bit;rw[bf (by simp[h])]
theorem GV(c:BitVec 32)(w:am):
 aw ax 185 #[ay .u32 (bv c)] w λe w'=>e=aF (ay .u32 (bv (Crc.step c)))/\w=w':=by
 go_in
 go_wp2
 go_loop [0,3,4] (λb _ k=>∃j:Nat,j<=8/\k=ay az j/\b=ay .u32 (bv (Crc.pu j c))) (λ_ _ k=>8-(intOf k).toNat)
 case atStart=>exact⟨0,by omega,rfl,rfl⟩
 case round=>
  obtain⟨j,d,rfl,rfl⟩:=hrel
  have a:=aH (Crc.Kj j c)
  go_wp2
  ·go_round
   case rel=>
    refine⟨j+1,by omega,by go_num,?_⟩
    rw[a.out,Zd (by assumption)]
   case measure=>simp[intOf];omega
  ·go_round
   case rel=>
    refine⟨j+1,by omega,by go_num,?_⟩
    rw[a.out,adl (by assumption)]
   case measure=>simp[intOf];omega
  ·go_ret
   obtain rfl:j=8:=by omega
   exact⟨rfl,rfl⟩
theorem GU{n:Int}{c:BitVec 32}{w:am}(h:n=bv c):
 aw ax 185 #[ay .u32 n] w λe w'=>e=aF (ay .u32 (bv (Crc.step c)))/\w=w':=by
 subst h;exact GV c w
end
section
open Go.RowKit
def gQ:Array ar:=(List.replicate 256 (ay .u32 0)).toArray
theorem sC:gQ.size=256:=by unfold gQ;rw[iq,dW]
theorem xC(w:am):(zeroValue 361).run ax w=.ok (.agg gQ) w:=by kernel_rfl
def xI(i:Nat):ar:=ay .u32 (bv (Crc.step (BitVec.ofNat 32 i)))
def zT:List ar:=(List.range 256).map xI
theorem pG:zT.length=256:=by simp[zT]
theorem Fg:zT.toArray.size=256:=pG
theorem K'{i:Nat}(h:i<256):zT[i]?=ag (xI i):=by simp[zT,h]
theorem K9:∀v∈zT,v.oneCell'=aj:=by
 intro v a
 obtain⟨i,_,rfl⟩:=qG.1 a
 rfl
theorem tL:(Tryz.prog.info? 361).map (·.size)=ag zT.length:=by rw[pG];kernel_rfl
def pY(w wr:am)(k:Nat):Prop:=
 Below w.heap.size w wr/\wr.there w.heap.size 0 256/\wr.there (w.heap.size+1) 0 256/\w.heap.size+1<wr.heap.size/\∀i,i<k->wr.cell? ⟨w.heap.size+1,i,ae⟩=ag (xI i)
theorem pY.start(w:am):pY w ((w.alloc (.cells gQ 361)).alloc (.cells gQ 361)) 0:=by
 have b:=rM w gQ 361
 have a:=rM (w.alloc (.cells gQ 361)) gQ 361
 rw[sC]at b a
 rw[show(w.alloc (.cells gQ 361)).heap.size=w.heap.size+1 from by simp]at a
 exact⟨((cX _ _).alloc dx _).alloc (by simp) _,World.there_alloc b _,a,by simp,λi c=>by omega⟩
theorem pY.next{w wr:am}{k:Nat}(h:pY w wr k)(g:k<256):pY w (wr.setCell ⟨w.heap.size+1,k,ae⟩ (xI k)) (k+1):=by
 obtain⟨d,c,a,j,f⟩:=h
 refine⟨d.setCell (by simp) _,nY c,nY a,by simpa[World.setCell]using j,λi l=>?_⟩
 by_cases e:i=k
 ·subst e
  obtain⟨u,b⟩:=sq.1 (a i g).1
  rw[cL]at b
  exact dE _ _ _ b
 ·rw[dI _ _ _ _ (by intro h;injection h;omega)]
  exact f i (by omega)
theorem PT{w:am}:
 aw ax 186 #[] w λe w'=>e=aF (.agg zT.toArray)/\Below w.heap.size w w':=by
 have t:=xC
 go_in
 go_wp2_with fail
 clear t
 go_loopw [3] (λi wr=>∃k:Nat,k<=256/\i=ay az k/\pY w wr k) (λi _=>256-(intOf i).toNat)
 case atStart=>exact⟨0,by omega,rfl,pY.start w⟩
 case round=>
  obtain⟨k,z,rfl,a⟩:=hrel
  by_cases b:k<256
  ·obtain⟨u,s⟩:=sq.1 (a.2.2.1 k b).1
   have o:=(a.2.2.1 k b).2
   rw[cL]at s o
   have l:=aH (yX (n:=32) (k:=k) (by omega))
   have h:=aH a
   clear a
   go_wp2_with fail
   refine(GU l.out.symm).mono ?_
   rintro e w' ⟨rfl,rfl⟩
   go_wp2_with fail
   go_roundw
   case rel=>exact⟨k+1,by omega,by go_num,h.out.next b⟩
   case measure=>simp[intOf];omega
  ·obtain rfl:k=256:=by omega
   obtain⟨m,c,y,A,d⟩:=a
   have x:=aH d
   clear d
   have q:wr.rangeAt (w.heap.size+1) 0 zT:=λj v g=>by
    have f:j<256:=by have:=(aK.1 g).1;rwa [pG]at this
    rw[cL,x.out j f,<-K' f];exact g
   have r:wr.there w.heap.size 0 zT.toArray.size:=by rw[Fg];exact c
   have p:(Tryz.prog.info? 361).map (·.size)=ag zT.toArray.size:=tL
   go_wp2_with (first
    | refine wpList_load_mid rfl 361 _ rfl (w.heap.size+1) 0 rfl zT _ q Tryz.underlying361 rfl tL ?_
    | refine wpList_store_mid rfl 361 _ _ rfl w.heap.size 0 zT.toArray rfl rfl r p (all_oneCell_toArray K9) ?_)
   refine bn (uJ rfl w.heap.size 0 zT rfl ?_ Tryz.underlying361 rfl tL) rfl ⟨rfl,?_⟩
   ·exact World.rangeAt_setCells_same wr _ _ _ (by rw[pG];exact c)
   ·exact mY _ _ _ _ dx m
end
section
open Go.RowKit
theorem NP(bs:List (BitVec 8))(k:Nat)(h:k<bs.length):bs.take (k+1)=bs.take k++[sh bs k]:=by
 rw[rW h,List.take_succ_eq_append_getElem h]
theorem Fz(c:BitVec 32)(bs:List (BitVec 8))(k:Nat)(h:k<bs.length):Crc.Ol c (bs.take (k+1))=Crc.step (Crc.Ol c (bs.take k) ^^^ (sh bs k).setWidth 32):=by
 rw[NP bs k h,Crc.Se]
theorem Dj(s:BitVec 32)(d:Option Addr)(bs:List (BitVec 8))(a:Nat)(w:am)(g:cD w d bs)(o:bs.length<32):
 aw ax 170 #[ay .u32 (bv s),aB d bs.length a] w λe w'=>e=aF (ay .u32 (bv (Crc.more s bs)))/\w=w':=by
 have l:decide ((bs.length:Int)<32)=aj:=by simp;omega
 go_in
 go_wp2_with fail
 go_loop [5,18] (λc i=>∃k:Nat,k<=bs.length/\i=ay az k/\c=ay .u32 (bv (Crc.Ol (s ^^^ 4294967295#32) (bs.take k)))) (λ_ i=>bs.length-(intOf i).toNat)
 case atStart=>exact⟨0,by omega,rfl,rfl⟩
 case round=>
  obtain⟨k,n,rfl,rfl⟩:=hrel
  by_cases f:k<bs.length
  ·obtain⟨b,j,rfl,m⟩:=g k f
   have h:=aH (Fz (s ^^^ 4294967295#32) bs k f)
   go_wp2_with fail
   refine(GV _ _).mono ?_
   rintro e w' ⟨rfl,rfl⟩
   go_wp2_with fail
   go_round
   case rel=>exact⟨k+1,by omega,by go_num,by rw[h.out]⟩
   case measure=>simp[intOf];omega
  ·obtain rfl:k=bs.length:=by omega
   go_wp2_with fail
   go_ret
   exact⟨rfl,rfl⟩
def aid(w:am)(b:Nat):Prop:=∀i,i<256->w.cell? ⟨b,i,ae⟩=ag (xI i)
theorem Rz(c:BitVec 32)(x:BitVec 8):Crc.step (BitVec.ofNat 32 (ix (c.setWidth 8 ^^^ x))) ^^^ c >>> 8=Crc.step (c ^^^ x.setWidth 32):=by
 rw[Crc.NU]
 congr 2
 apply oL
 unfold ix
 rw[fk,gI]
theorem Am(s:BitVec 32)(l:Option Addr)(bs:List (BitVec 8))(h:Nat)(w:am)(q:cD w l bs)(C:32<=bs.length)(D:bs.length<=140737488351232):
 aw ax 170 #[ay .u32 (bv s),aB l bs.length h] w λe w'=>e=aF (ay .u32 (bv (Crc.more s bs)))/\Below w.heap.size w w':=by
 have z:decide ((bs.length:Int)<32)=ah:=by simp;omega
 have x:=xC
 have f:(Tryz.prog.info? 361).map (·.size)=ag zT.toArray.size:=tL
 go_in
 go_wp2_with fail
 refine(PT).mono ?_
 rintro e a ⟨rfl,g⟩
 have d:(a.alloc (.cells gQ 361)).there a.heap.size 0 zT.toArray.size:=by
  have p:=rM a gQ 361
  rw[Fg,<-sC];exact p
 have j:Hid (Below w.heap.size w ((a.alloc (.cells gQ 361)).setCells a.heap.size 0 zT.toArray.toList)):=
  mY _ _ _ _ g.size (g.alloc g.size _)
 have n:Hid (aid ((a.alloc (.cells gQ 361)).setCells a.heap.size 0 zT.toArray.toList) a.heap.size):=by
  intro i f
  have t:=World.rangeAt_setCells_same (a.alloc (.cells gQ 361)) a.heap.size 0 zT d i (xI i) (K' f)
  rwa [cL]at t
 go_wp2_with (refine wpList_store_mid (op:=⟨ae,_,_,_,_,_⟩) rfl 361 _ _ rfl a.heap.size 0 zT.toArray rfl rfl d f (all_oneCell_toArray K9) ?_)
 generalize((a.alloc (.cells gQ 361)).setCells a.heap.size 0 zT.toArray.toList)=w2 at *
 have o:=q.below j.out
 clear x f d g
 go_loop [5,33] (λc i=>∃k:Nat,k<=bs.length/\i=ay az k/\c=ay .u32 (bv (Crc.Ol (s ^^^ 4294967295#32) (bs.take k)))) (λ_ i=>bs.length-(intOf i).toNat)
 case atStart=>exact⟨0,by omega,rfl,rfl⟩
 case round=>
  obtain⟨k,B,rfl,rfl⟩:=hrel
  by_cases m:k<bs.length
  ·obtain⟨b,y,rfl,A⟩:=o k m
   have r:=aH (Fz (s ^^^ 4294967295#32) bs k m)
   have u:=aH (Rz (Crc.Ol (s ^^^ 4294967295#32) (bs.take k)) (sh bs k))
   have d:=n.out (ix (BitVec.setWidth 8 (Crc.Ol (s ^^^ 4294967295#32) (bs.take k)) ^^^ sh bs k)) (agJ)
   unfold xI at d
   go_wp2_with fail
   go_round
   case rel=>exact⟨k+1,by omega,by go_num,by rw[r.out,u.out]⟩
   case measure=>simp[intOf];omega
  ·obtain rfl:k=bs.length:=by omega
   go_wp2_with fail
   go_ret
   exact⟨rfl,j.out⟩
end
section
open Go.RowKit
theorem UY(s:BitVec 32){b:Option Addr}{bs:List (BitVec 8)}{a:Nat}{w:am}(c:cD w b bs)(f:bs.length<=140737488351232):
 aw ax 170 #[ay .u32 (bv s),aB b bs.length a] w λe w'=>e=aF (ay .u32 (bv (Crc.more s bs)))/\Below w.heap.size w w':=by
 by_cases h:bs.length<32
 ·exact(Dj s b bs a w c h).mono λe w' ⟨d,g⟩=>⟨d,g▸cX _ _⟩
 ·exact Am s b bs a w c (by omega) f
theorem Mr(b:Option Addr)(bs:List (BitVec 8))(a:Nat)(w:am)(c:cD w b bs)(d:bs.length<=140737488351232):
 aw ax 139 #[aB b bs.length a] w λe w'=>e=aF (ay .u32 (bv (Crc.sum bs)))/\Below w.heap.size w w':=by
 go_in
 go_wp2_with fail
 refine(UY 0#32 c d).mono ?_
 rintro e w' ⟨rfl,f⟩
 go_wp2_with fail
 go_ret
 exact⟨rfl,f⟩
structure tm(w:am)(g base:Nat)(v:ar)(bs:List (BitVec 8)):Prop where
 row:w.heap[g]?=ag (aG #[v] 48 (0,0))
 own:cU w base v bs
 lt:g<base
structure uu(g:Nat)(v:ar)(w w':am):Prop where
 os:w'.os=w.os
 tape:w'.tape=w.tape
 output:w'.output=w.output
 size:w.heap.size<=w'.heap.size
 block:∀k,k<w.heap.size->k≠g->v.ownBlock≠ag k->w'.heap[k]?=w.heap[k]?
theorem uu.below{g n:Nat}{v:ar}{w w' b:am}(h:uu g v w w')(a:Below n b w)(f:n<=g)(d:∀k,v.ownBlock=ag k->n<=k)(i:n<=w.heap.size):Below n b w':=
 ⟨h.os.trans a.os,h.tape.trans a.tape,h.output.trans a.output,bJ a.size h.size,λk c=>(h.block k (by omega) (by omega) (λe=>by have:=d k e;omega)).trans (a.block k c)⟩
theorem uu.xZ{g:Nat}{v u:ar}{w d a:am}(b:Below w.heap.size w d)(c:d.grownBy a v.ownBlock):uu g v w (a.setCell ⟨g,0,ae⟩ u):=
 ⟨by rw[show(a.setCell ⟨g,0,ae⟩ u).os=a.os from((ja.refl g a).qS 0 u).os];exact c.os.trans b.os,by rw[show(a.setCell ⟨g,0,ae⟩ u).tape=a.tape from((ja.refl g a).qS 0 u).tape];exact c.tape.trans b.tape,by rw[show(a.setCell ⟨g,0,ae⟩ u).output=a.output from((ja.refl g a).qS 0 u).output];exact c.output.trans b.output,
  by have:=((ja.refl g a).qS 0 u).size;have:=c.size;have:=b.size;omega,λk i f h=>by
   rw[eh _ _ _ _ (by simpa using f)]
   exact(c.block k (by have:=b.size;omega) (λe=>h e.symm)).trans (b.block k i)⟩
theorem tm.dV{w w':am}{g base:Nat}{v:ar}{bs:List (BitVec 8)}(h:tm w g base v bs)(a:Below w.heap.size w w'):tm w' g base v bs:=
 ⟨(a.block _ (aT h.row)).trans h.row,h.own.dV a,h.lt⟩
theorem Rn(n:Int):IntKind.u64.wrap n=bv (BitVec.ofInt 64 n):=by
 unfold bv
 rw[nG,BitVec.toNat_ofInt]
 have:((2^64:Nat):Int)=18446744073709551616:=rfl
 omega
def oZ(n:Int):List (BitVec 8):=nX (BitVec.ofInt 64 n)
theorem iO(n:Int):1<=(oZ n).length/\(oZ n).length<=10:=sP _
theorem Bv{h c:am}{g base:Nat}{v a:ar}{bs:List (BitVec 8)}(f:h.heap[g]?=ag (aG #[v] 48 (0,0)))(d:cU c base a bs)(j:h.grownBy c v.ownBlock)(m:g<base)(n:v.ownBlock≠ag g):tm (c.setCell ⟨g,0,ae⟩ a) g base a bs:=by
 have b:=(j.block g (aT f) (λe=>n e.symm)).trans f
 refine⟨jA b a (i:=0),dC d λk l=>?_,m⟩
 rw[eh _ _ _ _ (by have:=(dq d l).1;simp only;omega)]
theorem sT{w:am}{g base:Nat}{v:ar}{bs:List (BitVec 8)}(h:cU w base v bs)(a:g<base):v.ownBlock≠ag g:=λe=>by have:=(dq h e).1;omega
theorem lE(n:Int)(g base:Nat)(v:ar)(bs:List (BitVec 8))(w:am)(h:tm w g base v bs)(r:base<=w.heap.size)(s:bs.length<=1099511627776):
 aw ax 156 #[ay az n,aA (ag ⟨g,0,ae⟩)] w λe w'=>e=aF (.tuple #[])/\(∃P,tm w' g base P (bs++oZ n))/\uu g v w w':=by
 have H:=aH h
 have t:=aZ 0 h.row
 have U:=Rn n
 have G:∀p:In (λw'=>w'.cell? ⟨g,0,ae⟩=ag v),p.w.cell? ⟨g,0,ae⟩=ag v:=λp=>p.h
 have E:=aH r
 have B:=aH s
 clear h r s
 go_in
 refine ct [0,1,2,3,4] 5 (λw'=>w'.cell? ⟨g,0,ae⟩=ag v) (by kernel_rfl) (by kernel_rfl) (by intro c a d v w h;cases d <;> exact h) t ?_
 intro O
 simp only[pick,aV,a8,aQ,aR,aI,aL]
 refine aX 3 (by kernel_rfl) ?_
 simp only[aJ,aO,aI,aL]
 repeat (go_big_quiet_step (fail))
 refine aU ?_
 refine aS rfl ?_ rfl
 go_wp2_with fail
 refine(vG (BitVec.ofInt 64 n)).mono ?_
 rintro e Q ⟨W,rfl,f,u⟩
 obtain⟨J,K,rfl,y,x,-,-,-⟩:=f.slice
 have m:=aH (show Below w.heap.size w Q from aM (bi w) u)
 have b:=aH (H.out.dV m.out)
 have I:=aH y
 have C:=aH x
 have V:=sP (BitVec.ofInt 64 n)
 have F:=aH V
 clear f u y x V
 go_wp2_with fail
 refine⟨⟨⟨_,aZ 0 b.out.row⟩,rfl⟩,?_⟩
 refine aS rfl ?_ rfl
 go_wp2_with (refine cI (o:=⟨ag 7,_,_,_,_,_⟩) rfl rfl base v bs rfl b.out.own J _ K (nX (BitVec.ofInt 64 n)) rfl rfl I.out C.out (by have:=F.out;have:=B.out;omega) (bJ E.out m.out.size) ?_)
 intro k j l i D
 have z:=aH (show tm (j.setCell ⟨g,0,ae⟩ k) g base k (bs++oZ n)from Bv b.out.row l i b.out.lt (sT b.out.own b.out.lt))
 have A:=aH (show uu g v w (j.setCell ⟨g,0,ae⟩ k)from uu.xZ m.out i)
 have L:j.cell? ⟨g,0,ae⟩=ag v:=aZ 0 ((i.block g (aT b.out.row) (λe=>sT b.out.own b.out.lt e.symm)).trans b.out.row)
 have T:j.frozen? ⟨g,0,ae⟩=ah:=bQ 0 ((i.block g (aT b.out.row) (λe=>sT b.out.own b.out.lt e.symm)).trans b.out.row)
 obtain⟨S,M,q,-⟩:=l.slice
 generalize(bs++nX (BitVec.ofInt 64 n)).length=N at q
 subst q
 clear l i D t
 go_wp2_with fail
 refine⟨⟨⟨_,L⟩,rfl⟩,?_⟩
 refine bF ?_
 clear O G
 change wpList _ _ _ _ _ _
 go_wp2_with fail
 refine⟨rfl,_,gF rfl _ _ _,rfl,?_⟩
 exact⟨⟨_,z.out⟩,A.out⟩
theorem wT(n:Int)(g base l m:Nat)(bs:List (BitVec 8))(w:am)(h:w.heap[g]?=ag (aG #[aB (ag ⟨l,0,ae⟩) m m] 48 (0,0)))(K:cD w (ag ⟨l,0,ae⟩) bs)(I:m=bs.length)(F:g<base)(E:base<=w.heap.size)(G:bs.length<=1099511627776):
 aw ax 156 #[ay az n,aA (ag ⟨g,0,ae⟩)] w λe w'=>e=aF (.tuple #[])/\(∃v',tm w' g base v' (bs++oZ n))/\uu g (aB ae 0 0) w w':=by
 have H:=aH h
 have u:=aH K
 have C:=aH I
 have B:=aH F
 have z:=aZ 0 h
 obtain⟨v,A⟩:=bP (Value.slice (ag ⟨l,0,ae⟩) m m)
 have P:=aH A
 rw[A]at z H
 have hn:=Rn n
 have T:∀p:In (λw'=>w'.cell? ⟨g,0,ae⟩=ag v),p.w.cell? ⟨g,0,ae⟩=ag v:=λp=>p.h
 have S:=aH E
 have Q:=aH G
 clear h E G K I F A
 go_in
 refine ct [0,1,2,3,4] 5 (λw'=>w'.cell? ⟨g,0,ae⟩=ag v) (by kernel_rfl) (by kernel_rfl) (by intro c a d v w h;cases d <;> exact h) z ?_
 intro dF
 simp only[pick,aV,a8,aQ,aR,aI,aL]
 refine aX 3 (by kernel_rfl) ?_
 simp only[aJ,aO,aI,aL]
 repeat (go_big_quiet_step (fail))
 refine aU ?_
 refine aS rfl ?_ rfl
 go_wp2_with fail
 refine(vG (BitVec.ofInt 64 n)).mono ?_
 rintro e w1 ⟨v1,rfl,f,J⟩
 obtain⟨W,X,rfl,L,n1,-,-,-⟩:=f.slice
 have t:=aH (show Below w.heap.size w w1 from aM (bi w) J)
 have b:=aH ((t.out.block _ (aT H.out)).trans H.out)
 have y:=aH (u.out.below t.out)
 have U:=aH L
 have V:=sP (BitVec.ofInt 64 n)
 have x:=aH V
 clear f J L n1 V
 go_wp2_with fail
 refine⟨⟨⟨_,aZ 0 b.out⟩,rfl⟩,?_⟩
 refine aS rfl ?_ rfl
 go_wp2_with (refine mN (o:=⟨ag 7,_,_,_,_,_⟩) rfl rfl base ⟨l,0,ae⟩ bs m m P.out.symm C.out y.out W _ X (nX (BitVec.ofInt 64 n)) rfl rfl U.out (by have:=x.out;have:=C.out;omega) (by have:=x.out;omega) (by have:=x.out;have:=Q.out;omega) (bJ S.out t.out.size) ?_)
 intro q s r j
 have M:=aH (show tm (s.setCell ⟨g,0,ae⟩ q) g base q (bs++oZ n)from⟨jA ((j.block g (aT b.out) (λe=>by cases e)).trans b.out) q (i:=0),dC r λk hk=>(by rw[eh _ _ _ _ (by have:=(dq r hk).1;have:=B.out;simp only;omega)]),B.out⟩)
 have O:=aH (show uu g (aB ae 0 0) w (s.setCell ⟨g,0,ae⟩ q)from uu.xZ t.out j)
 have Y:s.cell? ⟨g,0,ae⟩=ag v:=aZ 0 ((j.block g (aT b.out) (λe=>by cases e)).trans b.out)
 have f2:s.frozen? ⟨g,0,ae⟩=ah:=bQ 0 ((j.block g (aT b.out) (λe=>by cases e)).trans b.out)
 obtain⟨a2,Z,D,-⟩:=r.slice
 generalize(bs++nX (BitVec.ofInt 64 n)).length=N at D
 subst D
 clear r j z
 go_wp2_with fail
 refine⟨⟨⟨_,Y⟩,rfl⟩,?_⟩
 refine bF ?_
 clear dF T
 change wpList _ _ _ _ _ _
 go_wp2_with fail
 refine⟨rfl,_,gF rfl _ _ _,rfl,?_⟩
 exact⟨⟨_,M.out⟩,O.out⟩
end
section
open Go.RowKit
def zV(s:jo):List (BitVec 8):=oZ s.num++oZ s.base++cK (s.seed.setWidth 64) 4++oZ s.end_++oZ s.size
def GK:List (BitVec 8):=[70#8,67#8,65#8,84#8]
def Ou(c:xg):List (BitVec 8):=GK++oZ c.gen++oZ c.first++oZ (c.l9.length:Nat)
def Ht(c:xg):List (BitVec 8):=Ou c++c.l9.flatMap zV
def Do(c:xg):List (BitVec 8):=Ht c++cK ((Crc.sum (Ht c)).setWidth 64) 4
theorem Fv(s:jo):(zV s).length<=44:=by
 have a:=iO s.num;have b:=iO s.base;have c:=iO s.end_;have d:=iO s.size
 simp only[zV,aN,dN];omega
theorem FQ(c:xg):(Ou c).length<=34:=by
 have a:=iO c.gen;have b:=iO c.first;have d:=iO (c.l9.length:Nat)
 simp only[Ou,aN,GK,bV,eV];omega
def oT(L:List jo)(k:Nat):List (BitVec 8):=(L.take k).flatMap zV
theorem Bh:∀L:List jo,(L.flatMap zV).length<=L.length*44
 | []=>by simp
 | s::L=>by rw[eC,aN,bV];have:=Bh L;have:=Fv s;omega
theorem AM(L:List jo)(k:Nat):(oT L k).length<=k*44:=by
 have:=Bh (L.take k)
 have h:(L.take k).length<=k:=by rw[dg];omega
 unfold oT
 calc _<=_:=this
  _<=_:=dp _ h
theorem IY{L:List jo}{k:Nat}(h:k<L.length):oT L k++zV (di L k)=oT L (k+1):=by
 unfold oT di
 rw[ip,aP h,EA]
 simp[List.getD,h]
theorem Ob(L:List jo):oT L L.length=L.flatMap zV:=by unfold oT;rw[List.take_length]
theorem YI(w:am)(a:Nat×Nat):cD (w.alloc (aG #[ay .u8 70,ay .u8 67,ay .u8 65,ay .u8 84] 5 a)) (ag ⟨w.heap.size,0,ae⟩) GK:=λi b=>⟨w.heap.size,0,rfl,by
 rw[cL,aZ _ (bp w _)]
 have h:i<4:=b
 match i,h with
 | 0,_=>rfl
 | 1,_=>rfl
 | 2,_=>rfl
 | 3,_=>rfl⟩
theorem Pp(w:am)(g:Nat)(a:g=w.heap.size):(convert 48 48 (aB (ag ⟨g,0,ae⟩) 4 4)).run ax (w.alloc (aG #[ay .u8 70,ay .u8 67,ay .u8 65,ay .u8 84] 5))=.ok (aB (ag ⟨g,0,ae⟩) 4 4) (w.alloc (aG #[ay .u8 70,ay .u8 67,ay .u8 65,ay .u8 84] 5 (4,5))):=
 a▸Lib.run_convert_bytes_const (P:=ax) w 48 5 #[ay .u8 70,ay .u8 67,ay .u8 65,ay .u8 84] 4 4 Tryz.underlying48 Tryz.underlying5
theorem qO(n:BitVec 32){w:am}:
 aw ax 151 #[ay .u32 (bv n)] w λe w'=>∃a ys c,e=aF (aB a ys.length c)/\ys=cK (n.setWidth 64) 4/\cD w' a ys/\(a=ae->c=0)/\Below w.heap.size w w':=
 (BK n w).mono λ_ _ ⟨g,d,b⟩=>⟨ag ⟨g,0,ae⟩,_,_,by rw[dN];exact d,rfl,b.at,(λh=>by cases h),b.below⟩
theorem JW(v:ar)(base:Nat)(bs:List (BitVec 8))(w:am)(f:cU w base v bs)(d:bs.length<=140737488351232):
 aw ax 139 #[v] w λe w'=>e=aF (ay .u32 (bv (Crc.sum bs)))/\Below w.heap.size w w':=by
 obtain⟨b,a,rfl,c,-,-,-,-⟩:=f.slice
 exact Mr b bs a w c d
def DR(w:am)(q:Nat)(s:jo):Prop:=w.heap[q]?=ag (aG #[ay az s.num,ay az s.base,ay .u32 (bv s.seed),ay az s.end_,ay az s.size] 221 (0,0))
theorem vM{w:am}{base q:Nat}{v:ar}{bs:List (BitVec 8)}{s:jo}(h:cU w base v bs)(b:DR w q s):v.ownBlock≠ag q:=λe=>by
 obtain⟨-,c,a⟩:=dq h e
 unfold DR at b
 rw[b]at a
 simp at a
theorem DR.put{w w':am}{g base q:Nat}{v:ar}{bs:List (BitVec 8)}{s:jo}(a:DR w q s)(b:tm w g base v bs)(c:uu g v w w')(d:q≠g):DR w' q s:=
 (c.block q (aT a) d (vM b.own a)).trans a
theorem DR.below{w w':am}{q:Nat}{s:jo}(a:DR w q s)(b:Below w.heap.size w w'):DR w' q s:=(b.block q (aT a)).trans a
theorem tm.low{b w w':am}{g base n:Nat}{v:ar}{bs:List (BitVec 8)}(a:tm w g base v bs)(c:uu g v w w')(h:Below n b w)(d:n<=g)(f:n<=w.heap.size):Below n b w':=
 c.below h d (λk e=>by have:=(dq a.own e).1;have:=a.lt;omega) f
theorem Dl(gen first:Int)(ao:Option Addr)(n ca:Nat)(L:List jo)(w:am)(hn:L.length=n)(hA:zE w (.agg #[ay az gen,ay az first,aB ao n ca]) ⟨gen,first,L⟩)(hM:zx ⟨gen,first,L⟩):
 aw ax 120 #[.agg #[ay az gen,ay az first,aB ao n ca]] w λe w'=>∃v,e=aF (.tuple #[v,ay az 0])/\cU w' w.heap.size v (Do ⟨gen,first,L⟩)/\Below w.heap.size w w':=by
 have amW:1<=n/\n<=64:=by have h1:=hM.some;have h2:=hM.Mj;dsimp only at h1 h2;omega
 obtain⟨N1,N64⟩:=amW
 obtain⟨xA,JZ,e1,hsg,-⟩:=hA.shape
 injection e1 with e1
 simp only[Array.mk.injEq,jl,Value.slice.injEq,and_true,true_and]at e1
 obtain⟨rfl,-,rfl⟩:=e1
 dsimp only at hsg
 have b1:=aY w (aG #[ay az gen,ay az first,aB ao n ca] 157)
 have CR:=bp w (aG #[ay az gen,ay az first,aB ao n ca] 157)
 obtain⟨w1,gv⟩:=bP (w.alloc (aG #[ay az gen,ay az first,aB ao n ca] 157))
 rw[gv]at b1 CR
 have k0:=aZ 0 CR
 have k1:=aZ 1 CR
 have k2:=aZ 2 CR
 have HC:=aH CR
 have HA:=aH (hA.below b1)
 have HS:=aH (hsg.below b1)
 have HB:=aH b1
 have HN:=aH hn
 have HM:=aH hM
 clear b1 CR hA hsg hM hn
 go_in
 go_wp2_with fail
 refine(Mx _ HA.out aj (by simp[HM.out])).mono ?_
 rintro e w2 ⟨rfl,eA⟩
 have IC:=aH eA
 have kc:=Pp w2 w2.heap.size rfl
 have FA:=aH (YI w2 (4,5))
 have bm:=aY w2 (aG #[ay .u8 70,ay .u8 67,ay .u8 65,ay .u8 84] 5 (4,5))
 obtain⟨w3,pD⟩:=bP (w2.alloc (aG #[ay .u8 70,ay .u8 67,ay .u8 65,ay .u8 84] 5 (4,5)))
 rw[pD]at kc FA bm
 have B23:=aH bm
 have bg:=aY w3 (aG #[aB (ag ⟨w2.heap.size,0,ae⟩) 4 4] 48)
 have hg:=bp w3 (aG #[aB (ag ⟨w2.heap.size,0,ae⟩) 4 4] 48)
 obtain⟨w4,Pa⟩:=bP (w3.alloc (aG #[aB (ag ⟨w2.heap.size,0,ae⟩) 4 4] 48))
 rw[Pa]at bg hg
 have LG:=aH (aT hg)
 have HG:=aH hg
 have FA4:=aH (FA.out.below bg)
 have HB4:=aH (aM eA (aM bm bg))
 have ad1:=aH bg
 have c0:=bL HB4.out k0
 clear eA bm bg hg k0 k1 k2 FA
 go_wp2_with fail
 refine(wT gen w3.heap.size (w3.heap.size+1) w2.heap.size 4 GK w4 HG.out FA4.out rfl (gX _) LG.out (by decide)).mono ?_
 rintro e w5 ⟨rfl,⟨v5,uA⟩,hp⟩
 obtain⟨B5,hB5⟩:=bP (GK++oZ gen)
 rw[hB5]at uA
 have E5:=aH hB5
 have X5:=aH uA
 have S5:=aH (show(w3.heap.size+1)<=w5.heap.size by have:=hp.size;have:=LG.out;omega)
 have D5:=aH (hp.below ad1.out dx (λk e=>by cases e) ad1.out.size)
 have L5:=aH (show B5.length<=14 by rw[<-hB5,aN];have:=iO gen;show 4+_<=_;omega)
 have LC:=aH (show w.heap.size<w3.heap.size by have h1:=aT HC.out;have h2:=IC.out.size;have h3:=B23.out.size;omega)
 have C4:=aH ((HB4.out.block _ (aT HC.out)).trans HC.out)
 have C3:Hid (w3.heap[w.heap.size]?=ag (aG #[ay az gen,ay az first,aB ao n ca] 157 (0,0))):=aH ((ad1.out.block _ LC.out).symm.trans C4.out)
 clear uA hp hB5 c0 kc pD Pa
 have c5:=aZ 1 ((D5.out.block _ LC.out).trans C3.out)
 go_wp2_with fail
 refine(lE first w3.heap.size (w3.heap.size+1) v5 B5 w5 X5.out S5.out (by have:=L5.out;omega)).mono ?_
 rintro e w6 ⟨rfl,⟨v6,uA⟩,hp⟩
 obtain⟨B6,hB6⟩:=bP (B5++oZ first)
 rw[hB6]at uA
 have E6:=aH hB6
 have X6:=aH uA
 have S6:=aH (show(w3.heap.size+1)<=w6.heap.size by have:=hp.size;have:=S5.out;omega)
 have D6:=aH (X5.out.low hp D5.out dx (by have:=S5.out;omega))
 have L6:=aH (show B6.length<=24 by rw[<-hB6,aN];have:=iO first;have:=L5.out;omega)
 clear uA hp hB6 c5
 have c6:=aZ 2 ((D6.out.block _ LC.out).trans C3.out)
 go_wp2_with fail
 refine(lE (n:Int) w3.heap.size (w3.heap.size+1) v6 B6 w6 X6.out S6.out (by have:=L6.out;omega)).mono ?_
 rintro e w7 ⟨rfl,⟨v7,uA⟩,hp⟩
 have PRE:Hid (B6++oZ (n:Int)=Ou ⟨gen,first,L⟩):=aH (by unfold Ou;dsimp only;rw[HN.out,<-E6.out,<-E5.out])
 rw[PRE.out]at uA
 obtain⟨PB,hPB⟩:=bP (Ou ⟨gen,first,L⟩)
 rw[hPB]at uA
 have EP:=aH hPB
 have LP:=aH (show PB.length<=34 by rw[<-hPB];exact FQ _)
 have X7:=aH uA
 have S7:=aH (show(w3.heap.size+1)<=w7.heap.size by have:=hp.size;have:=S6.out;omega)
 have D7:=aH (X6.out.low hp D6.out dx (by have:=S6.out;omega))
 clear uA hp hPB c6 PRE X5 S5 D5 L5 E5 X6 S6 D6 L6 E6
 have c7:=aZ 2 ((D7.out.block _ LC.out).trans C3.out)
 have HS3:Hid (oF w2 ao L):=aH (HS.out.below IC.out)
 have AO:Hid (∀(W:am),Below w3.heap.size w3 W->oF W ao L):=aH λW hW i hi=>by
  obtain⟨h1,b,off,e,hc⟩:=HS3.out i hi
  have fp:=eK hc.c0
  have key:∀(o:Nat) (u:ar),w2.cell? ⟨b,o,ae⟩=ag u->W.cell? ⟨b,o,ae⟩=ag u:=λo u hu=>by
   have h23:w3.cell? ⟨b,o,ae⟩=ag u:=bL B23.out hu
   have hl:b<w3.heap.size:=eK h23
   exact(hW.cell (p:=⟨b,o,ae⟩) hl).trans h23
  exact⟨h1,b,off,e,⟨key _ _ hc.c0,key _ _ hc.c1,key _ _ hc.c2,key _ _ hc.c3,key _ _ hc.c4⟩⟩
 go_wp2_with fail
 go_loopw [30,7] (λi _ wr=>∃(k:Nat) (v:ar),k<=n/\i=ay az k/\Hid (tm wr w3.heap.size (w3.heap.size+1) v (PB++oT L k))/\Hid ((w3.heap.size+1)<=wr.heap.size)/\Hid (Below w3.heap.size w3 wr)) (λi _ _=>n-(intOf i).toNat)
 case atStart=>exact⟨0,v7,cF _,rfl,aH (by rw[show oT L 0=[]from rfl,eP];exact X7.out),S7,D7⟩
 case round=>
  obtain⟨k,v,hk,rfl,HX,HZ,HD⟩:=hrel
  by_cases fp:k<n
  ·obtain⟨-,b,off,ea,hc⟩:=AO.out wr HD.out k (by have:=HN.out;omega)
   subst ea
   obtain⟨d0,d1,d2,d3,d4⟩:=hc
   obtain⟨s,hs⟩:=bP (di L k)
   rw[hs]at d0 d1 d2 d3 d4
   have HSK:=aH hs
   obtain⟨X0,Me⟩:=bP (PB++oT L k)
   have EX0:=aH Me
   have LX0:=aH (show X0.length<=3000 by rw[<-Me,aN];have:=LP.out;have:=AM L k;omega)
   have bq:=aY wr (aG #[ay az s.num,ay az s.base,ay .u32 (bv s.seed),ay az s.end_,ay az s.size] 221)
   have hq:=bp wr (aG #[ay az s.num,ay az s.base,ay .u32 (bv s.seed),ay az s.end_,ay az s.size] 221)
   obtain⟨x1,Ir⟩:=bP (wr.alloc (aG #[ay az s.num,ay az s.base,ay .u32 (bv s.seed),ay az s.end_,ay az s.size] 221))
   rw[Ir]at bq hq
   obtain⟨q,hqq⟩:=bP wr.heap.size
   rw[hqq]at hq
   have QG:=aH (show q≠w3.heap.size by have:=HZ.out;omega)
   have R1:=aH (show DR x1 q s from hq)
   have XX1:=aH (show tm x1 w3.heap.size (w3.heap.size+1) v X0 by rw[<-Me];exact HX.out.dV bq)
   have Z1:=aH (bJ HZ.out bq.size)
   have D1:=aH (show Below w3.heap.size w3 x1 from HD.out.trans (bq.mono (by have:=HZ.out;omega)))
   have kz:(k:Int)<(n:Int):=by omega
   clear bq hq hs Me
   have r1:=aZ 0 (show x1.heap[q]?=ag (aG #[ay az s.num,ay az s.base,ay .u32 (bv s.seed),ay az s.end_,ay az s.size] 221 (0,0))from R1.out)
   go_wp2_with fail
   refine(lE s.num w3.heap.size (w3.heap.size+1) v X0 x1 XX1.out Z1.out (by have:=LX0.out;omega)).mono ?_
   rintro e x2 ⟨rfl,⟨v2x,uA⟩,hp⟩
   obtain⟨X1,hX1⟩:=bP (X0++oZ s.num)
   rw[hX1]at uA
   have EX1:=aH hX1
   have LX1:=aH (show X1.length<=3010 by rw[<-hX1,aN];have:=iO s.num;have:=LX0.out;omega)
   have XX2:=aH uA
   have R2:=aH (R1.out.put XX1.out hp QG.out)
   have Z2:=aH (bJ Z1.out hp.size)
   have D2:=aH (XX1.out.low hp D1.out dx (by have:=Z1.out;omega))
   clear uA hp hX1 r1 XX1 R1 Z1 D1
   have r2:=aZ 1 (show x2.heap[q]?=ag (aG #[ay az s.num,ay az s.base,ay .u32 (bv s.seed),ay az s.end_,ay az s.size] 221 (0,0))from R2.out)
   go_wp2_with fail
   refine(lE s.base w3.heap.size (w3.heap.size+1) v2x X1 x2 XX2.out Z2.out (by have:=LX1.out;omega)).mono ?_
   rintro e x3 ⟨rfl,⟨v3x,uA⟩,hp⟩
   obtain⟨X2,hX2⟩:=bP (X1++oZ s.base)
   rw[hX2]at uA
   have EX2:=aH hX2
   have LX2:=aH (show X2.length<=3020 by rw[<-hX2,aN];have:=iO s.base;have:=LX1.out;omega)
   have XX3:=aH uA
   have R3:=aH (R2.out.put XX2.out hp QG.out)
   have Z3:=aH (bJ Z2.out hp.size)
   have D3:=aH (XX2.out.low hp D2.out dx (by have:=Z2.out;omega))
   clear uA hp hX2 r2 XX2 R2 Z2 D2
   have r3:=aZ 2 (show x3.heap[q]?=ag (aG #[ay az s.num,ay az s.base,ay .u32 (bv s.seed),ay az s.end_,ay az s.size] 221 (0,0))from R3.out)
   have Wr:∀p:In (λw'=>w'.cell? ⟨w3.heap.size,0,ae⟩=ag v3x/\w'.cell? ⟨q,2,ae⟩=ag (ay .u32 (bv s.seed))),p.w.cell? ⟨w3.heap.size,0,ae⟩=ag v3x:=λp=>p.h.1
   have qs1:∀p:In (λw'=>w'.cell? ⟨w3.heap.size,0,ae⟩=ag v3x/\w'.cell? ⟨q,2,ae⟩=ag (ay .u32 (bv s.seed))),p.w.cell? ⟨q,2,ae⟩=ag (ay .u32 (bv s.seed)):=λp=>p.h.2
   have R3':=aH r3
   clear r3
   go_wp2_with fail
   refine ct [0,1,2,3,4] 5 (λw'=>w'.cell? ⟨w3.heap.size,0,ae⟩=ag v3x/\w'.cell? ⟨q,2,ae⟩=ag (ay .u32 (bv s.seed))) (by kernel_rfl) (by kernel_rfl) (by intro c a d v w h;cases d <;> exact h) ⟨aZ 0 XX3.out.row,R3'.out⟩ ?_
   intro dF
   simp only[pick,aV,a8,aQ,aR,aI,aL]
   refine aX 3 (by kernel_rfl) ?_
   simp only[aJ,aO,aI,aL]
   repeat (go_big_quiet_step (fail))
   refine aU ?_
   refine aS rfl ?_ rfl
   go_wp2_with fail
   refine(qO s.seed).mono ?_
   rintro e y1 ⟨af,ys,cf,rfl,hys,hya,hyn,Bd⟩
   have BY:=aH (show Below x3.heap.size x3 y1 from aM (bi x3) Bd)
   have XY:=aH (XX3.out.dV BY.out)
   have RY:=aH (R3.out.below BY.out)
   have EY:=aH hys
   have AY:=aH hya
   have NY:=aH hyn
   have LY:=aH (show ys.length=4 by rw[hys,dN])
   clear hys hya hyn Bd
   go_wp2_with fail
   refine⟨⟨⟨_,⟨aZ 0 XY.out.row,aZ 2 RY.out⟩⟩,rfl⟩,?_⟩
   refine aS rfl ?_ rfl
   go_wp2_with (refine cI (o:=⟨ag 46,_,_,_,_,_⟩) rfl rfl (w3.heap.size+1) v3x X2 rfl XY.out.own af _ cf ys rfl rfl AY.out NY.out (by have:=LY.out;have:=LX2.out;omega) (bJ Z3.out BY.out.size) ?_)
   intro v4x y2 vU qr QQ
   obtain⟨X3,hX3⟩:=bP (X2++ys)
   rw[hX3]at vU
   have EX3:=aH hX3
   have LX3:=aH (show X3.length<=3030 by rw[<-hX3,aN];have:=LY.out;have:=LX2.out;omega)
   have XX4:=aH (show tm (y2.setCell ⟨w3.heap.size,0,ae⟩ v4x) w3.heap.size (w3.heap.size+1) v4x X3 from Bv XY.out.row vU qr XY.out.lt (sT XY.out.own XY.out.lt))
   have hp:=(show uu w3.heap.size v3x x3 (y2.setCell ⟨w3.heap.size,0,ae⟩ v4x)from uu.xZ BY.out qr)
   have R4:=aH (R3.out.put XX3.out hp QG.out)
   have Z4:=aH (bJ Z3.out hp.size)
   have D4:=aH (XX3.out.low hp D3.out dx (by have:=Z3.out;omega))
   have c2:y2.cell? ⟨w3.heap.size,0,ae⟩=ag v3x:=aZ 0 ((qr.block w3.heap.size (aT XY.out.row) (λe=>sT XY.out.own XY.out.lt e.symm)).trans XY.out.row)
   have f2:y2.frozen? ⟨w3.heap.size,0,ae⟩=ah:=bQ 0 ((qr.block w3.heap.size (aT XY.out.row) (λe=>sT XY.out.own XY.out.lt e.symm)).trans XY.out.row)
   have c2s:y2.cell? ⟨q,2,ae⟩=ag (ay .u32 (bv s.seed)):=aZ 2 ((qr.block q (aT RY.out) (λe=>vM XY.out.own RY.out e.symm)).trans RY.out)
   obtain⟨a2,cc2,TJ,-⟩:=vU.slice
   generalize hN3:X3.length=N3 at TJ
   subst TJ
   clear vU qr QQ hp hX3 hN3
   go_wp2_with fail
   refine⟨⟨⟨_,⟨c2,c2s⟩⟩,rfl⟩,?_⟩
   refine bF ?_
   clear dF Wr qs1 c2s XX3 R3 Z3 D3 XY RY AY NY LY BY R3'
   obtain⟨x4,LU⟩:=bP (y2.setCell ⟨w3.heap.size,0,ae⟩ (aB a2 N3 cc2))
   rw[LU]at XX4 R4 Z4 D4
   have r4:=aZ 3 (show x4.heap[q]?=ag (aG #[ay az s.num,ay az s.base,ay .u32 (bv s.seed),ay az s.end_,ay az s.size] 221 (0,0))from R4.out)
   change wpList _ _ _ _ _ _
   go_wp2_with fail
   refine(lE s.end_ w3.heap.size (w3.heap.size+1) (aB a2 N3 cc2) X3 x4 XX4.out Z4.out (by have:=LX3.out;omega)).mono ?_
   rintro e x5 ⟨rfl,⟨v5x,uA⟩,hp⟩
   obtain⟨X4,hX4⟩:=bP (X3++oZ s.end_)
   rw[hX4]at uA
   have EX4:=aH hX4
   have LX4:=aH (show X4.length<=3040 by rw[<-hX4,aN];have:=iO s.end_;have:=LX3.out;omega)
   have XX5:=aH uA
   have R5:=aH (R4.out.put XX4.out hp QG.out)
   have Z5:=aH (bJ Z4.out hp.size)
   have D5:=aH (XX4.out.low hp D4.out dx (by have:=Z4.out;omega))
   clear uA hp hX4 r4 c2 f2 LU XX4 R4 Z4 D4
   have r5:=aZ 4 (show x5.heap[q]?=ag (aG #[ay az s.num,ay az s.base,ay .u32 (bv s.seed),ay az s.end_,ay az s.size] 221 (0,0))from R5.out)
   go_wp2_with fail
   refine(lE s.size w3.heap.size (w3.heap.size+1) v5x X4 x5 XX5.out Z5.out (by have:=LX4.out;omega)).mono ?_
   rintro e x6 ⟨rfl,⟨v6x,uA⟩,hp⟩
   obtain⟨X5,hX5⟩:=bP (X4++oZ s.size)
   rw[hX5]at uA
   have EX5:=aH hX5
   have XX6:=aH uA
   have Z6:=aH (bJ Z5.out hp.size)
   have D6:=aH (XX5.out.low hp D5.out dx (by have:=Z5.out;omega))
   clear uA hp hX5 r5 XX5 R5 Z5 D5
   go_wp2_with fail
   go_roundw
   case rel=>
    have eM:X5=PB++oT L (k+1):=by
     rw[<-IY (by have:=HN.out;omega),HSK.out,<-EX5.out,<-EX4.out,<-EX3.out,<-EX2.out,<-EX1.out,<-EX0.out,EY.out]
     unfold zV
     simp only[de]
    exact⟨k+1,v6x,by omega,by go_num,eM▸XX6.out,Z6.out,D6.out⟩
   case measure=>simp[intOf];omega
  ·obtain rfl:k=n:=by omega
   have EB:Hid (PB++oT L k=Ht ⟨gen,first,L⟩):=aH (by unfold Ht;dsimp only;rw[EP.out,<-Ob,HN.out])
   obtain⟨BB,hBB⟩:=bP (PB++oT L k)
   rw[hBB]at HX EB
   have LB:=aH (show BB.length<=3000 by rw[<-hBB,aN];have:=LP.out;have:=AM L k;omega)
   have XR:=aH (aZ 0 HX.out.row)
   have Wr:∀p:In (λw'=>w'.cell? ⟨w3.heap.size,0,ae⟩=ag v),p.w.cell? ⟨w3.heap.size,0,ae⟩=ag v:=λp=>p.h
   clear hBB hk fp
   go_wp2_with fail
   refine bX [0,1,2,3,4,5,6] (λw'=>w'.cell? ⟨w3.heap.size,0,ae⟩=ag v) (by kernel_rfl) (by kernel_rfl) (by intro c a d v w h;cases d <;> exact h) XR.out ?_
   intro dF
   simp only[pick,aV,a8,aQ,aR]
   refine aX 2 (by kernel_rfl) ?_
   simp only[aJ,aO,aI,aL]
   repeat (go_big_quiet_step (fail))
   refine aU ?_
   refine aS rfl ?_ rfl
   go_wp2_with fail
   refine(JW v (w3.heap.size+1) BB wr.drew (HX.out.own.dV (bi wr)) (by have:=LB.out;omega)).mono ?_
   rintro e y0 ⟨rfl,QS⟩
   have B0:=aH (show Below wr.heap.size wr y0 from aM (bi wr) QS)
   have X0':=aH (HX.out.dV B0.out)
   clear QS
   go_wp2_with fail
   refine⟨⟨⟨_,aZ 0 X0'.out.row⟩,rfl⟩,?_⟩
   refine aS rfl ?_ rfl
   go_wp2_with fail
   refine(qO (Crc.sum BB)).mono ?_
   rintro e y1 ⟨af,ys,cf,rfl,hys,hya,hyn,Bd⟩
   have BY:=aH (aM B0.out Bd)
   have XY:=aH (HX.out.dV BY.out)
   have EY:=aH hys
   have AY:=aH hya
   have NY:=aH hyn
   have LY:=aH (show ys.length=4 by rw[hys,dN])
   clear hys hya hyn Bd X0' B0
   go_wp2_with fail
   refine⟨⟨⟨_,aZ 0 XY.out.row⟩,rfl⟩,?_⟩
   refine aS rfl ?_ rfl
   go_wp2_with (refine cI (o:=⟨ag 60,_,_,_,_,_⟩) rfl rfl (w3.heap.size+1) v BB rfl XY.out.own af _ cf ys rfl rfl AY.out NY.out (by have:=LY.out;have:=LB.out;omega) (bJ HZ.out BY.out.size) ?_)
   intro vf yf vU qr QQ
   have c2:yf.cell? ⟨w3.heap.size,0,ae⟩=ag v:=aZ 0 ((qr.block w3.heap.size (aT XY.out.row) (λe=>sT XY.out.own XY.out.lt e.symm)).trans XY.out.row)
   have OF:=aH (show cU yf w.heap.size vf (Do ⟨gen,first,L⟩)by
    unfold Do
    rw[<-EB.out,<-EY.out]
    exact vU.base (by have:=LC.out;omega))
   have BF:=aH (show Below w.heap.size w yf from by
    have h1:Below w.heap.size w wr:=by
     have h2:Below w.heap.size w w3:=aM HB.out (aM IC.out B23.out)
     exact h2.trans (HD.out.mono (by have:=LC.out;omega))
    have h3:Below w.heap.size w y1:=aM h1 BY.out
    exact h3.grown qr h3.size (λk hk=>by have:=(dq XY.out.own hk).1;have:=LC.out;omega))
   clear vU qr QQ
   go_wp2_with fail
   refine⟨⟨⟨_,c2⟩,rfl⟩,?_⟩
   refine aX 2 (by kernel_rfl) ?_
   simp only[aJ,aO,aI,aL]
   repeat (go_big_quiet_step (fail))
   refine aU ?_
   refine bF ?_
   clear dF Wr c2
   go_wp2_with fail
   go_ret2
   exact⟨vf,rfl,OF.out,BF.out⟩
theorem vI(g:Nat)(A:Array ar)(n:Nat)(p:Nat->Bool)(w:am)(O:∀args w,(callFunc g args).run ax w=.ok (.enter g args) w)(S:n<=140737488355328)
 (D:∀(w':am) (i:Nat),Below w.heap.size w w'->i<n->aw ax g (#[ay az i]++A) w' λe N=>e=aF (aC (p i))/\Below w'.heap.size w' N)
 (E:∀a b,a<=b->b<n->p a=aj->p b=aj):
 aw ax 73 #[ay az n,.func (.func g) #[] A] w λe w'=>∃k:Nat,e=aF (ay az k)/\(k<=n/\(∀t,t<k->p t=ah)/\∀t,k<=t->t<n->p t=aj)/\Below w.heap.size w w':=by
 have G:=aH D
 have M:=aH E
 clear D E
 go_in
 go_wp2_with fail
 go_loopw [5,6] (λx y wr=>∃f d:Nat,x=ay az f/\y=ay az d/\f<=d/\d<=n/\Hid (Below w.heap.size w wr)/\Hid ((∀t,t<f->p t=ah)/\(∀t,d<=t->t<n->p t=aj))) (λx y _=>(intOf y).toNat-(intOf x).toNat)
 case atStart=>exact⟨0,n,rfl,rfl,cF _,bT _,aH (cX _ _),aH ⟨λt s=>absurd s (nF _),λt J Q=>absurd J (by omega)⟩⟩
 case round=>
  obtain⟨f,d,rfl,rfl,K,F,q,I⟩:=hrel
  by_cases P:f<d
  ·obtain⟨c,m⟩:=nqZ ((f+d)/2)
   have r:=G.out wr c q.out (by omega)
   rw[show(c:Int)=((f:Int)+(d:Int))/2 by omega]at r
   have B:Hid (((f:Int)+(d:Int))/2=(c:Int)):=aH (by omega)
   obtain⟨b,u⟩:=bP (p c)
   rw[u]at r
   have z:=aH u
   have l:=aH m
   clear u m
   cases b
   ·go_wp2_with (go_at_fn g;refine r.mono ?_;rintro e w' ⟨rfl,o⟩;have j:=aH (aM q.out o);clear o)
    go_roundw
    case rel=>
     have H:∀t,t<c+1->p t=ah:=λt s=>by
      cases h:p t with
      | false=>rfl
      | true=>
       have C:=M.out t c (by omega) (by have:=l.out;omega) h
       rw[z.out]at C
       cases C
     exact⟨c+1,d,by rw[B.out];rfl,rfl,by have:=l.out;omega,F,j,aH ⟨H,I.out.2⟩⟩
    case measure=>have:=l.out;simp[intOf];omega
   ·go_wp2_with (go_at_fn g;refine r.mono ?_;rintro e w' ⟨rfl,o⟩;have j:=aH (aM q.out o);clear o)
    go_roundw
    case rel=>exact⟨f,c,rfl,by rw[B.out],by have:=l.out;omega,by have:=l.out;omega,j,aH ⟨I.out.1,λt s L=>M.out c t s L z.out⟩⟩
    case measure=>have:=l.out;simp[intOf];omega
  ·obtain rfl:d=f:=by omega
   go_wp2_with fail
   go_ret
   exact⟨d,rfl,⟨F,I.out.1,I.out.2⟩,q.out⟩
end
end Go.Proofs.YtooinenkenobaaaGreat

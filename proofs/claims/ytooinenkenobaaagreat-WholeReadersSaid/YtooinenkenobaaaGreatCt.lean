/- A part of the proof of what LawWholeReaders says. -/
import Derived.Test.YtooinenkenobaaaGreatAa
import Derived.Test.YtooinenkenobaaaGreatCp
import Derived.Test.YtooinenkenobaaaGreatCs
import Derived.Test.YtooinenkenobaaaGreatBl
import Derived.Test.YtooinenkenobaaaGreatBb
set_option maxRecDepth 100000
set_option maxHeartbeats 20000000
namespace Go.Proofs.YtooinenkenobaaaGreat
open Option renaming none->ae,some->ag
open Bool renaming false->ah,true->aj
open Go.Proofs.Tryz renaming prog->ax
open Go.Value renaming int->ay,pointer->aA,slice->aB,bool->aC,float->aD
open Go.IntKind renaming i64->az
open Go.FloatKind renaming f64->aE
open Go.Ending renaming returned->aF
open Go.Obj renaming cells->aG
open Go renaming World->am,Value->ar,TypeId->au,Calls->aw
section
open Go.RowKit Go.Maps
theorem Tryz.Cx:(Tryz.prog.info? 58).map (λi=>(i.zero,i.size,i.bytes))=ag (ag (aB ae 0 0),1,24):=by kernel_rfl
theorem Xd(base a:Int)(w:am):aw ax 21 #[ay az base,ay az a] w λe w'=>e=aF (.agg #[ay az 4096,ay az base,ay az 4,ay az 1000,ay az a,ay az 1000,aD aE 0,aD aE 4602678819172646912])/\Below w.heap.size w w':=by
 obtain⟨w1,f,d,b⟩:=bG w #[ay az 0,ay az 0,ay az 0,ay az 0,ay az 0,ay az 0,aD aE 0,aD aE 0] 28
 go_in
 go_wp2_with (refine kF (o:=⟨ae,.store 28 (.tmp 4) (.tmp 9),_,_,_,_⟩) rfl _ _ _ rfl w.heap.size #[ay az 4096,ay az base,ay az 4,ay az 1000,ay az a,ay az 1000,aD aE 0,aD aE 4602678819172646912] rfl rfl _ _ b.out (by kernel_rfl) rfl (by simp[Value.oneCell']) ?_)
 refine bn (cH rfl _ _ w.heap.size 28 _ (0,0) _ rfl (oQ _ _ _ _ _ _ b.out) Tryz.underlying28 rfl (by kernel_rfl)) rfl ?_
 exact⟨rfl,((Ch.bh [] qI d.out).setRow _ (.inr dx)).below dx (λ_ _ h=>by cases h)⟩
theorem rK.SG{w:am}{g:Tg}{b n d:Nat}{l:List fu}(p:l.length=n)(m:g b=0)(o:b<w.heap.size)(h:∀(j:Nat) (a:fu),l[j]?=ag a->∃dv,w.cell? ⟨b,j*3,ae⟩=ag (ay az a.kind)/\w.cell? ⟨b,j*3+1,ae⟩=ag (ay az a.lsn)/\w.cell? ⟨b,j*3+2,ae⟩=ag dv/\oN w g dv a.data):rK w g (aB (ag ⟨b,0,ae⟩) n d) l:=
 ⟨⟨_,d,by rw[p],λj a ha=>by
  obtain⟨dv,e,f,i,k⟩:=h j a ha
  exact⟨b,0,dv,rfl,m,o,by rw[cL];exact e,by rw[cL];exact f,by rw[cL];exact i,k⟩⟩⟩
theorem rK.qI{w:am}{g:Tg}{v:ar}{l:List fu}(h:rK w g v l):rK w Go.Proofs.YtooinenkenobaaaGreat.qI v l:=by
 obtain⟨G,E,e,k⟩:=h.ex
 refine⟨G,E,e,λj a ha=>?_⟩
 obtain⟨D,b,dv,u,H,y,z,A,B,C⟩:=k j a ha
 obtain⟨d,f,i,m,p,r,s,t⟩:=C.ex
 exact⟨D,b,dv,u,rfl,y,z,A,B,⟨d,f,i,m,p,r,s,λq o e n=>⟨rfl,(t q o e n).2⟩⟩⟩
theorem sk.pL{w:am}{g:Tg}{E:au}{v:ar}{xs:List qB}{P:eG}(h:fC zU E 1 w v xs)(f:xs.length=P.length)(hx:∀(m:Nat) (x:qB) (l:List fu),xs[m]?=ag x->P[m]?=ag l->rK w g (oh x) l):sk w Go.Proofs.YtooinenkenobaaaGreat.qI v P:=by
 obtain⟨j,k,e,-⟩:=h.shape
 refine⟨j,k,by rw[e,f],λm l i=>?_⟩
 have lm:=(aK.1 i).1
 obtain⟨x,b⟩:∃x,xs[m]?=ag x:=⟨_,aP (by rw[f];exact lm)⟩
 obtain⟨q,p,a,-,-,o,-⟩:=h.get rO b
 have d:=o 0 (by decide)
 rw[dY,fD]at d
 rw[e]at a
 injection a with a
 refine⟨q,0,oh x,a,rfl,?_,by rw[cL];exact d,(hx m x l b i).qI⟩
 have n:=h.lt q (by rw[e,a];rfl)
 exact n
structure KC(w0:am)(gz:Tg)(w:am)(g:Tg)(c:Nat)(F:ar->Array ar)(xs:List qB)(v:ar)(P:eG):Prop where
 row:Row w g 96 c (F v) 34
 own:im zU 58 1 w g 98 v xs
 len:xs.length=P.length
 ie:∀(m:Nat) (x:qB) (l:List fu),xs[m]?=ag x->P[m]?=ag l->rK w g (oh x) l
 ch:Ch [96,98] gz w0 g w
section
variable{w0 w w1 w2:am}{gz g g1:Tg}{c:Nat}{F:ar->Array ar}{xs:List qB}{v v':ar}{P:eG}{x:qB}{l:List fu}
theorem KC.out(h:KC w0 gz w g c F xs v P)(a:Ch [] g w g1 w1)(b:w1.grownBy w2 v.ownBlock):Row w2 g1 96 c (F v) 34:=by
 have r:=h.row.ch a (by simp)
 refine r.grown b λe=>?_
 have:=h.own.tag c e.symm
 rw[h.row.tag]at this
 exact absurd this (by decide)
theorem KC.add(h:KC w0 gz w g c F xs v P)(i:Ch [] g w g1 w1)(a:rK w1 g1 (oh x) l)(o:fC zU 58 1 w2 v' (xs++[x]))(z:w1.grownBy w2 v.ownBlock)(I:∀j,v'.ownBlock=ag j->v.ownBlock=ag j\/w1.heap.size<=j)(hF:(F v).setIfInBounds 10 v'=F v'):
 KC w0 gz (w2.setCell ⟨c,10,ae⟩ v') (eJ g1 w1.heap.size 98) c F (xs++[x]) v' (P++[l]):=by
 obtain⟨G,s⟩:=bP (eJ g1 w1.heap.size 98)
 rw[s]
 have t:∀q,q<w1.heap.size->G q=g1 q:=λq b=>by rw[<-s];exact dU b
 have C:∀q,v.ownBlock=ag q->g1 q=98/\q<w1.heap.size:=λq b=>⟨(i.tag q (h.own.own.lt q b)).trans (h.own.tag q b),aW (h.own.own.lt q b) i.size⟩
 have B:=h.row.ch i (by simp)
 have u:=h.out i z
 have D:Ch [96,98] g1 w1 g1 w2:=(Ch.refl _ _ _).grown z λq b=>.inl (by rw[(C q b).1];decide)
 have p:Ch [96,98] g1 w1 G (w2.setCell ⟨c,10,ae⟩ v'):=(D.set _ (.inl (by rw[u.tag];decide))).gE t
 have A:∀q,v'.ownBlock=ag q->q≠c/\G q=98:=λq b=>by
  rcases I q b with e | e
  ·obtain⟨r,E⟩:=C q e
   refine⟨λH=>?_,(t q E).trans r⟩
   rw[H,u.tag]at r
   exact absurd r (by decide)
  ·exact⟨by have:=B.lt;omega,by rw[<-s];exact dQ e⟩
 refine⟨?_,⟨o.same λq b=>bD (A q b).1,λq b=>(A q b).2⟩,by rw[aN,aN,h.len];rfl,λm y k d f=>?_,h.ch.trans (i.any.trans p)⟩
 ·have e:=(u.set 10 v').gE (g':=G) (t c B.lt)
  rw[hF]at e
  exact e
 ·rcases cg m xs.length with n | n
  ·rw[bI n]at d
   rw[bI (by rw[<-h.len];exact n)]at f
   exact((h.ie m y k d f).ch i (by simp)).ch p (by decide)
  ·rw[bH n]at d
   rw[bH (by rw[<-h.len];exact n),<-h.len]at f
   have e:m-xs.length=0:=by
    have:=(aK.1 d).1
    rw[cP]at this
    omega
   rw[e]at d f
   injection d with d
   injection f with f
   subst d f
   exact a.ch p (by decide)
end
def agq(v:ar):jR:=⟨1048576,4096,0,4602678819172646912,1000,aB ae 0 0,v,aB ae 0 0,aB ae 0 0⟩
def tT(v:ar):Array ar:=#[ay az 1048576,ay az 4096,ay az 1,ay az 4,ay az 1000,ay az 8,ay az 1000,aD aE 0,aD aE 4602678819172646912,aB ae 0 0,v,aB ae 0 0,ay az 1000,aB ae 0 0]
theorem P0{w:am}{q:Nat}{x:BitVec 8}(h:w.cell? ⟨q,0,ae⟩=ag (ay .u8 (bv x))):cD w (ag ⟨q,0,ae⟩) [x]:=λi a=>by
 have:i=0:=by
  have:=a
  rw[cP]at this
  omega
 subst this
 exact⟨q,0,rfl,h⟩
theorem abC(w:am):aw ax 13 #[ay az 2] w λe w'=>∃v,e=aF (.agg (Cl iE (agq v) 1))/\sk w' qI v gu/\Below w.heap.size w w':=by
 obtain⟨d,T⟩:=bP w.heap.size
 obtain⟨w1,gv,dJ,B⟩:=bG w #[ay az 0,ay az 0,ay az 0,ay az 0,ay az 0,ay az 0,ay az 0,aD aE 0,aD aE 0,aB ae 0 0,aB ae 0 0,aB ae 0 0,ay az 0,aB ae 0 0] 34
 have j9:=qV B.out
 rw[T]at B j9
 have L0:=aH (show w.heap.size<=d from by omega)
 go_in
 go_wp2_with fail
 refine(Xd 1 8 w1).mono ?_
 rintro e w2 ⟨rfl,eA⟩
 have L:=aH eA
 clear eA j9
 obtain⟨w3,pD,qE,K⟩:=bG w2 #[ay az 0,ay az 0,ay az 0,ay az 0,ay az 0,ay az 0,ay az 0,aD aE 0,aD aE 0,aB ae 0 0,aB ae 0 0,aB ae 0 0,ay az 0,aB ae 0 0] 34
 have Js:=qV K.out
 obtain⟨c,J⟩:=bP w2.heap.size
 rw[J]at K Js
 clear Js
 go_wp2_with (refine kF (o:=⟨ae,.store 34 (.tmp 3) (.tmp 6),_,_,_,_⟩) rfl _ _ _ rfl c (tT (aB ae 0 0)) rfl rfl _ _ K.out (by kernel_rfl) rfl (by simp[tT,Value.oneCell']) ?_)
 obtain⟨I,H⟩:=bP (w3.setRow c (tT (aB ae 0 0)))
 rw[H]
 obtain⟨gz,G⟩:=bP (tg (tg qI d 97) c 96)
 have M:=aH (show Below w1.heap.size w1 I from by
  rw[<-H]
  exact((Ch.bh [] qI (aM L.out qE.out)).setRow _ (.inr (by rw[<-J];exact L.out.size))).below dx (λ_ _ h=>by cases h))
 have LC:=aH (show w1.heap.size<=c from by rw[<-J];exact L.out.size)
 have I0:=aH (show KC I gz I gz c tT [] (aB ae 0 0) (gu.take 0)from⟨⟨by rw[<-H];exact oQ _ _ _ _ _ _ K.out,by rw[<-G];exact dG _ _ _⟩,im.nil _ _ _ _ _ _,rfl,λm x l h=>(by simp at h),Ch.refl _ _ _⟩)
 have ZG:=aH (show ∀q,q<w1.heap.size->gz q∉[96,98]from λq hq=>by
  rw[<-G,dA (by have:=LC.out;omega)]
  unfold tg
  split
  ·decide
  ·exact show(0:Nat)∉[96,98]by decide)
 have ZA:=aH (show gz d=97 from by rw[<-G,dA (by have:=LC.out;have:=aT B.out;omega)];exact dG _ _ _)
 have LA:=aH (show d<w1.heap.size from aT B.out)
 clear H G J
 go_loopw [4] (λi wr=>∃(k:Nat) (xs:List qB) (v:ar) (f:Tg),k<=2/\i=ay az k/\Hid (KC I gz wr f c tT xs v (gu.take k))) (λi _=>2-(intOf i).toNat)
 case atStart=>exact⟨0,[],_,gz,by omega,rfl,I0⟩
 case round=>
  obtain⟨k,xs,v,f,hk,rfl,b⟩:=hrel
  have p:=b.out.len
  rw[dg,show gu.length=2 from rfl]at p
  obtain⟨D,E,rfl,-⟩:=b.out.own.own.shape
  have HL:=aH (show xs.length=k by omega)
  rw[HL.out]at b
  clear p
  by_cases fp:k<2
  ·have kz:(k:Int)<2:=by omega
   have nt:wr.cell? ⟨c,10,ae⟩=ag (aB D k E):=b.out.row.cell 10
   have kc:=Lib.run_convert_bytes_const (P:=ax) wr 48 5 #[ay .u8 97] 1 1 Tryz.underlying48 Tryz.underlying5
   have s:=aY wr (aG #[ay .u8 97] 5 (1,2))
   have t:=bp wr (aG #[ay .u8 97] 5 (1,2))
   obtain⟨y,U⟩:=bP (World.alloc wr (aG #[ay .u8 97] 5 (1,2)))
   rw[U]at s t
   have Zy:=aH s
   have Vq:=aH t
   clear s t
   obtain⟨W,ac,z,A⟩:=bG y #[ay az 1,ay az 0,aB (ag ⟨wr.heap.size,0,ae⟩) 1 1] 50
   obtain⟨wc,ad,r,O⟩:=bG W #[aB (ag ⟨y.heap.size,0,ae⟩) 1 1] 58
   have X:=aH (aM (aM Zy.out z.out) r.out)
   obtain⟨g1,Q⟩:=bP (eJ f wr.heap.size 0)
   have Z:=aH (show Ch [] f wr g1 wc from by rw[<-Q];exact Ch.start f X.out)
   have G1:=aH (show ∀q,wr.heap.size<=q->g1 q=0 from λq hq=>by rw[<-Q];exact dQ hq)
   have NA:=aH (show wc.heap[wr.heap.size]?=_ from((aM z.out r.out).block _ (aT Vq.out)).trans Vq.out)
   have NB:=aH (show wc.heap[y.heap.size]?=_ from(r.out.block _ (aT A.out)).trans A.out)
   have AL:=aH (show rK wc g1 (oh (ag ⟨y.heap.size,0,ae⟩,1,1)) [⟨1,0,[97]⟩]from rK.SG rfl (G1.out _ Zy.out.size) (aT NB.out) (λj a ha=>by
    have:j=0:=by
     have:=(aK.1 ha).1
     rw[cP]at this
     omega
    subst this
    injection ha with ha
    subst ha
    have kb:=eH NB.out
    exact⟨_,kb.2.1,kb.2.2.1,kb.2.2.2.1,⟨_,_,rfl,by decide,by decide,P0 (aZ 0 NA.out),(λe=>by cases e),λq af e _=>by
     injection e with e
     injection e with e
     subst e
     exact⟨G1.out _ dx,aT NA.out⟩⟩⟩))
   have O1:=aH (b.out.own.own.below X.out)
   have LN:=aH (show xs.length<=1000000 from by rw[HL.out];omega)
   have CN:=aH (show ∀j u,(zU (ag ⟨y.heap.size,0,ae⟩,1,1))[j]?=ag u->wc.cell? ((⟨W.heap.size,0,ae⟩:Addr).add j)=ag u from ik (by unfold zU;exact O.out))
   clear Q
   go_wp2_with (at_builtin;refine cY (o:=⟨ag 19,_,_,_,_,_⟩) rfl _ _ 30 58 rfl Tryz.underlying30 Tryz.Cx rfl (by decide) (by decide) zU rO xh _ xs rfl O1.out ⟨W.heap.size,0,ae⟩ (ag ⟨y.heap.size,0,ae⟩,1,1) rfl CN.out LN.out ?_)
   intro v5 w5 V S i5
   have R5:=aH (b.out.out Z.out S)
   have aa:w5.cell? ⟨c,10,ae⟩=ag (aB D k E):=R5.out.cell 10
   have ab:w5.frozen? ⟨c,10,ae⟩=ah:=R5.out.free 10
   have N:=aH (b.out.add Z.out AL.out V S i5 rfl)
   obtain⟨ai,ak,rfl,-⟩:=V.shape
   obtain⟨l5,C⟩:=bP ((xs++[((ag (⟨y.heap.size,0,ae⟩:Addr),1,1):qB)]).length)
   rw[C]at N ⊢
   have TK:=aH (show gu.take k++[[⟨1,0,[97]⟩]]=gu.take (k+1)from by
    rcases(show k=0\/k=1 by omega)with rfl | rfl <;> rfl)
   rw[TK.out]at N
   clear V S i5 nt C
   go_wp2_with fail
   go_roundw
   case rel=>exact⟨k+1,_,_,_,by omega,by go_num,N⟩
   case measure=>simp[intOf];omega
  ·obtain rfl:k=2:=by omega
   have BF:=aH (b.out.ch.below (n:=w1.heap.size) M.out.size ZG.out)
   have Y:=aH (M.out.trans BF.out)
   have N1:=aH ((Y.out.block _ LA.out).trans B.out)
   go_wp2_with (first | (refine wpList_load_row (o:=⟨ag 21,.load 34 (.tmp 3),_,_,_,_⟩) rfl _ _ rfl c rfl _ _ (0,0) _ b.out.row.row Tryz.underlying34 rfl (by kernel_rfl) ?_) | (refine kF (o:=⟨ae,.store 34 (.tmp 2) (.tmp 21),_,_,_,_⟩) rfl _ _ _ rfl d (tT (aB D 2 E)) rfl rfl _ _ N1.out (by kernel_rfl) rfl (by simp[tT,Value.oneCell']) ?_))
   refine bn (cH rfl _ _ d 34 _ (0,0) _ rfl (oQ _ _ _ _ _ _ N1.out) Tryz.underlying34 rfl (by kernel_rfl)) rfl ?_
   have BA:Below w.heap.size w (wr.setRow d (tT (aB D 2 E))):=((Ch.bh [] qI (dJ.out.trans (Y.out.mono dJ.out.size))).setRow _ (.inr L0.out)).below dx (λ_ _ h=>by cases h)
   have CA:Ch [97] f wr f (wr.setRow d (tT (aB D 2 E))):=(Ch.refl _ _ _).setRow _ (.inl (by rw[b.out.ch.tag d (aW LA.out M.out.size),ZA.out];decide))
   exact⟨_,rfl,sk.pL (g:=f) (b.out.own.ch CA (by decide)).own b.out.len (λm x l h1 h2=>(b.out.ie m x l h1 h2).ch CA (by decide)),BA⟩
theorem AI(K:dw)(P:eG)(a N T:Nat):sR K N T (iA (fJ a) P)=6*T+5*N+4:=by
 show 6*(T-0)+(2*0+5*(N-0)+(4-0))=_
 omega
theorem Ya{w:am}{v:ar}(h:sk w qI v gu):jq w qI iE (agq v) gu [] 1:=
 ⟨rfl,rfl,h,⟨ae,0,rfl,λj z h=>by simp at h⟩,by decide,by decide,by decide,by show(0:Int)<=1000/\(1000:Int)<=65536;decide,by show(100000:Int)<=1048576/\(1048576:Int)<=16777216;decide,by show 0<_;decide,rfl,λ_=>rfl,by decide,by show(1000:Int)<=4096/\(4096:Int)<=1048576;decide⟩
theorem XW:mv iE 0 4602678819172646912 1:=⟨by decide,by decide,by decide⟩
theorem Z8(w:am):aw ax 8 #[] w λe w'=>e=aF (aC aj)/\Below w.heap.size w w':=by
 go_in
 go_wp2_with fail
 refine(abC w).mono ?_
 rintro e w1 ⟨v,rfl,ha,b⟩
 have y:=aH b
 have D:=aH (KY (B:=26) (Ya ha) (by simp) XW XV (NW gu nA Lr) ⟨bT _,λi e=>by cases e⟩ (by rw[AI];decide) (by decide) (by show(26:Int)<1000;decide))
 clear ha b
 go_wp2_with fail
 refine D.out.mono ?_
 rintro e c ⟨W,ua,qa,uc,qc,V,su,Z,Y,E,F,G,H,I,J,K,M,N,O,g,g',L,rfl,f,tu,uQ,-,-,Q⟩
 obtain⟨S,T,U,d⟩:=XZ tu uQ
 obtain⟨p,s⟩:∃p,W.cJ[0]?=ag p:=⟨_,aP (by omega)⟩
 obtain⟨x,hx⟩:∃x,L[0]?=ag x:=⟨_,aP (by rw[f.Ei];omega)⟩
 have xr:x.rl=1:=by
  rw[s]at d
  injection d with d
  have m:p.rl=1:=d
  rw[(f.pat 0 x p hx s).rl,m]
  rfl
 obtain⟨q,P,n,-,-,a,-⟩:=f.Jg.own.get mC hx
 injection n with n _ _
 subst n
 have X:c.cell? ⟨q,6,ae⟩=ag (ay az 1):=by
  have:=a 6 (by decide)
  rw[show 0*10+6=6 from rfl]at this
  rw[this]
  show ag (Value.int .i64 x.rl)=_
  rw[xr]
 have t:q<c.heap.size:=f.Jg.own.lt q rfl
 have z:=aH (y.out.trans ((Q.below dx (λq _ h=>absurd (show(0:Nat)∈TR from h) (by decide))).mono y.out.size))
 obtain⟨rs,zM⟩:=bP (1+(W.E.D.length:Int):Int)
 rw[S,T,U,zM,show(1:Int)+((2:Nat):Int)=3 from rfl]
 clear f tu uQ Q S T U d s hx xr a zM D
 obtain⟨w3,pD,qE,k⟩:=bG c #[ay az 0,aB ae 0 0,aB ae 0 0,ay az 0,ay az 0,ay az 0,ay az 0,ay az 0,ay az 0,ay az 0,ay az 0,aD aE 0,aC ah,aC ah,aC ah,ay az 0,ay az 0,ay az 0,ay az 0,ay az 0,ay az 0,ay az 0,ay az 0,ay az 0,ay az 0,aB ae 0 0] 45
 have C:=sG k.out
 obtain⟨b,r⟩:=bP c.heap.size
 rw[r]at k C t
 clear C
 obtain⟨u,l⟩:=bP (w3.setRow b #[ay az 0,aB ua 8 uc,aB (ag ⟨q,0,ae⟩) 2 P,ay az 1,ay az 3,ay az rs,ay az V,ay az su,ay az Z,ay az Y,ay az E,aD aE g,aC ah,aC ah,aC ah,ay az 0,ay az F,ay az G,ay az H,ay az I,ay az J,ay az K,ay az M,ay az N,ay az O,aB ae 0 0])
 have j:u.heap[b]?=ag (aG #[ay az 0,aB ua 8 uc,aB (ag ⟨q,0,ae⟩) 2 P,ay az 1,ay az 3,ay az rs,ay az V,ay az su,ay az Z,ay az Y,ay az E,aD aE g,aC ah,aC ah,aC ah,ay az 0,ay az F,ay az G,ay az H,ay az I,ay az J,ay az K,ay az M,ay az N,ay az O,aB ae 0 0] 45 (0,0)):=by rw[<-l];exact oQ _ _ _ _ _ _ k.out
 have r1:=(sG j).2.2.1
 have r2:=(sG j).2.2.2.1
 have r4:=(sG j).2.2.2.2.2.1
 have aa:u.cell? ⟨q,6,ae⟩=ag (ay az 1):=by
  rw[<-l,cell_setRow_other _ _ _ _ (bR t)]
  exact(cm (qE.out.block q (by omega))).trans X
 have A:Below c.heap.size c u:=by rw[<-l];exact((Ch.bh [] qI qE.out).setRow _ (.inr (by omega))).below dx (λ_ _ h=>by cases h)
 have BF:=aH (z.out.trans (A.mono z.out.size))
 clear j X A t
 go_wp2_with (refine kF (o:=⟨ae,.store 45 (.tmp 1) (.tmp 6),_,_,_,_⟩) rfl _ _ _ rfl b _ rfl rfl _ _ k.out (by kernel_rfl) rfl (by simp[Value.oneCell']) ?_)
 go_ret
 exact⟨rfl,BF.out⟩
section
variable{K:dw}{kind n rd:Nat}
theorem Lh(kind b n rd:Nat):((qu kind b n rd).map List.length).sum=n+rd*n:=by
 unfold qu
 rw[aV,List.map_replicate,lJ,aen,nI,pJ]
theorem XH(kind b n rd:Nat):(qu kind b n rd).length=rd+1:=by
 unfold qu
 rw[bV,dW]
theorem Si{b m:Nat}{l:List fu}(h:(qu kind b n rd)[m]?=ag l):l.length=n:=by
 rcases xl h with⟨-,rfl⟩ | ⟨-,-,rfl⟩
 ·exact nI _ _
 ·exact pJ _ _
theorem abW(f:kX K)(b:kind=1\/kind=2)(e:n<=12)(k:rd<=4)(j:18<=K.dO):nV K (qu kind K.b0 n rd) RdS n:=by
 have o:rd*n<=4*12:=jU k e
 refine⟨abV f b e j,λm l a h ha=>⟨Li b h ha,?_⟩,λm l h=>by rw[Si h];omega,λx W h s=>abX h b s,by omega,by rw[Lh];omega⟩
 obtain⟨i,d⟩:=fg ha
 rcases xl h with⟨-,rfl⟩ | ⟨-,-,rfl⟩
 ·obtain⟨-,rfl⟩:=BJ d
  exact(by decide:2<=100000)
 ·obtain⟨-,rfl⟩:=Cf d
  exact cF _
end
abbrev WT:=Int×Int×qB
def Ms(x:WT):List ar:=[ay az x.1,ay az x.2.1,oh x.2.2]
theorem xv(x:WT):(Ms x).length=3:=rfl
theorem Dk(x:WT):∀u∈Ms x,u.oneCell'=aj:=λu b=>by
 unfold Ms at b
 simp only[cR,dK,iG]at b
 rcases b with rfl | rfl | rfl <;> rfl
theorem Tryz.Cy:(Tryz.prog.info? 50).map (λi=>(i.zero,i.size,i.bytes))=ag (ag (.agg #[ay az 0,ay az 0,aB ae 0 0]),3,40):=by kernel_rfl
structure Ic(w:am)(g:Tg)(x:WT)(a:fu):Prop where
 kind:x.1=a.kind
 lsn:x.2.1=a.lsn
 data:oN w g (oh x.2.2) a.data
structure VM(c:Prop)(w0:am)(gz:Tg)(w:am)(g:Tg)(xs:List WT)(v:ar)(l:List fu):Prop where
 own:im Ms 50 3 w g 97 v xs
 len:xs.length=l.length
 ie:c->∀(j:Nat) (x:WT) (a:fu),xs[j]?=ag x->l[j]?=ag a->Ic w g x a
 ch:Ch [97] gz w0 g w
section
variable{c:Prop}{w0 w w1 w2:am}{gz g g1:Tg}{xs:List WT}{v v':ar}{l:List fu}{x:WT}{a:fu}
theorem Ic.ch{T:List Nat}(h:Ic w g x a)(c:Ch T g w g1 w1)(b:0∉T):Ic w1 g1 x a:=⟨h.kind,h.lsn,h.data.ch c b⟩
theorem VM.start(c:Prop)(w:am)(g:Tg):VM c w g w g [] (aB ae 0 0) []:=⟨im.nil _ _ _ _ _ _,rfl,λ_ j x a h=>by simp at h,Ch.refl _ _ _⟩
theorem VM.add(h:VM c w0 gz w g xs v l)(m:Ch [] g w g1 w1)(hx:c->Ic w1 g1 x a)(o:fC Ms 50 3 w2 v' (xs++[x]))(B:w1.grownBy w2 v.ownBlock)(C:∀j,v'.ownBlock=ag j->v.ownBlock=ag j\/w1.heap.size<=j):
 VM c w0 gz w2 (eJ g1 w1.heap.size 97) (xs++[x]) v' (l++[a]):=by
 obtain⟨G,r⟩:=bP (eJ g1 w1.heap.size 97)
 rw[r]
 have t:∀q,q<w1.heap.size->G q=g1 q:=λq d=>by rw[<-r];exact dU d
 have u:∀q,v.ownBlock=ag q->g1 q=97/\q<w1.heap.size:=λq d=>⟨(m.tag q (h.own.own.lt q d)).trans (h.own.tag q d),aW (h.own.own.lt q d) m.size⟩
 have p:Ch [97] g1 w1 G w2:=((Ch.refl _ _ _).grown B λq d=>.inl (by rw[(u q d).1];decide)).gE t
 have D:∀q,v'.ownBlock=ag q->G q=97:=λq d=>by
  rcases C q d with e | e
  ·obtain⟨z,A⟩:=u q e
   exact(t q A).trans z
  ·rw[<-r];exact dQ e
 refine⟨⟨o,D⟩,by rw[aN,aN,h.len];rfl,λs j y b f i=>?_,h.ch.trans (m.any.trans p)⟩
 rcases cg j xs.length with k | k
 ·rw[bI k]at f
  rw[bI (by rw[<-h.len];exact k)]at i
  exact((h.ie s j y b f i).ch m (by simp)).ch p (by decide)
 ·rw[bH k]at f
  rw[bH (by rw[<-h.len];exact k),<-h.len]at i
  have e:j-xs.length=0:=by
   have:=(aK.1 f).1
   rw[cP]at this
   omega
  rw[e]at f i
  injection f with f
  injection i with i
  subst f i
  exact(hx s).ch p (by decide)
theorem VM.done(h:VM c w0 gz w g xs v l)(s:∀q,q<w0.heap.size->gz q≠97):∃g',Ch [] gz w0 g' w/\(∀q,g' q≠97)/\(c->rK w g' v l):=by
 refine⟨λq=>if w0.heap.size<=q/\g q=97 then 0 else g q,⟨h.ch.os,h.ch.tape,h.ch.output,h.ch.size,λq f=>?_,λq f _=>h.ch.gP q f (by have:=s q f;simpa using this)⟩,λq=>?_,?_⟩
 ·rw[bf (by omega)]
  exact h.ch.tag q f
 ·show(if w0.heap.size<=q/\g q=97 then 0 else g q)≠97
  split
  ·decide
  ·next M=>
   intro e
   rcases cg q w0.heap.size with b | b
   ·rw[h.ch.tag q b]at e
    exact s q b e
   ·exact M ⟨b,e⟩
 ·intro O
  have t:∀q,g q=97->w0.heap.size<=q:=λq f=>by
   rcases cg q w0.heap.size with b | b
   ·have e:=h.ch.tag q b
    rw[f]at e
    exact absurd e.symm (s q b)
   ·exact b
  obtain⟨A,F,e,-⟩:=h.own.own.shape
  refine⟨A,F,by rw[e,h.len],λj a ha=>?_⟩
  have N:=(aK.1 ha).1
  obtain⟨x,hx⟩:∃x,xs[j]?=ag x:=⟨_,aP (by rw[h.len];exact N)⟩
  have k:=h.ie O j x a hx ha
  obtain⟨q,P,d,-,-,p,-⟩:=h.own.own.get xv hx
  have y:=p 0 (by decide)
  have D:=p 1 (by decide)
  have E:=p 2 (by decide)
  rw[e]at d
  injection d with d
  have z:g q=97:=h.own.tag q (by rw[e,d];rfl)
  obtain⟨C,B,G,H,I,J,L,m⟩:=k.data.ex
  refine⟨q,0,oh x.2.2,d,?_,h.own.own.lt q (by rw[e,d];rfl),?_,?_,?_,⟨C,B,G,H,I,J,L,λu i o r=>⟨?_,(m u i o r).2⟩⟩⟩
  ·rw[bj ⟨t q z,z⟩]
  ·rw[cL]
   rw[fD]at y
   rw[y]
   show ag (Value.int .i64 x.1)=_
   rw[k.kind]
  ·rw[cL,D]
   show ag (Value.int .i64 x.2.1)=_
   rw[k.lsn]
  ·rw[cL,E]
   rfl
  ·rw[bf (λb=>by rw[(m u i o r).1]at b;omega)]
   exact(m u i o r).1
end
theorem uY{w:am}{q:Nat}{x y:BitVec 8}(b:w.cell? ⟨q,0,ae⟩=ag (ay .u8 (bv x)))(d:w.cell? ⟨q,1,ae⟩=ag (ay .u8 (bv y))):cD w (ag ⟨q,0,ae⟩) [x,y]:=λi e=>by
 have f:i<2:=e
 rcases(show i=0\/i=1 by omega)with rfl | rfl
 ·exact⟨q,0,rfl,b⟩
 ·exact⟨q,0,rfl,d⟩
section
variable{W X:am}{K:dw}{S:jR}{P:eG}{picks:List Int}{base:Int}{v0 v4:ar}{n rd qb pb kind:Nat}{QV:Bool}{g:Tg}
theorem agf(j:Below W.heap.size W X){u6 u7 u8 u9 u12 u13 u14 u15 u16 u17 u18 u19 u20 u21 u22 u23 u24 u25 u26 u27 u28 u29 u30 u31 u32 u33 u34 u35 u36 u37 u38 u39 u40 u41 u42 u43 u44 u45 u46 u47 u48 u49 u50 u51 u52 u53 u54 u55 u56 u57 u58 u59 u60 u61 u62 u63 u64 u65 u66 u67 u68 u69 u70 u71 u72 u73 u74 u75 u76 u77 u78 u79 u80 u81 u82 u83 u84 u85 u86 u87 u88 u89 u90 u91 u92 u93 u94 u95 u96 u97 u98 u99 u100 u101 u102 u103 u104 u105 u106 u107 u108 u109 u110 u111 u112 u113 u114 u115 u116 u117 u118 u119 u120 u121 u122 u123 u124 u125 u126 u127 u128 u129 u130 u131 u132 u133 u134 u135 u136 u137 u138 u139 u140 u141 u142 u143 u144 u145 u146 u147 u148 u149 u150 u151 u152 u153 u154 u155 u156 u157 u158 u159 u160 u161 u162 u163 u164 u165 u166 u167 u168 u169 u170 u171 u172 u173 u174 u175 u176 u177 u178 u179 u180 u181 u182 u183:ar}(R:X.heap[pb]?=ag (aG (Cl K S base) 34 (0,0)))(H:uv X qI K S P picks base)(k:¬((∀z∈picks,0<=z)/\mv K S.lr S.al base)):
 (lD Tryz.f7 25).wp ax (bodyPost ax Tryz.f7 (lH W)) ⟨#[v0,ay az (n:Int),ay az (rd:Int),.bool QV,v4,aA (ag ⟨qb,0,ae⟩),u6,u7,u8,u9,aC ah,aA (ag ⟨pb,0,ae⟩),u12,u13,u14,u15,u16,u17,u18,u19,u20,u21,u22,u23,u24,u25,u26,u27,u28,u29,u30,u31,u32,u33,u34,u35,u36,u37,u38,u39,u40,u41,u42,u43,u44,u45,u46,u47,u48,u49,u50,u51,u52,u53,u54,u55,u56,u57,u58,u59,u60,u61,u62,u63,u64,u65,u66,u67,u68,u69,u70,u71,u72,u73,u74,u75,u76,u77,u78,u79,u80,u81,u82,u83,u84,u85,u86,u87,u88,u89,u90,u91,u92,u93,u94,u95,u96,u97,u98,u99,u100,u101,u102,u103,u104,u105,u106,u107,u108,u109,u110,u111,u112,u113,u114,u115,u116,u117,u118,u119,u120,u121,u122,u123,u124,u125,u126,u127,u128,u129,u130,u131,u132,u133,u134,u135,u136,u137,u138,u139,u140,u141,u142,u143,u144,u145,u146,u147,u148,u149,u150,u151,u152,u153,u154,u155,u156,u157,u158,u159,u160,u161,u162,u163,u164,u165,u166,u167,u168,u169,u170,u171,u172,u173,u174,u175,u176,u177,u178,u179,u180,u181,u182,u183],[]⟩ X:=by
 have r:=aH (Xc H k)
 have a:=aH j
 have p:=aH R
 clear H k j R
 conv=>arg 2;whnf
 go_wp2_with (refine wpList_load_row (o:=⟨ag 107,.load 34 (.tmp 11),_,_,_,_⟩) rfl _ _ rfl pb rfl _ (Cl K S base) (0,0) _ p.out Tryz.underlying34 rfl (by kernel_rfl) ?_)
 refine r.out.mono ?_
 rintro e Y ⟨rfl,l⟩
 have f:=aH (a.out.trans (l.mono a.out.size))
 obtain⟨q,s,i,b⟩:=bG Y #[ay az 0,aB ae 0 0,aB ae 0 0,ay az 0,ay az 0,ay az 0,ay az 0,ay az 0,ay az 0,ay az 0,ay az 0,aD aE 0,aC ah,aC ah,aC ah,ay az 0,ay az 0,ay az 0,ay az 0,ay az 0,ay az 0,ay az 0,ay az 0,ay az 0,ay az 0,aB ae 0 0] 45
 obtain⟨c,d⟩:=bP Y.heap.size
 rw[d]at b
 obtain⟨Z,t⟩:=bP (q.setRow c #[ay az 0,aB ae 0 0,aB ae 0 0,ay az 0,ay az 0,ay az 0,ay az 0,ay az 0,ay az 0,ay az 0,ay az 0,aD aE 0,aC ah,aC ah,aC ah,ay az 0,ay az 0,ay az 0,ay az 0,ay az 0,ay az 0,ay az 0,ay az 0,ay az 0,ay az 0,aB ae 0 0])
 have m:=aH (show Below W.heap.size W Z from by
  rw[<-t]
  exact((Ch.bh [] qI (f.out.trans (i.out.mono f.out.size))).setRow _ (.inr (by rw[<-d];exact f.out.size))).below dx (λ_ _ h=>by cases h))
 clear l
 go_wp2_with (refine kF (o:=⟨ae,.store 45 (.tmp 18) (.tmp 109),_,_,_,_⟩) rfl _ _ _ rfl c #[ay az 0,aB ae 0 0,aB ae 0 0,ay az 0,ay az 0,ay az 0,ay az 0,ay az 0,ay az 0,ay az 0,ay az 0,aD aE 0,aC ah,aC ah,aC ah,ay az 0,ay az 0,ay az 0,ay az 0,ay az 0,ay az 0,ay az 0,ay az 0,ay az 0,ay az 0,aB ae 0 0] rfl rfl _ _ b.out (by kernel_rfl) rfl (by simp[Value.oneCell']) ?_)
 go_ret
 exact⟨rfl,m.out⟩
theorem agd(BX:Below W.heap.size W X){u6 u7 u8 u9 u12 u13 u14 u15 u16 u17 u18 u19 u20 u21 u22 u23 u24 u25 u26 u27 u28 u29 u30 u31 u32 u33 u34 u35 u36 u37 u38 u39 u40 u41 u42 u43 u44 u45 u46 u47 u48 u49 u50 u51 u52 u53 u54 u55 u56 u57 u58 u59 u60 u61 u62 u63 u64 u65 u66 u67 u68 u69 u70 u71 u72 u73 u74 u75 u76 u77 u78 u79 u80 u81 u82 u83 u84 u85 u86 u87 u88 u89 u90 u91 u92 u93 u94 u95 u96 u97 u98 u99 u100 u101 u102 u103 u104 u105 u106 u107 u108 u109 u110 u111 u112 u113 u114 u115 u116 u117 u118 u119 u120 u121 u122 u123 u124 u125 u126 u127 u128 u129 u130 u131 u132 u133 u134 u135 u136 u137 u138 u139 u140 u141 u142 u143 u144 u145 u146 u147 u148 u149 u150 u151 u152 u153 u154 u155 u156 u157 u158 u159 u160 u161 u162 u163 u164 u165 u166 u167 u168 u169 u170 u171 u172 u173 u174 u175 u176 u177 u178 u179 u180 u181 u182 u183:ar}(Q:X.heap[qb]?=ag (aG #[ay az 1048576,ay az base,ay az K.cap,ay az K.dO,ay az K.most,ay az K.fj,aD aE S.lr,aD aE S.al] 28 (0,0)))(R:X.heap[pb]?=ag (aG (Cl K S base) 34 (0,0)))(H:jq X qI K S (qu kind K.b0 n rd) picks base)
 (hk:kind=1\/kind=2) (hn:1<=n/\n<=12) (hr:1<=rd/\rd<=4) (hy:18<=K.dO) (hm:S.most=3000) (Ep:∀z∈picks,0<=z) (qx:mv K S.lr S.al base):
 (lD Tryz.f7 25).wp ax (bodyPost ax Tryz.f7 (lH W)) ⟨#[v0,ay az (n:Int),ay az (rd:Int),.bool QV,v4,aA (ag ⟨qb,0,ae⟩),u6,u7,u8,u9,aC ah,aA (ag ⟨pb,0,ae⟩),u12,u13,u14,u15,u16,u17,u18,u19,u20,u21,u22,u23,u24,u25,u26,u27,u28,u29,u30,u31,u32,u33,u34,u35,u36,u37,u38,u39,u40,u41,u42,u43,u44,u45,u46,u47,u48,u49,u50,u51,u52,u53,u54,u55,u56,u57,u58,u59,u60,u61,u62,u63,u64,u65,u66,u67,u68,u69,u70,u71,u72,u73,u74,u75,u76,u77,u78,u79,u80,u81,u82,u83,u84,u85,u86,u87,u88,u89,u90,u91,u92,u93,u94,u95,u96,u97,u98,u99,u100,u101,u102,u103,u104,u105,u106,u107,u108,u109,u110,u111,u112,u113,u114,u115,u116,u117,u118,u119,u120,u121,u122,u123,u124,u125,u126,u127,u128,u129,u130,u131,u132,u133,u134,u135,u136,u137,u138,u139,u140,u141,u142,u143,u144,u145,u146,u147,u148,u149,u150,u151,u152,u153,u154,u155,u156,u157,u158,u159,u160,u161,u162,u163,u164,u165,u166,u167,u168,u169,u170,u171,u172,u173,u174,u175,u176,u177,u178,u179,u180,u181,u182,u183],[]⟩ X:=by
 have HB:=H.b qx.2.2
 have hK:=(qx.par (sm:=S.sm) H.kl HB H.b2 H.sm.1).1.k
 have hmn:rd*n<=4*12:=jU hr.2 hn.2
 have st:=Sh (K:=K) (n:=n) kind rd nA hK
 have Zj:=aH (KY (B:=6*(n+rd*n)+5*n+4) H Ep qx (abW hK hk hn.2 hr.2 hy) st.1 st.2 (by rw[AI,Lh];exact bT _) (by omega) (by rw[hm];omega))
 have BXH:=aH BX
 have RH:=aH R
 have QH:=aH Q
 have NUM:=aH (And.intro hk (And.intro hn hr))
 have b1:=qx.2.2
 have b2:=H.b2
 have i1:(1:Int)<=n:=by omega
 have i2:(n:Int)<=12:=by omega
 have i3:(1:Int)<=rd:=by omega
 have i4:(rd:Int)<=4:=by omega
 have KB:=aH HB
 clear H hy hm Ep qx hK st BX R Q HB hk hn hr hmn
 conv=>arg 2;whnf
 go_wp2_with (refine wpList_load_row (o:=⟨ag 107,.load 34 (.tmp 11),_,_,_,_⟩) rfl _ _ rfl pb rfl _ (Cl K S base) (0,0) _ RH.out Tryz.underlying34 rfl (by kernel_rfl) ?_)
 refine Zj.out.mono ?_
 rintro e Y ⟨W1,ua,qa,uc,qc,he,su,li,ld,ba,c0,c1,c2,c3,c4,c5,c6,c7,c8,now,g',L,rfl,ht,tu,uQ,wok,sx,ch⟩
 obtain⟨e1,e2,e3⟩:=abY NUM.out.1 NUM.out.2.1.1 NUM.out.2.2.1 wok sx uQ
 have BY0:=aH (ch.below (n:=X.heap.size) dx (λq _ h=>absurd (show(0:Nat)∈TR from h) (by decide)))
 have BY:=aH (BXH.out.trans (BY0.out.mono BXH.out.size))
 have QY:=aH ((BY0.out.block _ (aT QH.out)).trans QH.out)
 obtain⟨tn,tY⟩:=bP W1.turns.length
 obtain⟨pn,JD⟩:=bP W1.cJ.length
 obtain⟨du,yH⟩:=bP (base+(W1.E.du:Int):Int)
 obtain⟨rs,zM⟩:=bP (base+(W1.E.D.length:Int):Int)
 rw[tY,JD,yH,zM]
 have PN:=aH (show pn=n*(rd+1)/\L.length=pn from⟨by rw[<-JD];exact e1,by rw[ht.Ei,JD]⟩)
 have DU:=aH (show du=base+(n:Int)from by rw[<-yH,e2])
 have aig:=aH ht
 have KM:=aH e3
 rw[tY,JD]at aig
 clear ht tu uQ wok sx ch e1 e2 e3 tY JD yH zM Zj
 obtain⟨Y2,hY2,BY2,NY2⟩:=bG Y #[ay az 0,aB ae 0 0,aB ae 0 0,ay az 0,ay az 0,ay az 0,ay az 0,ay az 0,ay az 0,ay az 0,ay az 0,aD aE 0,aC ah,aC ah,aC ah,ay az 0,ay az 0,ay az 0,ay az 0,ay az 0,ay az 0,ay az 0,ay az 0,ay az 0,ay az 0,aB ae 0 0] 45
 have kY2:=sG NY2.out
 obtain⟨hb,hhb⟩:=bP Y.heap.size
 rw[hhb]at NY2 kY2
 clear kY2
 obtain⟨Z,hZ⟩:=bP (Y2.setRow hb #[ay az 0,aB ua tn uc,aB qa pn qc,ay az base,ay az du,ay az rs,ay az he,ay az su,ay az li,ay az ld,ay az ba,aD aE now,aC ah,aC ah,aC ah,ay az 0,ay az c0,ay az c1,ay az c2,ay az c3,ay az c4,ay az c5,ay az c6,ay az c7,ay az c8,aB ae 0 0])
 have nZ:Z.heap[hb]?=ag (aG #[ay az 0,aB ua tn uc,aB qa pn qc,ay az base,ay az du,ay az rs,ay az he,ay az su,ay az li,ay az ld,ay az ba,aD aE now,aC ah,aC ah,aC ah,ay az 0,ay az c0,ay az c1,ay az c2,ay az c3,ay az c4,ay az c5,ay az c6,ay az c7,ay az c8,aB ae 0 0] 45 (0,0)):=by rw[<-hZ];exact oQ _ _ _ _ _ _ NY2.out
 have NZ:=aH nZ
 have BZ0:=aH (show Below Y.heap.size Y Z from by rw[<-hZ];exact((Ch.bh [] qI BY2.out).setRow _ (.inr (by omega))).below dx (λ_ _ h=>by cases h))
 have BZ:=aH (BY.out.trans (BZ0.out.mono BY.out.size))
 have QZ:=aH ((BZ0.out.block _ (aT QY.out)).trans QY.out)
 have TZ:=aH (aig.out.ch (Ch.bh [] g' BZ0.out) (by simp) (by simp))
 have r2:=(sG nZ).2.2.2.1
 have r4:=(sG nZ).2.2.2.2.2.1
 have q1:=(oV QZ.out).2.2.1
 have mz:(n:Int)*((rd:Int)+1)=(pn:Int):=by rw[PN.out.1];simp
 have auG:(pn:Int)<=60:=by
  have h1:n*(rd+1)<=12*5:=jU NUM.out.2.1.2 (by have:=NUM.out.2.2.2;omega)
  have:=PN.out.1
  omega
 have dz:base+(n:Int)=du:=DU.out.symm
 clear nZ
 go_wp2_with (refine kF (o:=⟨ae,.store 45 (.tmp 18) (.tmp 109),_,_,_,_⟩) rfl _ _ _ rfl hb _ rfl rfl _ _ NY2.out (by kernel_rfl) rfl (by simp[Value.oneCell']) ?_)
 clear hZ r2 r4 q1 mz dz
 go_loopw [20] (λi wr=>∃k:Nat,k<=pn/\i=ay az k/\Hid (Below Z.heap.size Z wr)) (λi _=>pn-(intOf i).toNat)
 case atStart=>exact⟨0,cF _,rfl,aH (cX _ _)⟩
 case round=>
  obtain⟨k,hk,rfl,HBR⟩:=hrel
  have HR:=aH ((HBR.out.block _ (aT NZ.out)).trans NZ.out)
  have r2:=(sG HR.out).2.2.2.1
  have QR:=aH ((HBR.out.block _ (aT QZ.out)).trans QZ.out)
  by_cases fp:k<pn
  ·have kz:(k:Int)<(pn:Int):=by omega
   have TR':=aH (TZ.out.ch (Ch.bh [] g' HBR.out) (by simp) (by simp))
   obtain⟨x,hx⟩:∃x,L[k]?=ag x:=⟨_,aP (by rw[PN.out.2];exact fp)⟩
   obtain⟨p,hp⟩:∃p,W1.cJ[k]?=ag p:=⟨_,aP (by rw[<-TZ.out.Ei,PN.out.2];exact fp)⟩
   obtain⟨f1,f2,f3,f4,f5,f6⟩:=KM.out k p hp
   have ie:=TR'.out.pat k x p hx hp
   obtain⟨q,cc,e5,-,-,hcell,-⟩:=TR'.out.Jg.own.get mC hx
   injection e5 with e5 e6 e7
   subst e5
   obtain⟨da,hda⟩:=bP x.dv.1
   obtain⟨dn,wQ⟩:=bP x.dv.2.1
   obtain⟨dc,hdc⟩:=bP x.dv.2.2
   obtain⟨ra,hra⟩:=bP x.rv.1
   obtain⟨rn,hrn⟩:=bP x.rv.2.1
   obtain⟨rc,hrc⟩:=bP x.rv.2.2
   obtain⟨kd,Es⟩:=bP x.kind
   obtain⟨ls,Gu⟩:=bP x.lsn
   obtain⟨bg,hbg⟩:=bP x.beg
   obtain⟨fn,hfn⟩:=bP x.fin
   obtain⟨tk,tZ⟩:=bP x.task
   obtain⟨cl,t8⟩:=bP x.call
   obtain⟨rl,JC⟩:=bP (base+cl)
   have EV:=aH (show IP x=[ay az tk,ay az cl,ay az kd,ay az ls,aB da dn dc,ay az 0,ay az rl,aB ra rn rc,ay az bg,ay az fn]from by
    unfold IP oh
    rw[hda,wQ,hdc,hra,hrn,hrc,Es,Gu,hbg,hfn,tZ,t8,ie.err,f2,ie.rl,f3,show((K.b0+p.call:Nat):Int)=base+cl from by rw[<-t8,ie.call];have:=KB.out;omega,JC]
    rfl)
   have DV:=aH (show oN wr g' (aB ra rn rc) p.rd from by have e:=ie.rv;unfold oh at e;rw[hra,hrn,hrc]at e;exact e)
   have fnz:((fn:Int)==0)=ah:=by rw[<-hfn,ie.fin];simpa using f1
   have clz:cl=(p.call:Int):=by rw[<-t8,ie.call]
   have tkz:tk=(p.task:Int):=by rw[<-tZ,ie.task]
   have FX:=aH (And.intro f4 (And.intro f5 (And.intro f6 (And.intro clz tkz))))
   have c0':(0:Int)<=cl:=by omega
   have c1':cl<=12:=by have:=NUM.out.2.1.2;omega
   have Z':(0:Int)<=tk:=by omega
   have t1':tk<=4:=by have:=NUM.out.2.2.2;omega
   have RNG:=aH (show wr.rangeAt q (k*10) [ay az tk,ay az cl,ay az kd,ay az ls,aB da dn dc,ay az 0,ay az rl,aB ra rn rc,ay az bg,ay az fn]from λj v hv=>by
    have lj:j<10:=(aK.1 hv).1
    rw[hcell j lj,EV.out]
    exact hv)
   have q1:=(oV QR.out).2.2.1
   clear f1 f2 f3 f4 f5 f6 ie hcell hda wQ hdc hra hrn hrc Es Gu hbg hfn tZ t8 EV clz tkz hx hp e6 e7
   obtain⟨wa,hwa,Zy,Vq⟩:=bG wr #[ay az 0,ay az 0,ay az 0,ay az 0,aB ae 0 0,ay az 0,ay az 0,aB ae 0 0,ay az 0,ay az 0] 56
   have kwa:=xR Vq.out
   obtain⟨ab,hab⟩:=bP wr.heap.size
   rw[hab]at Vq kwa
   obtain⟨wb,hwb⟩:=bP (((((((((((wa.setCell ⟨ab,0,ae⟩ (ay az tk)).setCell ⟨ab,1,ae⟩ (ay az cl)).setCell ⟨ab,2,ae⟩ (ay az kd)).setCell ⟨ab,3,ae⟩ (ay az ls)).setCell ⟨ab,4,ae⟩ (aB da dn dc)).setCell ⟨ab,5,ae⟩ (ay az 0)).setCell ⟨ab,6,ae⟩ (ay az rl)).setCell ⟨ab,7,ae⟩ (aB ra rn rc)).setCell ⟨ab,8,ae⟩ (ay az bg)).setCell ⟨ab,9,ae⟩ (ay az fn)))
   have ao8:=aH (show wb.heap[ab]?=ag (aG #[ay az tk,ay az cl,ay az kd,ay az ls,aB da dn dc,ay az 0,ay az rl,aB ra rn rc,ay az bg,ay az fn] 56 (0,0))from by rw[<-hwb];exact yh Vq.out)
   have NB:=ao8
   have BB:=aH (show Below wr.heap.size wr wb from by rw[<-hwb];exact yl Zy.out (jy hab))
   have k5:=(xR NB.out).2.2.2.2.2.2.1
   have k6:=(xR NB.out).2.2.2.2.2.2.2.1
   have k7:=(xR NB.out).2.2.2.2.2.2.2.2.1
   obtain⟨wc,hwc,Bwc,Nwc⟩:=bG wb #[ay az 0,ay az 0,aB ae 0 0] 52
   have kwc:=eH Nwc.out
   obtain⟨eb,oC⟩:=bP wb.heap.size
   rw[oC]at Nwc kwc
   obtain⟨wd,hwd⟩:=bP ((((wc.setCell ⟨eb,0,ae⟩ (ay az 0)).setCell ⟨eb,1,ae⟩ (ay az rl)).setCell ⟨eb,2,ae⟩ (aB ra rn rc)))
   have ao7:=aH (show wd.heap[eb]?=ag (aG #[ay az 0,ay az rl,aB ra rn rc] 52 (0,0))from by rw[<-hwd];exact tQ Nwc.out)
   have ND:=ao7
   have BD:=aH (show Below wb.heap.size wb wd from by rw[<-hwd];exact((Bwc.out.setCell (jy oC) _).setCell (jy oC) _).setCell (jy oC) _)
   have BRD:=aH (BB.out.trans (BD.out.mono BB.out.size))
   have NBD:=aH ((BD.out.block _ (aT NB.out)).trans NB.out)
   have QD:=aH ((BRD.out.block _ (aT QR.out)).trans QR.out)
   have DD:=aH (DV.out.ch (Ch.bh [] g' BRD.out) (by simp))
   have j1:=(oV QD.out).2.2.1
   have n0:=(xR NBD.out).2.1
   have n1:=(xR NBD.out).2.2.1
   have n9:=(xR NBD.out).2.2.2.2.2.2.2.2.2.2.1
   have m0:=(eH ND.out).2.1
   have m1:=(eH ND.out).2.2.1
   have m2:=(eH ND.out).2.2.2.1
   have BN:=aH (HBR.out.trans (BRD.out.mono HBR.out.size))
   by_cases ht0:0<tk
   ·obtain⟨bq,Be⟩:=bP (BitVec.ofNat 8 p.call)
    have erd:p.rd=[bq,7]:=by
     rw[<-Be]
     refine FX.out.2.2.1 (λe=>?_)
     have:=FX.out.2.2.2.2
     omega
    have dd:=DD.out
    rw[erd]at dd
    obtain⟨ao,ca,ev,dl1,dl2,dl3,-,dl4⟩:=dd.ex
    injection ev with ev1 ev2 ev3
    have ev4:rn=2:=ev2
    clear ev2
    subst ev1 ev3 ev4
    have bz:bv bq=cl:=by
     rw[<-Be,FX.out.2.2.2.1]
     have:=NUM.out.2.1.2
     have:=FX.out.1
     show(((BitVec.ofNat 8 p.call).toNat:Nat):Int)=_
     rw[fk,dD (by omega)]
    have cmod:cl%256=cl:=Int.emod_eq_of_lt c0' (by omega)
    obtain⟨we,hwe,VR,WO⟩:=bG wd #[ay .u8 cl,ay .u8 7] 5
    have Yg:=gc WO.out
    have EQ:=aH (UB ra (ag ⟨wd.heap.size,0,ae⟩) [bq,7] [bq,7] rc 2 we (dl3.same λq' F' e' hn=>VR.out.block q' (dl4 q' F' e' hn).2) (uY (by rw[bz];exact Yg.2.1) Yg.2.2.1) (by show 2<=_;decide))
    have BN2:=aH (BN.out.trans (VR.out.mono BN.out.size))
    clear erd dd dl1 dl2 dl3 dl4 bz Yg
    go_wp2_with ((with_reducible (show wpList _ _ _ (⟨ag 145,_,_,_,_,_⟩::_) _ _);refine wpList_load_mid rfl _ _ rfl q (k*10) rfl _ _ RNG.out Tryz.underlying56 rfl (by kernel_rfl) ?_))
    refine EQ.out.mono ?_
    rintro e w9 ⟨rfl,m9,rfl⟩
    have BN3:=aH (BN2.out.trans ((below_drewN we m9).mono BN2.out.size))
    go_wp2_with fail
    go_roundw
    case rel=>exact⟨k+1,by omega,by go_num,BN3⟩
    case measure=>simp[intOf];omega
   ·have tz:tk=0:=by omega
    subst tz
    go_wp2_with ((with_reducible (show wpList _ _ _ (⟨ag 145,_,_,_,_,_⟩::_) _ _);refine wpList_load_mid rfl _ _ rfl q (k*10) rfl [ay az 0,ay az cl,ay az kd,ay az ls,aB da dn dc,ay az 0,ay az rl,aB ra rn rc,ay az bg,ay az fn] _ RNG.out Tryz.underlying56 rfl (by kernel_rfl) ?_))
    go_roundw
    case rel=>exact⟨k+1,by omega,by go_num,BN⟩
    case measure=>simp[intOf];omega
  ·obtain rfl:k=pn:=by omega
   have kz:(k:Int)<=(k:Int):=by omega
   go_wp2_with fail
   go_ret
   exact⟨rfl,BZ.out.trans (HBR.out.mono BZ.out.size)⟩
end
structure zy(p:Prop)(w0:am)(gz:Tg)(w:am)(g:Tg)(c:Nat)(F:ar->Array ar)(xs:List qB)(v:ar)(P:eG):Prop where
 row:Row w g 96 c (F v) 34
 own:im zU 58 1 w g 98 v xs
 len:xs.length=P.length
 ln:∀(m:Nat) (x:qB) (l:List fu),xs[m]?=ag x->P[m]?=ag l->x.2.1=l.length
 ie:p->∀(m:Nat) (x:qB) (l:List fu),xs[m]?=ag x->P[m]?=ag l->rK w g (oh x) l
 ch:Ch [96,98] gz w0 g w
section
variable{p:Prop}{w0 w w1 w2:am}{gz g g1:Tg}{c:Nat}{F:ar->Array ar}{xs:List qB}{v v':ar}{P:eG}{x:qB}{l:List fu}
theorem zy.out(h:zy p w0 gz w g c F xs v P)(a:Ch [] g w g1 w1)(b:w1.grownBy w2 v.ownBlock):Row w2 g1 96 c (F v) 34:=by
 have r:=h.row.ch a (by simp)
 refine r.grown b λe=>?_
 have:=h.own.tag c e.symm
 rw[h.row.tag]at this
 exact absurd this (by decide)
theorem zy.add(h:zy p w0 gz w g c F xs v P)(n:Ch [] g w g1 w1)(a:p->rK w1 g1 (oh x) l)(J:x.2.1=l.length)(o:fC zU 58 1 w2 v' (xs++[x]))(C:w1.grownBy w2 v.ownBlock)(M:∀j,v'.ownBlock=ag j->v.ownBlock=ag j\/w1.heap.size<=j)(hF:(F v).setIfInBounds 10 v'=F v'):
 zy p w0 gz (w2.setCell ⟨c,10,ae⟩ v') (eJ g1 w1.heap.size 98) c F (xs++[x]) v' (P++[l]):=by
 obtain⟨G,z⟩:=bP (eJ g1 w1.heap.size 98)
 rw[z]
 have A:∀q,q<w1.heap.size->G q=g1 q:=λq b=>by rw[<-z];exact dU b
 have I:∀q,v.ownBlock=ag q->g1 q=98/\q<w1.heap.size:=λq b=>⟨(n.tag q (h.own.own.lt q b)).trans (h.own.tag q b),aW (h.own.own.lt q b) n.size⟩
 have H:=h.row.ch n (by simp)
 have B:=h.out n C
 have K:Ch [96,98] g1 w1 g1 w2:=(Ch.refl _ _ _).grown C λq b=>.inl (by rw[(I q b).1];decide)
 have u:Ch [96,98] g1 w1 G (w2.setCell ⟨c,10,ae⟩ v'):=(K.set _ (.inl (by rw[B.tag];decide))).gE A
 have E:∀q,v'.ownBlock=ag q->q≠c/\G q=98:=λq b=>by
  rcases M q b with e | e
  ·obtain⟨i,r⟩:=I q e
   refine⟨λL=>?_,(A q r).trans i⟩
   rw[L,B.tag]at i
   exact absurd i (by decide)
  ·exact⟨by have:=H.lt;omega,by rw[<-z];exact dQ e⟩
 have t:∀{m:Nat} {y:qB} {k:List fu},(xs++[x])[m]?=ag y->(P++[l])[m]?=ag k->(xs[m]?=ag y/\P[m]?=ag k)\/(y=x/\k=l):=λ{m y k} d f=>by
  rcases cg m xs.length with s | s
  ·rw[bI s]at d
   rw[bI (by rw[<-h.len];exact s)]at f
   exact .inl ⟨d,f⟩
  ·rw[bH s]at d
   rw[bH (by rw[<-h.len];exact s),<-h.len]at f
   have e:m-xs.length=0:=by
    have:=(aK.1 d).1
    rw[cP]at this
    omega
   rw[e]at d f
   injection d with d
   injection f with f
   exact .inr ⟨d.symm,f.symm⟩
 refine⟨?_,⟨o.same λq b=>bD (E q b).1,λq b=>(E q b).2⟩,by rw[aN,aN,h.len];rfl,λm y k d f=>?_,λD m y k d f=>?_,h.ch.trans (n.any.trans u)⟩
 ·have e:=(B.set 10 v').gE (g':=G) (A c H.lt)
  rw[hF]at e
  exact e
 ·rcases t d f with⟨i,r⟩ | ⟨rfl,rfl⟩
  ·exact h.ln m y k i r
  ·exact J
 ·rcases t d f with⟨i,r⟩ | ⟨rfl,rfl⟩
  ·exact((h.ie D m y k i r).ch n (by simp)).ch u (by decide)
  ·exact(a D).ch u (by decide)
theorem zy.lens(h:zy p w0 gz w g c F xs v P):KG w v P:=by
 obtain⟨i,j,e,-⟩:=h.own.own.shape
 refine⟨i,j,by rw[e,h.len],λm l f=>?_⟩
 have lm:=(aK.1 f).1
 obtain⟨x,b⟩:∃x,xs[m]?=ag x:=⟨_,aP (by rw[h.len];exact lm)⟩
 obtain⟨q,n,a,-,-,k,-⟩:=h.own.own.get rO b
 have d:=k 0 (by decide)
 rw[dY,fD]at d
 rw[e]at a
 injection a with a
 refine⟨q,0,x.1,x.2.2,a,h.own.own.lt q (by rw[e,a];rfl),?_⟩
 rw[cL,d,<-h.ln m x l b f]
 rfl
theorem zy.ask(h:zy p w0 gz w g c F xs v P)(d:p):sk w qI v P:=sk.pL (g:=g) h.own.own h.len λm x l a b=>h.ie d m x l a b
end
end
end Go.Proofs.YtooinenkenobaaaGreat

/- A part of the proof of what LawWholeReaders says. -/
import Derived.Test.YtooinenkenobaaaGreatAa
import Derived.Test.YtooinenkenobaaaGreatBi
import Derived.Test.YtooinenkenobaaaGreatBc
import Derived.Test.YtooinenkenobaaaGreatBh
set_option maxRecDepth 100000
set_option maxHeartbeats 20000000
namespace Go.Proofs.YtooinenkenobaaaGreat
open Option renaming none->ae,some->ag
open Bool renaming false->ah,true->aj
open Go.Proofs.Tryz renaming prog->ax
open Go.Value renaming int->ay,pointer->aA,slice->aB,bool->aC,float->aD
open Go.IntKind renaming i64->az
open Go.FloatKind renaming f64->aE
open Go.Ending renaming returned->aF
open Go.Obj renaming cells->aG
open Go renaming World->am,Value->ar,TypeId->au,Calls->aw
section
open Go.RowKit Go.Shelf
attribute [local go_sem] Oper.semAt_some
structure mA(a b:Nat)(W W':am):Prop where
 os:W'.os=W.os
 tape:W'.tape=W.tape
 output:W'.output=W.output
 size:W.heap.size<=W'.heap.size
 block:∀k,k<W.heap.size->(k<a\/b<=k)->W'.heap[k]?=W.heap[k]?
theorem mA.refl(a b:Nat)(W:am):mA a b W W:=⟨rfl,rfl,rfl,bT _,λ_ _ _=>rfl⟩
theorem mA.trans{a b:Nat}{W c d:am}(h:mA a b W c)(k:mA a b c d):mA a b W d:=
 ⟨k.os.trans h.os,k.tape.trans h.tape,k.output.trans h.output,bJ h.size k.size,λi f e=>(k.block i (aW f h.size) e).trans (h.block i f e)⟩
theorem mA.q9{a b c:Nat}{W d:am}(h:ja c W d)(f:a<=c)(g:c<b):mA a b W d:=
 ⟨h.os,h.tape,h.output,h.size,λk e i=>h.block k e (by omega)⟩
theorem mA.bh{a b:Nat}{W c:am}(h:Below W.heap.size W c):mA a b W c:=
 ⟨h.os,h.tape,h.output,h.size,λk d _=>h.block k d⟩
theorem mA.putObj{a b l:Nat}{W:am}(o:Obj)(h:l<W.heap.size)(c:a<=l)(d:l<b):mA a b W (W.putObj l o):=mA.q9 (ti W l o h) c d
theorem mA.below{a b n:Nat}{w W d:am}(c:Below n w W)(h:mA a b W d)(f:n<=a)(g:n<=W.heap.size):Below n w d:=
 ⟨h.os.trans c.os,h.tape.trans c.tape,h.output.trans c.output,bJ c.size h.size,λk e=>(h.block k (by omega) (.inl (by omega))).trans (c.block k e)⟩
structure py(a b:Nat)(ao:Option Addr)(W W':am):Prop where
 size:W.heap.size<=W'.heap.size
 own:∀k,a<=k->k<b->k<W.heap.size->W'.heap[k]?=W.heap[k]?
 bytes:∀g o,ao=ag ⟨g,o,ae⟩->g<W.heap.size->W'.heap[g]?=W.heap[g]?
theorem py.it{a b:Nat}{d:Option Addr}{f i j:am}(h:py a b d i j)(c:ja (a+5) f i)(l:b=a+7)(ha:∀g o,d=ag ⟨g,o,ae⟩->g<a)(o:Obj):KD (a+6) (a+1) d f (j.putObj (a+5) o):=by
 have m:=c.size
 have n:=h.size
 refine⟨by simp;omega,λhx=>?_,λhx=>?_,λg k e hx=>?_⟩
 ·exact(dj (by omega)).trans ((h.own _ (by omega) (by omega) (by omega)).trans (c.block _ hx (by omega)))
 ·exact(dj (by omega)).trans ((h.own _ (by omega) (by omega) (by omega)).trans (c.block _ hx (by omega)))
 ·have:=ha g k e
  exact(dj (by omega)).trans ((h.bytes g k e (by omega)).trans (c.block _ hx (by omega)))
theorem xT(W:am)(cs:Array ar)(T:au)(a:Array ar)(T':au)(l:Nat)(o:Obj)(g:l<W.heap.size):
 (((W.alloc (.cells cs T)).alloc (.cells a T')).putObj l o).heap[W.heap.size]?=ag (.cells cs T (0,0))/\(((W.alloc (.cells cs T)).alloc (.cells a T')).putObj l o).heap[W.heap.size+1]?=ag (.cells a T' (0,0))/\ja l W (((W.alloc (.cells cs T)).alloc (.cells a T')).putObj l o)/\
  (((W.alloc (.cells cs T)).alloc (.cells a T')).putObj l o).heap[l]?=ag o/\Below W.heap.size W ((W.alloc (.cells cs T)).alloc (.cells a T')):=by
 have e:(W.alloc (.cells cs T)).heap.size=W.heap.size+1:=by simp
 have f:((W.alloc (.cells cs T)).alloc (.cells a T')).heap.size=W.heap.size+2:=by simp
 have d:=aY W (.cells cs T)
 have b:=aY (W.alloc (.cells cs T)) (.cells a T')
 have c:=bp (W.alloc (.cells cs T)) (.cells a T')
 rw[e]at c
 exact⟨(dj (by omega)).trans ((b.block _ (by omega)).trans (bp W _)),(dj (by omega)).trans c,(((ja.refl l W).bh d).bh b).trans (ti _ l o (by omega)),World.putObj_heap_same (by omega),aM d b⟩
theorem XS{W a:am}{n c:Nat}{v:ar}{bs:List (BitVec 8)}(h:cU W n v bs)(d:ja c W a)(f:c<n):cU a n v bs:=
 rR h λg e b=>d.block g b (by omega)
theorem Rk(bs:List (BitVec 8)){s:tj}:((uE bs s:Nat):Int)≠0:=by
 unfold uE
 split
 ·split
  ·rename_i h;omega
  ·decide
 ·decide
def D'(bs:List (BitVec 8))(base:Int)(seed:BitVec 32)(i:Nat):Prop:=(base<1/\i=0)\/(1<=base/\MJ bs ⟨0,0,base,seed⟩ i)
theorem JR(bN bS bO:Nat)(ao:Option Addr)(cap:Nat)(bs:List (BitVec 8))(base:Int)(seed:BitVec 32)(m l0:Nat)(J:Nat->am->Prop)(Jx:am->Prop)(w:am)(h1:1<=base)(h2:base<=9223372036854775807)
 (hbN:w.cell? ⟨bN,0,ae⟩=ag (ay az base)) (hbS:w.cell? ⟨bS,0,ae⟩=ag (ay .u32 (bv seed))) (hbO:w.cell? ⟨bO,0,ae⟩=ag (aB ao bs.length cap)) (Bd:cD w ao bs) (hn:ao=ae->cap=0) (hc:bs.length<=cap) (hm:cap<=9223372036854775807) (hl:bs.length<=140737488363520)
 (hJ:∀i W1 W2,J i W1->mA (w.heap.size+4) (w.heap.size+7) W1 W2->J i W2) (hJx:∀W1 W2,Jx W1->mA (w.heap.size+4) (w.heap.size+7) W1 W2->Jx W2)
 (hGo:∀i W0 W1 v,(∀j,j<i->xq bs (eL bs ⟨0,0,base,seed⟩ j))->xq bs (eL bs ⟨0,0,base,seed⟩ i)->J i W0->w.heap.size+7<=W0.heap.size->mA (w.heap.size+4) (w.heap.size+7) W0 W1->cU W1 W0.heap.size v (rQ bs (eL bs ⟨0,0,base,seed⟩ i)).data->
  YieldAt Fence.wide m ax l0 #[ay az (eL bs ⟨0,0,base,seed⟩ i).end_,.agg #[ay az (bv (rQ bs (eL bs ⟨0,0,base,seed⟩ i)).lsn),v]] W1 λe W2=>
   (e=aF (aC aj)/\J (i+1) W2/\py w.heap.size (w.heap.size+7) ao W1 W2)\/(e=aF (aC ah)/\Jx W2/\py w.heap.size (w.heap.size+7) ao W1 W2))
 (h0:J 0 w):
 CallsIn Fence.wide (m+3) ax 124 #[.func (.yield l0) #[] #[],aA (ag ⟨bN,0,ae⟩),aA (ag ⟨bO,0,ae⟩),aA (ag ⟨bS,0,ae⟩)] w λe W'=>(∃v,e=aF v)/\((∃i,D' bs base seed i/\J i W')\/Jx W'):=by
 have HJ:=aH hJ
 have HJx:=aH hJx
 have HGo:=aH hGo
 have H0:=aH h0
 have HBy:=aH Bd
 have HNN:=aH hn
 clear hJ hJx hGo h0 Bd hn
 obtain⟨w2,lU⟩:=bP (w.alloc (aG #[.func (.yield l0) #[] #[]] 284))
 have b2:Below w.heap.size w w2:=by rw[<-lU];exact aY w _
 have Yp:w2.heap.size=w.heap.size+1:=by rw[<-lU];simp
 have y2:w2.heap[w.heap.size]?=ag (aG #[.func (.yield l0) #[] #[]] 284 (0,0)):=by rw[<-lU];exact bp w _
 have eN:=bL b2 hbN
 have eS:=bL b2 hbS
 have eO:=bL b2 hbO
 clear hbN hbS hbO
 refine callsIn_of_wp_marks Tryz.func124 rfl trivial ?_ rfl
 simp only[Tryz.ntmps124,iq,bV,eV,Nat.reduceAdd,Nat.reduceSub,Array.replicate_succ,Array.replicate_zero,List.push_toArray,rL,fY,eF]
 have Y2:=aH y2
 have S2:=aH Yp
 clear y2 Yp
 gi_wp2
 refine⟨trivial,(tB.2 (I8 ao bs.length cap base seed)).mono ?_⟩
 rintro e w1 ⟨rfl,rfl⟩
 obtain⟨k0,k1,k2,kb,ks⟩:=Ql w2 ao bs.length cap base seed
 obtain⟨wl,hwl⟩:=bP (rI w2 ao bs.length cap base seed)
 rw[hwl]at k0 k1 k2 kb ks ⊢
 have B2:=aH b2
 have YL:=aH ((kb.block _ (by have:=S2.out;omega)).trans Y2.out)
 have KB:=aH kb
 have KS:Hid (wl.heap.size=w.heap.size+4):=aH (by have:=S2.out;omega)
 have K0:=aH k0
 have K1:=aH k1
 have K2:=aH k2
 clear k0 k1 k2 kb ks b2 Y2 eN eS eO hwl lU
 gi_wp2
 refine FM rfl (enters_of Tryz.func159 (by kernel_rfl) rfl) λfn lo Wx=>?_
 obtain⟨q1,q2,q3,q4⟩:=Gd wl lo
 simp only[rL,eF,fY]
 have adZ:Hid (∀(t:tj) (x:Int) (aq:Option Addr) (nq cq:Nat) (W1:am) (N X:am->Prop),W1.heap[wl.heap.size+1]?=ag (.loop lo)->W1.heap[wl.heap.size]?=ag (.deferred (ag []))->W1.heap[w.heap.size]?=ag (aG #[.func (.yield l0) #[] #[]] 284 (0,0))->
  (∀W4,ja (w.heap.size+5) W1 W4->YieldAt Fence.wide m ax l0 #[ay az t.end_,.agg #[ay az x,aB aq nq cq]] W4 λe W2=>(e=aF (aC aj)/\N W2/\py w.heap.size (w.heap.size+7) ao W4 W2)\/(e=aF (aC ah)/\X W2/\py w.heap.size (w.heap.size+7) ao W4 W2))->
  YieldAt Fence.wide (m+1) ax (wl.heap.size+1) #[oU t 0,.agg #[ay az x,aB aq nq cq]] W1 λe W2=>∃W4 W5 o,ja (w.heap.size+5) W1 W4/\py w.heap.size (w.heap.size+7) ao W4 W5/\W2=W5.putObj (wl.heap.size+1) (.loop o)/\W2.heap[wl.heap.size+1]?=ag (.loop o)/\W2.heap[wl.heap.size]?=ag (.deferred (ag []))/\
   ((e=aF (aC aj)/\N W5/\o=lo)\/(e=aF (aC ah)/\X W5/\o=qg lo .done (ag .ret)))):=aH (by
  intro t x aq nq cq W1 N X J2 J3 J4 hY
  have ks:=KS.out
  have l1:=(br.1 J2).1
  have l2:=(br.1 J3).1
  have HY:=aH hY
  unfold oU
  refine VU (xS Wx trivial J2 J3 (by omega) rfl (λW=>N W/\∃W4,ja (w.heap.size+5) W1 W4/\py w.heap.size (w.heap.size+7) ao W4 W) (λc W=>c=.ret/\X W/\∃W4,ja (w.heap.size+5) W1 W4/\py w.heap.size (w.heap.size+7) ao W4 W) ?_) ?_
  ·have K2:=aH J2
   have K3:=aH J3
   have K4:=aH J4
   clear ks l1 l2 J2 J3 J4 hY
   gi_wp2
   have ks:=KS.out
   have J2:=K2.out
   have J3:=K3.out
   have J4:=K4.out
   have l1:=(br.1 J2).1
   have l2:=(br.1 J3).1
   obtain⟨p1,p2,p3,p4,p5⟩:=xT W1 (nN t 0) 273 #[ay az x,aB aq nq cq] 72 (wl.heap.size+1) (.loop (qg lo .busy ae)) (by omega)
   refine⟨p5.block _ (by omega),p5.block _ (by omega),?_⟩
   obtain⟨W4,Ph⟩:=bP (((W1.alloc (aG (nN t 0) 273)).alloc (aG #[ay az x,aB aq nq cq] 72)).putObj (wl.heap.size+1) (.loop (qg lo .busy ae)))
   unfold nN at Ph
   rw[Ph]
   unfold nN at p1 p2 p3 p4
   rw[Ph]at p1 p2 p3 p4
   have c1:=aZ 1 p1
   have c4:=aZ 4 p1
   have d0:=aZ 0 p2
   have d1:=aZ 1 p2
   have y0:=aZ 0 ((p3.block _ (by omega) (by omega)).trans J4)
   have D3:=aH ((p3.block _ (by omega) (by omega)).trans J3)
   have P3:=aH (show ja (w.heap.size+5) W1 W4 by rw[ks]at p3;exact p3)
   have P4:=aH p4
   have L1:=aH l1
   obtain⟨fn',aqH,ak9,asJ,hy,hR⟩:=HY.out W4 P3.out
   clear ks p1 p2 p3 p4 p5 Ph J2 J3 J4 l1 l2 q1 q2 q3 q4
   gi_wp2
   refine RoundIn.mono (F:=Fence.wide.inRound (wl.heap.size+1)) hR ?_
   clear hR hy c1 c4 d0 d1 y0
   rintro e W5 (⟨rfl,n5,k5⟩ | ⟨rfl,n5,k5⟩)
   ·have N5:=aH n5
    have K5:=aH k5
    clear n5 k5
    gi_wp2
    have ks:=KS.out
    have l1:=L1.out
    have s4:=P3.out.size
    exact qX ((K5.out.own _ (by omega) (by omega) (by omega)).trans P4.out) ((K5.out.own _ (by omega) (by omega) (by omega)).trans D3.out) ⟨N5.out,_,P3.out,K5.out⟩
   ·have N5:=aH n5
    have K5:=aH k5
    clear n5 k5
    gi_wp2
    have ks:=KS.out
    have l1:=L1.out
    have s4:=P3.out.size
    exact qW ((K5.out.own _ (by omega) (by omega) (by omega)).trans P4.out) ((K5.out.own _ (by omega) (by omega) (by omega)).trans D3.out) ⟨rfl,N5.out,_,P3.out,K5.out⟩
  ·rintro e W2 (⟨rfl,W5,r1,⟨r2,W4,r3,r4⟩,rfl,r5,r6⟩ | ⟨rfl,c,W5,r1,⟨rfl,r2,W4,r3,r4⟩,rfl,r5,r6⟩)
   ·exact⟨W4,W5,_,r3,r4,rfl,r5,r6,.inl ⟨rfl,r2,rfl⟩⟩
   ·exact⟨W4,W5,_,r3,r4,rfl,r5,r6,.inr ⟨rfl,r2,rfl⟩⟩)
 have ajg:Hid (∀(t:tj) (y:Int) (W1:am),y≠0->W1.heap[wl.heap.size+1]?=ag (.loop lo)->W1.heap[wl.heap.size]?=ag (.deferred (ag []))->
  YieldAt Fence.wide (m+1) ax (wl.heap.size+1) #[oU t y,.agg #[ay az 0,aB ae 0 0]] W1 λe W2=>∃W4,ja (w.heap.size+5) W1 W4/\W2=W4.putObj (wl.heap.size+1) (.loop (qg lo .done (ag .ret)))/\W2.heap[wl.heap.size+1]?=ag (.loop (qg lo .done (ag .ret)))/\W2.heap[wl.heap.size]?=ag (.deferred (ag []))/\
   e=aF (aC ah)):=aH (by
  intro t y W1 hy0 J2 J3
  have ks:=KS.out
  have l1:=(br.1 J2).1
  have l2:=(br.1 J3).1
  have HY0:=aH hy0
  unfold oU
  refine VU (xS Wx trivial J2 J3 (by omega) rfl (λW=>False) (λc W=>c=.ret/\ja (w.heap.size+5) W1 W) ?_) ?_
  ·have K2:=aH J2
   have K3:=aH J3
   clear ks l1 l2 J2 J3
   gi_wp2
   have ks:=KS.out
   have J2:=K2.out
   have J3:=K3.out
   have l1:=(br.1 J2).1
   have l2:=(br.1 J3).1
   obtain⟨p1,p2,p3,p4,p5⟩:=xT W1 (nN t y) 273 #[ay az 0,aB ae 0 0] 72 (wl.heap.size+1) (.loop (qg lo .busy ae)) (by omega)
   refine⟨p5.block _ (by omega),p5.block _ (by omega),?_⟩
   obtain⟨W4,Ph⟩:=bP (((W1.alloc (aG (nN t y) 273)).alloc (aG #[ay az 0,aB ae 0 0] 72)).putObj (wl.heap.size+1) (.loop (qg lo .busy ae)))
   unfold nN at Ph
   rw[Ph]
   unfold nN at p1 p2 p3 p4
   rw[Ph]at p1 p2 p3 p4
   have c1:=aZ 1 p1
   have c4:=aZ 4 p1
   have D3:=aH ((p3.block _ (by omega) (by omega)).trans J3)
   have P3:=aH (show ja (w.heap.size+5) W1 W4 by rw[ks]at p3;exact p3)
   have P4:=aH p4
   clear ks p1 p2 p3 p4 p5 Ph J2 J3 l1 l2 q1 q2 q3 q4
   have hyb:(y !=0)=aj:=by have:=HY0.out;simpa using this
   gi_wp2
   refine⟨λ_ h=>(by cases h),?_⟩
   gi_wp2
   exact qW P4.out D3.out ⟨rfl,P3.out⟩
  ·rintro e W2 (⟨rfl,W5,r1,hf,rfl,r5,r6⟩ | ⟨rfl,c,W5,r1,⟨rfl,r3⟩,rfl,r5,r6⟩)
   ·exact hf.elim
   ·exact⟨W5,r3,rfl,r5,r6,rfl⟩)
 have ks:=KS.out
 have ss:=S2.out
 have Gu:(mj wl lo).heap.size=w.heap.size+6:=by omega
 have b0:Below w.heap.size w (mj wl lo):=(B2.out.trans (KB.out.mono (by omega))).trans (q3.mono (by omega))
 have Ui:∀g o,ao=ag ⟨g,o,ae⟩->bs≠[]->g<w.heap.size:=λg o e dF=>by
  obtain⟨g',o',e',hcell⟩:=HBy.out 0 (Ez.2 dF)
  rw[e]at e'
  injection e' with e';injection e' with e1 e2
  subst e1
  have:=eK hcell
  dsimp only at this
  exact this
 refine(Vb (w2.heap.size+1) (w2.heap.size+2) w2.heap.size ao cap bs ⟨0,0,base,seed⟩ (m+1) (wl.heap.size+1)
  (λi W=>J i W/\W.heap[wl.heap.size+1]?=ag (.loop lo)/\W.heap[wl.heap.size]?=ag (.deferred (ag []))/\W.heap[w.heap.size]?=ag (aG #[.func (.yield l0) #[] #[]] 284 (0,0)))
  (λW=>Jx W/\W.heap[wl.heap.size+1]?=ag (.loop (qg lo .done (ag .ret)))/\W.heap[wl.heap.size]?=ag (.deferred (ag [])))
  (λW=>(∃i,MJ bs ⟨0,0,base,seed⟩ i/\J i W)/\W.heap[wl.heap.size+1]?=ag (.loop (qg lo .done (ag .ret)))/\W.heap[wl.heap.size]?=ag (.deferred (ag [])))
  (mj wl lo) ⟨rfl,rfl⟩ ?_ ?_ ?_ ?_ ?_ HNN.out hc hm hl ?_ ?_ ?_ ?_).mono ?_
 ·exact⟨cF _,bT _,by dsimp only;omega,h2⟩
 ·exact bL q3 K1.out
 ·exact bL q3 K2.out
 ·exact bL q3 K0.out
 ·exact HBy.out.below b0
 ·rintro i W1 W2 ⟨j1,j2,j3,j4⟩ hu
  have l1:=(br.1 j2).1
  have l2:=(br.1 j3).1
  have l3:=(br.1 j4).1
  exact⟨HJ.out i _ _ j1 (mA.q9 hu (by omega) (by omega)),(hu.block _ l1 (by omega)).trans j2,(hu.block _ l2 (by omega)).trans j3,(hu.block _ l3 (by omega)).trans j4⟩
 ·rintro i W0 W1 v hg Bb ⟨j1,j2,j3,j4⟩ fp hu hO
  have l1:=(br.1 j2).1
  have l2:=(br.1 j3).1
  have l3:=(br.1 j4).1
  have l4:=hu.size
  obtain⟨aq,cq,rfl,-,-,-,-,-⟩:=hO.slice
  have dF:bs≠[]:=by
   intro h0
   have:=Bb.1
   rw[h0]at this
   simp at this
  refine VU (adZ.out _ _ _ _ _ W1 (λW5=>J (i+1) W5) (λW5=>Jx W5) ((hu.block _ l1 (by omega)).trans j2) ((hu.block _ l2 (by omega)).trans j3) ((hu.block _ l3 (by omega)).trans j4) ?_) ?_
  ·intro W4 h4
   exact HGo.out i W0 W4 _ hg Bb j1 (by omega) ((mA.q9 hu (by omega) (by omega)).trans (mA.q9 h4 (by omega) (by omega))) (XS hO h4 (by omega))
  ·rintro e W2 ⟨W4,W5,o,h4,k5,rfl,r5,r6,h⟩
   have hq:=k5.size
   have hq4:=h4.size
   rcases h with⟨rfl,n5,rfl⟩ | ⟨rfl,n5,rfl⟩
   ·refine .inl ⟨rfl,⟨HJ.out _ _ _ n5 (mA.putObj _ (by omega) (by omega) (by omega)),r5,r6,?_⟩,?_⟩
    ·exact(dj (by omega)).trans ((k5.own _ (by omega) (by omega) (by omega)).trans ((h4.block _ (by omega) (by omega)).trans ((hu.block _ l3 (by omega)).trans j4)))
    ·have:=py.it k5 h4 rfl (λg o e=>Ui g o e dF) (.loop o)
     rw[Gu,ss,show wl.heap.size+1=w.heap.size+5 by omega]
     exact this
   ·exact .inr ⟨rfl,HJx.out _ _ n5 (mA.putObj _ (by omega) (by omega) (by omega)),r5,r6⟩
 ·rintro i W0 W1 hg Bb ⟨j1,j2,j3,j4⟩ hu
  have l1:=(br.1 j2).1
  have l2:=(br.1 j3).1
  have l4:=hu.size
  refine VU (ajg.out _ _ W1 (Rk bs) ((hu.block _ l1 (by omega)).trans j2) ((hu.block _ l2 (by omega)).trans j3)) ?_
  rintro e W2 ⟨W4,h4,rfl,r5,r6,rfl⟩
  have hq4:=h4.size
  exact⟨⟨_,rfl⟩,⟨i,⟨hg,Bb⟩,HJ.out _ _ _ j1 (((mA.q9 hu (by omega) (by omega)).trans (mA.q9 h4 (by omega) (by omega))).trans (mA.putObj _ (by omega) (by omega) (by omega)))⟩,r5,r6⟩
 ·exact⟨HJ.out 0 _ _ H0.out (mA.bh b0),q1,q2,(q3.block _ (by omega)).trans YL.out⟩
 ·rintro e W' ⟨⟨v,rfl⟩,h⟩
  have uQ:∃R:am->Prop,(∀W1 W2,R W1->mA (w.heap.size+4) (w.heap.size+7) W1 W2->R W2)/\(∀W,R W->(∃i,D' bs base seed i/\J i W)\/Jx W)/\R W'/\W'.heap[wl.heap.size+1]?=ag (.loop (qg lo .done (ag .ret)))/\W'.heap[wl.heap.size]?=ag (.deferred (ag [])):=by
   rcases h with⟨r1,r2,r3⟩ | ⟨⟨i,Eo,r1⟩,r2,r3⟩
   ·exact⟨Jx,HJx.out,λW h=>.inr h,r1,r2,r3⟩
   ·exact⟨J i,λW1 W2=>HJ.out i W1 W2,λW h=>.inl ⟨i,.inr ⟨h1,Eo⟩,h⟩,r1,r2,r3⟩
  obtain⟨R,hR1,hR2,r1,r2,r3⟩:=uQ
  refine⟨⟨v,rfl⟩,.inr ⟨.ret,r2,?_⟩⟩
  have l1:=(br.1 r2).1
  have D5:(W'.putObj (wl.heap.size+1) (.loop (qg lo .exhausted (ag .ret)))).heap[wl.heap.size]?=ag (.deferred (ag [])):=(dj (by omega)).trans r3
  have R5:=hR1 _ (W'.putObj (wl.heap.size+1) (.loop (qg lo .exhausted (ag .ret)))) r1 (mA.putObj _ l1 (by omega) (by omega))
  obtain⟨W5,hW5⟩:=bP (W'.putObj (wl.heap.size+1) (.loop (qg lo .exhausted (ag .ret))))
  rw[hW5]at R5 D5 ⊢
  have RR:=aH hR1
  have RR2:=aH hR2
  clear hW5 h r1 r2 r3 l1 hR1 hR2
  rw[ks]at D5 ⊢
  have D6:=aH D5
  have R6:=aH R5
  clear D5 R5
  gi_wp2
  have l6:=(br.1 D6.out).1
  refine⟨by simp,.inl ⟨_,_,rfl,run_takeDeferred D6.out,?_⟩⟩
  refine⟨_,gF rfl _ _ _,⟨_,rfl⟩,RR2.out _ (RR.out _ _ R6.out (mA.putObj _ l6 (by omega) (by omega)))⟩
theorem GP(c h g:Nat)(base:Int)(m d:Nat)(w:am)(j:base<1)(a:w.cell? ⟨c,0,ae⟩=ag (ay az base)):
 CallsIn Fence.wide (m+3) ax 124 #[.func (.yield d) #[] #[],aA (ag ⟨c,0,ae⟩),aA (ag ⟨g,0,ae⟩),aA (ag ⟨h,0,ae⟩)] w λe f=>(∃v,e=aF v)/\Below w.heap.size w f:=by
 have b:=aY w (aG #[.func (.yield d) #[] #[]] 284)
 have i:=bL b a
 refine callsIn_of_wp Tryz.func124 rfl trivial ?_ rfl
 simp only[Tryz.ntmps124,iq,bV,eV,Nat.reduceAdd,Nat.reduceSub,Array.replicate_succ,Array.replicate_zero,List.push_toArray,rL,fY,eF]
 gi_wp2
 refine bn (gF rfl _ _ _) rfl ?_
 exact⟨⟨_,rfl⟩,b⟩
structure zA(n0 bN bS bO:Nat)(ao:Option Addr)(cap:Nat)(bs:List (BitVec 8))(base:Int)(seed:BitVec 32)(W:am):Prop where
 cN:W.cell? ⟨bN,0,ae⟩=ag (ay az base)
 cS:W.cell? ⟨bS,0,ae⟩=ag (ay .u32 (bv seed))
 cO:W.cell? ⟨bO,0,ae⟩=ag (aB ao bs.length cap)
 bytes:cD W ao bs
 nil:ao=ae->cap=0
 le:bs.length<=cap
 max:cap<=9223372036854775807
 gN:n0<=bN
 gS:n0<=bS
 gO:n0<=bO
 gB:∀g o,ao=ag ⟨g,o,ae⟩->n0<=g
def UC(a c b:Nat):ar:=.func (.func 124) #[] #[aA (ag ⟨a,0,ae⟩),aA (ag ⟨b,0,ae⟩),aA (ag ⟨c,0,ae⟩)]
theorem zA.on{i e g f a:Nat}{d:Option Addr}{bs:List (BitVec 8)}{base:Int}{seed:BitVec 32}{W c:am}(h:zA i e g f d a bs base seed W)(b:Below W.heap.size W c):zA i e g f d a bs base seed c:=
 ⟨bL b h.cN,bL b h.cS,bL b h.cO,h.bytes.below b,h.nil,h.le,h.max,h.gN,h.gS,h.gO,h.gB⟩
theorem Og(k:Option Addr)(bs:List (BitVec 8))(n q:Nat)(base s:Int)(seed:BitVec 32)(w:am)(U:s=bv seed)(B:cD w k bs)(T:bs.length=n)(C:k=ae->q=0)(Y:n<=140737488355328):
 aw ax 100 #[aB k n q,ay az base,ay .u32 s] w λe w'=>∃y A z j a,e=aF (UC y A z)/\zA w.heap.size y A z j a bs base seed w'/\Below w.heap.size w w':=by
 subst U T
 have K:=aH B
 have L:=aH C
 clear B C
 obtain⟨b,i⟩:=bP ((w.alloc (aG #[ay az base] 2)).alloc (aG #[ay .u32 (bv seed)] 211))
 have x:b.heap.size=w.heap.size+2:=by rw[<-i];simp
 have p:Below w.heap.size w b:=by rw[<-i];exact aM (aY w _) (aY _ _)
 have D:b.cell? ⟨w.heap.size,0,ae⟩=ag (ay az base):=by rw[<-i];exact bL (aY _ _) (aZ 0 (bp w _))
 have E:b.cell? ⟨w.heap.size+1,0,ae⟩=ag (ay .u32 (bv seed)):=by
  rw[<-i]
  have h:=bp (w.alloc (aG #[ay az base] 2)) (aG #[ay .u32 (bv seed)] 211)
  rw[show(w.alloc (aG #[ay az base] 2)).heap.size=w.heap.size+1 by simp]at h
  exact aZ 0 h
 have G:=aH p
 have N:=aH D
 have I:=aH E
 have O:=aH x
 have Q:=aH (K.out.below p)
 clear p D E x
 go_in
 go_wp2_with (refine cI (o:=⟨ag 9,_,_,_,_,_⟩) rfl rfl b.heap.size _ [] rfl (cU.nil _ _) k bs.length q bs rfl rfl Q.out L.out (by simp;omega) dx ?_)
 intro Z t u F P
 clear P
 have b3:=(cU.nil b b.heap.size).below F dx dx
 obtain⟨j,a,rfl,c,d,V,r,f⟩:=cU.slice u
 have b4:=aY t (aG #[aB j bs.length a] 48)
 have l:=aH (aM b3 b4)
 have H:=aH (c.below b4)
 have J:=aH (aZ 0 (bp t (aG #[aB j bs.length a] 48)))
 have S:=aH b3.size
 have m:=aH d
 have M:=aH f
 clear u F b3 b4 c d f i
 go_wp2_with fail
 go_ret
 have W:=O.out
 have X:=S.out
 exact⟨w.heap.size,w.heap.size+1,t.heap.size,j,a,rfl,⟨bL l.out N.out,bL l.out I.out,J.out,H.out,m.out,V,r,bT _,by omega,by omega,λg o e=>by have:=(M.out g o e).1;omega⟩,aM G.out l.out⟩
theorem YR(B k n l:Nat)(h:Option Addr)(g:Nat)(bs:List (BitVec 8))(base:Int)(seed:BitVec 32)(m o:Nat)(J:Nat->am->Prop)(f:am->Prop)(w:am)(c:zA B k n l h g bs base seed w)(z:bs.length<=140737488363520)(x:base<=9223372036854775807)
 (u:∀i a b,J i a->mA (w.heap.size+4) (w.heap.size+7) a b->J i b) (r:∀a b,f a->mA (w.heap.size+4) (w.heap.size+7) a b->f b)
 (q:∀i d a v,1<=base->(∀j,j<i->xq bs (eL bs ⟨0,0,base,seed⟩ j))->xq bs (eL bs ⟨0,0,base,seed⟩ i)->J i d->w.heap.size+7<=d.heap.size->mA (w.heap.size+4) (w.heap.size+7) d a->cU a d.heap.size v (rQ bs (eL bs ⟨0,0,base,seed⟩ i)).data->
  YieldAt Fence.wide m ax o #[ay az (eL bs ⟨0,0,base,seed⟩ i).end_,.agg #[ay az (bv (rQ bs (eL bs ⟨0,0,base,seed⟩ i)).lsn),v]] a λe b=>
   (e=aF (aC aj)/\J (i+1) b/\py w.heap.size (w.heap.size+7) h a b)\/(e=aF (aC ah)/\f b/\py w.heap.size (w.heap.size+7) h a b))
 (s:J 0 w):
 CallsIn Fence.wide (m+3) ax 124 #[.func (.yield o) #[] #[],aA (ag ⟨k,0,ae⟩),aA (ag ⟨l,0,ae⟩),aA (ag ⟨n,0,ae⟩)] w λe p=>(∃v,e=aF v)/\((∃i,D' bs base seed i/\J i p)\/f p):=by
 by_cases t:base<1
 ·refine(GP k n l base m o w t c.cN).mono ?_
  rintro e p ⟨A,y⟩
  exact⟨A,.inl ⟨0,.inl ⟨t,rfl⟩,u 0 _ _ s (mA.bh y)⟩⟩
 ·exact JR k n l h g bs base seed m o J f w (by omega) x c.cN c.cS c.cO c.bytes c.nil c.le c.max z u r (λi d a v=>q i d a v (by omega)) s
end
section
open Go.RowKit Go.Shelf
attribute [local go_sem] Oper.semAt_some
def VH(bs:List (BitVec 8))(base:Int)(seed:BitVec 32)(lsn x:Int)(a:List (BitVec 8))(b c:Int):Prop:=
 (∃i,1<=base/\(∀j,j<=i->xq bs (eL bs ⟨0,0,base,seed⟩ j))/\bv (rQ bs (eL bs ⟨0,0,base,seed⟩ i)).lsn=lsn/\x=lsn/\a=(rQ bs (eL bs ⟨0,0,base,seed⟩ i)).data/\b=((eL bs ⟨0,0,base,seed⟩ i).end_:Int)/\c=0)\/
 (∃i,D' bs base seed i/\(∀j,j<i->bv (rQ bs (eL bs ⟨0,0,base,seed⟩ j)).lsn≠lsn)/\x=0/\a=[]/\b=0/\c=6)
structure m6(w:am)(lsn x:Int)(v:ar)(at_ er:Int)(W:am):Prop where
 acu:W.heap[w.heap.size]?=ag (aG #[ay az lsn] 2 (0,0))
 QI:W.heap[w.heap.size+1]?=ag (aG #[ay az x,v] 72 (0,0))
 atb:W.heap[w.heap.size+2]?=ag (aG #[ay az at_] 3 (0,0))
 YN:W.heap[w.heap.size+3]?=ag (aG #[ay az er] 37 (0,0))
 below:Below w.heap.size w W
theorem m6.QT{w W f:am}{a b:Nat}{lsn x c g:Int}{v:ar}(h:m6 w lsn x v c g W)(d:mA a b W f)(j:w.heap.size+4<=a):m6 w lsn x v c g f:=by
 have i:=(br.1 h.YN).1
 exact⟨(d.block _ (by omega) (by omega)).trans h.acu,(d.block _ (by omega) (by omega)).trans h.QI,(d.block _ (by omega) (by omega)).trans h.atb,(d.block _ i (by omega)).trans h.YN,d.below h.below (by omega) (by omega)⟩
theorem m6.put{w W:am}{lsn x a k:Int}{v:ar}(h:m6 w lsn x v a k W)(x' b d:Int)(f:ar):
 m6 w lsn x' f b d ((((W.setCell ⟨w.heap.size+1,0,ae⟩ (ay az x')).setCell ⟨w.heap.size+1,1,ae⟩ f).setCell ⟨w.heap.size+2,0,ae⟩ (ay az b)).setCell ⟨w.heap.size+3,0,ae⟩ (ay az d))/\
  mA (w.heap.size+1) (w.heap.size+4) W ((((W.setCell ⟨w.heap.size+1,0,ae⟩ (ay az x')).setCell ⟨w.heap.size+1,1,ae⟩ f).setCell ⟨w.heap.size+2,0,ae⟩ (ay az b)).setCell ⟨w.heap.size+3,0,ae⟩ (ay az d)):=by
 have j:∀(W:am) c o u,w.heap.size+1<=c->c<w.heap.size+4->mA (w.heap.size+1) (w.heap.size+4) W (W.setCell ⟨c,o,ae⟩ u):=λW c o u m n=>mA.q9 ((ja.refl c W).qS o u) m n
 have g:=(((j W (w.heap.size+1) 0 (ay az x') (by omega) (by omega)).trans (j _ (w.heap.size+1) 1 f (by omega) (by omega))).trans (j _ (w.heap.size+2) 0 (ay az b) (by omega) (by omega))).trans (j _ (w.heap.size+3) 0 (ay az d) (by omega) (by omega))
 have p:=(br.1 h.YN).1
 refine⟨⟨(g.block _ (by omega) (by omega)).trans h.acu,?_,?_,?_,g.below h.below (by omega) (by omega)⟩,g⟩
 ·rw[eh _ _ _ _ (by simp),eh _ _ _ _ (by simp)]
  exact jA (jA h.QI (ay az x') (i:=0)) f (i:=1)
 ·rw[eh _ _ _ _ (by simp)]
  refine jA (cs:=#[ay az a]) ?_ (ay az b) (i:=0)
  rw[eh _ _ _ _ (by simp),eh _ _ _ _ (by simp)]
  exact h.atb
 ·refine jA (cs:=#[ay az k]) ?_ (ay az d) (i:=0)
  rw[eh _ _ _ _ (by simp),eh _ _ _ _ (by simp),eh _ _ _ _ (by simp)]
  exact h.YN
theorem tS{g:Func}{p q r:Tmp}(h:g.results=#[.cell p 72,.cell q 3,.cell r 37]){a:Array ar}{w W:am}{lsn x b d:Int}{v:ar}
 (c:m6 w lsn x v b d W) (o:a.getD p undef=aA (ag ⟨w.heap.size+1,0,ae⟩)) (s:a.getD q undef=aA (ag ⟨w.heap.size+2,0,ae⟩)) (t:a.getD r undef=aA (ag ⟨w.heap.size+3,0,ae⟩)):
 (results g a).run ax W=.ok (.tuple #[.agg #[ay az x,v],ay az b,ay az d]) W:=by
 have u:a[p]?.getD undef=aA (ag ⟨w.heap.size+1,0,ae⟩):=by simpa using o
 have f:a[q]?.getD undef=aA (ag ⟨w.heap.size+2,0,ae⟩):=by simpa using s
 have i:a[r]?.getD undef=aA (ag ⟨w.heap.size+3,0,ae⟩):=by simpa using t
 have j:W.cell? ⟨w.heap.size+1,0,ae⟩=ag (ay az x):=aZ 0 c.QI
 have k:W.cell? ⟨w.heap.size+1,1,ae⟩=ag v:=aZ 1 c.QI
 have m:W.cell? ⟨w.heap.size+2,0,ae⟩=ag (ay az b):=aZ 0 c.atb
 have n:W.cell? ⟨w.heap.size+3,0,ae⟩=ag (ay az d):=aZ 0 c.YN
 simp[results,h,u,f,i,go_sem,j,k,m,n,asAddr,loadVar,Result.andThen]
theorem Cb(ao:Option Addr)(bs:List (BitVec 8))(n ca:Nat)(base s lsn:Int)(seed:BitVec 32)(w:am)(hs:s=bv seed)(hb:cD w ao bs)(hn:bs.length=n)(hz:ao=ae->ca=0)(hl:n<=140737488355328)(h2:base<=9223372036854775807):
 CallsIn Fence.wide 9 ax 77 #[aB ao n ca,ay az base,ay .u32 s,ay az lsn] w λe w'=>∃x v J m er,VH bs base seed lsn x J m er/\e=aF (.tuple #[.agg #[ay az x,v],ay az m,ay az er])/\cU w' w.heap.size v J/\Below w.heap.size w w':=by
 subst hs hn
 have HB:=aH hb
 have HZ:=aH hz
 clear hb hz
 obtain⟨w2,lU⟩:=bP ((((w.alloc (aG #[ay az lsn] 2)).alloc (aG #[ay az 0,aB ae 0 0] 72)).alloc (aG #[ay az 0] 3)).alloc (aG #[ay az 0] 37))
 have Yp:w2.heap.size=w.heap.size+4:=by rw[<-lU];simp
 have X2:m6 w lsn 0 (aB ae 0 0) 0 0 w2:=by
  rw[<-lU]
  have e1:(w.alloc (aG #[ay az lsn] 2)).heap.size=w.heap.size+1:=by simp
  have e2:((w.alloc (aG #[ay az lsn] 2)).alloc (aG #[ay az 0,aB ae 0 0] 72)).heap.size=w.heap.size+2:=by simp
  have e3:(((w.alloc (aG #[ay az lsn] 2)).alloc (aG #[ay az 0,aB ae 0 0] 72)).alloc (aG #[ay az 0] 3)).heap.size=w.heap.size+3:=by simp
  have h1:=bp w (aG #[ay az lsn] 2)
  have h2:=bp (w.alloc (aG #[ay az lsn] 2)) (aG #[ay az 0,aB ae 0 0] 72)
  have h3:=bp ((w.alloc (aG #[ay az lsn] 2)).alloc (aG #[ay az 0,aB ae 0 0] 72)) (aG #[ay az 0] 3)
  have M:=bp (((w.alloc (aG #[ay az lsn] 2)).alloc (aG #[ay az 0,aB ae 0 0] 72)).alloc (aG #[ay az 0] 3)) (aG #[ay az 0] 37)
  have b1:=aY w (aG #[ay az lsn] 2)
  have b2:=aY (w.alloc (aG #[ay az lsn] 2)) (aG #[ay az 0,aB ae 0 0] 72)
  have b3:=aY ((w.alloc (aG #[ay az lsn] 2)).alloc (aG #[ay az 0,aB ae 0 0] 72)) (aG #[ay az 0] 3)
  have b4:=aY (((w.alloc (aG #[ay az lsn] 2)).alloc (aG #[ay az 0,aB ae 0 0] 72)).alloc (aG #[ay az 0] 3)) (aG #[ay az 0] 37)
  rw[e1]at h2
  rw[e2]at h3
  rw[e3]at M
  exact⟨(b4.block _ (by omega)).trans ((b3.block _ (by omega)).trans ((b2.block _ (by omega)).trans h1)),(b4.block _ (by omega)).trans ((b3.block _ (by omega)).trans h2),(b4.block _ (by omega)).trans h3,M,aM b1 (aM b2 (aM b3 b4))⟩
 have XX:=aH X2
 have S2:=aH Yp
 clear X2 Yp
 refine callsIn_of_wp_marks Tryz.func77 rfl trivial ?_ rfl
 simp only[Tryz.ntmps77,iq,bV,eV,Nat.reduceAdd,Nat.reduceSub,Array.replicate_succ,Array.replicate_zero,List.push_toArray,rL,fY,eF]
 gi_wp2
 refine⟨trivial,(tB.2 (Og ao bs bs.length ca base (bv seed) seed w2 rfl (HB.out.below XX.out.below) rfl HZ.out hl)).mono ?_⟩
 rintro e d ⟨bN,bS,bO,xA,ab,rfl,hE,Z⟩
 have EE:=aH hE
 have X1:=aH (XX.out.QT (mA.bh Z (a:=w.heap.size+4) (b:=w.heap.size+4)) dx)
 have Y:Hid (w.heap.size+4<=d.heap.size):=aH (by have:=Z.size;have:=S2.out;omega)
 clear hE Z lU
 unfold UC
 gi_wp2
 refine FM rfl (enters_of Tryz.func124 (by kernel_rfl) rfl) λfn lo Wx=>?_
 obtain⟨q1,q2,q3,q4⟩:=Gd d lo
 simp only[rL,eF,fY]
 have aa:Hid (∀(m:Nat) (x:Int) (H:Option Addr) (nq I:Nat) (W1:am),m6 w lsn 0 (aB ae 0 0) 0 0 W1->W1.heap[d.heap.size+1]?=ag (.loop lo)->W1.heap[d.heap.size]?=ag (.deferred (ag []))->
  YieldAt Fence.wide 5 ax (d.heap.size+1) #[ay az m,.agg #[ay az x,aB H nq I]] W1 λe W2=>∃r f o,ja (d.heap.size+1) W1 r/\mA (w.heap.size+1) (w.heap.size+4) r f/\W2=f.putObj (d.heap.size+1) (.loop o)/\W2.heap[d.heap.size+1]?=ag (.loop o)/\W2.heap[d.heap.size]?=ag (.deferred (ag []))/\
   ((e=aF (aC aj)/\m6 w lsn 0 (aB ae 0 0) 0 0 f/\x≠lsn/\o=lo)\/(e=aF (aC ah)/\m6 w lsn x (aB H nq I) m 0 f/\x=lsn/\o=qg lo .done (ag .ret)))):=aH (by
  intro m x H nq I W1 hX D z
  have p:=(br.1 D).1
  have F:=(br.1 z).1
  have HX:=aH hX
  refine VU (xS Wx trivial D z (by omega) rfl (λW=>m6 w lsn 0 (aB ae 0 0) 0 0 W/\x≠lsn/\ja (d.heap.size+1) W1 W) (λc W=>c=.ret/\m6 w lsn x (aB H nq I) m 0 W/\x=lsn/\∃r,ja (d.heap.size+1) W1 r/\mA (w.heap.size+1) (w.heap.size+4) r W) ?_) ?_
  ·have K2:=aH D
   have K3:=aH z
   clear p F D z hX
   gi_wp2
   have D:=K2.out
   have z:=K3.out
   have p:=(br.1 D).1
   have F:=(br.1 z).1
   obtain⟨p1,p2,p3,p4⟩:=Ok W1 #[ay az x,aB H nq I] 72 (d.heap.size+1) (.loop (qg lo .busy ae)) (by omega)
   refine⟨p4,(aY W1 _).block d.heap.size (by omega),?_⟩
   obtain⟨r,Ph⟩:=bP ((W1.alloc (aG #[ay az x,aB H nq I] 72)).putObj (d.heap.size+1) (.loop (qg lo .busy ae)))
   rw[Ph]
   rw[Ph]at p1 p2 p3
   have c0:=aZ 0 p1
   have c1:=aZ 1 p1
   have S:=Y.out
   have u:=HX.out.QT (mA.q9 p2 (a:=d.heap.size+1) (b:=d.heap.size+2) (by omega) (by omega)) (by omega)
   have k0:=aZ 0 u.acu
   have r0:=aZ 0 u.QI
   have r1:=aZ 1 u.QI
   have Q:r.cell? ⟨w.heap.size+1+1,0,ae⟩=_:=aZ 0 u.atb
   have t:r.cell? ⟨w.heap.size+1+1+1,0,ae⟩=_:=aZ 0 u.YN
   have f0:=bQ 0 u.QI
   have f1:=bQ 1 u.QI
   have f2:r.frozen? ⟨w.heap.size+1+1,0,ae⟩=_:=bQ 0 u.atb
   have f3:r.frozen? ⟨w.heap.size+1+1+1,0,ae⟩=_:=bQ 0 u.YN
   have D3:=aH ((p2.block _ (by omega) (by omega)).trans z)
   have P2:=aH p2
   have P3:=aH p3
   have T:=aH u
   have L1:=aH p
   clear p1 p2 p3 p4 Ph D z p F q1 q2 q3 q4 u S
   by_cases hx:x=lsn
   ·subst hx
    gi_wp2
    have S:=Y.out
    have p:=L1.out
    have s4:=P2.out.size
    obtain⟨t1,t2⟩:=T.out.put x m 0 (aB H nq I)
    exact qW ((t2.block _ (by omega) (by omega)).trans P3.out) ((t2.block _ (by omega) (by omega)).trans D3.out) ⟨rfl,t1,_,P2.out,t2⟩
   ·gi_wp2
    exact qX P3.out D3.out ⟨T.out,hx,P2.out⟩
  ·rintro e W2 (⟨rfl,f,r1,⟨Q,t,G⟩,rfl,U,V⟩ | ⟨rfl,c,f,r1,⟨rfl,Q,t,r,G,r7⟩,rfl,U,V⟩)
   ·exact⟨f,f,_,G,mA.refl _ _ _,rfl,U,V,.inl ⟨rfl,Q,t,rfl⟩⟩
   ·exact⟨r,f,_,G,r7,rfl,U,V,.inr ⟨rfl,Q,t,rfl⟩⟩)
 have S:=Y.out
 have s2:=S2.out
 have EL:=EE.out.on q3
 refine(YR w2.heap.size bN bS bO xA ab bs base seed 5 (d.heap.size+1)
  (λi W=>m6 w lsn 0 (aB ae 0 0) 0 0 W/\(∀j,j<i->bv (rQ bs (eL bs ⟨0,0,base,seed⟩ j)).lsn≠lsn)/\W.heap[d.heap.size+1]?=ag (.loop lo)/\W.heap[d.heap.size]?=ag (.deferred (ag [])))
  (λW=>(∃i v n,1<=base/\(∀j,j<=i->xq bs (eL bs ⟨0,0,base,seed⟩ j))/\bv (rQ bs (eL bs ⟨0,0,base,seed⟩ i)).lsn=lsn/\m6 w lsn lsn v (eL bs ⟨0,0,base,seed⟩ i).end_ 0 W/\d.heap.size+9<=n/\cU W n v (rQ bs (eL bs ⟨0,0,base,seed⟩ i)).data)/\W.heap[d.heap.size+1]?=ag (.loop (qg lo .done (ag .ret)))/\W.heap[d.heap.size]?=ag (.deferred (ag [])))
  (mj d lo) EL (by omega) h2 ?_ ?_ ?_ ?_).mono ?_
 ·rintro i W1 W2 ⟨O,K,B,C⟩ A
  have p:=(br.1 B).1
  have F:=(br.1 C).1
  exact⟨O.QT A (by omega),K,(A.block _ p (by omega)).trans B,(A.block _ F (by omega)).trans C⟩
 ·rintro W1 W2 ⟨⟨i,v,n,O,K,B,C,j5,j6⟩,j7,j8⟩ A
  have p:=(br.1 j7).1
  have F:=(br.1 j8).1
  exact⟨⟨i,v,n,O,K,B,C.QT A (by omega),j5,rR j6 λg g1 g2=>A.block g g2 (by omega)⟩,(A.block _ p (by omega)).trans j7,(A.block _ F (by omega)).trans j8⟩
 ·rintro i W0 W1 v Z A Bb ⟨O,K,B,C⟩ fp hu hO
  have p:=(br.1 B).1
  have F:=(br.1 C).1
  have l4:=hu.size
  obtain⟨H,I,rfl,-,-,-,-,-⟩:=hO.slice
  refine VU (aa.out _ _ _ _ _ W1 (O.QT hu (by omega)) ((hu.block _ p (by omega)).trans B) ((hu.block _ F (by omega)).trans C)) ?_
  rintro e W2 ⟨r,f,o,M,g5,rfl,U,V,h⟩
  have s4:=M.size
  have s5:=g5.size
  have HK:py (mj d lo).heap.size ((mj d lo).heap.size+7) xA W1 (f.putObj (d.heap.size+1) (.loop o)):=by
   refine⟨by simp;omega,λk k1 k2 k3=>?_,λg o' e' k3=>?_⟩
   ·exact(dj (by omega)).trans ((g5.block _ (by omega) (by omega)).trans (M.block _ k3 (by omega)))
   ·have ac:=EE.out.gB g o' e'
    have ad:g<d.heap.size:=by
     obtain⟨g',af,E,N⟩:=EE.out.bytes 0 (by have:=Bb.1;omega)
     rw[e']at E
     injection E with E;injection E with e1 e2
     subst e1
     have:=eK N
     dsimp only at this
     exact this
    exact(dj (by omega)).trans ((g5.block _ (by omega) (by omega)).trans (M.block _ k3 (by omega)))
  rcases h with⟨rfl,n5,hx,rfl⟩ | ⟨rfl,n5,hx,rfl⟩
  ·exact .inl ⟨rfl,⟨n5.QT (mA.putObj _ (by omega) dx (gX _)) (by omega),λj hj=>by
    by_cases e:j=i
    ·subst e;exact hx
    ·exact K j (by omega),U,V⟩,HK⟩
  ·refine .inr ⟨rfl,⟨⟨i,_,W0.heap.size,Z,λj hj=>by
    by_cases e:j=i
    ·subst e;exact Bb
    ·exact A j (by omega),hx,(hx▸n5).QT (mA.putObj _ (by omega) dx (gX _)) (by omega),by omega,?_⟩,U,V⟩,HK⟩
   refine rR hO λg g1 g2=>?_
   exact(dj (by omega)).trans ((g5.block _ (by omega) (by omega)).trans (M.block _ g2 (by omega)))
 ·exact⟨X1.out.QT (mA.bh q3 (a:=w.heap.size+4) (b:=w.heap.size+4)) dx,λj hj=>by omega,q1,q2⟩
 ·rintro e X ⟨⟨v0,rfl⟩,h⟩
  rcases h with⟨i,uQ,r1,Q,t,G⟩ | ⟨⟨i,v,n,O,K,B,C,j5,j6⟩,t,G⟩
  ·refine⟨⟨v0,rfl⟩,.inl ⟨t,?_⟩⟩
   have p:=(br.1 t).1
   have L:=aH (show(X.putObj (d.heap.size+1) (.loop (qg lo .exhausted ae))).heap[d.heap.size]?=ag (.deferred (ag []))from(dj (by omega)).trans G)
   have q:=r1.QT (mA.putObj (.loop (qg lo .exhausted ae)) p dx (gX _)) (by omega)
   obtain⟨f,y⟩:=bP (X.putObj (d.heap.size+1) (.loop (qg lo .exhausted ae)))
   rw[y]at L q ⊢
   clear y r1 t G p s2 S q1 q2 q3 q4 EL
   have c0:=aZ 0 q.QI
   have c1:=aZ 1 q.QI
   have c2:f.cell? ⟨w.heap.size+1+1,0,ae⟩=_:=aZ 0 q.atb
   have c3:f.cell? ⟨w.heap.size+1+1+1,0,ae⟩=_:=aZ 0 q.YN
   have f0:=bQ 0 q.QI
   have f1:=bQ 1 q.QI
   have f2:f.frozen? ⟨w.heap.size+1+1,0,ae⟩=_:=bQ 0 q.atb
   have f3:f.frozen? ⟨w.heap.size+1+1+1,0,ae⟩=_:=bQ 0 q.YN
   have T:=aH q
   have R2:=aH Q
   have HE:=aH uQ
   clear q Q uQ
   gi_wp2
   obtain⟨t1,t2⟩:=T.out.put 0 0 6 (aB ae 0 0)
   have S:=Y.out
   have l5:=(br.1 L.out).1
   have D6:=(t2.block _ l5 (by omega)).trans L.out
   have l6:=(br.1 D6).1
   refine⟨by simp,.inl ⟨_,_,rfl,run_takeDeferred D6,?_⟩⟩
   have t3:=t1.QT (mA.putObj (.deferred ae) l6 dx (gX _)) (by omega)
   exact⟨_,tS rfl t3 rfl rfl rfl,0,_,[],0,6,.inr ⟨i,HE.out,R2.out,rfl,rfl,rfl,rfl⟩,rfl,cU.nil _ _,t3.below⟩
  ·refine⟨⟨v0,rfl⟩,.inr ⟨.ret,t,?_⟩⟩
   have p:=(br.1 t).1
   have L:=aH (show(X.putObj (d.heap.size+1) (.loop (qg lo .exhausted (ag .ret)))).heap[d.heap.size]?=ag (.deferred (ag []))from(dj (by omega)).trans G)
   have q:=C.QT (mA.putObj (.loop (qg lo .exhausted (ag .ret))) p dx (gX _)) (by omega)
   have O5:=rR j6 (w':=X.putObj (d.heap.size+1) (.loop (qg lo .exhausted (ag .ret)))) λg g1 g2=>dj (by omega)
   obtain⟨f,y⟩:=bP (X.putObj (d.heap.size+1) (.loop (qg lo .exhausted (ag .ret))))
   rw[y]at L q O5 ⊢
   have T:=aH q
   have OF:=aH O5
   have D:=aH K
   have z:=aH B
   have J5:=aH j5
   clear y q O5 K B C j5 j6 t G p s2 S q1 q2 q3 q4 EL
   gi_wp2
   have S:=Y.out
   have j5:=J5.out
   have l6:=(br.1 L.out).1
   refine⟨by simp,.inl ⟨_,_,rfl,run_takeDeferred L.out,?_⟩⟩
   have t3:=T.out.QT (mA.putObj (.deferred ae) l6 dx (gX _)) (by omega)
   have o3:=rR OF.out (w':=f.putObj d.heap.size (.deferred ae)) λg g1 g2=>dj (by omega)
   exact⟨_,tS rfl t3 rfl rfl rfl,_,_,_,_,_,.inl ⟨i,O,D.out,z.out,rfl,rfl,rfl,rfl⟩,rfl,cU.base o3 (by omega),t3.below⟩
theorem Of(c:Option Addr)(bs:List (BitVec 8))(n d:Nat)(base s lsn:Int)(seed:BitVec 32)(w:am)(k:s=bv seed)(h:cD w c bs)(j:bs.length=n)(m:c=ae->d=0)(i:n<=140737488355328)(g:base<=9223372036854775807):
 aw ax 77 #[aB c n d,ay az base,ay .u32 s,ay az lsn] w λe w'=>∃x v a b f,VH bs base seed lsn x a b f/\e=aF (.tuple #[.agg #[ay az x,v],ay az b,ay az f])/\cU w' w.heap.size v a/\Below w.heap.size w w':=
 tB.1 (Cb c bs n d base s lsn seed w k h j m i g)
end
section
open Go.RowKit Go.Shelf
structure adD where
 off:Int
 lsn:Int
 v:ar
 d:List (BitVec 8)
section
variable{e:au}{size lo:Nat}{cs:adD->List ar}{w w':am}{lv:ar}{l:List adD}
end
def Told(bs:List (BitVec 8))(a:tj)(l:List adD):Prop:=∀j p,l[j]?=ag p->xq bs (eL bs a j)/\p.off=((eL bs a j).end_:Int)/\p.lsn=bv (rQ bs (eL bs a j)).lsn/\p.d=(rQ bs (eL bs a j)).data
section
variable{P:Nat->Prop}{W W1 W2:am}
end
attribute [local go_sem] Oper.semAt_some
end
section
open Go.RowKit
theorem rh(bs:List (BitVec 8))(s:tj):∀i,eL bs s (i+1)=eL bs (mS bs s) i
 | 0=>rfl
 | i+1=>by
  show mS bs (eL bs s (i+1))=mS bs (eL bs (mS bs s) i)
  rw[rh bs s i]
theorem vT(bs:List (BitVec 8))(s:tj):∀i,(eL bs s i).count=s.count+i/\(eL bs s i).next=s.next+i
 | 0=>⟨rfl,by simp[eL]⟩
 | i+1=>by
  obtain⟨a,b⟩:=vT bs s i
  refine⟨?_,?_⟩
  ·show(eL bs s i).count+1=_;omega
  ·show(eL bs s i).next+1=_;omega
def bY:BitVec 32->Nat->List (List (BitVec 8))->List (BitVec 8)
 | _,_,[]=>[]
 | seed,n,d::ds=>ij seed (BitVec.ofNat 64 n) d++bY (iI seed (BitVec.ofNat 64 n) d) (n+1) ds
def dS:BitVec 32->Nat->List (List (BitVec 8))->BitVec 32
 | seed,_,[]=>seed
 | seed,n,d::ds=>dS (iI seed (BitVec.ofNat 64 n) d) (n+1) ds
theorem pR:∀(seed:BitVec 32) (n:Nat) (ds:List (List (BitVec 8))) (d:List (BitVec 8)),bY seed n (ds++[d])=bY seed n ds++ij (dS seed n ds) (BitVec.ofNat 64 (n+ds.length)) d
 | seed,n,[],d=>by simp[bY,dS]
 | seed,n,x::ds,d=>by
  simp only[eF,bY,dS,bV]
  rw[pR,de,show n+1+ds.length=n+(ds.length+1)by omega]
theorem vK:∀(seed:BitVec 32) (n:Nat) (ds:List (List (BitVec 8))) (d:List (BitVec 8)),dS seed n (ds++[d])=iI (dS seed n ds) (BitVec.ofNat 64 (n+ds.length)) d
 | seed,n,[],d=>by simp[dS]
 | seed,n,x::ds,d=>by
  simp only[eF,dS,bV]
  rw[vK,show n+1+ds.length=n+(ds.length+1)by omega]
theorem kB:∀(seed:BitVec 32) (n:Nat) (ds es:List (List (BitVec 8))),bY seed n (ds++es)=bY seed n ds++bY (dS seed n ds) (n+ds.length) es
 | seed,n,[],es=>by simp[bY,dS]
 | seed,n,x::ds,es=>by
  simp only[eF,bY,dS,bV]
  rw[kB,de,show n+1+ds.length=n+(ds.length+1)by omega]
theorem adh{n:Nat}(h:n<18446744073709551616):bv (BitVec.ofNat 64 n)=(n:Int):=by
 unfold bv
 rw[fk,dD (by omega)]
theorem Uo{bs:List (BitVec 8)}{s:tj}{n:Nat}{d a:List (BitVec 8)}(c:bs.drop s.end_=ij s.seed (BitVec.ofNat 64 n) d++a)(g:s.next=(n:Int))(h:1<=n)(i:n<=9223372036854775806)(e:d.length<=4096):
 xq bs s/\mS bs s=⟨s.count+1,s.end_+(16+d.length),s.next+1,iI s.seed (BitVec.ofNat 64 n) d⟩:=by
 have b:rQ bs s=⟨BitVec.ofNat 64 n,d,16+d.length,iI s.seed (BitVec.ofNat 64 n) d,0⟩:=by
  unfold rQ
  rw[c]
  refine FN e ?_ ?_ <;> (rw[fk,dD (by omega)];omega)
 have f:(bs.drop s.end_).length=16+d.length+a.length:=by rw[c,aN,iK]
 rw[cV]at f
 refine⟨⟨by omega,by rw[b],by rw[b,g];exact adh (by omega)⟩,?_⟩
 unfold mS
 rw[b]
theorem Bf{bs:List (BitVec 8)}:∀(ds:List (List (BitVec 8))) (s:tj) (n:Nat) (behind:List (BitVec 8)),bs.drop s.end_=bY s.seed n ds++behind->s.next=(n:Int)->1<=n->n+ds.length<=9223372036854775807->(∀d∈ds,d.length<=4096)->
 (∀i,i<ds.length->xq bs (eL bs s i))/\∀i,i<=ds.length->eL bs s i=⟨s.count+i,s.end_+(bY s.seed n (ds.take i)).length,s.next+i,dS s.seed n (ds.take i)⟩
 | [],s,n,behind,_,_,_,_,_=>⟨λi a=>by simp at a,λi a=>by
  have:i=0:=by simpa using a
  subst this
  simp[eL,bY,dS]⟩
 | d::ds,s,n,behind,hb,hn,h1,h2,hd=>by
  simp only[bV]at h2
  have b:bs.drop s.end_=ij s.seed (BitVec.ofNat 64 n) d++(bY (iI s.seed (BitVec.ofNat 64 n) d) (n+1) ds++behind):=by
   rw[hb];simp only[bY,de]
  obtain⟨f,hx⟩:=Uo b hn h1 (by omega) (hd d (by simp))
  have e:bs.drop (s.end_+(16+d.length))=bY (iI s.seed (BitVec.ofNat 64 n) d) (n+1) ds++behind:=by
   rw[<-KT,b,List.drop_left' (iK _ _ _)]
  obtain⟨g,h⟩:=Bf ds ⟨s.count+1,s.end_+(16+d.length),s.next+1,iI s.seed (BitVec.ofNat 64 n) d⟩ (n+1) behind e (by dsimp only;omega) (by omega) (by omega) (λx c=>hd x (by simp[c]))
  refine⟨λi a=>?_,λi a=>?_⟩
  ·cases i with
   | zero=>exact f
   | succ i=>
    rw[rh,hx]
    exact g i (by simpa using a)
  ·cases i with
   | zero=>simp[eL,bY,dS]
   | succ i=>
    rw[rh,hx,h i (by simpa using a)]
    simp only[aJ,bY,dS,aN,iK]
    congr 1 <;> omega
end
section
open Go.RowKit
end
end Go.Proofs.YtooinenkenobaaaGreat

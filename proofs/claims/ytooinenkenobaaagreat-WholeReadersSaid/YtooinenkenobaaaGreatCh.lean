/- A part of the proof of what LawWholeReaders says. -/
import Derived.Test.YtooinenkenobaaaGreatAa
import Derived.Test.YtooinenkenobaaaGreatCg
import Derived.Test.YtooinenkenobaaaGreatBl
set_option maxRecDepth 100000
set_option maxHeartbeats 20000000
namespace Go.Proofs.YtooinenkenobaaaGreat
open Option renaming none->ae,some->ag
open Bool renaming false->ah,true->aj
open Go.Proofs.Tryz renaming prog->ax
open Go.Value renaming int->ay,pointer->aA,slice->aB,bool->aC,float->aD
open Go.IntKind renaming i64->az
open Go.FloatKind renaming f64->aE
open Go.Ending renaming returned->aF
open Go.Obj renaming cells->aG
open Go renaming World->am,Value->ar,TypeId->au,Calls->aw
section
open Go.RowKit Go.Maps
theorem sO{w:am}{ops:Array Oper}{l:List Oper}{o:Oper}{a:Act}{Q:Exit->Act->am->Prop}(S:o.guard=ae){s x:Operand}(T E:au)
 (ho:o.op=.call { callee:=.builtin .append,args:=#[s,x],argTypes:=#[T,T] }) {bytes:Nat} {z:ar} (M:Tryz.prog.underlying T=ag (.slice E)) (hI:(Tryz.prog.info? E).map (λi=>(i.zero,i.size,i.bytes))=ag (ag z,1,bytes)) (hz:z.cells.size=1) (hb:bytes<=1024)
 {α:Type} (f:α->List ar) (N:∀x,(f x).length=1) (g b F:Nat) (c:Array ar) (A B:List α) (y:Addr) {n m:Nat} (hn:A.length=n) (hm:B.length=m) (hs:a.eval s=aB (ag ⟨g,b,ae⟩) n n) (hx:a.eval x=aB (ag y) m F)
 (G:w.heap[g]?=ag (.cells c E (0,0))) (L:(c.toList.drop b).take A.length=A.flatMap f) (hB:∀j u,(B.flatMap f)[j]?=ag u->w.cell? (y.add j)=ag u) (W:b+A.length<=c.size) (C:A.length+B.length<=1000000)
 (h:∀k w',iV f E 1 w' k (A++B)->w.grownBy w' (ag g)->(∀q,k.ownBlock=ag q->q=g\/w.heap.size<=q)->wpList ax ops Q l (a.put o.dst k) w'):wpList ax ops Q (o::l) a w:=by
 subst hn hm
 obtain⟨i,O,qv,J,mf⟩:=sy hI
 have p:=jC f 1 N A
 have r:=jC f 1 N B
 have uP:∃k w',(Builtin.append_ #[T,T] o.type #[aB (ag ⟨g,b,ae⟩) A.length A.length,aB (ag y) B.length F]).run ax w=.ok k w'/\iV f E 1 w' k (A++B)/\w.grownBy w' (ag g)/\(∀j,k.ownBlock=ag j->j=g\/w.heap.size<=j):=by
  by_cases V:B.length=0
  ·obtain rfl:B=[]:=eu V
   have D:=qT w T o.type E i M O g b A.length A.length c G y 0 F [] (by rw[io];rfl) (λj u d=>by cases d) (λu hu=>by cases hu) dx (by rw[J,dY];exact W)
   refine⟨_,_,D,.inr ⟨g,b,A.length,_,by rw[dY,eP];rfl,oQ w g c _ E _ G,by rw[eP];exact bT _,by simp only[maxLen];omega,?_,?_⟩,⟨rfl,rfl,rfl,by simp,λq _ I=>setRow_other w g q _ (λe=>I (by rw[e]))⟩,λj d=>.inl (iy d).symm⟩
   ·simp only[iq,eP,eV,aN,dg,cV,Array.length_toList,fD,dY]
    omega
   ·rw[eP,eP,eV,fD,fO,dY,dY]
    exact L
  ·have t:∀j u,(A.flatMap f)[j]?=ag u->w.cell? ((⟨g,b,ae⟩:Addr).add j)=ag u:=λj u d=>by
    rw[show(⟨g,b,ae⟩:Addr).add j=⟨g,b+j,ae⟩by unfold Addr.add;split <;> simp_all,aZ _ G]
    rw[<-L,dt]at d
    split at d
    ·rw[fF,eQ]at d
     exact d
    ·cases d
   have yI:(A.length+B.length)*i.bytes<=140737488355328:=by rw[mf];have:=jU C hb;omega
   have D:=run_append_grow (P:=ax) w T o.type E i z M O qv ⟨g,b,ae⟩ A.length A.length (A.flatMap f) (by rw[p,J]) t y B.length F (B.flatMap f) (by rw[r,J]) hB (by omega) (by omega) (growslice_fits (by omega) yI)
   have H:=grownCap_ge w (A.length+B.length) A.length E
   have U:=grownCap_le_maxLen w (A.length+B.length) A.length E (by simp only[maxLen];omega)
   refine⟨_,_,D,.inr ⟨w.heap.size,0,grownCap w (A.length+B.length) A.length E,_,by rw[io,aN],bp w.drew _,by rw[aN];exact H,U,?_,?_⟩,⟨rfl,rfl,rfl,by simp,λq I _=>heap_alloc_old w.drew _ I⟩,λj d=>.inr (jy (iy d))⟩
   ·simp only[Array.size_append,iq,size_zeroCells,hz,p,r,cL]
    omega
   ·rw[io,aL,aN,EA]
    simp only[Array.toList_append]
    have X:(A.length+B.length)*1=(A.flatMap f++B.flatMap f).length:=by rw[aN,p,r];omega
    rw[X]
    exact List.take_left
 obtain⟨k,w',D,Y,Z,h4⟩:=uP
 refine wpList_plain S λK hK=>?_
 unfold Oper.wp execOp
 simp only[ho,resolve,invoke,builtin,gG,Sem.run_pure,ae',List.map_toArray,aV,a8,hs,hx,D]
 exact hK _ _ (h k w' Y Z h4)
theorem Tryz.mV:(Tryz.prog.info? 119).map (λi=>(i.zero,i.size,i.bytes))=ag (ag (aA ae),1,8):=by kernel_rfl
theorem Tryz.Fq:(Tryz.prog.info? 133).map (·.size)=ag 15:=by kernel_rfl
theorem UA(y b:Nat)(w:am){d c:Array ar}{l k:au}(i:w.heap[y]?=ag (.cells d l (0,0)))(g:w.heap[b]?=ag (.cells c k (0,0)))(f:y≠b):
 (binOp .eql 119 (aA (ag ⟨y,0,ae⟩)) (aA (ag ⟨b,0,ae⟩))).run ax w=.ok (aC ah) w:=by
 obtain⟨j,h,a⟩:=Option.map_eq_some_iff.1 Tryz.Fq
 exact run_eql_ptr_other w Tryz.underlying119 h (by rw[a];decide) (λe=>f (by injection e)) i g
theorem Aj(b:Nat)(w:am):(binOp .eql 119 (aA (ag ⟨b,0,ae⟩)) (aA (ag ⟨b,0,ae⟩))).run ax w=.ok (aC aj) w:=by
 obtain⟨j,a,-⟩:=Option.map_eq_some_iff.1 Tryz.Fq
 exact run_eql_ptr_same w _ Tryz.underlying119 a
section
variable{K:dw}{P:jx}
theorem Di(f t b i:Nat)(E:fm)(j:List Nat)(w:am)(g:Tg)(H:gw w g f t K P E j)(p:j[i]?=ag b)(z:Int)(B:z=(i:Int)+1):
 aw ax 217 #[aA (ag ⟨f,0,ae⟩),ay az z] w λe w'=>e=aF (aA (ag ⟨b,0,ae⟩))/\w=w':=by
 obtain⟨R,J,L,H⟩:=H.ex
 obtain⟨q,C,k,x,o,a,-⟩:=H.ul.own.get jB p
 have M:w.cell? ⟨q,i,ae⟩=ag (aA (ag ⟨b,0,ae⟩)):=by
  have h:=a 0 (by decide)
  rw[dY,fD]at h
  exact h
 have c:w.cell? ⟨f,12,ae⟩=ag R.cv:=H.row.cell 12
 obtain⟨_,_,d,-,A,-⟩:=H.ul.own.shape
 rw[k]at d
 injection d with m _ l
 clear m
 subst l
 have y:(maxLen:Int)=9223372036854775807:=rfl
 rw[k]at c
 have s:=aH H.row
 obtain⟨n,r⟩:=bP j.length
 rw[r]at c x o
 have D:¬ z<1:=by omega
 have u:z-1=(i:Int):=by omega
 have F:(i:Int)<(n:Int):=by omega
 have G:z<=9223372036854775807:=by omega
 have I:IntKind.i64.wrap (z-1)=(i:Int):=by rw[u];exact kT _ (by omega)
 clear k r H a B p
 go_in
 go_wp2_with fail
 refine(uh f w s.out).mono ?_
 rintro e w' ⟨rfl,rfl⟩
 go_wp2_with fail
 go_ret
 exact⟨rfl,rfl⟩
theorem dZ.ahI{w w':am}{g g':Tg}{R:oG}{b d:Nat}{E:fm}{a:List Nat}{e f:Lit->Option ar}(H:dZ w g b d K P E a R e f)(c:Ch [50,52] g w g' w')(L:List Nat)(av:ar)(h:Row w' g' 50 b (jP K P { R with av:=av } ((K.b0+E.D.length:Nat):Int) E.begun E.cT) 122)
 (ha:KH w' g' av (L.map λi=>a[i]?.getD 0)):dZ w' g' b d K P { E with act:=L } a { R with av:=av } e f:=
 ⟨h,H.log.ch c (by decide),H.zL.ch c (by decide),H.Ek.ch c (by decide),H.clk.ch c (by decide),H.ul.ch c (by decide),ha,H.sg.ch c (by decide) (by decide),H.A8.ch c (by decide),H.r',H.ld,H.xy.ch c (by decide) (by decide),H.cls.ch c (by decide),H.cw,H.now⟩
theorem ade(s db b i k:Nat){E:fm}(D:List Nat)(w:am)(g:Tg)(H:gw w g s db K P E D)(hb:D[i]?=ag b)(N:E.act[k]?=ag i)(O:E.act.Nodup)(Y:∀j∈E.act,j<D.length)(G:E.act.length<=5000):
 aw ax 220 #[aA (ag ⟨s,0,ae⟩),aA (ag ⟨b,0,ae⟩)] w λe w'=>e=aF (.tuple #[])/\∃g',Ch [50,52] g w g' w'/\gw w' g' s db K P { E with act:=E.act.erase i } D:=by
 obtain⟨R,fd,fl,H⟩:=H.ex
 obtain⟨L,M⟩:=bP (E.act.map (λi=>D[i]?.getD 0))
 have wR:=H.act
 rw[M]at wR
 have Mc:L.length=E.act.length:=by rw[<-M,bZ]
 have kl:k<L.length:=by rw[Mc];exact(aK.1 N).1
 obtain⟨q,o,l,m,ev,hc,h1,h2,h3,Z⟩:∃(q o l:Nat) (m:Array ar),R.av=aB (ag ⟨q,o*1,ae⟩) L.length l/\w.heap[q]?=ag (.cells m 119 (0,0))/\L.length<=l/\l<=maxLen/\(o+l)*1<=m.size/\(m.toList.drop (o*1)).take (L.length*1)=L.flatMap nu:=by
  rcases wR.own with⟨-,e⟩ | h
  ·rw[e]at kl
   cases kl
  ·exact h
 rw[dY]at ev h3 Z
 rw[dY]at Z
 have tq:g q=52:=wR.tag q (by rw[ev];rfl)
 have J:∀(A:List Nat) j,(A.flatMap nu)[j]?=(A[j]?).map (λy=>(aA (ag ⟨y,0,ae⟩):ar)):=λA j=>by
  have:=kC nu 1 jB A j 0 (by decide)
  rw[dY,fD]at this
  rw[this]
  cases A[j]? <;> rfl
 have F:∀j y,L[j]?=ag y->w.cell? ⟨q,o+j,ae⟩=ag (aA (ag ⟨y,0,ae⟩)):=λj y t=>by
  have lj:=(aK.1 t).1
  have e:=J L j
  rw[t,<-Z,dt,bj lj,fF,eQ]at e
  rw[aZ _ hc]
  exact e
 have Lk:L[k]?=ag b:=by
  rw[<-M,cZ,N]
  show ag (D[i]?.getD 0)=_
  rw[hb]
  rfl
 have Lj:∀j y,j<k->L[j]?=ag y->y≠b:=λj y t f e=>by
  rw[<-M,cZ]at f
  cases hz:E.act[j]? with
  | none=>rw[hz]at f;cases f
  | some z=>
   rw[hz]at f
   injection f with f
   dsimp only at f
   have S:=Y z (cG hz)
   rw[aP S]at f
   have:z=i:=(Q8 S H.cls.nd (j:=i)).1 (by rw[aP S,hb];exact congrArg ag (f.trans e))
   subst this
   have:=(Q8 (aK.1 hz).1 O (j:=k)).1 (by rw[hz,N])
   omega
 have C:∀j y:Nat,L[j]?=ag y->∃cs,w.heap[y]?=ag (Obj.cells cs 133 (0,0)):=λj y f=>by
  rw[<-M,cZ]at f
  cases hz:E.act[j]? with
  | none=>rw[hz]at f;cases f
  | some z=>
   rw[hz]at f
   injection f with f
   dsimp only at f
   have S:=Y z (cG hz)
   rw[aP S]at f
   have ak:z<E.cs.length:=by rw[<-H.cls.len];exact S
   obtain⟨dv,rv,r,-⟩:=(H.cls.ie z _ _ (aP ak) (aP S)).ex
   have TC:D[z]=y:=f
   rw[TC]at r
   exact⟨_,r.row⟩
 have X:∀j y:Nat,j<k->L[j]?=ag y->(binOp .eql 119 (aA (ag ⟨y,0,ae⟩)) (aA (ag ⟨b,0,ae⟩))).run ax w=.ok (aC ah) w:=λj y t f=>by
  obtain⟨cy,ad⟩:=C j y f
  obtain⟨cx,ac⟩:=C k b Lk
  exact UA y b w ad ac (Lj j y t f)
 have er:(E.act.erase i).map (λi=>D[i]?.getD 0)=L.take k++L.drop (k+1):=by
  have e0:E.act.erase i=E.act.take k++E.act.drop (k+1):=by
   have k':=(aK.1 N).1
   have e1:E.act=E.act.take k++i::E.act.drop (k+1):=by
    have:=fO k E.act
    rw[List.drop_eq_getElem_cons k']at this
    rw[(aK.1 N).2]at this
    exact this.symm
   have ni:i∉E.act.take k:=λhm=>by
    obtain⟨j,t⟩:=fg hm
    rw[dt]at t
    split at t
    ·next QO=>
     have:=(Q8 (aK.1 t).1 O (j:=k)).1 (by rw[t,N])
     omega
    ·cases t
   conv=>lhs;rw[e1]
   rw[List.erase_append_right _ ni,List.erase_cons_head]
  rw[e0,gM,List.map_take,List.map_drop,M]
 have UO:w.cell? ⟨s,13,ae⟩=ag (aB (ag ⟨q,o,ae⟩) L.length l):=by have:=H.row.cell 13;rw[this];show ag R.av=_;rw[ev]
 have al:=H.row.free 13
 have T:=aH H
 have VN:=aH F
 have LJ:=aH X
 have LK:=aH Lk
 have ER:=aH er
 have HC:=aH hc
 have U:=aH (And.intro h3 Z)
 have TQ:=aH tq
 have I:=aH J
 have DX:=aH (show L.length<=5000 by rw[Mc];exact G)
 obtain⟨n,hn⟩:=bP L.length
 have V:=aH hn
 rw[hn]at UO kl h1
 have an:(l:Int)<=9223372036854775807:=by have:(maxLen:Int)=9223372036854775807:=rfl;omega
 have n5:n<=5000:=by have:=DX.out;omega
 clear H wR Mc M ev hc h2 h3 Z tq J F Lk Lj C X er hb N O Y G hn
 go_in
 go_wp2_with fail
 go_loopw [11] (λx wr=>∃j:Nat,j<=k/\x=ay az j/\wr=w) (λx _=>k-(intOf x).toNat)
 case atStart=>exact⟨0,cF _,rfl,rfl⟩
 case round=>
  obtain⟨j,t,rfl,rfl⟩:=hrel
  have jz:(j:Int)<(n:Int):=by omega
  obtain⟨y,f⟩:∃y,L[j]?=ag y:=⟨_,aP (by have:=V.out;omega)⟩
  have zc:=VN.out j y f
  by_cases Y:j<k
  ·have ny:=LJ.out j y Y f
   clear f
   go_wp2_with fail
   go_roundw
   case rel=>exact⟨j+1,by omega,by go_num,trivial⟩
   case measure=>simp[intOf];omega
  ·obtain rfl:j=k:=by omega
   rw[LK.out]at f
   injection f with f
   subst f
   have es:=Aj b wr
   go_wp2_with fail
   clear zc es
   have j2:(j:Int)+1<=(l:Int):=by omega
   have j3:(j:Int)<=(l:Int):=by omega
   have qR:∀p:In (λw'=>w'.cell? ⟨s,13,ae⟩=ag (aB (ag ⟨q,o,ae⟩) n l)),p.w.cell? ⟨s,13,ae⟩=ag (aB (ag ⟨q,o,ae⟩) n l):=λp=>p.h
   refine ct [0,1,2,3,4,5,6,7,8,9,10,11,12,13,14,15,16,17] 18 (λw'=>w'.cell? ⟨s,13,ae⟩=ag (aB (ag ⟨q,o,ae⟩) n l)) (by kernel_rfl) (by kernel_rfl) (by intro c a d v w h;cases d <;> exact h) UO ?_
   intro dF
   simp only[pick,aV,a8,aQ,aR,aI,aL]
   refine aX 15 (by kernel_rfl) ?_
   simp only[aJ,aO,aI,aL]
   repeat (go_big_quiet_step (fail))
   refine aU ?_
   refine aS rfl ?_ rfl
   obtain⟨W,aa,eA⟩:∃W:Addr,(if l=j+1 then ag (⟨q,o,ae⟩:Addr)else ag ⟨q,o+(j+1),ae⟩)=ag W/\(l≠j+1->W=⟨q,o+(j+1),ae⟩):=by
    by_cases e:l=j+1
    ·exact⟨_,bj e,λh=>absurd e h⟩
    ·exact⟨_,bf e,λ_=>rfl⟩
   have la:(L.take j).length=j:=by rw[dg,V.out];omega
   have lb:(L.drop (j+1)).length=n-(j+1):=by rw[cV,V.out]
   have hA:(m.toList.drop o).take (L.take j).length=(L.take j).flatMap nu:=by
    rw[la]
    apply jc
    intro x
    rw[I.out,dt,dt]
    by_cases hx:x<j
    ·rw[bj hx,bj hx,<-I.out,<-U.out.2,dt,bj (by have:=V.out;omega)]
    ·rw[bf hx,bf hx]
     rfl
   have hB:∀x u,((L.drop (j+1)).flatMap nu)[x]?=ag u->wr.drew.cell? (W.add x)=ag u:=λx u hx=>by
    rw[I.out,fF]at hx
    cases f:L[j+1+x]? with
    | none=>rw[f]at hx;cases hx
    | some y=>
     rw[f]at hx
     injection hx with hx
     subst hx
     have:=(aK.1 f).1
     rw[eA (by have:=V.out;omega),show(⟨q,o+(j+1),ae⟩:Addr).add x=⟨q,o+(j+1+x),ae⟩by unfold Addr.add;split <;> simp_all;omega]
     exact VN.out _ y f
   go_wp2_with (at_builtin;refine sO (o:=⟨ag 34,_,_,_,_,_⟩) rfl 116 119 rfl Tryz.underlying116 Tryz.mV rfl (by decide) nu jB q o _ m (L.take j) (L.drop (j+1)) W la lb rfl (congrArg (λz=>Value.slice z _ _) aa) HC.out hA hB (by rw[la];have:=U.out.1;omega) (by rw[la,lb];omega) ?_)
   intro v6 w6 o6 g6 i6
   obtain⟨a6,c6,rfl,-⟩:=o6.shape
   obtain⟨l6,Ue⟩:=bP ((L.take j++L.drop (j+1)).length)
   have O6:=aH o6
   have I6:=aH i6
   have G6:=aH g6
   rw[Ue]at O6 I6 ⊢
   have WQ:=aH ((T.out.row.below (bi wr)).grown g6 (λe=>by injection e with e;have:=T.out.row.tag;rw[e,TQ.out]at this;cases this))
   have e6:w6.cell? ⟨s,13,ae⟩=ag (aB (ag ⟨q,o,ae⟩) n l):=by
    have a:=WQ.out.cell 13
    have b:=T.out.row.cell 13
    rw[a,<-b]
    exact UO
   clear o6 g6 i6 Ue UO hA hB eA aa la lb
   go_wp2_with fail
   refine⟨⟨⟨_,e6⟩,rfl⟩,?_⟩
   refine aX 2 (by kernel_rfl) ?_
   simp only[aJ,aO,aI,aL]
   repeat (go_big_quiet_step (fail))
   refine aU ?_
   refine bF ?_
   clear dF qR
   change wpList _ _ _ _ _ _
   have f6:=WQ.out.free 13
   go_wp2_with fail
   refine bn (gF rfl _ _ _) rfl ?_
   have Q:g s=50:=T.out.row.tag
   have af:s<wr.heap.size:=T.out.row.lt
   have ai:q<wr.heap.size:=aT HC.out
   have k6:Ch [50,52] g wr g (w6.setCell ⟨s,13,ae⟩ (aB a6 l6 c6)):=(((Ch.refl [50,52] g wr).on (bi wr)).grown G6.out (λB e=>.inl (by injection e with e;rw[<-e,TQ.out];decide))).set _ (.inl (by rw[Q];decide))
   refine⟨rfl,eJ g wr.heap.size 52,k6.eJ dx,⟨_,_,_,T.out.ahI (k6.eJ dx) _ (aB a6 l6 c6) ?_ ?_⟩⟩
   ·exact(WQ.out.set 13 (aB a6 l6 c6)).gE (dU af)
   ·rw[ER.out]
    have ab:∀B,(Value.slice a6 l6 c6).ownBlock=ag B->B≠s/\eJ g wr.heap.size 52 B=52:=λB hq=>by
     rcases I6.out B hq with e | e
     ·rw[e]
      exact⟨λe2=>(by rw[<-e2,TQ.out]at Q;exact absurd Q (by decide)),(dU ai).trans TQ.out⟩
     ·have e:wr.heap.size<=B:=e
      exact⟨by omega,dQ e⟩
    exact⟨O6.out.same λB hq=>bD (ab B hq).1,λB hq=>(ab B hq).2⟩
end
theorem Xo{s:Nat}(h:s=2\/s=3\/s=4\/s=6\/s=7\/s=8\/s=9):∃a b,lL s=.func (.func a) #[] #[]/\lK s=.func (.func b) #[] #[]:=by
 rcases h with rfl | rfl | rfl | rfl | rfl | rfl | rfl <;> exact⟨_,_,rfl,rfl⟩
section
variable{K:dw}{P:jx}
theorem gw.low{w w':am}{g:Tg}{d b:Nat}{E:fm}{a:List Nat}(h:gw w g d b K P E a)(c:Below w.heap.size w w'):gw w' g d b K P E a:=h.ch (Ch.bh [] g c) (λ_ _ h=>by cases h)
theorem gw.call{w:am}{g:Tg}{e d:Nat}{E:fm}{a:List Nat}(H:gw w g e d K P E a){i b:Nat}{c:CV}(h:E.cs[i]?=ag c)(f:a[i]?=ag b):∃dv rv,Row w g 60 b (ji ((i:Int)+1) c dv rv) 133:=by
 obtain⟨R,j,k,H⟩:=H.ex
 obtain⟨dv,rv,r,-⟩:=(H.cls.ie i c b h f).ex
 exact⟨dv,rv,r⟩
theorem gw.GM{w:am}{g:Tg}{a c:Nat}{E:fm}{b:List Nat}(H:gw w g a c K P E b):a<w.heap.size/\g a=50:=by
 obtain⟨R,d,e,H⟩:=H.ex
 exact⟨H.row.lt,H.row.tag⟩
theorem gw.has{w:am}{g:Tg}{e d:Nat}{E:fm}{a:List Nat}(H:gw w g e d K P E a){i b:Nat}(f:a[i]?=ag b):∃c,E.cs[i]?=ag c:=by
 obtain⟨R,h,j,H⟩:=H.ex
 exact⟨_,aP (by rw[<-H.cls.len];exact(aK.1 f).1)⟩
theorem ada(m u b i:Nat)(E:fm)(o:List Nat)(c:CV)(w:am)(g:Tg)(H:gw w g m u K P E o)(h:fy K E)(hP:kW K P)(I:E.cs[i]?=ag c)(N:o[i]?=ag b)(hr:iX K E c=aj)(iP:c.st=1->c.ask.kind≠5->jp K E c.ask.data)(hd:E.D.length<=1000)(Gs:E.cT<=1000000)(L:E.act.length<=5000)(t8:o.length=E.cs.length)(z:Int)(hz:z=(i:Int)+1):
 aw ax 213 #[aA (ag ⟨m,0,ae⟩),ay az z] w λe w'=>e=aF (ay az 0)/\∃l g',Ch TS g w g' w'/\gw w' g' m u K P (fK K E i l) o:=by
 obtain⟨t,gv,dJ,dL⟩:=bG w #[aA (ag ⟨m,0,ae⟩)] 82
 have j9:=jY dL.out
 obtain⟨w2,lU,lZ,kG⟩:=bG t #[aA ae] 119
 have QK:=jY kG.out
 obtain⟨G,hG⟩:=bP (eJ g w.heap.size 0)
 have G0:=aH (show ∀q,w.heap.size<=q->G q=0 from λq hq=>by rw[<-hG];exact dQ hq)
 have C1:=aH (show Ch [] g w G t from by rw[<-hG];exact Ch.start g dJ.out)
 have C2:=aH (C1.out.on lZ.out)
 have H1:=aH (H.ch C1.out (λ_ _ h=>by cases h))
 have W1:=aH dJ.out.size
 have A1:=aH (show Row w2 G 0 w.heap.size _ _ from⟨(lZ.out.block _ (aT dL.out)).trans dL.out,G0.out _ dx⟩)
 have A2:=aH (show Row w2 G 0 t.heap.size _ _ from⟨kG.out,G0.out _ W1.out⟩)
 have H2:=aH (H1.out.low lZ.out)
 have Z:=Sg hr
 have U:=xm h I Z
 obtain⟨M,Gv⟩:=bP (rdF c.st)
 obtain⟨J,X⟩:=bP (stF c.st)
 have q1:∀xs x,(callFunc M xs).run ax x=.ok (.enter M xs) x:=λxs x=>by rw[<-Gv];exact AU U xs x
 have q2:∀xs x,(callFunc J xs).run ax x=.ok (.enter J xs) x:=λxs x=>by rw[<-X];exact N0 U xs x
 have RD:=aH (show ∀x g',gw x g' m u K P E o->aw ax M #[aA (ag ⟨m,0,ae⟩),aA (ag ⟨b,0,ae⟩)] x λe w'=>e=aF (aC aj)/\Below x.heap.size x w' from λx g' hx=>by rw[<-Gv,<-hr];exact aaS m u b i E o c x g' hx h hP I N Z)
 have Zj:=aH (show ∀x g',gw x g' m u K P E o->aw ax J #[aA (ag ⟨m,0,ae⟩),aA (ag ⟨b,0,ae⟩)] x λe w'=>∃l Y,e=aF (iU (fT K E i c l).1)/\Ch TS g' x Y w'/\gw w' Y m u K P (fT K E i c l).2 o from λx g' hx=>by rw[<-X];exact ahE m u b i E o c x g' hx h hP I N Z iP hd Gs)
 obtain⟨n,hn⟩:=bP (((c.st:Nat):Int):Int)
 have n9:¬ n=9:=by omega
 have D:=aH (show ∀x g',gw x g' m u K P E o->x.cell? ⟨b,6,ae⟩=ag (ay az n)/\x.cell? ⟨b,7,ae⟩=ag (.func (.func M) #[] #[])/\x.cell? ⟨b,8,ae⟩=ag (.func (.func J) #[] #[])from λx g' hx=>by
  obtain⟨dv,rv,r⟩:=hx.call I N
  refine⟨?_,?_,?_⟩
  ·rw[r.cell 6,<-hn]
   rfl
  ·rw[r.cell 7,<-Gv,<-(BL U).2]
   rfl
  ·rw[r.cell 8,<-X,<-(BL U).1]
   rfl)
 have W:=aH (Di m u b i E o t G H1.out N z hz)
 have B:c.st≠1->c.st≠2->c.st≠3->c.st≠4->c.st≠6->c.st≠7->c.back=2\/c.back=3\/c.back=4:=λs1 s2 s3 s4 s6 s7=>by
  rcases h.calls i c I with⟨a,-⟩ | a | ⟨-,-,a⟩ | a
  ·omega
  ·rcases a with⟨a,-⟩ | ⟨a,-⟩ | ⟨a,-⟩ <;> omega
  ·rcases a with⟨a,-⟩ | ⟨a,-⟩ | ⟨a,-⟩ <;> omega
  ·omega
 have Qo:=aH (show ∀l,fK K E i l=GJ (fT K E i c l) i from λl=>NV K E i l I (λs1 s2 s3 s4 s6 s7=>by have:=B s1 s2 s3 s4 s6 s7;omega))
 have ai:=aH (λl=>XK K E i c l B)
 have aa:=aH (show ∃k,E.act[k]?=ag i from fg ((h.act i).2 ⟨c,I,Z⟩))
 have ND:=aH h.nd
 have ab:=aH (show ∀j∈E.act,j<o.length from λj hj=>by
  obtain⟨x,hx,-⟩:=(h.act j).1 hj
  rw[t8]
  exact(aK.1 hx).1)
 have DX:=aH L
 have HB:=aH N
 have ac:=aH H
 have ak:=aH (show ∀y g' l,gw y g' m u K P (fT K E i c l).2 o->y.cell? ⟨b,8,ae⟩=ag (.func (.func J) #[] #[])/\∃dv rv V,Row y g' 60 b (ji ((i:Int)+1) V dv rv) 133 from λy g' l hy=>by
  obtain⟨V,h1,h2⟩:=XM K E i c l I
  obtain⟨dv,rv,r⟩:=hy.call h1 N
  refine⟨?_,dv,rv,V,r⟩
  rw[r.cell 8,<-X,<-(BL U).1,<-h2]
  rfl)
 have al:=aH (λl=>Ss K E i c l)
 have c6:w2.cell? ⟨b,6,ae⟩=ag (ay az n):=(D.out w2 G H2.out).1
 clear H hG h hP I N hr iP hd Gs L t8 hz Z U Gv X hn B
 go_enter_defers Tryz.func213,Tryz.ntmps213
 go_wp2_with fail
 refine W.out.mono ?_
 rintro e w' ⟨rfl,rfl⟩
 go_wp2_with fail
 obtain⟨x,hx⟩:=bP (w2.setCell ⟨t.heap.size,0,ae⟩ (aA (ag ⟨b,0,ae⟩)))
 have CX:=aH (show Ch [] g w G x from by rw[<-hx];exact C2.out.set _ (.inr W1.out))
 have HX:=aH (ac.out.ch CX.out (λ_ _ h=>by cases h))
 have X1:=aH (show Row x G 0 w.heap.size _ _ from by rw[<-hx];exact A1.out.iZ (by omega))
 have X2:=aH (show Row x G 0 t.heap.size _ _ from by rw[<-hx];exact A2.out.set 0 (aA (ag ⟨b,0,ae⟩)))
 rw[hx]
 clear hx c6 j9 QK
 refine Go.wp_mono ?_ xw
 have qR:∀p:In (λw'=>w'.cell? ⟨t.heap.size,0,ae⟩=ag (aA (ag ⟨b,0,ae⟩))/\w'.cell? ⟨w.heap.size,0,ae⟩=ag (aA (ag ⟨m,0,ae⟩))/\w'.cell? ⟨b,7,ae⟩=ag (.func (.func M) #[] #[])),p.w.cell? ⟨t.heap.size,0,ae⟩=ag (aA (ag ⟨b,0,ae⟩))/\p.w.cell? ⟨w.heap.size,0,ae⟩=ag (aA (ag ⟨m,0,ae⟩))/\p.w.cell? ⟨b,7,ae⟩=ag (.func (.func M) #[] #[]):=λp=>p.h
 refine bX [0,1,2,3,4,5,6,7,8,9] (λw'=>w'.cell? ⟨t.heap.size,0,ae⟩=ag (aA (ag ⟨b,0,ae⟩))/\w'.cell? ⟨w.heap.size,0,ae⟩=ag (aA (ag ⟨m,0,ae⟩))/\w'.cell? ⟨b,7,ae⟩=ag (.func (.func M) #[] #[])) (by kernel_rfl) (by kernel_rfl) (by intro c a d v w h;cases d <;> exact h) ⟨X2.out.cell 0,X1.out.cell 0,(D.out x G HX.out).2.1⟩ ?_
 intro dF
 simp only[pick,aV,a8,aQ,aR]
 refine aX 7 (by kernel_rfl) ?_
 simp only[aJ,aO,aI,aL]
 repeat (go_big_quiet_step (fail))
 refine aU ?_
 refine aS rfl ?_ rfl
 go_wp2_with fail
 refine(RD.out x.drew G (HX.out.low (bi x))).mono ?_
 rintro e S ⟨rfl,iY⟩
 have B3:=aH (aM (bi x) iY)
 have H3:=aH (HX.out.low B3.out)
 have Y1:=aH (X1.out.below B3.out)
 have Y2:=aH (X2.out.below B3.out)
 have C3:=aH (CX.out.on B3.out)
 clear iY
 go_wp2_with fail
 refine⟨⟨⟨_,⟨Y2.out.cell 0,Y1.out.cell 0,(D.out S G H3.out).2.1⟩⟩,rfl⟩,?_⟩
 refine aX 2 (by kernel_rfl) ?_
 simp only[aJ,aO,aI,aL]
 repeat (go_big_quiet_step (fail))
 refine aU ?_
 refine bF ?_
 clear dF qR
 refine Dp ?_
 go_wp2_with fail
 refine Go.wp_mono ?_ xw
 have qR:∀p:In (λw'=>w'.cell? ⟨t.heap.size,0,ae⟩=ag (aA (ag ⟨b,0,ae⟩))/\w'.cell? ⟨w.heap.size,0,ae⟩=ag (aA (ag ⟨m,0,ae⟩))/\w'.cell? ⟨b,8,ae⟩=ag (.func (.func J) #[] #[])),p.w.cell? ⟨t.heap.size,0,ae⟩=ag (aA (ag ⟨b,0,ae⟩))/\p.w.cell? ⟨w.heap.size,0,ae⟩=ag (aA (ag ⟨m,0,ae⟩))/\p.w.cell? ⟨b,8,ae⟩=ag (.func (.func J) #[] #[]):=λp=>p.h
 refine ct [0,1,2,3,4,5,6,7,8,9,10] 11 (λw'=>w'.cell? ⟨t.heap.size,0,ae⟩=ag (aA (ag ⟨b,0,ae⟩))/\w'.cell? ⟨w.heap.size,0,ae⟩=ag (aA (ag ⟨m,0,ae⟩))/\w'.cell? ⟨b,8,ae⟩=ag (.func (.func J) #[] #[])) (by kernel_rfl) (by kernel_rfl) (by intro c a d v w h;cases d <;> exact h) ⟨Y2.out.cell 0,Y1.out.cell 0,(D.out S G H3.out).2.2⟩ ?_
 intro dF
 simp only[pick,aV,a8,aQ,aR,aI,aL]
 refine aX 8 (by kernel_rfl) ?_
 simp only[aJ,aO,aI,aL]
 repeat (go_big_quiet_step (fail))
 refine aU ?_
 refine aS rfl ?_ rfl
 go_wp2_with fail
 refine(Zj.out S.drew G (H3.out.low (bi S))).mono ?_
 rintro e C ⟨l,F,rfl,c4,h4⟩
 obtain⟨s,hs⟩:=bP ((fT K E i c l).1)
 have vs:=ai.out l
 rw[hs]at vs ⊢
 obtain⟨f3,f4,O,Q⟩:=Xo vs
 have C4:=aH (show Ch TS G S F C from((Ch.refl TS G S).on (bi S)).trans c4)
 have H4:=aH h4
 have Z1:=aH (Y1.out.ch C4.out (by decide))
 have Z2:=aH (Y2.out.ch C4.out (by decide))
 have HS:=aH hs
 have ad:=aH O
 have af:=aH Q
 have R4:=aH (ak.out C F l h4)
 obtain⟨sn,Ws⟩:=bP (((s:Nat):Int):Int)
 have SN:=aH Ws
 unfold iU lO
 rw[O,Q,Ws]
 clear c4 h4 hs O Q vs Ws
 go_wp2_with fail
 refine⟨⟨⟨_,⟨Z2.out.cell 0,Z1.out.cell 0,R4.out.1⟩⟩,rfl⟩,?_⟩
 refine aX 2 (by kernel_rfl) ?_
 simp only[aJ,aO,aI,aL]
 repeat (go_big_quiet_step (fail))
 refine aU ?_
 refine bF ?_
 clear dF qR
 change wpList _ _ _ _ _ _
 have f6:C.frozen? ⟨b,6,ae⟩=ah/\C.frozen? ⟨b,7,ae⟩=ah/\C.frozen? ⟨b,8,ae⟩=ah/\(∃v,C.cell? ⟨b,6,ae⟩=ag v)/\(∃v,C.cell? ⟨b,7,ae⟩=ag v)/\∃v,C.cell? ⟨b,8,ae⟩=ag v:=by
  obtain⟨dv,rv,V,r⟩:=R4.out.2
  exact⟨r.free 6,r.free 7,r.free 8,⟨_,r.cell 6⟩,⟨_,r.cell 7⟩,⟨_,r.cell 8⟩⟩
 obtain⟨f6,f7,f8,⟨v6,h6⟩,⟨v7,h7⟩,v8,h8⟩:=f6
 go_wp2_with fail
 refine Dp ?_
 obtain⟨T,yy⟩:=bP (((C.setCell ⟨b,6,ae⟩ (ay az sn)).setCell ⟨b,7,ae⟩ (.func (.func f3) #[] #[])).setCell ⟨b,8,ae⟩ (.func (.func f4) #[] #[]))
 obtain⟨c4,Bc⟩:=H4.out.has HB.out
 have H5:=aH (show gw T F m u K P (Gg (s,(fT K E i c l).2) i) o from by
  rw[<-yy,<-SN.out,<-ad.out,<-af.out]
  exact H4.out.lay Bc HB.out s)
 have N5:=aH (show T.cell? ⟨b,6,ae⟩=ag (ay az sn)from by
  obtain⟨dv,rv,V,r⟩:=R4.out.2
  rw[<-yy]
  exact(((r.set 6 (ay az sn)).set 7 (.func (.func f3) #[] #[])).set 8 (.func (.func f4) #[] #[])).cell 6)
 have C5:=aH (show Ch TS F C F T from by
  obtain⟨dv,rv,V,r⟩:=R4.out.2
  rw[<-yy]
  exact(((Ch.refl _ _ _).set _ (.inl (by rw[r.tag];decide))).set _ (.inl (by rw[r.tag];decide))).set _ (.inl (by rw[r.tag];decide)))
 have V1:=aH (Z1.out.ch C5.out (by decide))
 have V2:=aH (Z2.out.ch C5.out (by decide))
 have CC:=aH (show Ch TS g w F T from(C3.out.any.trans C4.out).trans C5.out)
 rw[yy]
 clear yy f6 f7 f8 h6 h7 h8 Bc c4 v6 v7 v8
 have k1:=V1.out.cell 0
 have k2:=V2.out.cell 0
 have k6:=N5.out
 have PE:=aH (show fT K E i c l=(s,(fT K E i c l).2)from by rw[<-HS.out])
 by_cases s9:s=9
 ·have e9:sn=9:=by have:=SN.out;omega
  have H6:=aH (show gw T F m u K P (Gg (9,(fT K E i c l).2) i) o from by rw[<-s9];exact H5.out)
  obtain⟨k,hk⟩:=aa.out
  have A:(Gg (9,(fT K E i c l).2) i).act=E.act:=al.out l
  have an:=aH (ade m u b i k o T F H6.out HB.out (by rw[A];exact hk) (by rw[A];exact ND.out) (by rw[A];exact ab.out) (by rw[A];exact DX.out))
  subst e9
  have S9:=aH s9
  clear A hk s9
  go_wp2_with fail
  refine an.out.mono ?_
  rintro e w6 ⟨rfl,g6,c6,h6⟩
  have C6:=aH c6
  have H7:=aH h6
  clear c6 h6 k1 k2 k6
  go_wp2_with fail
  refine leaves_cons (f:=218) (args:=#[aA (ag ⟨w.heap.size,0,ae⟩),aA (ag ⟨t.heap.size,0,ae⟩)]) (by simp) (by simp[go_sem]) ?_
  refine(Mm w.heap.size t.heap.size w6).mono ?_
  rintro e u' zH ⟨rfl,rfl,rfl⟩
  refine⟨_,results_tmp rfl _ _ _,rfl,l,g6,CC.out.trans (C6.out.mono (by decide)),?_⟩
  rw[Qo.out l,PE.out,S9.out]
  exact H7.out
 ·have e9:¬ sn=9:=by have:=SN.out;omega
  have S9:=aH s9
  clear s9
  go_wp2_with fail
  refine leaves_cons (f:=218) (args:=#[aA (ag ⟨w.heap.size,0,ae⟩),aA (ag ⟨t.heap.size,0,ae⟩)]) (by simp) (by simp[go_sem]) ?_
  refine(Mm w.heap.size t.heap.size T).mono ?_
  rintro e u' zH ⟨rfl,rfl,rfl⟩
  refine⟨_,results_tmp rfl _ _ _,rfl,l,F,CC.out,?_⟩
  rw[Qo.out l,PE.out]
  unfold GJ
  rw[bf S9.out]
  exact H5.out
end
theorem Tryz.LH:(Tryz.prog.info? 3).map (λi=>(i.zero,i.size,i.bytes))=ag (ag (ay az 0),1,8):=by kernel_rfl
def nB(L:List Nat):List Int:=L.map λi:Nat=>((i:Nat):Int)+1
abbrev Hz:=fC lS 3 1
theorem KH.ie{w:am}{g:Tg}{v:ar}{L:List Nat}(h:KH w g v L):∃d i,v=aB d L.length i/\∀j y,L[j]?=ag y->∃q o,d=ag ⟨q,o,ae⟩/\q<w.heap.size/\g q=52/\w.cell? ⟨q,o+j,ae⟩=ag (aA (ag ⟨y,0,ae⟩)):=by
 rcases h.own with⟨rfl,rfl⟩ | ⟨q,o,b,k,rfl,f,m,n,p,c⟩
 ·exact⟨ae,0,rfl,λj y a=>by simp at a⟩
 ·rw[dY]at c
  rw[dY]at c
  refine⟨_,b,rfl,λj y a=>⟨q,o,by rw[dY],aT f,h.tag q rfl,?_⟩⟩
  have l:=(aK.1 a).1
  have e:=kC nu 1 jB L j 0 (by decide)
  rw[dY,fD,a,<-c,dt,bj l,fF,eQ]at e
  rw[aZ _ f]
  exact e
theorem Fe{A:List Nat}{f:Nat->Bool}{k i:Nat}(a:A[k]?=ag i):(A.take (k+1)).filter f=(A.take k).filter f++(if f i then[i]else[]):=by
 rw[ip,a,List.filter_append]
 cases h:f i <;> simp[h]
section
variable{K:dw}{P:jx}
theorem YX(t db:Nat)(E:fm)(G:List Nat)(w:am)(g:Tg)(H:gw w g t db K P E G)(h:fy K E)(hP:kW K P)(J:E.act.length<=5000):
 aw ax 43 #[aA (ag ⟨t,0,ae⟩)] w λe w'=>∃v,e=aF v/\Hz w' v (nB (gZ K E))/\(∀q,v.ownBlock=ag q->w.heap.size<=q)/\Below w.heap.size w w':=by
 obtain⟨R,fd,fl,D⟩:=H.ex
 obtain⟨L,T⟩:=bP (E.act.map (λi=>G[i]?.getD 0))
 have wR:=D.act
 rw[T]at wR
 have Mc:L.length=E.act.length:=by rw[<-T,bZ]
 obtain⟨ao,ca,ev,l⟩:=wR.ie
 have UO:w.cell? ⟨t,13,ae⟩=ag (aB ao L.length ca):=by have:=D.row.cell 13;rw[this];show ag R.av=_;rw[ev]
 have HR:=aH D.row
 have HH:=aH H
 have A:=aH (show ∀j,j<E.act.length->∃i b c,E.act[j]?=ag i/\L[j]?=ag b/\E.cs[i]?=ag c/\G[i]?=ag b/\c.st≠9 from λj hj=>by
  obtain⟨i,y⟩:∃i,E.act[j]?=ag i:=⟨_,aP hj⟩
  obtain⟨c,a,p⟩:=(h.act i).1 (cG y)
  obtain⟨b,s,-⟩:=D.cls.get a
  exact⟨i,b,c,y,by rw[<-T,cZ,y];show ag (G[i]?.getD 0)=_;rw[s];rfl,a,s,p⟩)
 have RD:=aH (λb i c x hx a s p=>aaS (K:=K) (P:=P) t db b i E G c x g hx h hP a s p)
 have HO:=aH (λi c a p=>xm (K:=K) (E:=E) (i:=i) (c:=c) h a p)
 have HC:=aH l
 obtain⟨n,hn⟩:=bP L.length
 have U:=aH (show E.act.length=n by rw[<-Mc];exact hn)
 have n5:n<=5000:=by omega
 rw[hn]at UO
 clear H D h hP J wR T Mc ev l hn
 go_in
 go_wp2_with fail
 refine(uh t w HR.out).mono ?_
 rintro e w' ⟨rfl,rfl⟩
 go_wp2_with fail
 go_loopw [3,14] (λu i wr=>∃k:Nat,k<=n/\i=ay az k/\Hid (Hz wr u (nB ((E.act.take k).filter (rY K E))))/\Hid (∀q,u.ownBlock=ag q->w'.heap.size<=q)/\Hid (Below w'.heap.size w' wr)) (λ_ i _=>n-(intOf i).toNat)
 case atStart=>exact⟨0,cF _,rfl,aH (fC.nil _ _ _ _),aH (λq hq=>by cases hq),aH (cX _ _)⟩
 case round=>
  obtain⟨k,hk,rfl,m,F,B⟩:=hrel
  by_cases fp:k<n
  ·have kz:(k:Int)<(n:Int):=by omega
   obtain⟨i,b,c,y,I,a,s,p⟩:=A.out k (by have:=U.out;omega)
   obtain⟨q,o,rfl,ql,qt,qc⟩:=HC.out k b I
   have x0:wr.cell? ⟨q,o+k,ae⟩=ag (aA (ag ⟨b,0,ae⟩)):=(cm (B.out.block q ql)).trans qc
   have hx:=HH.out.low B.out
   have V:=HO.out i c a p
   obtain⟨S,O⟩:=bP (rdF c.st)
   have q1:∀xs x,(callFunc S xs).run ax x=.ok (.enter S xs) x:=λxs x=>by rw[<-O];exact AU V xs x
   have x7:wr.cell? ⟨b,7,ae⟩=ag (.func (.func S) #[] #[]):=by
    obtain⟨dv,rv,r⟩:=hx.call a s
    rw[r.cell 7,<-O,<-(BL V).2]
    rfl
   have HX:=aH hx
   have Z:=aH (show aw ax S #[aA (ag ⟨t,0,ae⟩),aA (ag ⟨b,0,ae⟩)] wr λe w'=>e=aF (aC (iX K E c))/\Below wr.heap.size wr w' from by rw[<-O];exact RD.out b i c wr hx a s p)
   have RE:=aH (show rY K E i=iX K E c from by unfold rY;rw[a])
   have C:=aH (And.intro a s)
   have TK:=aH (Fe (f:=rY K E) y)
   clear y I a s p ql qt qc hx V O UO
   go_wp2_with fail
   refine Z.out.mono ?_
   rintro e z ⟨rfl,Q⟩
   have M:=aH (aM B.out Q)
   have W:=aH (m.out.below Q)
   have H2:=aH (HX.out.low Q)
   clear Q x0 x7
   cases hv:iX K E c with
   | false=>
    have E2:=aH (show Hz z u3 (nB ((E.act.take (k+1)).filter (rY K E)))from by rw[TK.out,RE.out,hv,bf (by decide),eP];exact W.out)
    clear hv
    go_wp2_with fail
    go_roundw
    case rel=>exact⟨k+1,by omega,by go_num,E2,F,M⟩
    case measure=>simp[intOf];omega
   | true=>
    obtain⟨d,Y⟩:=bP ((i:Int)+1:Int)
    have y0:z.cell? ⟨b,0,ae⟩=ag (ay az d):=by
     obtain⟨dv,rv,r⟩:=H2.out.call C.out.1 C.out.2
     rw[r.cell 0,<-Y]
     rfl
    have EQ:=aH (show nB ((E.act.take (k+1)).filter (rY K E))=nB ((E.act.take k).filter (rY K E))++[d]from by
     rw[TK.out,RE.out,hv,bj rfl]
     unfold nB
     rw[gM,<-Y]
     rfl)
    have LN:=aH (show(nB ((E.act.take k).filter (rY K E))).length<=1000000 from by
     unfold nB
     rw[bZ]
     have h1:=xB (rY K E) (E.act.take k)
     have h2:(E.act.take k).length<=E.act.length:=List.length_take_le' k _
     have:=U.out
     omega)
    have CN:=iT z (lS d) 3
    have X:=aH (W.out.below (aY z (aG (lS d).toArray 3)))
    have N:=aH (aM M.out (aY z (aG (lS d).toArray 3)))
    have WU:=aH CN
    clear CN hv Y
    unfold lS at WU X N
    go_wp2_with (at_builtin;refine cY (o:=⟨ag 32,_,_,_,_,_⟩) rfl _ _ 31 3 rfl Tryz.underlying31 Tryz.LH rfl (by decide) (by decide) lS ro yv _ (nB ((E.act.take k).filter (rY K E))) rfl X.out ⟨z.heap.size,0,ae⟩ d rfl WU.out LN.out ?_)
    intro v5 w5 h5 kL oA
    have H5:=aH (show Hz w5 v5 (nB ((E.act.take (k+1)).filter (rY K E)))from by rw[EQ.out];exact h5)
    have B5:=aH (N.out.grown kL (by have:=N.out.size;omega) F.out)
    have W5:=aH (show ∀q,v5.ownBlock=ag q->w'.heap.size<=q from λq hq=>by
     rcases oA q hq with h | h
     ·exact F.out q h
     ·have:=M.out.size;omega)
    clear h5 kL oA X WU m F B W M N y0
    go_wp2_with fail
    go_roundw
    case rel=>exact⟨k+1,by omega,by go_num,H5,W5,B5⟩
    case measure=>simp[intOf];omega
  ·obtain rfl:k=n:=by omega
   have kz:(k:Int)<=(k:Int):=by omega
   have e:E.act.take k=E.act:=fE (by rw[U.out];omega)
   rw[e]at m
   clear e UO
   go_wp2_with fail
   go_ret
   exact⟨_,rfl,m.out,F.out,B.out⟩
theorem YW(h k b i:Nat)(E:fm)(f:List Nat)(c:CV)(w:am)(g:Tg)(H:gw w g h k K P E f)(l:E.cs[i]?=ag c)(j:f[i]?=ag b)(z:Int)(m:z=(i:Int)+1):
 aw ax 318 #[aA (ag ⟨h,0,ae⟩),ay az z] w λe w'=>e=aF (ay az (c.st:Int))/\w=w':=by
 obtain⟨n,d⟩:=bP (((c.st:Nat):Int):Int)
 have o:w.cell? ⟨b,6,ae⟩=ag (ay az n):=by
  obtain⟨dv,rv,r⟩:=H.call l j
  rw[r.cell 6,<-d]
  rfl
 rw[d]
 have a:=aH (Di h k b i E f w g H j z m)
 clear H l j m d
 go_in
 go_wp2_with fail
 refine a.out.mono ?_
 rintro e w' ⟨rfl,rfl⟩
 go_wp2_with fail
 go_ret
 exact⟨rfl,rfl⟩
end
theorem vL{c:Func}{p t:Tmp}(h:c.results=#[.cell p 52,.tmp t]){a:Array ar}{w:am}(b:Nat){x y z:ar}
 (g:a.getD p undef=aA (ag ⟨b,0,ae⟩)) (d:w.cell? ⟨b,0,ae⟩=ag x) (e:w.cell? ⟨b,1,ae⟩=ag y) (f:w.cell? ⟨b,2,ae⟩=ag z):
 (results c a).run ax w=.ok (.tuple #[.agg #[x,y,z],a.getD t undef]) w:=by
 have i:a[p]?.getD undef=aA (ag ⟨b,0,ae⟩):=by simpa using g
 simp[results,h,i,go_sem,d,e,f,asAddr,loadVar,Result.andThen]
section
variable{K:dw}{P:jx}
theorem Pw(j n b i:Nat)(E:fm)(h:List Nat)(c:CV)(w:am)(g:Tg)(H:gw w g j n K P E h)(o:E.cs[i]?=ag c)(k:h[i]?=ag b)(t:c.st≠9)(z:Int)(p:z=(i:Int)+1):
 aw ax 214 #[aA (ag ⟨j,0,ae⟩),ay az z] w λe w'=>e=aF (.tuple #[.agg #[ay az 0,ay az 0,aB ae 0 0],aC ah])/\Below w.heap.size w w':=by
 obtain⟨s,B,m,a⟩:=bG w #[ay az 0,ay az 0,aB ae 0 0] 52
 have C:=eH a.out
 have f:=H.low m.out
 obtain⟨q,l⟩:=bP (((c.st:Nat):Int):Int)
 have D:¬ q=9:=by omega
 have A:s.cell? ⟨b,6,ae⟩=ag (ay az q):=by
  obtain⟨dv,rv,r⟩:=f.call o k
  rw[r.cell 6,<-l]
  rfl
 have d:=aH (Di j n b i E h s g f k z p)
 have x:=eU (i:=0) (v:=ay az 0) a.out rfl
 have y:=eU (i:=1) (v:=ay az 0) a.out rfl
 have u:=eU (i:=2) (v:=aB ae 0 0) a.out rfl
 clear H f o k p l t
 go_in
 go_wp2_with fail
 refine d.out.mono ?_
 rintro e w' ⟨rfl,rfl⟩
 go_wp2_with fail
 refine bn (vL rfl w.heap.size rfl (aZ 0 a.out) (aZ 1 a.out) (aZ 2 a.out)) rfl ?_
 exact⟨rfl,m.out⟩
theorem Py(S db b i:Nat)(E:fm)(N:List Nat)(c:CV)(w:am)(g:Tg)(H:gw w g S db K P E N)(hc:E.cs[i]?=ag c)(U:N[i]?=ag b)(h9:c.st=9)(hl:c.rd.length<=100000)(z:Int)(hz:z=(i:Int)+1):
 aw ax 214 #[aA (ag ⟨S,0,ae⟩),ay az z] w λe w'=>∃v,e=aF (.tuple #[.agg #[ay az c.err,ay az c.rl,v],aC aj])/\cU w' w.heap.size v c.rd/\Below w.heap.size w w':=by
 obtain⟨a,gv,O,Q⟩:=bG w #[ay az 0,ay az 0,aB ae 0 0] 52
 have j9:=eH Q.out
 obtain⟨F,lU,lZ,kG⟩:=bG a #[ay az 0,ay az 0,aB ae 0 0] 52
 have QK:=eH kG.out
 have H1:=H.low O.out
 have d:=aH (aT Q.out)
 have B2:=aH (aM O.out lZ.out)
 obtain⟨R,fd,fl,HP⟩:=H.ex
 obtain⟨dv,rv,r0,-,x⟩:=(HP.cls.ie i c b hc U).ex
 obtain⟨f,h,rfl,V,W,Bd,rp,s⟩:=x.ex
 have r:=r0.below O.out
 obtain⟨j,I⟩:=bP (((c.err:Nat):Int):Int)
 obtain⟨p,G⟩:=bP (((c.rl:Nat):Int):Int)
 obtain⟨n,X⟩:=bP c.rd.length
 have c6:a.cell? ⟨b,6,ae⟩=ag (ay az 9):=by
  rw[r.cell 6]
  show ag (Value.int IntKind.i64 (c.st:Int))=_
  rw[h9]
  rfl
 have Ev:a.cell? ⟨b,12,ae⟩=ag (ay az j):=by rw[r.cell 12,<-I];rfl
 have J0:a.cell? ⟨b,13,ae⟩=ag (ay az p):=by rw[r.cell 13,<-G];rfl
 have aa:a.cell? ⟨b,14,ae⟩=ag (aB f n h):=by rw[r.cell 14,<-X];rfl
 have A:=aH (show Below w.heap.size w (((F.setCell ⟨a.heap.size,0,ae⟩ (ay az j)).setCell ⟨a.heap.size,1,ae⟩ (ay az p)).setCell ⟨a.heap.size,2,ae⟩ (aB f n h))from bK (bK (bK B2.out (dP d.out) _) (dP d.out) _) (dP d.out) _)
 have BY:=aH (Bd.same (w':=((F.setCell ⟨a.heap.size,0,ae⟩ (ay az j)).setCell ⟨a.heap.size,1,ae⟩ (ay az p)).setCell ⟨a.heap.size,2,ae⟩ (aB f n h)) λq Z e dF=>A.out.block q (s q Z e dF).2)
 have L:=aH (show(((F.setCell ⟨a.heap.size,0,ae⟩ (ay az j)).setCell ⟨a.heap.size,1,ae⟩ (ay az p)).setCell ⟨a.heap.size,2,ae⟩ (aB f n h)).heap[a.heap.size]?=ag (aG #[ay az j,ay az p,aB f n h] 52 (0,0))from bE (bE (bE kG.out 0 _) 1 _) 2 _)
 have RS:=aH (show(((F.setCell ⟨a.heap.size,0,ae⟩ (ay az j)).setCell ⟨a.heap.size,1,ae⟩ (ay az p)).setCell ⟨a.heap.size,2,ae⟩ (aB f n h)).heap[w.heap.size]?=ag (aG #[ay az 0,ay az 0,aB ae 0 0] 52 (0,0))from by
  have y:w.heap.size≠a.heap.size:=bR d.out
  exact(bD y).trans ((bD y).trans ((bD y).trans ((lZ.out.block _ d.out).trans Q.out))))
 have J:=aH rp
 have HN:=aH X
 have HL:=aH hl
 have t:=aH (Di S db b i E N a g H1 U z hz)
 rw[I,G]
 clear H H1 HP r r0 x V W Bd rp s hc U h9 hl hz I G X
 go_in
 go_wp2_with fail
 refine t.out.mono ?_
 rintro e w' ⟨rfl,rfl⟩
 go_wp2_with (at_builtin;refine fG (o:=⟨ag 28,_,_,_,_,_⟩) rfl rfl w.heap.size (aB ae 0 0) [] rfl (cU.nil _ _) f n h c.rd rfl HN.out.symm BY.out J.out (by have:=HL.out;simp only[eV];omega) A.out.size ?_)
 intro v5 w5 T D oA
 obtain⟨B,C,rfl,-⟩:=T.slice
 have H5:=aH (show cU w5 w.heap.size (aB B c.rd.length C) c.rd from T)
 obtain⟨Y,m⟩:=bP c.rd.length
 have W5:=aH (show ∀q,(Value.slice B Y C).ownBlock=ag q->a.heap.size<q from λq s=>by
  rcases oA q (by rw[m];exact s)with e | e
  ·cases e
  ·have:=aT L.out
   omega)
 have T5:=aH ((D.block _ (aT L.out) (λe=>by cases e)).trans L.out)
 have S5:=aH ((D.block _ (aT RS.out) (λe=>by cases e)).trans RS.out)
 have B5:=aH (A.out.grown D A.out.size (λk hk=>by cases hk))
 rw[m]at H5 ⊢
 have t5:=eH T5.out
 have s5:=eH S5.out
 clear T D oA m
 go_wp2_with fail
 have l:=bT w.heap.size
 have l1:w.heap.size<=a.heap.size:=dP d.out
 have y:w.heap.size≠a.heap.size:=bR d.out
 have M:=bE (bE (bE ((bD (i:=2) (u:=aB B Y C) y).trans S5.out) 0 (ay az j)) 1 (ay az p)) 2 (aB B Y C)
 refine bn (vL rfl w.heap.size rfl (aZ 0 M) (aZ 1 M) (aZ 2 M)) rfl ?_
 refine⟨_,rfl,?_,bK (bK (bK (bK B5.out l1 _) l _) l _) l _⟩
 refine dC H5.out λq s=>?_
 have:=W5.out q s
 exact(bD (by omega)).trans ((bD (by omega)).trans ((bD (by omega)).trans (bD (by omega))))
end
end
end Go.Proofs.YtooinenkenobaaaGreat

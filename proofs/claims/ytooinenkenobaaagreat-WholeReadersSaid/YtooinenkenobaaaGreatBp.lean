/- A part of the proof of what LawWholeReaders says. -/
import Derived.Test.YtooinenkenobaaaGreatAa
import Derived.Test.YtooinenkenobaaaGreatBo
import Derived.Test.YtooinenkenobaaaGreatBl
set_option maxRecDepth 100000
set_option maxHeartbeats 20000000
namespace Go.Proofs.YtooinenkenobaaaGreat
open Option renaming none->ae,some->ag
open Bool renaming false->ah,true->aj
open Go.Proofs.Tryz renaming prog->ax
open Go.Value renaming int->ay,pointer->aA,slice->aB,bool->aC,float->aD
open Go.IntKind renaming i64->az
open Go.FloatKind renaming f64->aE
open Go.Ending renaming returned->aF
open Go.Obj renaming cells->aG
open Go renaming World->am,Value->ar,TypeId->au,Calls->aw
section
open Go.RowKit Go.Maps
theorem ly:Keyed ax 2:=int_keyed Tryz.underlying2
def kI(z:Int):Lit:=Lit.int .i64 z
theorem wfI{z:Int}(h:-9223372036854775808<=z/\z<=9223372036854775807):(Lit.int .i64 z).wf=aj:=by
 simp[Lit.wf,IntKind.min,IntKind.max,IntKind.bits,IntKind.signed]
 omega
theorem uO{z:Int}(h:-9223372036854775808<=z/\z<=9223372036854775807):keyOf ax 2 (ay az z)=ag (Lit.int .i64 z):=keyOf_int_mk Tryz.underlying2 (wfI h)
structure jI(w:am)(g:Tg)(qb:Nat)(cap bytes:Int)(held line:List fw)(top:Int)(oW:Nat):Prop where
 bnd:QB cap bytes held line
 ex:∃ib f,zw w g qb cap bytes held line ib/\i9 w g 33 2 ib oW f/\∀z,top<=z->f (kI z)=ae
theorem jI.ch{T:List Nat}{w w':am}{g g':Tg}{qb:Nat}{b bytes:Int}{a line:List fw}{d:Int}{i:Nat}(h:jI w g qb b bytes a line d i)(c:Ch T g w g' w')(e:30∉T/\31∉T/\32∉T/\33∉T):jI w' g' qb b bytes a line d i:=by
 obtain⟨m,f,j,k,l⟩:=h.ex
 exact⟨h.bnd,m,f,j.ch c ⟨e.1,e.2.1,e.2.2.1⟩,k.ch c e.2.2.2,l⟩
theorem Sp(a bytes:Int)(w:am)(g:Tg)(c:1<=a)(d:a<=1024)(f:1<=bytes)(h:bytes<=16777216)(b:Int):
 aw ax 40 #[ay az a,ay az bytes] w λe w'=>∃g',e=aF (.tuple #[aA (ag ⟨w.heap.size+1,0,ae⟩),ay az 0])/\Ch [] g w g' w'/\jI w' g' (w.heap.size+1) a bytes [] [] b 0:=by
 go_in
 have i:=@run_makeMap ax
 go_wp2_with fail
 go_ret2
 refine⟨tg (tg g w.heap.size 33) (w.heap.size+1) 30,rfl,?_,⟨c,d,f,h,by simp;omega,by simp[eR],by simp[eR];omega,(λx hx=>nomatch hx),(λx hx=>nomatch hx),by simp⟩,w.heap.size,gj,⟨aB ae 0 0,0,aB ae 0 0,⟨?_,dG _ _ _⟩,⟨rfl,.inl ⟨rfl,rfl,rfl⟩⟩,iV.nil _ _ _ _,(λq j=>nomatch j)⟩,⟨?_,?_⟩,λ_ _=>rfl⟩
 ·exact((((Ch.refl [] g w).alloc _).alloc _).tg dx).tg (by omega)
 ·exact heap_alloc2_new w _ _
 ·exact(fL.made w 2).move (heap_alloc_old _ _ (by simp))
 ·rw[dA (by omega)];exact dG _ _ _
theorem Sn(a bytes:Int)(w:am)(h:¬(1<=a/\a<=1024/\1<=bytes/\bytes<=16777216)):
 aw ax 40 #[ay az a,ay az bytes] w λe w'=>e=aF (.tuple #[aA ae,ay az 1])/\w'=w:=by
 go_in
 go_wp2_with fail
 all_goals first | (go_ret2;exact⟨rfl,rfl⟩) | (exfalso;omega)
theorem Rb(w:am):(zeroValue 412).run ax w=.ok (.agg #[]) w:=by
 kernel_rfl
theorem Ot{f:Lit->Option ar}{a z:Int}{v:ar}(h:∀z,a<=z->f (kI z)=ae)(b:a+1<=z):fU f (kI a) v (kI z)=ae:=by
 unfold fU
 rw[bf (λe=>by unfold kI at e;injection e with _ e;omega)]
 exact h z (by omega)
def lf(b bytes:Int)(a line:List fw)(x:fw):Bool×List fw×List fw:=
 if line=[]/\((a.length:Int)<b/\x.size<=bytes-eR a)then(aj,a++[x],line)else(ah,a,line++[x])
theorem agi(qb:Nat)(l bytes:Int)(i line:List fw)(b size:Int)(oW:Nat)(w:am)(g:Tg)(Q:jI w g qb l bytes i line b oW)(hs:0<=size/\size<=bytes)(hl:line.length<1024)(ht:-9223372036854775808<=b/\b<=9223372036854775807)(hp:oW<100000):
 aw ax 243 #[aA (ag ⟨qb,0,ae⟩),ay az b,ay az size] w λe w'=>∃g',e=aF (.tuple #[aC (lf l bytes i line ⟨b,size⟩).1,ay az 0])/\Ch [30,31,32,33] g w g' w'/\jI w' g' qb l bytes (lf l bytes i line ⟨b,size⟩).2.1 (lf l bytes i line ⟨b,size⟩).2.2 (b+1) (oW+1):=by
 have B:=Q.bnd
 obtain⟨U,f,M,I,F⟩:=Q.ex
 obtain⟨lv,m,iB,m1,m2,m3,G⟩:=M.ex
 obtain⟨u,x,rfl,af,ad⟩:=m3.shape
 have C:=qc m1
 have c1:=B.c1
 have lk:=I.map.look_ok ly Tryz.underlying164 (Rb w) (uO ht) (by trivial)
 rw[show f (Lit.int .i64 b)=ae from F b (by omega)]at lk
 have bW:=aM (aY w (aG #[] 412)) (aY (w.alloc (aG #[] 412)) (aG #[ay az b,ay az size] 397))
 have nW:=bp (w.alloc (aG #[] 412)) (aG #[ay az b,ay az size] 397)
 rw[show(w.alloc (aG #[] 412)).heap.size=w.heap.size+1 from by simp]at nW
 obtain⟨w1,gv⟩:=bP ((w.alloc (aG #[] 412)).alloc (aG #[ay az b,ay az size] 397))
 rw[gv]at bW nW
 have CS:=aH (Ch.start g bW)
 have BX:=aH (show Row w1 (eJ g w.heap.size 0) 0 (w.heap.size+1) _ _ from⟨nW,dQ (by omega)⟩)
 have R1:=aH (m1.ch CS.out (by decide))
 have K1:=aH (m2.ch CS.out (by decide))
 have I1:=aH (I.ch CS.out (by decide))
 have M1:=I1.out.map
 have LW:=aH (show ∀w' g',Ch [33] g w g' w'->iV ke 397 2 w' (aB u line.length x) line/\∀q,(Value.slice u line.length x).ownBlock=ag q->g' q=32 from λw' g' c=>⟨m3.same λq j=>c.gP q (m3.lt q j) (by rw[G q j];decide),λq j=>(c.tag q (m3.lt q j)).trans (G q j)⟩)
 have BB:=aH B
 have zu:∀z,b+1<=z->fU f (kI b) (.agg #[]) (kI z)=ae:=λz hz=>Ot F hz
 have ZU:=aH zu
 have u0:=B.u0
 have u1:=B.u1
 have b2:=B.b2
 have ab:i.length<=2000:=by have:=B.hl;have:=B.c2;omega
 have W1:=qc R1.out
 obtain⟨V,yC⟩:=bP line.length
 have Y:=aH yC
 rw[yC]at C W1 R1 LW hl
 have lz:(V:Int)<1024:=by omega
 clear Q M I F B m1 m2 m3 G bW nW zu af ad yC
 go_in
 go_wp2_with (first | (go_at_call 45;go_in) | (at_mapUpdate;refine jK rfl 164 rfl 2 412 ly Tryz.underlying164 U oW f rfl M1 (by omega) _ rfl rfl (uO ht) trivial ?_))
 intro n M2 qr
 have C2:=aH (show Ch [33] g w (eJ g w.heap.size 0) n from CS.out.any.grown qr (λq j=>by injection j with j;subst j;exact .inl (by rw[I1.out.tag];decide)))
 have D2:=aH (show Ch [33] (eJ g w.heap.size 0) w1 (eJ g w.heap.size 0) n from(Ch.refl _ _ _).grown qr (λq j=>by injection j with j;subst j;exact .inl (by rw[I1.out.tag];decide)))
 have R2:=aH (R1.out.ch D2.out (by decide))
 have K2:=aH (K1.out.ch D2.out (by decide))
 have I2:=aH (show i9 n (eJ g w.heap.size 0) 33 2 U (oW+1) (fU f (kI b) (.agg #[]))from⟨M2,I1.out.tag⟩)
 have X2:=aH (BX.out.ch D2.out (by decide))
 have L2:=aH (LW.out _ _ C2.out)
 have W2:=qc R2.out
 have k2:=gc X2.out.row
 clear W1 C M1 M2 qr lk R1 K1 I1 BX LW
 by_cases he:V=0
 ·subst he
  have EN:=aH (show line=[]from eu Y.out)
  go_wp2_with (first | (go_at_call 45;go_in))
  refine(Sm qb l bytes (eR i) lv m i.length U ⟨b,size⟩ n R2.out (by omega)).mono ?_
  rintro e r ⟨rfl,T⟩
  have Z:=aH (R2.out.below T)
  have K3:=aH (K2.out.below T)
  have I3:=aH (I2.out.below T)
  have J:=aH (X2.out.below T)
  have s:=aH (show iV ke 397 2 r (aB u 0 x) line/\∀q,(Value.slice u 0 x).ownBlock=ag q->eJ g w.heap.size 0 q=32 from⟨L2.out.1.below T,L2.out.2⟩)
  have C3:=aH (C2.out.on T)
  have k3:=gc J.out.row
  clear T W2 k2 R2 K2 I2 X2 L2 C2 D2
  by_cases t:(i.length:Int)<l/\size<=bytes-eR i
  ·rw[bM t]
   have TT:=aH t
   clear t
   go_wp2_with fail
   refine(Sq qb l bytes (eR i) lv m i.length U i ⟨b,size⟩ r Z K3.out ab (by omega) (by dsimp only;omega)).mono ?_
   rintro e w6 ⟨rfl,g6,ai,ac,aa,r6,k6⟩
   have C6:=aH aa
   have R6:=aH r6
   have K6:=aH k6
   clear aa r6 k6 k3
   go_wp2_with fail
   go_ret2
   have e:lf l bytes i line ⟨b,size⟩=(aj,i++[⟨b,size⟩],line):=by unfold lf;rw[bj ⟨EN.out,TT.out⟩]
   rw[e]
   have k:=BB.out
   have t1:=TT.out
   refine⟨g6,rfl,(C3.out.mono (T':=[30,31,32,33]) (by decide)).trans (C6.out.mono (by decide)),⟨k.c1,k.c2,k.b1,k.b2,by rw[aN];simp;omega,by rw[ki];dsimp only;omega,by rw[ki];dsimp only;omega,k.sz,λy hy=>?_,k.ll⟩,U,_,⟨ai,ac,_,?_,?_,s.out.1.same λq j=>C6.out.gP q (s.out.1.lt q j) (by rw[s.out.2 q j];decide),λq j=>(C6.out.tag q (s.out.1.lt q j)).trans (s.out.2 q j)⟩,I3.out.ch C6.out (by decide),ZU.out⟩
   ·rcases jk.1 hy with h | h
    ·exact k.hs y h
    ·rw[cE.1 h];exact hs
   ·rw[ki,aN]
    exact R6.out
   ·rw[aN]
    exact K6.out
  ·rw[bC t]
   have NR:=aH (show ¬(line=[]/\((i.length:Int)<l/\size<=bytes-eR i))from λh=>t h.2)
   clear t
   go_wp2_with fail
   have q6:∀p:In (λw'=>w'.cell? ⟨qb,6,ae⟩=ag (aB u 0 x)/\w'.cell? ⟨w.heap.size+1,0,ae⟩=ag (ay az b)/\w'.cell? ⟨w.heap.size+1,1,ae⟩=ag (ay az size)),p.w.cell? ⟨qb,6,ae⟩=ag (aB u 0 x)/\p.w.cell? ⟨w.heap.size+1,0,ae⟩=ag (ay az b)/\p.w.cell? ⟨w.heap.size+1,1,ae⟩=ag (ay az size):=λp=>p.h
   have E:r.drew.cell? ⟨qb,6,ae⟩=ag (aB u 0 x)/\r.drew.cell? ⟨w.heap.size+1,0,ae⟩=ag (ay az b)/\r.drew.cell? ⟨w.heap.size+1,1,ae⟩=ag (ay az size):=⟨Z.out.cell 6,J.out.cell 0,J.out.cell 1⟩
   refine ct [0,1,2,3,4,5,6,7,8,9] 10 (λw'=>w'.cell? ⟨qb,6,ae⟩=ag (aB u 0 x)/\w'.cell? ⟨w.heap.size+1,0,ae⟩=ag (ay az b)/\w'.cell? ⟨w.heap.size+1,1,ae⟩=ag (ay az size)) (by kernel_rfl) (by kernel_rfl) (by intro c a d v w h;cases d <;> exact h) E ?_
   intro dF
   simp only[pick,aV,a8,aQ,aR,aI,aL]
   refine aX 6 (by kernel_rfl) ?_
   simp only[aJ,aO,aI,aL]
   repeat (go_big_quiet_step (fail))
   refine aU ?_
   have b4:=aY r.drew (aG (ke ⟨b,size⟩).toArray 397)
   have O:=aH ((s.out.1.below (bi r)).below b4)
   have L:=aH (iT r.drew (ke ⟨b,size⟩) 397)
   have LI:=aH (show line.length<=1000000 by rw[Y.out];omega)
   have G:=aH (And.intro (bL b4 E.1) (And.intro (bL b4 E.2.1) (bL b4 E.2.2)))
   have K:=aH b4
   unfold ke at O L G K
   clear b4
   refine aS rfl ?_ rfl
   go_wp2_with fail
   refine⟨⟨⟨_,G.out⟩,rfl⟩,?_⟩
   refine aS rfl ?_ rfl
   go_wp2_with (at_builtin;refine iM (o:=⟨ag 73,_,_,_,_,_⟩) rfl 161 397 rfl Tryz.underlying161 Tryz.o9 rfl (by decide) (by decide) ke iv rU line rfl O.out ⟨r.heap.size,0,ae⟩ ⟨b,size⟩ rfl L.out LI.out ?_)
   intro v5 W S kL oA
   have A:=aH (show Ch [32] (eJ g w.heap.size 0) r (eJ (eJ g w.heap.size 0) r.heap.size 32) W from(((Ch.bh [32] (eJ g w.heap.size 0) (bi r)).on K.out).grown kL (λq j=>.inl (by rw[s.out.2 q j];decide))).eJ dx)
   have P:=aH (show ∀q,v5.ownBlock=ag q->eJ (eJ g w.heap.size 0) r.heap.size 32 q=32 from λq j=>by
    rcases oA q j with e | e
    ·rw[dU (s.out.1.lt q e)]
     exact s.out.2 q e
    ·exact dQ (by omega))
   have D:=aH (Z.out.ch A.out (by decide))
   have X5:=aH (J.out.ch A.out (by decide))
   have f6:=D.out.free 6
   have W5:=qc D.out
   have N:=aH S
   obtain⟨va,vc,rfl,-⟩:=S.shape
   obtain⟨m5,X⟩:=bP ((line++[(⟨b,size⟩:fw)]).length)
   rw[X]at N P ⊢
   have M5:=aH X
   have Tb:=aH (And.intro (D.out.cell 6) (And.intro (X5.out.cell 0) (X5.out.cell 1)))
   clear S kL oA O L LI G K X
   go_wp2_with fail
   refine⟨⟨⟨_,Tb.out⟩,rfl⟩,?_⟩
   refine aX 2 (by kernel_rfl) ?_
   simp only[aJ,aO,aI,aL]
   repeat (go_big_quiet_step (fail))
   refine aU ?_
   refine bF ?_
   clear dF q6 E Tb
   change wpList _ _ _ _ _ _
   go_wp2_with fail
   go_ret2
   have e:lf l bytes i line ⟨b,size⟩=(ah,i,line++[⟨b,size⟩]):=by unfold lf;rw[bf NR.out]
   rw[e]
   have H:Ch [30] (eJ (eJ g w.heap.size 0) r.heap.size 32) W (eJ (eJ g w.heap.size 0) r.heap.size 32) (W.setCell ⟨qb,6,ae⟩ (aB va m5 vc)):=(Ch.refl _ _ _).set _ (.inl (by rw[D.out.tag];decide))
   have cA:=((C3.out.mono (T':=[30,31,32,33]) (by decide)).trans (A.out.mono (by decide))).trans (H.mono (by decide))
   have k:=BB.out
   refine⟨_,rfl,cA,⟨k.c1,k.c2,k.b1,k.b2,k.hl,k.u0,k.u1,λy hy=>?_,k.hs,by rw[M5.out];have:=M5.out;rw[aN,Y.out]at this;simp at this;omega⟩,U,_,⟨lv,m,_,D.out.set 6 _,(K3.out.ch A.out (by decide)).ch H (by decide),N.out.same λq j=>H.gP q (N.out.lt q j) (by rw[P.out q j];decide),P.out⟩,(I3.out.ch A.out (by decide)).ch H (by decide),ZU.out⟩
   rcases jk.1 hy with h | h
   ·exact k.sz y h
   ·rw[cE.1 h];exact hs
 ·have hz:((V:Int)==0)=ah:=by simp;omega
  have NR:=aH (show ¬(line=[]/\((i.length:Int)<l/\size<=bytes-eR i))from λh=>he (by rw[<-Y.out,h.1];rfl))
  have Z:=R2
  have K3:=K2
  have I3:=I2
  have s:=L2
  have C3:=C2
  have J:=X2
  clear D2
  go_wp2_with (first | (go_at_call 45;go_in))
  have q6:∀p:In (λw'=>w'.cell? ⟨qb,6,ae⟩=ag (aB u V x)/\w'.cell? ⟨w.heap.size+1,0,ae⟩=ag (ay az b)/\w'.cell? ⟨w.heap.size+1,1,ae⟩=ag (ay az size)),p.w.cell? ⟨qb,6,ae⟩=ag (aB u V x)/\p.w.cell? ⟨w.heap.size+1,0,ae⟩=ag (ay az b)/\p.w.cell? ⟨w.heap.size+1,1,ae⟩=ag (ay az size):=λp=>p.h
  have E:n.drew.cell? ⟨qb,6,ae⟩=ag (aB u V x)/\n.drew.cell? ⟨w.heap.size+1,0,ae⟩=ag (ay az b)/\n.drew.cell? ⟨w.heap.size+1,1,ae⟩=ag (ay az size):=⟨Z.out.cell 6,J.out.cell 0,J.out.cell 1⟩
  refine ct [0,1,2,3,4,5,6,7,8,9] 10 (λw'=>w'.cell? ⟨qb,6,ae⟩=ag (aB u V x)/\w'.cell? ⟨w.heap.size+1,0,ae⟩=ag (ay az b)/\w'.cell? ⟨w.heap.size+1,1,ae⟩=ag (ay az size)) (by kernel_rfl) (by kernel_rfl) (by intro c a d v w h;cases d <;> exact h) E ?_
  intro dF
  simp only[pick,aV,a8,aQ,aR,aI,aL]
  refine aX 6 (by kernel_rfl) ?_
  simp only[aJ,aO,aI,aL]
  repeat (go_big_quiet_step (fail))
  refine aU ?_
  have b4:=aY n.drew (aG (ke ⟨b,size⟩).toArray 397)
  have O:=aH ((s.out.1.below (bi n)).below b4)
  have L:=aH (iT n.drew (ke ⟨b,size⟩) 397)
  have LI:=aH (show line.length<=1000000 by rw[Y.out];omega)
  have G:=aH (And.intro (bL b4 E.1) (And.intro (bL b4 E.2.1) (bL b4 E.2.2)))
  have K:=aH b4
  unfold ke at O L G K
  clear b4
  refine aS rfl ?_ rfl
  go_wp2_with fail
  refine⟨⟨⟨_,G.out⟩,rfl⟩,?_⟩
  refine aS rfl ?_ rfl
  go_wp2_with (at_builtin;refine iM (o:=⟨ag 73,_,_,_,_,_⟩) rfl 161 397 rfl Tryz.underlying161 Tryz.o9 rfl (by decide) (by decide) ke iv rU line rfl O.out ⟨n.heap.size,0,ae⟩ ⟨b,size⟩ rfl L.out LI.out ?_)
  intro v5 W S kL oA
  have A:=aH (show Ch [32] (eJ g w.heap.size 0) n (eJ (eJ g w.heap.size 0) n.heap.size 32) W from(((Ch.bh [32] (eJ g w.heap.size 0) (bi n)).on K.out).grown kL (λq j=>.inl (by rw[s.out.2 q j];decide))).eJ dx)
  have P:=aH (show ∀q,v5.ownBlock=ag q->eJ (eJ g w.heap.size 0) n.heap.size 32 q=32 from λq j=>by
   rcases oA q j with e | e
   ·rw[dU (s.out.1.lt q e)]
    exact s.out.2 q e
   ·exact dQ (by omega))
  have D:=aH (Z.out.ch A.out (by decide))
  have X5:=aH (J.out.ch A.out (by decide))
  have f6:=D.out.free 6
  have W5:=qc D.out
  have N:=aH S
  obtain⟨va,vc,rfl,-⟩:=S.shape
  obtain⟨m5,X⟩:=bP ((line++[(⟨b,size⟩:fw)]).length)
  rw[X]at N P ⊢
  have M5:=aH X
  have Tb:=aH (And.intro (D.out.cell 6) (And.intro (X5.out.cell 0) (X5.out.cell 1)))
  clear S kL oA O L LI G K X
  go_wp2_with fail
  refine⟨⟨⟨_,Tb.out⟩,rfl⟩,?_⟩
  refine aX 2 (by kernel_rfl) ?_
  simp only[aJ,aO,aI,aL]
  repeat (go_big_quiet_step (fail))
  refine aU ?_
  refine bF ?_
  clear dF q6 E Tb
  change wpList _ _ _ _ _ _
  go_wp2_with fail
  go_ret2
  have e:lf l bytes i line ⟨b,size⟩=(ah,i,line++[⟨b,size⟩]):=by unfold lf;rw[bf NR.out]
  rw[e]
  have H:Ch [30] (eJ (eJ g w.heap.size 0) n.heap.size 32) W (eJ (eJ g w.heap.size 0) n.heap.size 32) (W.setCell ⟨qb,6,ae⟩ (aB va m5 vc)):=(Ch.refl _ _ _).set _ (.inl (by rw[D.out.tag];decide))
  have cA:=((C3.out.mono (T':=[30,31,32,33]) (by decide)).trans (A.out.mono (by decide))).trans (H.mono (by decide))
  have k:=BB.out
  refine⟨_,rfl,cA,⟨k.c1,k.c2,k.b1,k.b2,k.hl,k.u0,k.u1,λy hy=>?_,k.hs,by rw[M5.out];have:=M5.out;rw[aN,Y.out]at this;simp at this;omega⟩,U,_,⟨lv,m,_,D.out.set 6 _,(K3.out.ch A.out (by decide)).ch H (by decide),N.out.same λq j=>H.gP q (N.out.lt q j) (by rw[P.out q j];decide),P.out⟩,(I3.out.ch A.out (by decide)).ch H (by decide),ZU.out⟩
  rcases jk.1 hy with h | h
  ·exact k.sz y h
  ·rw[cE.1 h];exact hs
theorem AV(qb:Nat)(c bytes b:Int)(d:ar)(a n:Nat)(line:ar)(f:Nat)(L:List fw)(x:fw)(w:am)
 {g:Tg} (H:Hid (Row w g 30 qb (gR c bytes b d a (n+1) line f) 166)) (K:iW w g d a (n+1) (x::L)):
 aw ax 278 #[aA (ag ⟨qb,3,ae⟩)] w λe w'=>e=aF (Em x)/\∃m,Ch [30] g w g w'/\Row w' g 30 qb (gR c bytes b d m n line f) 166/\iW w' g d m n L:=by
 have k:=K.len
 rcases K.ex with⟨-,h,-⟩ | ⟨rb,R,e,l,j⟩
 ·cases h
 ·refine(agj qb c bytes b d a n line f L x w H rb R.length e R rfl l j (by simpa using k)).mono ?_
  rintro p w' ⟨rfl,i,o⟩
  exact⟨rfl,_,i,o,by simpa using k,.inr ⟨rb,R,e,⟨l.row.ch i (by decide)⟩,j.pop⟩⟩
theorem Sr(qb:Nat)(c bytes b:Int)(i:ar)(a n:Nat)(line:ar)(f:Nat)(L:List fw)(x:fw)(w:am)
 {g:Tg} (H:Row w g 30 qb (gR c bytes b i a (n+1) line f) 166) (K:iW w g i a (n+1) (x::L)):
 aw ax 234 #[aA (ag ⟨qb,3,ae⟩),ay az 0] w λe w'=>e=aF (Em x)/\Below w.heap.size w w':=by
 rcases K.ex with⟨-,h,-⟩ | ⟨rb,R,e,k,d⟩
 ·cases h
 ·subst e
  have j:=d.lt
  exact ab2 qb c bytes b rb R.length a (n+1) 0 line f R x w H k (by omega) d.Mj j (by omega) (by rw[d.ie 0 (by simp)];rfl)
def iN(a bytes:Int):List fw->List fw->Int->List fw×List fw
 | [],out,_=>(out,[])
 | x::r,out,s=>if(out.length:Int)<a/\¬(0<out.length/\bytes<s+x.size)then iN a bytes r (out++[x]) (s+x.size)else(out,x::r)
theorem uG(x:fw)(L:List fw):eR (x::L)=x.size+eR L:=by simp[eR]
theorem lN:∀(L:List fw),(∀x∈L,0<=x.size)->0<=eR L
 | [],_=>by simp[eR]
 | x::L,h=>by
  have b:=h x (by simp)
  have c:=lN L λy a=>h y (by simp[a])
  rw[uG];omega
theorem Bm{f:Lit->Option ar}{a z:Int}{k:Lit}(h:∀z,a<=z->f (kI z)=ae)(b:a<=z):oD f k (kI z)=ae:=by
 unfold oD
 split
 ·rfl
 ·exact h z b
theorem QB.cut{a bytes:Int}{b line:List fw}(h:QB a bytes b line)(_:True):QB a bytes [] line:=⟨h.c1,h.c2,h.b1,h.b2,by have:=h.c1;simp;omega,by simp[eR],by have:=h.b1;simp[eR];omega,h.sz,(λx hx=>nomatch hx),h.ll⟩
theorem QB.ahM{c bytes:Int}{a line b r:List fw}(h:QB c bytes a line)(e:b++r=a):QB c bytes r line:=by
 have i:=lN b λy d=>(h.hs y (by rw[<-e];simp[d])).1
 have f:=lN r λy d=>(h.hs y (by rw[<-e];simp[d])).1
 have j:eR a=eR b+eR r:=by rw[<-e];simp[eR]
 have g:=h.hl
 rw[<-e,aN]at g
 have:=h.u1
 exact⟨h.c1,h.c2,h.b1,h.b2,by omega,f,by omega,h.sz,λy d=>h.hs y (by rw[<-e];simp[d]),h.ll⟩
theorem QB.enter{a bytes:Int}:∀{line held:List fw},QB a bytes held line->QB a bytes (eZ a bytes held line).1 (eZ a bytes held line).2.1
 | [],held,h=>by unfold eZ;exact h
 | x::r,held,h=>by
  unfold eZ
  split
  ·exact QB.enter (h.next ‹_›)
  ·exact h
theorem ab0(qb:Nat)(j bytes:Int)(d line:List fw)(Y:Int)(oW:Nat)(m dO:Int)(w:am)(g:Tg)(Q:jI w g qb j bytes d line Y oW)(ad:∀x∈d,-9223372036854775808<=x.id/\x.id<=9223372036854775807):
 aw ax 274 #[aA (ag ⟨qb,0,ae⟩),ay az m,ay az dO] w λe w'=>∃g' vo vi,e=aF (.tuple #[vo,vi])/\Ch [30,31,33] g w g' w'/\
  jI w' g' qb j bytes (eZ j bytes (iN m dO d [] 0).2 line).1 (eZ j bytes (iN m dO d [] 0).2 line).2.1 Y oW/\
  im ke 397 2 w' g' 35 vo (iN m dO d [] 0).1/\im lS 2 1 w' g' 34 vi (eZ j bytes (iN m dO d [] 0).2 line).2.2:=by
 obtain⟨TQ,ab⟩:=bP (iN m dO d [] 0)
 rw[ab]
 have B:=Q.bnd
 obtain⟨A,f,M,I,F⟩:=Q.ex
 have ai:=aH ab
 have BB:=aH B
 have MM:=aH M
 have II:=aH I
 have FF:=aH F
 have af:=aH ad
 have c1:=B.c1
 have C0:w.cell? ⟨qb,0,ae⟩=ag (ay az j)/\qb<w.heap.size:=by
  obtain⟨lv,s,H,m1,-⟩:=M.ex
  exact⟨m1.cell 0,m1.lt⟩
 have d1:decide (0<j)=aj:=bM (by omega)
 clear Q B M I F ab ad
 go_in
 go_wp2_with (first | (go_at_call 45;go_in) | fail)
 clear C0 d1
 go_loopw [8,9] (λu sv wr=>∃(h a:List fw) (k:Tg) (P:Lit->Option ar),sv=ay az (eR a)/\Hid (iN m dO h a (eR a)=TQ)/\Hid (a++h=d)/\Hid (zw wr k qb j bytes h line A)/\Hid (i9 wr k 33 2 A oW P)/\Hid (∀z,Y<=z->P (kI z)=ae)/\Hid (fC ke 397 2 wr u a)/\Hid (∀q,u.ownBlock=ag q->w.heap.size<=q/\k q=35)/\Hid (Ch [30,31,33] g w k wr)) (λu _ _=>d.length-Jr u)
 case atStart=>exact⟨d,[],g,f,rfl,ai,aH rfl,MM,II,FF,aH (fC.nil _ _ _ _),aH (λq c=>nomatch c),aH (Ch.refl _ _ _)⟩
 case round=>
  obtain⟨h,a,k,P,rfl,HT,HA,HM,HI,HF,HO,HG,HC⟩:=hrel
  obtain⟨lv,s,H,m1,m2,m3,m4⟩:=HM.out.ex
  have C1:=qc m1
  have R1:=aH m1
  have K1:=aH m2
  have O1:=aH (And.intro m3 m4)
  obtain⟨ua,uc,rfl,-⟩:=HO.out.shape
  clear m1 m2 m3 m4
  cases h with
  | nil=>
   rw[eV]at C1
   have V:=aH (show TQ=(a,[])from HT.out.symm)
   have BN:QB j bytes [] line:=BB.out.cut trivial
   have BE:=aH (show QB j bytes (eZ j bytes [] line).1 (eZ j bytes [] line).2.1 from BN.enter)
   go_wp2_with fail
   refine(Ci qb j bytes [] line A wr (g:=k) HM.out BN).mono ?_
   rintro e w9 ⟨vi,g9,rfl,D,X,C,G,E⟩
   have J:=aH C
   have I9:=aH D
   have M9:=aH E
   have T9:=aH G
   clear C D E G X
   go_wp2_with fail
   go_ret2
   rw[V.out]
   exact⟨g9,_,_,rfl,HC.out.trans (J.out.mono (by decide)),⟨BE.out,A,P,M9.out,HI.out.ch J.out (by decide),HF.out⟩,⟨HO.out.same λq c=>J.out.gP q (HO.out.lt q c) (by rw[(HG.out q c).2];decide),λq c=>(J.out.tag q (HO.out.lt q c)).trans (HG.out q c).2⟩,⟨I9.out,T9.out⟩⟩
  | cons x r=>
   obtain⟨n,hn⟩:=bP r.length
   rw[bV,hn]at C1 R1 K1
   have HN:=aH hn
   have nz:(0:Int)<(n:Int)+1:=by omega
   have B:=BB.out
   have hx:=B.hs x (by rw[<-HA.out];simp)
   have ac:=af.out x (by rw[<-HA.out];simp)
   have b2:=B.b2
   have u1:=B.u1
   have uo:0<=eR a/\0<=eR r/\eR a+(x.size+eR r)=eR d:=by
    have h1:=lN a λy hy=>(B.hs y (by rw[<-HA.out];simp[hy])).1
    have h2:=lN r λy hy=>(B.hs y (by rw[<-HA.out];simp[hy])).1
    refine⟨h1,h2,?_⟩
    rw[<-uG,<-HA.out]
    simp[eR]
   have z1:IntKind.i64.wrap (eR a+x.size)=eR a+x.size:=nH (by omega)
   have z2:IntKind.i64.wrap (eR (x::r)-x.size)=eR r:=by rw[uG,nH (by omega)];omega
   have BN:QB j bytes (x::r) line:=B.ahM HA.out
   have BE:=aH (show QB j bytes (eZ j bytes (x::r) line).1 (eZ j bytes (x::r) line).2.1 from BN.enter)
   have LO:=aH (show a.length+(n+1)=d.length by rw[<-HA.out,aN,bV,HN.out])
   have oz:(a.length:Int)<=100000:=by have:=LO.out;have:=B.hl;have:=B.c2;omega
   clear hn B
   by_cases h1:(a.length:Int)<m
   ·go_wp2_with fail
    refine(Sr qb j bytes (eR (x::r)) lv s n H A r x wr R1.out K1.out).mono ?_
    rintro e p ⟨rfl,eA⟩
    have B2:=aH eA
    obtain⟨id,size⟩:=x
    unfold Em
    dsimp only at hx ac z1 z2 uo
    obtain⟨w3,pD,qE,pZ⟩:=bG p #[ay az id,ay az size] 397
    have Js:=gc pZ.out
    have Z:=aH (show Ch [] k wr (eJ k p.heap.size 0) w3 from((Ch.bh [] k (aM B2.out qE.out))).eJ B2.out.size)
    have X3:=aH (show Row w3 (eJ k p.heap.size 0) 0 p.heap.size _ _ from⟨pZ.out,dQ dx⟩)
    have R3:=aH (R1.out.ch Z.out (by decide))
    have K3:=aH (K1.out.ch Z.out (by decide))
    have C3:=aH (HC.out.trans Z.out.any)
    have I3:=aH (HI.out.ch Z.out (by decide))
    have O3:=aH (HO.out.same λq c=>Z.out.gP q (HO.out.lt q c) (λh=>nomatch h))
    have O:=aH (show ∀q,(Value.slice ua a.length uc).ownBlock=ag q->w.heap.size<=q/\eJ k p.heap.size 0 q=35 from λq c=>⟨(HG.out q c).1,(Z.out.tag q (HO.out.lt q c)).trans (HG.out q c).2⟩)
    have M3:=aH (HM.out.ch Z.out (by decide))
    have L3:=aH (show iV ke 397 2 w3 H line/\∀q,H.ownBlock=ag q->eJ k p.heap.size 0 q=32 from⟨O1.out.1.same λq c=>Z.out.gP q (O1.out.1.lt q c) (λh=>nomatch h),λq c=>(Z.out.tag q (O1.out.1.lt q c)).trans (O1.out.2 q c)⟩)
    clear eA C1
    by_cases t:0<a.length/\dO<eR a+size
    ·have V:=aH (show TQ=(a,⟨id,size⟩::r)from by rw[<-HT.out];unfold iN;rw[bf (λh=>h.2 t)])
     have t1:(0:Int)<(a.length:Int):=by omega
     have t2:=t.2
     clear R3 K3 Z X3
     go_wp2_with fail
     refine(Ci qb j bytes (⟨id,size⟩::r) line A w3 (g:=(eJ k p.heap.size 0)) M3.out BN).mono ?_
     rintro e w9 ⟨vi,g9,rfl,D,X,C,G,E⟩
     have J:=aH C
     have I9:=aH D
     have M9:=aH E
     have T9:=aH G
     clear C D E G X
     go_wp2_with fail
     go_ret2
     rw[V.out]
     exact⟨g9,_,_,rfl,C3.out.trans (J.out.mono (by decide)),⟨BE.out,A,P,M9.out,I3.out.ch J.out (by decide),HF.out⟩,⟨O3.out.same λq c=>J.out.gP q (O3.out.lt q c) (by rw[(O.out q c).2];decide),λq c=>(J.out.tag q (O3.out.lt q c)).trans (O.out q c).2⟩,⟨I9.out,T9.out⟩⟩
    ·have aa:=aH (show iN m dO r (a++[⟨id,size⟩]) (eR (a++[⟨id,size⟩]))=TQ from by
      rw[<-HT.out]
      conv=>rhs;unfold iN
      rw[bj ⟨h1,t⟩,ki])
     obtain⟨U,hU⟩:=bP (eR (⟨id,size⟩::r))
     rw[hU]at R3 z2
     clear M3 BE BN hU
     by_cases t1:a.length=0
     ·have t2:decide ((0:Int)<(a.length:Int))=ah:=bC (by omega)
      have t3:¬ 0<a.length:=by omega
      clear t1
      go_wp2_with fail
      refine(AV qb j bytes U lv s n H A r ⟨id,size⟩ w3 R3 K3.out).mono ?_
      rintro e l ⟨rfl,W,K,r4,k4⟩
      unfold Em
      dsimp only
      have C4:=aH K
      have R4:=aH r4
      have K4:=aH k4
      have X4:=aH (X3.out.ch K (by decide))
      have I4:=aH (I3.out.ch K (by decide))
      have O4:=aH (O3.out.same λq c=>K.gP q (O3.out.lt q c) (by rw[(O.out q c).2];decide))
      have L4:=aH (show iV ke 397 2 l H line from L3.out.1.same λq c=>K.gP q (L3.out.1.lt q c) (by rw[L3.out.2 q c];decide))
      have O5:=aH (O4.out.below (aY l (aG (ke ⟨id,size⟩).toArray 397)))
      have CN:=aH (iT l (ke ⟨id,size⟩) 397)
      have LI:=aH (show a.length<=1000000 by omega)
      unfold ke at O5 CN
      clear K r4 k4 Js R3 K3 X3 I3 pD
      go_wp2_with (at_builtin;refine cY (o:=⟨ag 47,_,_,_,_,_⟩) rfl _ _ 161 397 rfl Tryz.underlying161 Tryz.o9 rfl (by decide) (by decide) ke iv rU _ a rfl O5.out ⟨l.heap.size,0,ae⟩ ⟨id,size⟩ rfl CN.out LI.out ?_)
      intro v5 N h5 kL oA
      have L:=aH (show Ch [35] (eJ k p.heap.size 0) l (eJ (eJ k p.heap.size 0) l.heap.size 35) N from(((Ch.refl _ _ _).alloc _).grown kL (λq c=>.inl (by rw[(O.out q c).2];decide))).eJ dx)
      have GW:=aH (show Ch [30,31,33] g w (eJ (eJ k p.heap.size 0) l.heap.size 35) N from(((C3.out.trans (C4.out.mono (by decide))).alloc _).grown kL (λq c=>.inr (O.out q c).1)).eJ (bJ C3.out.size C4.out.size))
      have T5:=aH (show ∀q,v5.ownBlock=ag q->w.heap.size<=q/\eJ (eJ k p.heap.size 0) l.heap.size 35 q=35 from λq c=>by
       rcases oA q c with e | e
       ·refine⟨(O.out q e).1,?_⟩
        rw[dU (O4.out.lt q e)]
        exact(O.out q e).2
       ·have:=C3.out.size
        have:=C4.out.size
        exact⟨by omega,dQ (by omega)⟩)
      have R5:=aH (R4.out.ch L.out (by decide))
      have K5:=aH (K4.out.ch L.out (by decide))
      have X5:=aH (X4.out.ch L.out (by decide))
      have I5:=aH (I4.out.ch L.out (by decide))
      have L5:=aH (show iV ke 397 2 N H line/\∀q,H.ownBlock=ag q->eJ (eJ k p.heap.size 0) l.heap.size 35 q=32 from⟨L4.out.same λq c=>L.out.gP q (L4.out.lt q c) (by rw[L3.out.2 q c];decide),λq c=>(L.out.tag q (L4.out.lt q c)).trans (L3.out.2 q c)⟩)
      have H5:=aH (show fC ke 397 2 N v5 (a++[⟨id,size⟩])from h5)
      have f2:=R5.out.free 2
      have W5:=qc R5.out
      have k5:=gc X5.out.row
      obtain⟨va,vc,rfl,-⟩:=h5.shape
      obtain⟨m5,zN⟩:=bP ((a++[(⟨id,size⟩:fw)]).length)
      rw[zN]at H5 T5 ⊢
      have M5:=aH (show m5=a.length+1 by rw[<-zN,aN];rfl)
      clear h5 kL oA O5 CN LI zN R4 K4 X4 I4 L4 O4
      go_wp2_with fail
      refine cj 9 (by kernel_rfl) (by kernel_rfl) ?_
      simp only[aJ,aO,aI,aL]
      repeat (go_big_quiet_step (fail))
      refine aU ?_
      intro wq lT
      obtain⟨nq,rfl⟩:=lT
      go_wp2_with fail
      have T:=((Ch.refl [30] (eJ (eJ k p.heap.size 0) l.heap.size 35) N).drewN nq).set (b:=qb) (i:=2) (ay az (eR r)) (.inl (by rw[R5.out.tag];decide))
      have R6:=(R5.out.dn nq).set 2 (ay az (eR r))
      generalize(N.drewN nq).setCell ⟨qb,2,ae⟩ (ay az (eR r))=w6 at T R6 ⊢
      have ML:=aH (show Row w6 (eJ (eJ k p.heap.size 0) l.heap.size 35) 30 qb (gR j bytes (eR r) lv W n H A) 166 from R6)
      have Q6:=aH T
      have I6:=aH (I5.out.ch T (by decide))
      have M6:=I6.out.map
      have X6:=aH (X5.out.ch T (by decide))
      have W6:=qc ML.out
      have k6:=gc X6.out.row
      clear T R6 W5 k5 f2
      go_wp2_with fail
      refine cj 6 (by kernel_rfl) (by kernel_rfl) ?_
      simp only[aJ,aO,aI,aL]
      repeat (go_big_quiet_step (fail))
      refine aU ?_
      intro wq lT
      obtain⟨nr,rfl⟩:=lT
      have S:=M6.move (w':=w6.drewN nr) rfl
      go_wp2_with (at_delete;refine mL rfl 164 2 rfl 412 ly Tryz.underlying164 A oW P rfl S rfl (uO ac) ?_)
      intro w7 M7 Iw
      have C7:=aH (show Ch [33] (eJ (eJ k p.heap.size 0) l.heap.size 35) w6 (eJ (eJ k p.heap.size 0) l.heap.size 35) w7 from((Ch.refl _ _ _).drewN nr).grown Iw (λq c=>by injection c with c;subst c;exact .inl (by rw[I6.out.tag];decide)))
      have Q7:=aH ((Q6.out.mono (T':=[30,33]) (by decide)).trans (C7.out.mono (by decide)))
      have FA:=aH (show zw w7 (eJ (eJ k p.heap.size 0) l.heap.size 35) qb j bytes r line A from⟨lv,W,H,by rw[HN.out];exact ML.out.ch C7.out (by decide),by rw[HN.out];exact K5.out.ch Q7.out (by decide),L5.out.1.same λq c=>Q7.out.gP q (L5.out.1.lt q c) (by rw[L5.out.2 q c];decide),λq c=>L5.out.2 q c⟩)
      have FB:=aH (show i9 w7 (eJ (eJ k p.heap.size 0) l.heap.size 35) 33 2 A oW (oD P (Lit.int .i64 id))from⟨M7,I6.out.tag⟩)
      have FC:=aH (H5.out.same λq c=>Q7.out.gP q (H5.out.lt q c) (by rw[(T5.out q c).2];decide))
      have FD:=aH (GW.out.trans (Q7.out.mono (by decide)))
      have FE:=aH (show ∀z,Y<=z->oD P (Lit.int .i64 id) (kI z)=ae from λz hz=>Bm HF.out hz)
      have FH:=aH (show(a++[(⟨id,size⟩:fw)])++r=d by rw[<-HA.out];simp)
      have SO:=ki a ⟨id,size⟩
      dsimp only at SO
      clear M7 Iw W6 k6 M6 S
      go_wp2_with fail
      go_roundw
      case rel=>first | exact⟨r,a++[⟨id,size⟩],_,_,by rw[SO],aa,FH,FA,FB,FE,FC,T5,FD⟩ | ((repeat apply Exists.intro);exact⟨⟨r,a++[⟨id,size⟩],_,_,by rw[SO],aa,FH,FA,FB,FE,FC,T5,FD⟩,rfl⟩)
      case measure=>
       show d.length-m5<d.length-a.length
       have:=M5.out;have:=LO.out;omega
     ·have t2:(0:Int)<(a.length:Int):=by omega
      have t3:eR a+size<=dO:=by omega
      go_wp2_with fail
      refine(AV qb j bytes U lv s n H A r ⟨id,size⟩ w3 R3 K3.out).mono ?_
      rintro e l ⟨rfl,W,K,r4,k4⟩
      unfold Em
      dsimp only
      have C4:=aH K
      have R4:=aH r4
      have K4:=aH k4
      have X4:=aH (X3.out.ch K (by decide))
      have I4:=aH (I3.out.ch K (by decide))
      have O4:=aH (O3.out.same λq c=>K.gP q (O3.out.lt q c) (by rw[(O.out q c).2];decide))
      have L4:=aH (show iV ke 397 2 l H line from L3.out.1.same λq c=>K.gP q (L3.out.1.lt q c) (by rw[L3.out.2 q c];decide))
      have O5:=aH (O4.out.below (aY l (aG (ke ⟨id,size⟩).toArray 397)))
      have CN:=aH (iT l (ke ⟨id,size⟩) 397)
      have LI:=aH (show a.length<=1000000 by omega)
      unfold ke at O5 CN
      clear K r4 k4 Js R3 K3 X3 I3 pD
      go_wp2_with (at_builtin;refine cY (o:=⟨ag 47,_,_,_,_,_⟩) rfl _ _ 161 397 rfl Tryz.underlying161 Tryz.o9 rfl (by decide) (by decide) ke iv rU _ a rfl O5.out ⟨l.heap.size,0,ae⟩ ⟨id,size⟩ rfl CN.out LI.out ?_)
      intro v5 N h5 kL oA
      have L:=aH (show Ch [35] (eJ k p.heap.size 0) l (eJ (eJ k p.heap.size 0) l.heap.size 35) N from(((Ch.refl _ _ _).alloc _).grown kL (λq c=>.inl (by rw[(O.out q c).2];decide))).eJ dx)
      have GW:=aH (show Ch [30,31,33] g w (eJ (eJ k p.heap.size 0) l.heap.size 35) N from(((C3.out.trans (C4.out.mono (by decide))).alloc _).grown kL (λq c=>.inr (O.out q c).1)).eJ (bJ C3.out.size C4.out.size))
      have T5:=aH (show ∀q,v5.ownBlock=ag q->w.heap.size<=q/\eJ (eJ k p.heap.size 0) l.heap.size 35 q=35 from λq c=>by
       rcases oA q c with e | e
       ·refine⟨(O.out q e).1,?_⟩
        rw[dU (O4.out.lt q e)]
        exact(O.out q e).2
       ·have:=C3.out.size
        have:=C4.out.size
        exact⟨by omega,dQ (by omega)⟩)
      have R5:=aH (R4.out.ch L.out (by decide))
      have K5:=aH (K4.out.ch L.out (by decide))
      have X5:=aH (X4.out.ch L.out (by decide))
      have I5:=aH (I4.out.ch L.out (by decide))
      have L5:=aH (show iV ke 397 2 N H line/\∀q,H.ownBlock=ag q->eJ (eJ k p.heap.size 0) l.heap.size 35 q=32 from⟨L4.out.same λq c=>L.out.gP q (L4.out.lt q c) (by rw[L3.out.2 q c];decide),λq c=>(L.out.tag q (L4.out.lt q c)).trans (L3.out.2 q c)⟩)
      have H5:=aH (show fC ke 397 2 N v5 (a++[⟨id,size⟩])from h5)
      have f2:=R5.out.free 2
      have W5:=qc R5.out
      have k5:=gc X5.out.row
      obtain⟨va,vc,rfl,-⟩:=h5.shape
      obtain⟨m5,zN⟩:=bP ((a++[(⟨id,size⟩:fw)]).length)
      rw[zN]at H5 T5 ⊢
      have M5:=aH (show m5=a.length+1 by rw[<-zN,aN];rfl)
      clear h5 kL oA O5 CN LI zN R4 K4 X4 I4 L4 O4
      go_wp2_with fail
      refine cj 9 (by kernel_rfl) (by kernel_rfl) ?_
      simp only[aJ,aO,aI,aL]
      repeat (go_big_quiet_step (fail))
      refine aU ?_
      intro wq lT
      obtain⟨nq,rfl⟩:=lT
      go_wp2_with fail
      have T:=((Ch.refl [30] (eJ (eJ k p.heap.size 0) l.heap.size 35) N).drewN nq).set (b:=qb) (i:=2) (ay az (eR r)) (.inl (by rw[R5.out.tag];decide))
      have R6:=(R5.out.dn nq).set 2 (ay az (eR r))
      generalize(N.drewN nq).setCell ⟨qb,2,ae⟩ (ay az (eR r))=w6 at T R6 ⊢
      have ML:=aH (show Row w6 (eJ (eJ k p.heap.size 0) l.heap.size 35) 30 qb (gR j bytes (eR r) lv W n H A) 166 from R6)
      have Q6:=aH T
      have I6:=aH (I5.out.ch T (by decide))
      have M6:=I6.out.map
      have X6:=aH (X5.out.ch T (by decide))
      have W6:=qc ML.out
      have k6:=gc X6.out.row
      clear T R6 W5 k5 f2
      go_wp2_with fail
      refine cj 6 (by kernel_rfl) (by kernel_rfl) ?_
      simp only[aJ,aO,aI,aL]
      repeat (go_big_quiet_step (fail))
      refine aU ?_
      intro wq lT
      obtain⟨nr,rfl⟩:=lT
      have S:=M6.move (w':=w6.drewN nr) rfl
      go_wp2_with (at_delete;refine mL rfl 164 2 rfl 412 ly Tryz.underlying164 A oW P rfl S rfl (uO ac) ?_)
      intro w7 M7 Iw
      have C7:=aH (show Ch [33] (eJ (eJ k p.heap.size 0) l.heap.size 35) w6 (eJ (eJ k p.heap.size 0) l.heap.size 35) w7 from((Ch.refl _ _ _).drewN nr).grown Iw (λq c=>by injection c with c;subst c;exact .inl (by rw[I6.out.tag];decide)))
      have Q7:=aH ((Q6.out.mono (T':=[30,33]) (by decide)).trans (C7.out.mono (by decide)))
      have FA:=aH (show zw w7 (eJ (eJ k p.heap.size 0) l.heap.size 35) qb j bytes r line A from⟨lv,W,H,by rw[HN.out];exact ML.out.ch C7.out (by decide),by rw[HN.out];exact K5.out.ch Q7.out (by decide),L5.out.1.same λq c=>Q7.out.gP q (L5.out.1.lt q c) (by rw[L5.out.2 q c];decide),λq c=>L5.out.2 q c⟩)
      have FB:=aH (show i9 w7 (eJ (eJ k p.heap.size 0) l.heap.size 35) 33 2 A oW (oD P (Lit.int .i64 id))from⟨M7,I6.out.tag⟩)
      have FC:=aH (H5.out.same λq c=>Q7.out.gP q (H5.out.lt q c) (by rw[(T5.out q c).2];decide))
      have FD:=aH (GW.out.trans (Q7.out.mono (by decide)))
      have FE:=aH (show ∀z,Y<=z->oD P (Lit.int .i64 id) (kI z)=ae from λz hz=>Bm HF.out hz)
      have FH:=aH (show(a++[(⟨id,size⟩:fw)])++r=d by rw[<-HA.out];simp)
      have SO:=ki a ⟨id,size⟩
      dsimp only at SO
      clear M7 Iw W6 k6 M6 S
      go_wp2_with fail
      go_roundw
      case rel=>first | exact⟨r,a++[⟨id,size⟩],_,_,by rw[SO],aa,FH,FA,FB,FE,FC,T5,FD⟩ | ((repeat apply Exists.intro);exact⟨⟨r,a++[⟨id,size⟩],_,_,by rw[SO],aa,FH,FA,FB,FE,FC,T5,FD⟩,rfl⟩)
      case measure=>
       show d.length-m5<d.length-a.length
       have:=M5.out;have:=LO.out;omega
   ·have V:=aH (show TQ=(a,x::r)from by rw[<-HT.out];unfold iN;rw[bf (λh=>h1 h.1)])
    go_wp2_with fail
    refine(Ci qb j bytes (x::r) line A wr (g:=k) HM.out BN).mono ?_
    rintro e w9 ⟨vi,g9,rfl,D,X,C,G,E⟩
    have J:=aH C
    have I9:=aH D
    have M9:=aH E
    have T9:=aH G
    clear C D E G X
    go_wp2_with fail
    go_ret2
    rw[V.out]
    exact⟨g9,_,_,rfl,HC.out.trans (J.out.mono (by decide)),⟨BE.out,A,P,M9.out,HI.out.ch J.out (by decide),HF.out⟩,⟨HO.out.same λq c=>J.out.gP q (HO.out.lt q c) (by rw[(HG.out q c).2];decide),λq c=>(J.out.tag q (HO.out.lt q c)).trans (HG.out q c).2⟩,⟨I9.out,T9.out⟩⟩
end
end Go.Proofs.YtooinenkenobaaaGreat

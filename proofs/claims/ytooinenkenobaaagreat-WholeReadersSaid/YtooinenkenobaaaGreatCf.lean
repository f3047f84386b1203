/- A part of the proof of what LawWholeReaders says. -/
import Derived.Test.YtooinenkenobaaaGreatAa
import Derived.Test.YtooinenkenobaaaGreatCe
import Derived.Test.YtooinenkenobaaaGreatBl
set_option maxRecDepth 100000
set_option maxHeartbeats 20000000
namespace Go.Proofs.YtooinenkenobaaaGreat
open Option renaming none->ae,some->ag
open Bool renaming false->ah,true->aj
open Go.Proofs.Tryz renaming prog->ax
open Go.Value renaming int->ay,pointer->aA,slice->aB,bool->aC,float->aD
open Go.IntKind renaming i64->az
open Go.FloatKind renaming f64->aE
open Go.Ending renaming returned->aF
open Go.Obj renaming cells->aG
open Go renaming World->am,Value->ar,TypeId->au,Calls->aw
section
open Go.RowKit Go.Maps
section
variable{K:dw}{P:jx}{R:oG}
theorem UM(f M b i:Nat)(E:fm)(L:List Nat)(W X:Lit->Option ar)(c:CV)(w:am)(g:Tg)(H:dZ w g f M K P E L R W X)(h:fy K E)(hP:kW K P)(hc:E.cs[i]?=ag c)(hb:L[i]?=ag b)(hs:c.back=2)(yH:E.du<E.wr)(Gs:E.cT<=1000000):
 aw ax 291 #[aA (ag ⟨f,0,ae⟩),aA (ag ⟨b,0,ae⟩)] w λe w'=>e=aF (iU 2)/\∃g' l,Ch [1,11,12,13,17,21,40,50] g w g' w'/\dZ w' g' f M K P (mG E l) L { R with ld:=aA ae,bv:=aB ae 0 0 } W X:=by
 obtain⟨w1,gv,dJ,dL⟩:=bG w #[ay az 0,.nilFunc,.nilFunc] 131
 obtain⟨G,c1,n1,-⟩:=ku (g:=g) dJ.out dL.out
 have C1:=aH c1
 have N1:=aH n1
 have j:=aH (H.ch C1.out (λ_ _ h=>by cases h))
 have wl:E.wr<=E.D.length:=bJ h.o2 h.o3
 have tl:(E.D.take E.wr).length=E.wr:=by rw[dg];omega
 have B:=aH (I' R.ob M P.sm K.b0 (E.D.take E.wr) E.du w1 G j.out.log (by rw[tl];exact yH))
 rw[tl]at B
 have e8:w1.cell? ⟨f,8,ae⟩=ag (aA (ag ⟨R.ob,0,ae⟩)):=j.out.row.cell 8
 obtain⟨dv,rv,r,-⟩:=(j.out.cls.ie i c b hc hb).ex
 have RR:=aH r
 have S:=aH hs
 have J:=aH hP
 obtain⟨y,Gr⟩:=bP (((E.cT:Nat):Int):Int)
 have NB:=aH Gr
 have af:IntKind.i64.wrap (y+1)=y+1:=nH (by omega)
 obtain⟨vs,v1,v2,-⟩:=j.out.xy.ex
 obtain⟨C,D,WE,-⟩:=v1.own.shape
 have Q:=aH WE
 clear H h hP hc hb hs yH Gs c1 n1 r wl tl Gr v1 v2 WE
 go_in
 go_wp2_with fail
 refine B.out.mono ?_
 rintro e w2 ⟨rfl,g2,t,l2⟩
 have C2:=aH t
 have L2:=aH l2
 have z:=aH (j.out.row.ch t (by decide))
 have N2:=aH (N1.out.ch t (by decide))
 have B2:=aH (RR.out.ch t (by decide))
 have P2:=aH (j.out.Ek.ch t (by decide))
 clear t l2 e8
 go_wp2_with fail
 refine(Dg f w2).mono ?_
 rintro e A ⟨rfl,rfl⟩
 have n:A.cell? ⟨f,19,ae⟩=ag (aB C vs.length D):=by rw[<-Q.out];exact z.out.cell 19
 obtain⟨k,hk⟩:=bP vs.length
 rw[hk]at n
 clear hk
 go_wp2_with fail
 have qR:∀p:In (λw'=>w'.cell? ⟨f,10,ae⟩=ag (aA (ag ⟨R.pb,0,ae⟩))/\w'.cell? ⟨f,19,ae⟩=ag (aB C k D)),p.w.cell? ⟨f,10,ae⟩=ag (aA (ag ⟨R.pb,0,ae⟩))/\p.w.cell? ⟨f,19,ae⟩=ag (aB C k D):=λp=>p.h
 refine bX [0,1,2,3,4,5,6,7,8,9] (λw'=>w'.cell? ⟨f,10,ae⟩=ag (aA (ag ⟨R.pb,0,ae⟩))/\w'.cell? ⟨f,19,ae⟩=ag (aB C k D)) (by kernel_rfl) (by kernel_rfl) (by intro c a d v w h;cases d <;> exact h) ⟨z.out.cell 10,n⟩ ?_
 intro dF
 simp only[pick,aV,a8,aQ,aR]
 refine aX 9 (by kernel_rfl) ?_
 simp only[aJ,aO,aI,aL]
 repeat (go_big_quiet_step (fail))
 refine aU ?_
 refine aS rfl ?_ rfl
 go_wp2_with fail
 refine(Jh R.pb K.most K.fj K.bU P.al E.want k A.drew (P2.out.below (bi A)) j.out.cw ⟨J.out.k.m1,J.out.k.m2⟩ J.out.a1 J.out.a2).mono ?_
 rintro e m ⟨rfl,l,F,WJ,p3⟩
 have u:Ch [40] g2 A g2 m:=(Ch.bh _ g2 (bi A)).trans WJ
 have C3:=aH u
 have P3:=aH p3
 have CW:=aH F
 have q:=aH (z.out.ch u (by decide))
 have N3:=aH (N2.out.ch u (by decide))
 have I:=aH (B2.out.ch u (by decide))
 have UW:m.cell? ⟨f,19,ae⟩=ag (aB C k D):=(cm (u.gP f z.out.lt (by rw[z.out.tag];decide))).trans n
 clear u WJ p3 F
 go_wp2_with fail
 refine⟨⟨⟨_,⟨q.out.cell 10,UW⟩⟩,rfl⟩,?_⟩
 refine bF ?_
 clear dF qR
 have qU:=q.out
 rw[NB.out]at qU
 have s:=aH qU
 have Y:f≠b:=jt q.out.tag I.out.tag (by decide)
 have Z:w.heap.size≠f:=jt N3.out.tag q.out.tag (by decide)
 have aa:m.cell? ⟨f,20,ae⟩=ag (ay az y):=s.out.cell 20
 have tG:m.cell? ⟨f,17,ae⟩=ag R.ld:=s.out.cell 17
 have ad:=s.out.free 20
 have ab:=s.out.free 17
 have ac:=s.out.free 19
 have b9:m.cell? ⟨b,9,ae⟩=ag (ay az 2):=by have:=I.out.cell 9;rw[this];show ag (lO c.back)=_;rw[S.out];rfl
 have U:m.cell? ⟨b,10,ae⟩=ag (.func (.func 260) #[] #[]):=by have:=I.out.cell 10;rw[this];show ag (lL c.back)=_;rw[S.out];rfl
 have V:m.cell? ⟨b,11,ae⟩=ag (.func (.func 261) #[] #[]):=by have:=I.out.cell 11;rw[this];show ag (lK c.back)=_;rw[S.out];rfl
 obtain⟨x,hx⟩:=bP (((m.setCell ⟨f,20,ae⟩ (ay az (y+1))).setCell ⟨f,17,ae⟩ (aA ae)).setCell ⟨f,19,ae⟩ (aB ae 0 0))
 have EX:=aH (show Row x g2 50 f _ _ from by rw[<-hx];exact((s.out.set 20 (ay az (y+1))).set 17 (aA ae)).set 19 (aB ae 0 0))
 have T:=aH (show Row x g2 99 w.heap.size _ _ from by rw[<-hx];exact((N3.out.iZ Z).iZ Z).iZ Z)
 have O:=aH (show Ch [50] g2 m g2 x from by rw[<-hx];exact(((Ch.refl _ _ _).set _ (.inl (by rw[q.out.tag];decide))).set _ (.inl (by rw[q.out.tag];decide))).set _ (.inl (by rw[q.out.tag];decide)))
 have kx:=eH T.out.row
 have o:=aH (show Ch [1,11,12,13,17,21,40,50] G w1 g2 x from((C2.out.mono (by decide)).trans (C3.out.mono (by decide))).trans (O.out.mono (by decide)))
 have HX:=aH (show dZ x g2 f M K P (mG E l) L { R with ld:=aA ae,bv:=aB ae 0 0 } W X from⟨by
  have hh:=EX.out
  show Row x g2 50 f (jP K P { R with ld:=aA ae,bv:=aB ae 0 0 } ((K.b0+E.D.length:Nat):Int) E.begun ((E.cT+1:Nat):Int)) 122
  rw[show((E.cT+1:Nat):Int)=y+1 by have:=NB.out;omega]
  exact hh,(L2.out.ch C3.out (by decide)).ch O.out (by decide),j.out.zL.ch o.out (by decide),P3.out.ch O.out (by decide),j.out.clk.ch o.out (by decide),j.out.ul.ch o.out (by decide),j.out.act.ch o.out (by decide),j.out.sg.ch o.out (by decide) (by decide),j.out.A8.ch o.out (by decide),j.out.r',rfl,tr.nil _ _,j.out.cls.ch o.out (by decide),CW.out,j.out.now⟩)
 have N:x.heap[b]?=m.heap[b]?:=by rw[<-hx];exact(bD (cQ Y)).trans ((bD (cQ Y)).trans (bD (cQ Y)))
 have y9:=(cm (i:=9) N).trans b9
 have zG:=(cm (i:=10) N).trans U
 have Ef:=(cm (i:=11) N).trans V
 clear n qU N
 go_wp2_with fail
 refine bn (dM rfl w.heap.size 2 rfl rfl T.out.row) rfl ?_
 exact⟨rfl,g2,l,(C1.out.any.trans o.out).ga _ _ _ (.inr dx),HX.out.ch ((Ch.refl [99] g2 x).ga (b:=w.heap.size) _ _ _ (.inl (by rw[T.out.tag];decide))) (by decide)⟩
theorem UL(f M b i:Nat)(E:fm)(L:List Nat)(W X:Lit->Option ar)(c:CV)(w:am)(g:Tg)(H:dZ w g f M K P E L R W X)(h:fy K E)(hP:kW K P)(hc:E.cs[i]?=ag c)(hb:L[i]?=ag b)(hs:c.back=3)(yH:E.du<E.wr)(Gs:E.cT<=1000000):
 aw ax 291 #[aA (ag ⟨f,0,ae⟩),aA (ag ⟨b,0,ae⟩)] w λe w'=>e=aF (iU 3)/\∃g' l,Ch [1,11,12,13,17,21,40,50] g w g' w'/\dZ w' g' f M K P (mG E l) L { R with ld:=aA ae,bv:=aB ae 0 0 } W X:=by
 obtain⟨w1,gv,dJ,dL⟩:=bG w #[ay az 0,.nilFunc,.nilFunc] 131
 obtain⟨G,c1,n1,-⟩:=ku (g:=g) dJ.out dL.out
 have C1:=aH c1
 have N1:=aH n1
 have j:=aH (H.ch C1.out (λ_ _ h=>by cases h))
 have wl:E.wr<=E.D.length:=bJ h.o2 h.o3
 have tl:(E.D.take E.wr).length=E.wr:=by rw[dg];omega
 have B:=aH (I' R.ob M P.sm K.b0 (E.D.take E.wr) E.du w1 G j.out.log (by rw[tl];exact yH))
 rw[tl]at B
 have e8:w1.cell? ⟨f,8,ae⟩=ag (aA (ag ⟨R.ob,0,ae⟩)):=j.out.row.cell 8
 obtain⟨dv,rv,r,-⟩:=(j.out.cls.ie i c b hc hb).ex
 have RR:=aH r
 have S:=aH hs
 have J:=aH hP
 obtain⟨y,Gr⟩:=bP (((E.cT:Nat):Int):Int)
 have NB:=aH Gr
 have af:IntKind.i64.wrap (y+1)=y+1:=nH (by omega)
 obtain⟨vs,v1,v2,-⟩:=j.out.xy.ex
 obtain⟨C,D,WE,-⟩:=v1.own.shape
 have Q:=aH WE
 clear H h hP hc hb hs yH Gs c1 n1 r wl tl Gr v1 v2 WE
 go_in
 go_wp2_with fail
 refine B.out.mono ?_
 rintro e w2 ⟨rfl,g2,t,l2⟩
 have C2:=aH t
 have L2:=aH l2
 have z:=aH (j.out.row.ch t (by decide))
 have N2:=aH (N1.out.ch t (by decide))
 have B2:=aH (RR.out.ch t (by decide))
 have P2:=aH (j.out.Ek.ch t (by decide))
 clear t l2 e8
 go_wp2_with fail
 refine(Dg f w2).mono ?_
 rintro e A ⟨rfl,rfl⟩
 have n:A.cell? ⟨f,19,ae⟩=ag (aB C vs.length D):=by rw[<-Q.out];exact z.out.cell 19
 obtain⟨k,hk⟩:=bP vs.length
 rw[hk]at n
 clear hk
 go_wp2_with fail
 have qR:∀p:In (λw'=>w'.cell? ⟨f,10,ae⟩=ag (aA (ag ⟨R.pb,0,ae⟩))/\w'.cell? ⟨f,19,ae⟩=ag (aB C k D)),p.w.cell? ⟨f,10,ae⟩=ag (aA (ag ⟨R.pb,0,ae⟩))/\p.w.cell? ⟨f,19,ae⟩=ag (aB C k D):=λp=>p.h
 refine bX [0,1,2,3,4,5,6,7,8,9] (λw'=>w'.cell? ⟨f,10,ae⟩=ag (aA (ag ⟨R.pb,0,ae⟩))/\w'.cell? ⟨f,19,ae⟩=ag (aB C k D)) (by kernel_rfl) (by kernel_rfl) (by intro c a d v w h;cases d <;> exact h) ⟨z.out.cell 10,n⟩ ?_
 intro dF
 simp only[pick,aV,a8,aQ,aR]
 refine aX 9 (by kernel_rfl) ?_
 simp only[aJ,aO,aI,aL]
 repeat (go_big_quiet_step (fail))
 refine aU ?_
 refine aS rfl ?_ rfl
 go_wp2_with fail
 refine(Jh R.pb K.most K.fj K.bU P.al E.want k A.drew (P2.out.below (bi A)) j.out.cw ⟨J.out.k.m1,J.out.k.m2⟩ J.out.a1 J.out.a2).mono ?_
 rintro e m ⟨rfl,l,F,WJ,p3⟩
 have u:Ch [40] g2 A g2 m:=(Ch.bh _ g2 (bi A)).trans WJ
 have C3:=aH u
 have P3:=aH p3
 have CW:=aH F
 have q:=aH (z.out.ch u (by decide))
 have N3:=aH (N2.out.ch u (by decide))
 have I:=aH (B2.out.ch u (by decide))
 have UW:m.cell? ⟨f,19,ae⟩=ag (aB C k D):=(cm (u.gP f z.out.lt (by rw[z.out.tag];decide))).trans n
 clear u WJ p3 F
 go_wp2_with fail
 refine⟨⟨⟨_,⟨q.out.cell 10,UW⟩⟩,rfl⟩,?_⟩
 refine bF ?_
 clear dF qR
 have qU:=q.out
 rw[NB.out]at qU
 have s:=aH qU
 have Y:f≠b:=jt q.out.tag I.out.tag (by decide)
 have Z:w.heap.size≠f:=jt N3.out.tag q.out.tag (by decide)
 have aa:m.cell? ⟨f,20,ae⟩=ag (ay az y):=s.out.cell 20
 have tG:m.cell? ⟨f,17,ae⟩=ag R.ld:=s.out.cell 17
 have ad:=s.out.free 20
 have ab:=s.out.free 17
 have ac:=s.out.free 19
 have b9:m.cell? ⟨b,9,ae⟩=ag (ay az 3):=by have:=I.out.cell 9;rw[this];show ag (lO c.back)=_;rw[S.out];rfl
 have U:m.cell? ⟨b,10,ae⟩=ag (.func (.func 248) #[] #[]):=by have:=I.out.cell 10;rw[this];show ag (lL c.back)=_;rw[S.out];rfl
 have V:m.cell? ⟨b,11,ae⟩=ag (.func (.func 249) #[] #[]):=by have:=I.out.cell 11;rw[this];show ag (lK c.back)=_;rw[S.out];rfl
 obtain⟨x,hx⟩:=bP (((m.setCell ⟨f,20,ae⟩ (ay az (y+1))).setCell ⟨f,17,ae⟩ (aA ae)).setCell ⟨f,19,ae⟩ (aB ae 0 0))
 have EX:=aH (show Row x g2 50 f _ _ from by rw[<-hx];exact((s.out.set 20 (ay az (y+1))).set 17 (aA ae)).set 19 (aB ae 0 0))
 have T:=aH (show Row x g2 99 w.heap.size _ _ from by rw[<-hx];exact((N3.out.iZ Z).iZ Z).iZ Z)
 have O:=aH (show Ch [50] g2 m g2 x from by rw[<-hx];exact(((Ch.refl _ _ _).set _ (.inl (by rw[q.out.tag];decide))).set _ (.inl (by rw[q.out.tag];decide))).set _ (.inl (by rw[q.out.tag];decide)))
 have kx:=eH T.out.row
 have o:=aH (show Ch [1,11,12,13,17,21,40,50] G w1 g2 x from((C2.out.mono (by decide)).trans (C3.out.mono (by decide))).trans (O.out.mono (by decide)))
 have HX:=aH (show dZ x g2 f M K P (mG E l) L { R with ld:=aA ae,bv:=aB ae 0 0 } W X from⟨by
  have hh:=EX.out
  show Row x g2 50 f (jP K P { R with ld:=aA ae,bv:=aB ae 0 0 } ((K.b0+E.D.length:Nat):Int) E.begun ((E.cT+1:Nat):Int)) 122
  rw[show((E.cT+1:Nat):Int)=y+1 by have:=NB.out;omega]
  exact hh,(L2.out.ch C3.out (by decide)).ch O.out (by decide),j.out.zL.ch o.out (by decide),P3.out.ch O.out (by decide),j.out.clk.ch o.out (by decide),j.out.ul.ch o.out (by decide),j.out.act.ch o.out (by decide),j.out.sg.ch o.out (by decide) (by decide),j.out.A8.ch o.out (by decide),j.out.r',rfl,tr.nil _ _,j.out.cls.ch o.out (by decide),CW.out,j.out.now⟩)
 have N:x.heap[b]?=m.heap[b]?:=by rw[<-hx];exact(bD (cQ Y)).trans ((bD (cQ Y)).trans (bD (cQ Y)))
 have y9:=(cm (i:=9) N).trans b9
 have zG:=(cm (i:=10) N).trans U
 have Ef:=(cm (i:=11) N).trans V
 clear n qU N
 go_wp2_with fail
 refine bn (dM rfl w.heap.size 3 rfl rfl T.out.row) rfl ?_
 exact⟨rfl,g2,l,(C1.out.any.trans o.out).ga _ _ _ (.inr dx),HX.out.ch ((Ch.refl [99] g2 x).ga (b:=w.heap.size) _ _ _ (.inl (by rw[T.out.tag];decide))) (by decide)⟩
theorem UK(f M b i:Nat)(E:fm)(L:List Nat)(W X:Lit->Option ar)(c:CV)(w:am)(g:Tg)(H:dZ w g f M K P E L R W X)(h:fy K E)(hP:kW K P)(hc:E.cs[i]?=ag c)(hb:L[i]?=ag b)(hs:c.back=4)(yH:E.du<E.wr)(Gs:E.cT<=1000000):
 aw ax 291 #[aA (ag ⟨f,0,ae⟩),aA (ag ⟨b,0,ae⟩)] w λe w'=>e=aF (iU 4)/\∃g' l,Ch [1,11,12,13,17,21,40,50] g w g' w'/\dZ w' g' f M K P (mG E l) L { R with ld:=aA ae,bv:=aB ae 0 0 } W X:=by
 obtain⟨w1,gv,dJ,dL⟩:=bG w #[ay az 0,.nilFunc,.nilFunc] 131
 obtain⟨G,c1,n1,-⟩:=ku (g:=g) dJ.out dL.out
 have C1:=aH c1
 have N1:=aH n1
 have j:=aH (H.ch C1.out (λ_ _ h=>by cases h))
 have wl:E.wr<=E.D.length:=bJ h.o2 h.o3
 have tl:(E.D.take E.wr).length=E.wr:=by rw[dg];omega
 have B:=aH (I' R.ob M P.sm K.b0 (E.D.take E.wr) E.du w1 G j.out.log (by rw[tl];exact yH))
 rw[tl]at B
 have e8:w1.cell? ⟨f,8,ae⟩=ag (aA (ag ⟨R.ob,0,ae⟩)):=j.out.row.cell 8
 obtain⟨dv,rv,r,-⟩:=(j.out.cls.ie i c b hc hb).ex
 have RR:=aH r
 have S:=aH hs
 have J:=aH hP
 obtain⟨y,Gr⟩:=bP (((E.cT:Nat):Int):Int)
 have NB:=aH Gr
 have af:IntKind.i64.wrap (y+1)=y+1:=nH (by omega)
 obtain⟨vs,v1,v2,-⟩:=j.out.xy.ex
 obtain⟨C,D,WE,-⟩:=v1.own.shape
 have Q:=aH WE
 clear H h hP hc hb hs yH Gs c1 n1 r wl tl Gr v1 v2 WE
 go_in
 go_wp2_with fail
 refine B.out.mono ?_
 rintro e w2 ⟨rfl,g2,t,l2⟩
 have C2:=aH t
 have L2:=aH l2
 have z:=aH (j.out.row.ch t (by decide))
 have N2:=aH (N1.out.ch t (by decide))
 have B2:=aH (RR.out.ch t (by decide))
 have P2:=aH (j.out.Ek.ch t (by decide))
 clear t l2 e8
 go_wp2_with fail
 refine(Dg f w2).mono ?_
 rintro e A ⟨rfl,rfl⟩
 have n:A.cell? ⟨f,19,ae⟩=ag (aB C vs.length D):=by rw[<-Q.out];exact z.out.cell 19
 obtain⟨k,hk⟩:=bP vs.length
 rw[hk]at n
 clear hk
 go_wp2_with fail
 have qR:∀p:In (λw'=>w'.cell? ⟨f,10,ae⟩=ag (aA (ag ⟨R.pb,0,ae⟩))/\w'.cell? ⟨f,19,ae⟩=ag (aB C k D)),p.w.cell? ⟨f,10,ae⟩=ag (aA (ag ⟨R.pb,0,ae⟩))/\p.w.cell? ⟨f,19,ae⟩=ag (aB C k D):=λp=>p.h
 refine bX [0,1,2,3,4,5,6,7,8,9] (λw'=>w'.cell? ⟨f,10,ae⟩=ag (aA (ag ⟨R.pb,0,ae⟩))/\w'.cell? ⟨f,19,ae⟩=ag (aB C k D)) (by kernel_rfl) (by kernel_rfl) (by intro c a d v w h;cases d <;> exact h) ⟨z.out.cell 10,n⟩ ?_
 intro dF
 simp only[pick,aV,a8,aQ,aR]
 refine aX 9 (by kernel_rfl) ?_
 simp only[aJ,aO,aI,aL]
 repeat (go_big_quiet_step (fail))
 refine aU ?_
 refine aS rfl ?_ rfl
 go_wp2_with fail
 refine(Jh R.pb K.most K.fj K.bU P.al E.want k A.drew (P2.out.below (bi A)) j.out.cw ⟨J.out.k.m1,J.out.k.m2⟩ J.out.a1 J.out.a2).mono ?_
 rintro e m ⟨rfl,l,F,WJ,p3⟩
 have u:Ch [40] g2 A g2 m:=(Ch.bh _ g2 (bi A)).trans WJ
 have C3:=aH u
 have P3:=aH p3
 have CW:=aH F
 have q:=aH (z.out.ch u (by decide))
 have N3:=aH (N2.out.ch u (by decide))
 have I:=aH (B2.out.ch u (by decide))
 have UW:m.cell? ⟨f,19,ae⟩=ag (aB C k D):=(cm (u.gP f z.out.lt (by rw[z.out.tag];decide))).trans n
 clear u WJ p3 F
 go_wp2_with fail
 refine⟨⟨⟨_,⟨q.out.cell 10,UW⟩⟩,rfl⟩,?_⟩
 refine bF ?_
 clear dF qR
 have qU:=q.out
 rw[NB.out]at qU
 have s:=aH qU
 have Y:f≠b:=jt q.out.tag I.out.tag (by decide)
 have Z:w.heap.size≠f:=jt N3.out.tag q.out.tag (by decide)
 have aa:m.cell? ⟨f,20,ae⟩=ag (ay az y):=s.out.cell 20
 have tG:m.cell? ⟨f,17,ae⟩=ag R.ld:=s.out.cell 17
 have ad:=s.out.free 20
 have ab:=s.out.free 17
 have ac:=s.out.free 19
 have b9:m.cell? ⟨b,9,ae⟩=ag (ay az 4):=by have:=I.out.cell 9;rw[this];show ag (lO c.back)=_;rw[S.out];rfl
 have U:m.cell? ⟨b,10,ae⟩=ag (.func (.func 250) #[] #[]):=by have:=I.out.cell 10;rw[this];show ag (lL c.back)=_;rw[S.out];rfl
 have V:m.cell? ⟨b,11,ae⟩=ag (.func (.func 251) #[] #[]):=by have:=I.out.cell 11;rw[this];show ag (lK c.back)=_;rw[S.out];rfl
 obtain⟨x,hx⟩:=bP (((m.setCell ⟨f,20,ae⟩ (ay az (y+1))).setCell ⟨f,17,ae⟩ (aA ae)).setCell ⟨f,19,ae⟩ (aB ae 0 0))
 have EX:=aH (show Row x g2 50 f _ _ from by rw[<-hx];exact((s.out.set 20 (ay az (y+1))).set 17 (aA ae)).set 19 (aB ae 0 0))
 have T:=aH (show Row x g2 99 w.heap.size _ _ from by rw[<-hx];exact((N3.out.iZ Z).iZ Z).iZ Z)
 have O:=aH (show Ch [50] g2 m g2 x from by rw[<-hx];exact(((Ch.refl _ _ _).set _ (.inl (by rw[q.out.tag];decide))).set _ (.inl (by rw[q.out.tag];decide))).set _ (.inl (by rw[q.out.tag];decide)))
 have kx:=eH T.out.row
 have o:=aH (show Ch [1,11,12,13,17,21,40,50] G w1 g2 x from((C2.out.mono (by decide)).trans (C3.out.mono (by decide))).trans (O.out.mono (by decide)))
 have HX:=aH (show dZ x g2 f M K P (mG E l) L { R with ld:=aA ae,bv:=aB ae 0 0 } W X from⟨by
  have hh:=EX.out
  show Row x g2 50 f (jP K P { R with ld:=aA ae,bv:=aB ae 0 0 } ((K.b0+E.D.length:Nat):Int) E.begun ((E.cT+1:Nat):Int)) 122
  rw[show((E.cT+1:Nat):Int)=y+1 by have:=NB.out;omega]
  exact hh,(L2.out.ch C3.out (by decide)).ch O.out (by decide),j.out.zL.ch o.out (by decide),P3.out.ch O.out (by decide),j.out.clk.ch o.out (by decide),j.out.ul.ch o.out (by decide),j.out.act.ch o.out (by decide),j.out.sg.ch o.out (by decide) (by decide),j.out.A8.ch o.out (by decide),j.out.r',rfl,tr.nil _ _,j.out.cls.ch o.out (by decide),CW.out,j.out.now⟩)
 have N:x.heap[b]?=m.heap[b]?:=by rw[<-hx];exact(bD (cQ Y)).trans ((bD (cQ Y)).trans (bD (cQ Y)))
 have y9:=(cm (i:=9) N).trans b9
 have zG:=(cm (i:=10) N).trans U
 have Ef:=(cm (i:=11) N).trans V
 clear n qU N
 go_wp2_with fail
 refine bn (dM rfl w.heap.size 4 rfl rfl T.out.row) rfl ?_
 exact⟨rfl,g2,l,(C1.out.any.trans o.out).ga _ _ _ (.inr dx),HX.out.ch ((Ch.refl [99] g2 x).ga (b:=w.heap.size) _ _ _ (.inl (by rw[T.out.tag];decide))) (by decide)⟩
end
theorem OZ(a:Nat)(ow:List Nat)(cs:List CV)(L:List Int)(z:Int):lB a ow cs (L++[z])=fh (lB a ow cs L) (ow[(z-(a:Int)).toNat]?.getD 0) (λc=>{ c with lR:=aj }):=by
 unfold lB
 rw[List.foldl_append]
 rfl
section
variable{K:dw}{P:jx}{R:oG}
abbrev csE(E:fm)(cs:List CV):fm:={ E with cs:=cs }
theorem UN(l C:Nat)(E:fm)(f:List Nat)(F U:Lit->Option ar)(L:List Int)(v:ar)(w:am)(g:Tg)(H:dZ w g l C K P E f R F U)(V:im lS 2 1 w g 34 v L)
 (I:∀z∈L,U (kI z)=ag (aA (ag ⟨wJ K.b0 E.ow f z,0,ae⟩))/\(-9223372036854775808<=z/\z<=9223372036854775807)/\E.ow[(z-(K.b0:Int)).toNat]?.getD 0<E.cs.length) (nd:L.Nodup) (hx:∀y∈E.line,∀z∈L,y.id≠z) (s:L.length<=100000):
 aw ax 275 #[aA (ag ⟨l,0,ae⟩),v] w λe w'=>e=aF (.tuple #[])/\∃fl',Ch [54,60] g w g w'/\dZ w' g l C K P (csE E (lB K.b0 E.ow E.cs L)) f R F fl':=by
 obtain⟨ao,ca,rfl,-⟩:=V.own.shape
 obtain⟨n,Y⟩:=bP L.length
 have Q:=aH Y
 have HH:=aH H
 have VV:=aH V
 have HZ:=aH I
 have ND:=aH nd
 have HX:=aH hx
 rw[Y]at VV s ⊢
 clear H V I nd hx Y
 go_in
 go_wp2_with fail
 go_loopw [8] (λi wr=>∃(k:Nat) (fl':Lit->Option ar),k<=n/\i=ay az k/\Hid (dZ wr g l C K P (csE E (lB K.b0 E.ow E.cs (L.take k))) f R F fl')/\Hid (∀z∈L.drop k,fl' (kI z)=ag (aA (ag ⟨wJ K.b0 E.ow f z,0,ae⟩)))/\Hid (Ch [54,60] g w g wr)) (λi _=>n-(intOf i).toNat)
 case atStart=>exact⟨0,U,cF _,rfl,HH,aH (λz I=>(HZ.out z I).1),aH (Ch.refl _ _ _)⟩
 case round=>
  obtain⟨k,fl',hk,rfl,o,HF,M⟩:=hrel
  by_cases fp:k<n
  ·have kz:(k:Int)<(n:Int):=by omega
   have B:=aH (show k<L.length by rw[Q.out];exact fp)
   obtain⟨z,hx⟩:∃x,L[k]?=ag x:=⟨L[k]'B.out,aP B.out⟩
   have ZX:=aH hx
   obtain⟨q,cc,D,-,-,hc,-⟩:=(VV.out.ch M.out (by decide)).own.get ro hx
   rw[Q.out]at D
   injection D with D e2 e3
   subst D e3
   clear e2
   have z0:wr.cell? ⟨q,k,ae⟩=ag (ay az z):=by have:=hc 0 (by decide);rw[dY,fD]at this;exact this
   have p:z∈L:=cG hx
   obtain⟨-,zb,zl⟩:=HZ.out z p
   have S:L.drop k=z::L.drop (k+1):=by
    rw[List.drop_eq_getElem_cons B.out]
    congr 1
    rw[aP B.out]at hx
    injection hx
   have W:=HF.out z (by rw[S];simp)
   obtain⟨j,G⟩:=bP (E.ow[(z-(K.b0:Int)).toNat]?.getD 0)
   rw[G]at zl
   obtain⟨c,m⟩:∃c,(lB K.b0 E.ow E.cs (L.take k))[j]?=ag c:=⟨_,aP (by rw[tX];exact zl)⟩
   obtain⟨b,X,Iy⟩:=o.out.cls.get m
   have ob:wJ K.b0 E.ow f z=b:=by unfold wJ;rw[G,X];rfl
   rw[ob]at W
   obtain⟨dv,rv,r,sd,sr⟩:=Iy.ex
   have c5:wr.cell? ⟨b,5,ae⟩=ag (.bool c.lR):=r.cell 5
   have f5:=r.free 5
   have T:wr.cell? ⟨l,15,ae⟩=ag (.map (ag R.lm)):=o.out.row.cell 15
   have Z:=o.out.A8.map.look (z:=aA ae) (key:=ay az z) (kl:=kI z) ly Tryz.underlying118 (by kernel_rfl) (uO zb) trivial
   rw[W]at Z
   have aa:(Instr.lookup 118 (.map (ag R.lm)) (ay az z) ah).run ax wr=.ok (aA (ag ⟨b,0,ae⟩)) wr:=Z
   obtain⟨x,yy⟩:=bP (wr.setCell ⟨b,5,ae⟩ (aC aj))
   have J:iD (λq=>q=b) wr x:=by rw[<-yy];exact(iD.refl _ _).set _ (.inl rfl)
   have d:=aH (o.out.call m X (λc=>{ c with lR:=aj }) J (dv:=dv) (rv:=rv) (by rw[<-yy];exact bE r.row 5 (aC aj)) (sd.low J (λq e=>by rw[e,r.tag];decide)) (sr.low J (λq e=>by rw[e,r.tag];decide)))
   have CX:=aH (show Ch [54,60] g w g x from by rw[<-yy];exact M.out.set _ (.inl (by rw[r.tag];decide)))
   have Wn:x.cell? ⟨l,15,ae⟩=ag (.map (ag R.lm)):=d.out.row.cell 15
   have ZB:=aH zb
   have DK:=aH S
   have HJ:=aH G
   have MX:=d.out.A8.map
   clear Z hx hc p zl W m X Iy ob r sd sr J S G zb
   go_wp2_with (at_delete;refine mL rfl 118 2 rfl 119 ly Tryz.underlying118 R.lm E.D.length fl' rfl MX rfl (uO ZB.out) ?_)
   intro w6 M6 g6
   have u:g R.lm=54:=d.out.A8.tag
   have a:Ch [54] g x g w6:=(Ch.refl [54] g x).grown g6 (λq hq=>.inl (by cases hq;rw[u];decide))
   have A:L.take (k+1)=L.take k++[z]:=by rw[ip,ZX.out];rfl
   have N:=aH (show dZ w6 g l C K P (csE E (lB K.b0 E.ow E.cs (L.take (k+1)))) f R F (oD fl' (kI z))from by
    rw[A,OZ,HJ.out]
    have h:=d.out
    exact⟨h.row.ch a (by decide),h.log.ch a (by decide),h.zL.ch a (by decide),h.Ek.ch a (by decide),h.clk.ch a (by decide),h.ul.ch a (by decide),h.act.ch a (by decide),h.sg.ch a (by decide) (by decide),⟨M6,u⟩,λy t=>by
     unfold oD
     rw[bf (λe=>by unfold kI at e;injection e with _ e;exact HX.out y t z (cG ZX.out) e)]
     exact h.r' y t,h.ld,h.xy.ch a (by decide) (by decide),h.cls.ch a (by decide),h.cw,h.now⟩)
   have O:=aH (show ∀y∈L.drop (k+1),oD fl' (kI z) (kI y)=ag (aA (ag ⟨wJ K.b0 E.ow f y,0,ae⟩))from λy t=>by
    have nz:y≠z:=λe=>by
     have nd:=ND.out
     rw[<-fO k L,DK.out]at nd
     have:=(vC.1 nd).2.1
     rw[List.nodup_cons]at this
     exact this.1 (by rw[<-e];exact t)
    unfold oD
    rw[bf (λe=>by unfold kI at e;injection e with _ e;exact nz e)]
    exact HF.out y (by rw[DK.out];exact fW _ t))
   have C6:=aH (CX.out.trans (a.mono (by decide)))
   clear a g6 M6 Wn T aa z0 c5 f5 A
   go_wp2_with fail
   go_roundw
   case rel=>exact⟨k+1,_,by omega,by go_num,N,O,C6⟩
   case measure=>simp[intOf];omega
  ·obtain rfl:k=n:=by omega
   have kz:(k:Int)<=(k:Int):=by omega
   have A:L.take k=L:=fE (by rw[Q.out];omega)
   rw[A]at o
   clear A
   go_wp2_with fail
   go_end0
   exact⟨rfl,fl',M.out,o.out⟩
end
end
end Go.Proofs.YtooinenkenobaaaGreat

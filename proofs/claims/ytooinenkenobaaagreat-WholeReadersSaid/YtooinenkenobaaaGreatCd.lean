/- A part of the proof of what LawWholeReaders says. -/
import Derived.Test.YtooinenkenobaaaGreatAa
import Derived.Test.YtooinenkenobaaaGreatCc
import Derived.Test.YtooinenkenobaaaGreatBl
set_option maxRecDepth 100000
set_option maxHeartbeats 20000000
namespace Go.Proofs.YtooinenkenobaaaGreat
open Option renaming none->ae,some->ag
open Bool renaming false->ah,true->aj
open Go.Proofs.Tryz renaming prog->ax
open Go.Value renaming int->ay,pointer->aA,slice->aB,bool->aC,float->aD
open Go.IntKind renaming i64->az
open Go.FloatKind renaming f64->aE
open Go.Ending renaming returned->aF
open Go.Obj renaming cells->aG
open Go renaming World->am,Value->ar,TypeId->au,Calls->aw
section
open Go.RowKit Go.Maps
section
variable{K:dw}{P:jx}{R:oG}
theorem dZ.leads{w w':am}{g:Tg}{d o:Nat}{E:fm}{f:List Nat}{t u:Lit->Option ar}(H:dZ w g d o K P E f R t u){i b:Nat}{c:CV}(l:E.cs[i]?=ag c)(j:f[i]?=ag b)(s:Nat)(k:iD (λq=>q=b\/q=d) w w')
 (y:w'.heap[d]?=ag (aG (jP K P { R with ld:=aA (ag ⟨b,0,ae⟩) } ((K.b0+E.D.length:Nat):Int) E.now E.cT) 122 (0,0)))
 (B:∀dv rv,w.heap[b]?=ag (aG (ji ((i:Int)+1) c dv rv) 133 (0,0))->w'.heap[b]?=ag (aG (ji ((i:Int)+1) { c with back:=s } dv rv) 133 (0,0))):dZ w' g d o K P (mc E i s) f { R with ld:=aA (ag ⟨b,0,ae⟩) } t u:=by
 obtain⟨G,n⟩:=H.lt l j
 obtain⟨dv,rv,r,C,D⟩:=(H.cls.ie i c b l j).ex
 have h:=H.row.tag
 have a:Ch [50,60] g w g w':=Ch.lh k (λq _ e=>by rcases e with e | e;rw[e,n];decide;rw[e,h];decide)
 have p:∀q,(q=b\/q=d)->g q≠0:=λq e=>by rcases e with e | e;rw[e,n];decide;rw[e,h];decide
 refine⟨⟨y,h⟩,H.log.ch a (by decide),H.zL.ch a (by decide),H.Ek.ch a (by decide),H.clk.ch a (by decide),H.ul.ch a (by decide),H.act.ch a (by decide),H.sg.ch a (by decide) (by decide),H.A8.ch a (by decide),H.r',?_,H.xy.ch a (by decide) (by decide),?_,H.cw,H.now⟩
 ·show Value.pointer (ag ⟨b,0,ae⟩)=Value.pointer (ag ⟨f[i]?.getD 0,0,ae⟩)
  rw[j]
  rfl
 ·refine H.cls.upd _ j (aK.1 l).1 (λq A x z=>⟨k.gP q x (λe=>by
   rcases e with e | e
   ·exact A e
   ·rw[e,h]at z;omega),rfl⟩) k.size (λF m=>?_)
  rw[l]at m
  injection m with m
  subst m
  exact⟨dv,rv,⟨B dv rv r.row,n⟩,C.low k p,D.low k p⟩
theorem UI(f db b i:Nat)(E:fm)(J:List Nat)(fd fl:Lit->Option ar)(c:CV)(w:am)(g:Tg)(H:dZ w g f db K P E J R fd fl)(t:E.cs[i]?=ag c)(l:J[i]?=ag b):
 aw ax 263 #[aA (ag ⟨f,0,ae⟩),aA (ag ⟨b,0,ae⟩),iU 2] w λe w'=>e=aF (iU 6)/\∃g',Ch [50,60] g w g' w'/\dZ w' g' f db K P (mc E i 2) J { R with ld:=aA (ag ⟨b,0,ae⟩) } fd fl:=by
 obtain⟨m,gv,dJ,z⟩:=bG w #[ay az 2,.func (.func 260) #[] #[],.func (.func 261) #[] #[]] 131
 have j9:=eH z.out
 obtain⟨j,lU,lZ,kG⟩:=bG m #[ay az 0,.nilFunc,.nilFunc] 131
 obtain⟨G,Z,n2,-⟩:=ku (g:=g) (w:=m) lZ.out kG.out
 have W:=aH (show Ch [] g w G j from(Ch.bh [] g dJ.out).trans Z)
 have C:=aH n2
 have k:=aH (H.ch W.out (λ_ _ h=>by cases h))
 have I:=aH ((lZ.out.block _ (aT z.out)).trans z.out)
 have B:=aH (And.intro (aT z.out) dJ.out.size)
 obtain⟨lb,tb⟩:=k.out.lt t l
 obtain⟨dv,rv,r,-⟩:=(k.out.cls.ie i c b t l).ex
 have HC:=aH t
 have HB:=aH l
 have ob:=(H.lt t l).1
 have oe:=H.row.lt
 have u:f≠b:=jt k.out.row.tag tb (by decide)
 have F:b≠w.heap.size:=by omega
 have s:f≠w.heap.size:=by omega
 have Ox:b≠m.heap.size:=by have:=B.out.2;omega
 have S:f≠m.heap.size:=by have:=B.out.2;omega
 have n:=aH r
 clear H t l Z n2 ob oe r lb tb
 have tG:j.cell? ⟨f,17,ae⟩=ag R.ld:=k.out.row.cell 17
 have L:j.cell? ⟨f,18,ae⟩=ag (aD aE E.begun):=k.out.row.cell 18
 have M:=k.out.row.free 17
 have N:=k.out.row.free 18
 have c9:j.cell? ⟨b,9,ae⟩=ag (lO c.back):=n.out.cell 9
 have nt:j.cell? ⟨b,10,ae⟩=ag (lL c.back):=n.out.cell 10
 have Bo:j.cell? ⟨b,11,ae⟩=ag (lK c.back):=n.out.cell 11
 have g9:=n.out.free 9
 have O:=n.out.free 10
 have Yy:=n.out.free 11
 unfold iU lO lL lK
 go_in
 go_wp2_with fail
 have o:=aH (show ∀x:am,x.heap[w.heap.size]?=j.heap[w.heap.size]?->x.cell? ⟨f,11,ae⟩=ag (aA (ag ⟨R.kb,0,ae⟩))->x.drew.cell? ⟨f,11,ae⟩=ag (aA (ag ⟨R.kb,0,ae⟩))/\x.drew.cell? ⟨w.heap.size,0,ae⟩=ag (ay az 2)/\x.drew.cell? ⟨w.heap.size,1,ae⟩=ag (.func (.func 260) #[] #[])/\x.drew.cell? ⟨w.heap.size,2,ae⟩=ag (.func (.func 261) #[] #[])from λx Q h2=>⟨h2,(cm Q).trans (aZ 0 I.out),(cm Q).trans (aZ 1 I.out),(cm Q).trans (aZ 2 I.out)⟩)
 have qR:∀p:In (λw'=>w'.cell? ⟨f,11,ae⟩=ag (aA (ag ⟨R.kb,0,ae⟩))/\w'.cell? ⟨w.heap.size,0,ae⟩=ag (ay az 2)/\w'.cell? ⟨w.heap.size,1,ae⟩=ag (.func (.func 260) #[] #[])/\w'.cell? ⟨w.heap.size,2,ae⟩=ag (.func (.func 261) #[] #[])),p.w.cell? ⟨f,11,ae⟩=ag (aA (ag ⟨R.kb,0,ae⟩))/\p.w.cell? ⟨w.heap.size,0,ae⟩=ag (ay az 2)/\p.w.cell? ⟨w.heap.size,1,ae⟩=ag (.func (.func 260) #[] #[])/\p.w.cell? ⟨w.heap.size,2,ae⟩=ag (.func (.func 261) #[] #[]):=λp=>p.h
 refine bX [0,1,2,3,4,5,6,7,9,8,10,11,12,13,14,15,16,17,18] (λw'=>w'.cell? ⟨f,11,ae⟩=ag (aA (ag ⟨R.kb,0,ae⟩))/\w'.cell? ⟨w.heap.size,0,ae⟩=ag (ay az 2)/\w'.cell? ⟨w.heap.size,1,ae⟩=ag (.func (.func 260) #[] #[])/\w'.cell? ⟨w.heap.size,2,ae⟩=ag (.func (.func 261) #[] #[])) (by kernel_rfl) (by kernel_rfl) (by intro c a d v w h;cases d <;> exact h) (o.out j rfl (k.out.row.cell 11)) ?_
 intro dF
 simp only[pick,aV,a8,aQ,aR]
 refine aX 9 (by kernel_rfl) ?_
 simp only[aJ,aO,aI,aL]
 repeat (go_big_quiet_step (fail))
 refine aU ?_
 refine aS rfl ?_ rfl
 go_wp2_with fail
 refine(yp R.kb E.now j.drew (k.out.clk.below (bi j))).mono ?_
 rintro e wd ⟨rfl,rfl⟩
 go_wp2_with fail
 refine⟨⟨⟨_,o.out j rfl (k.out.row.cell 11)⟩,rfl⟩,?_⟩
 refine aX 2 (by kernel_rfl) ?_
 simp only[aJ,aO,aI,aL]
 repeat (go_big_quiet_step (fail))
 refine aU ?_
 refine aS rfl ?_ rfl
 go_wp2_with fail
 have T:=k.out.row.set 17 (aA (ag ⟨b,0,ae⟩))
 refine⟨⟨⟨_,o.out _ (bD (cQ s)) (T.cell 11)⟩,rfl⟩,?_⟩
 refine aX 2 (by kernel_rfl) ?_
 simp only[aJ,aO,aI,aL]
 repeat (go_big_quiet_step (fail))
 refine aU ?_
 refine aS rfl ?_ rfl
 go_wp2_with fail
 have U:=T.set 18 (aD aE E.now)
 refine⟨⟨⟨_,o.out _ ((bD (cQ s)).trans (bD (cQ s))) (U.cell 11)⟩,rfl⟩,?_⟩
 refine aX 2 (by kernel_rfl) ?_
 simp only[aJ,aO,aI,aL]
 repeat (go_big_quiet_step (fail))
 refine aU ?_
 refine aS rfl ?_ rfl
 go_wp2_with fail
 have V:=((U.iZ u (i:=9) (v:=lO 2)).iZ u (i:=10) (v:=lL 2)).iZ u (i:=11) (v:=lK 2)
 refine⟨⟨⟨_,o.out _ ((bD (cQ F)).trans ((bD (cQ F)).trans ((bD (cQ F)).trans ((bD (cQ s)).trans (bD (cQ s)))))) (V.cell 11)⟩,rfl⟩,?_⟩
 refine bF ?_
 clear dF qR
 obtain⟨x,hx⟩:=bP ((((((j.setCell ⟨f,17,ae⟩ (aA (ag ⟨b,0,ae⟩))).setCell ⟨f,18,ae⟩ (aD aE E.now)).setCell ⟨b,9,ae⟩ (lO 2)).setCell ⟨b,10,ae⟩ (lL 2)).setCell ⟨b,11,ae⟩ (lK 2)).drew)
 have A:iD (λq=>q=b\/q=f) j x:=by rw[<-hx];exact((((((iD.refl (λq=>q=b\/q=f) j).set _ (.inl (.inr rfl))).set _ (.inl (.inr rfl))).set _ (.inl (.inl rfl))).set _ (.inl (.inl rfl))).set _ (.inl (.inl rfl))).on (bi _)
 have nx:x.heap[m.heap.size]?=ag (aG #[ay az 0,.nilFunc,.nilFunc] 131 (0,0)):=(A.gP _ C.out.lt (λe=>by rcases e with e | e;exact Ox e.symm;exact S e.symm)).trans C.out.row
 have HX:=aH (k.out.leads HC.out HB.out 2 A (by rw[<-hx];exact V.row) (λaa ab h=>by rw[<-hx];exact bE (bE (bE ((bD (cQ u)).trans ((bD (cQ u)).trans h)) 9 (lO 2)) 10 (lL 2)) 11 (lK 2)))
 have CX:=aH (show Ch [50,60] G j G x from Ch.lh A (λq _ e=>by rcases e with e | e;rw[e,n.out.tag];decide;rw[e,k.out.row.tag];decide))
 have Y:=aH nx
 have X:(((((j.setCell ⟨f,17,ae⟩ (aA (ag ⟨b,0,ae⟩))).setCell ⟨f,18,ae⟩ (aD aE E.now)).setCell ⟨b,9,ae⟩ (ay az 2)).setCell ⟨b,10,ae⟩ (.func (.func 260) #[] #[])).setCell ⟨b,11,ae⟩ (.func (.func 261) #[] #[])).drew=x:=hx
 rw[X]
 clear hx X A nx T U V tG L M N c9 nt Bo g9 O Yy j9 o
 go_wp2_with fail
 refine(pI x).mono ?_
 rintro e y ⟨rfl,l⟩
 have HY:=aH (HX.out.low l)
 have D:=aH (show Row y G 99 m.heap.size _ _ from⟨(l.block _ (aT Y.out)).trans Y.out,C.out.tag⟩)
 have CY:=aH (CX.out.on l)
 have ky:=eH D.out.row
 clear l
 unfold iU lO lL lK
 go_wp2_with fail
 refine bn (dM rfl m.heap.size 6 rfl rfl D.out.row) rfl ?_
 exact⟨rfl,G,(W.out.any.trans CY.out).ga _ _ _ (.inr B.out.2),HY.out.ch ((Ch.refl [99] G y).ga (b:=m.heap.size) _ _ _ (.inl (by rw[D.out.tag];decide))) (by decide)⟩
theorem UH(f db b i:Nat)(E:fm)(J:List Nat)(fd fl:Lit->Option ar)(c:CV)(w:am)(g:Tg)(H:dZ w g f db K P E J R fd fl)(t:E.cs[i]?=ag c)(l:J[i]?=ag b):
 aw ax 263 #[aA (ag ⟨f,0,ae⟩),aA (ag ⟨b,0,ae⟩),iU 3] w λe w'=>e=aF (iU 6)/\∃g',Ch [50,60] g w g' w'/\dZ w' g' f db K P (mc E i 3) J { R with ld:=aA (ag ⟨b,0,ae⟩) } fd fl:=by
 obtain⟨m,gv,dJ,z⟩:=bG w #[ay az 3,.func (.func 248) #[] #[],.func (.func 249) #[] #[]] 131
 have j9:=eH z.out
 obtain⟨j,lU,lZ,kG⟩:=bG m #[ay az 0,.nilFunc,.nilFunc] 131
 obtain⟨G,Z,n2,-⟩:=ku (g:=g) (w:=m) lZ.out kG.out
 have W:=aH (show Ch [] g w G j from(Ch.bh [] g dJ.out).trans Z)
 have C:=aH n2
 have k:=aH (H.ch W.out (λ_ _ h=>by cases h))
 have I:=aH ((lZ.out.block _ (aT z.out)).trans z.out)
 have B:=aH (And.intro (aT z.out) dJ.out.size)
 obtain⟨lb,tb⟩:=k.out.lt t l
 obtain⟨dv,rv,r,-⟩:=(k.out.cls.ie i c b t l).ex
 have HC:=aH t
 have HB:=aH l
 have ob:=(H.lt t l).1
 have oe:=H.row.lt
 have u:f≠b:=jt k.out.row.tag tb (by decide)
 have F:b≠w.heap.size:=by omega
 have s:f≠w.heap.size:=by omega
 have Ox:b≠m.heap.size:=by have:=B.out.2;omega
 have S:f≠m.heap.size:=by have:=B.out.2;omega
 have n:=aH r
 clear H t l Z n2 ob oe r lb tb
 have tG:j.cell? ⟨f,17,ae⟩=ag R.ld:=k.out.row.cell 17
 have L:j.cell? ⟨f,18,ae⟩=ag (aD aE E.begun):=k.out.row.cell 18
 have M:=k.out.row.free 17
 have N:=k.out.row.free 18
 have c9:j.cell? ⟨b,9,ae⟩=ag (lO c.back):=n.out.cell 9
 have nt:j.cell? ⟨b,10,ae⟩=ag (lL c.back):=n.out.cell 10
 have Bo:j.cell? ⟨b,11,ae⟩=ag (lK c.back):=n.out.cell 11
 have g9:=n.out.free 9
 have O:=n.out.free 10
 have Yy:=n.out.free 11
 unfold iU lO lL lK
 go_in
 go_wp2_with fail
 have o:=aH (show ∀x:am,x.heap[w.heap.size]?=j.heap[w.heap.size]?->x.cell? ⟨f,11,ae⟩=ag (aA (ag ⟨R.kb,0,ae⟩))->x.drew.cell? ⟨f,11,ae⟩=ag (aA (ag ⟨R.kb,0,ae⟩))/\x.drew.cell? ⟨w.heap.size,0,ae⟩=ag (ay az 3)/\x.drew.cell? ⟨w.heap.size,1,ae⟩=ag (.func (.func 248) #[] #[])/\x.drew.cell? ⟨w.heap.size,2,ae⟩=ag (.func (.func 249) #[] #[])from λx Q h2=>⟨h2,(cm Q).trans (aZ 0 I.out),(cm Q).trans (aZ 1 I.out),(cm Q).trans (aZ 2 I.out)⟩)
 have qR:∀p:In (λw'=>w'.cell? ⟨f,11,ae⟩=ag (aA (ag ⟨R.kb,0,ae⟩))/\w'.cell? ⟨w.heap.size,0,ae⟩=ag (ay az 3)/\w'.cell? ⟨w.heap.size,1,ae⟩=ag (.func (.func 248) #[] #[])/\w'.cell? ⟨w.heap.size,2,ae⟩=ag (.func (.func 249) #[] #[])),p.w.cell? ⟨f,11,ae⟩=ag (aA (ag ⟨R.kb,0,ae⟩))/\p.w.cell? ⟨w.heap.size,0,ae⟩=ag (ay az 3)/\p.w.cell? ⟨w.heap.size,1,ae⟩=ag (.func (.func 248) #[] #[])/\p.w.cell? ⟨w.heap.size,2,ae⟩=ag (.func (.func 249) #[] #[]):=λp=>p.h
 refine bX [0,1,2,3,4,5,6,7,9,8,10,11,12,13,14,15,16,17,18] (λw'=>w'.cell? ⟨f,11,ae⟩=ag (aA (ag ⟨R.kb,0,ae⟩))/\w'.cell? ⟨w.heap.size,0,ae⟩=ag (ay az 3)/\w'.cell? ⟨w.heap.size,1,ae⟩=ag (.func (.func 248) #[] #[])/\w'.cell? ⟨w.heap.size,2,ae⟩=ag (.func (.func 249) #[] #[])) (by kernel_rfl) (by kernel_rfl) (by intro c a d v w h;cases d <;> exact h) (o.out j rfl (k.out.row.cell 11)) ?_
 intro dF
 simp only[pick,aV,a8,aQ,aR]
 refine aX 9 (by kernel_rfl) ?_
 simp only[aJ,aO,aI,aL]
 repeat (go_big_quiet_step (fail))
 refine aU ?_
 refine aS rfl ?_ rfl
 go_wp2_with fail
 refine(yp R.kb E.now j.drew (k.out.clk.below (bi j))).mono ?_
 rintro e wd ⟨rfl,rfl⟩
 go_wp2_with fail
 refine⟨⟨⟨_,o.out j rfl (k.out.row.cell 11)⟩,rfl⟩,?_⟩
 refine aX 2 (by kernel_rfl) ?_
 simp only[aJ,aO,aI,aL]
 repeat (go_big_quiet_step (fail))
 refine aU ?_
 refine aS rfl ?_ rfl
 go_wp2_with fail
 have T:=k.out.row.set 17 (aA (ag ⟨b,0,ae⟩))
 refine⟨⟨⟨_,o.out _ (bD (cQ s)) (T.cell 11)⟩,rfl⟩,?_⟩
 refine aX 2 (by kernel_rfl) ?_
 simp only[aJ,aO,aI,aL]
 repeat (go_big_quiet_step (fail))
 refine aU ?_
 refine aS rfl ?_ rfl
 go_wp2_with fail
 have U:=T.set 18 (aD aE E.now)
 refine⟨⟨⟨_,o.out _ ((bD (cQ s)).trans (bD (cQ s))) (U.cell 11)⟩,rfl⟩,?_⟩
 refine aX 2 (by kernel_rfl) ?_
 simp only[aJ,aO,aI,aL]
 repeat (go_big_quiet_step (fail))
 refine aU ?_
 refine aS rfl ?_ rfl
 go_wp2_with fail
 have V:=((U.iZ u (i:=9) (v:=lO 3)).iZ u (i:=10) (v:=lL 3)).iZ u (i:=11) (v:=lK 3)
 refine⟨⟨⟨_,o.out _ ((bD (cQ F)).trans ((bD (cQ F)).trans ((bD (cQ F)).trans ((bD (cQ s)).trans (bD (cQ s)))))) (V.cell 11)⟩,rfl⟩,?_⟩
 refine bF ?_
 clear dF qR
 obtain⟨x,hx⟩:=bP ((((((j.setCell ⟨f,17,ae⟩ (aA (ag ⟨b,0,ae⟩))).setCell ⟨f,18,ae⟩ (aD aE E.now)).setCell ⟨b,9,ae⟩ (lO 3)).setCell ⟨b,10,ae⟩ (lL 3)).setCell ⟨b,11,ae⟩ (lK 3)).drew)
 have A:iD (λq=>q=b\/q=f) j x:=by rw[<-hx];exact((((((iD.refl (λq=>q=b\/q=f) j).set _ (.inl (.inr rfl))).set _ (.inl (.inr rfl))).set _ (.inl (.inl rfl))).set _ (.inl (.inl rfl))).set _ (.inl (.inl rfl))).on (bi _)
 have nx:x.heap[m.heap.size]?=ag (aG #[ay az 0,.nilFunc,.nilFunc] 131 (0,0)):=(A.gP _ C.out.lt (λe=>by rcases e with e | e;exact Ox e.symm;exact S e.symm)).trans C.out.row
 have HX:=aH (k.out.leads HC.out HB.out 3 A (by rw[<-hx];exact V.row) (λaa ab h=>by rw[<-hx];exact bE (bE (bE ((bD (cQ u)).trans ((bD (cQ u)).trans h)) 9 (lO 3)) 10 (lL 3)) 11 (lK 3)))
 have CX:=aH (show Ch [50,60] G j G x from Ch.lh A (λq _ e=>by rcases e with e | e;rw[e,n.out.tag];decide;rw[e,k.out.row.tag];decide))
 have Y:=aH nx
 have X:(((((j.setCell ⟨f,17,ae⟩ (aA (ag ⟨b,0,ae⟩))).setCell ⟨f,18,ae⟩ (aD aE E.now)).setCell ⟨b,9,ae⟩ (ay az 3)).setCell ⟨b,10,ae⟩ (.func (.func 248) #[] #[])).setCell ⟨b,11,ae⟩ (.func (.func 249) #[] #[])).drew=x:=hx
 rw[X]
 clear hx X A nx T U V tG L M N c9 nt Bo g9 O Yy j9 o
 go_wp2_with fail
 refine(pI x).mono ?_
 rintro e y ⟨rfl,l⟩
 have HY:=aH (HX.out.low l)
 have D:=aH (show Row y G 99 m.heap.size _ _ from⟨(l.block _ (aT Y.out)).trans Y.out,C.out.tag⟩)
 have CY:=aH (CX.out.on l)
 have ky:=eH D.out.row
 clear l
 unfold iU lO lL lK
 go_wp2_with fail
 refine bn (dM rfl m.heap.size 6 rfl rfl D.out.row) rfl ?_
 exact⟨rfl,G,(W.out.any.trans CY.out).ga _ _ _ (.inr B.out.2),HY.out.ch ((Ch.refl [99] G y).ga (b:=m.heap.size) _ _ _ (.inl (by rw[D.out.tag];decide))) (by decide)⟩
theorem UG(f db b i:Nat)(E:fm)(J:List Nat)(fd fl:Lit->Option ar)(c:CV)(w:am)(g:Tg)(H:dZ w g f db K P E J R fd fl)(t:E.cs[i]?=ag c)(l:J[i]?=ag b):
 aw ax 263 #[aA (ag ⟨f,0,ae⟩),aA (ag ⟨b,0,ae⟩),iU 4] w λe w'=>e=aF (iU 6)/\∃g',Ch [50,60] g w g' w'/\dZ w' g' f db K P (mc E i 4) J { R with ld:=aA (ag ⟨b,0,ae⟩) } fd fl:=by
 obtain⟨m,gv,dJ,z⟩:=bG w #[ay az 4,.func (.func 250) #[] #[],.func (.func 251) #[] #[]] 131
 have j9:=eH z.out
 obtain⟨j,lU,lZ,kG⟩:=bG m #[ay az 0,.nilFunc,.nilFunc] 131
 obtain⟨G,Z,n2,-⟩:=ku (g:=g) (w:=m) lZ.out kG.out
 have W:=aH (show Ch [] g w G j from(Ch.bh [] g dJ.out).trans Z)
 have C:=aH n2
 have k:=aH (H.ch W.out (λ_ _ h=>by cases h))
 have I:=aH ((lZ.out.block _ (aT z.out)).trans z.out)
 have B:=aH (And.intro (aT z.out) dJ.out.size)
 obtain⟨lb,tb⟩:=k.out.lt t l
 obtain⟨dv,rv,r,-⟩:=(k.out.cls.ie i c b t l).ex
 have HC:=aH t
 have HB:=aH l
 have ob:=(H.lt t l).1
 have oe:=H.row.lt
 have u:f≠b:=jt k.out.row.tag tb (by decide)
 have F:b≠w.heap.size:=by omega
 have s:f≠w.heap.size:=by omega
 have Ox:b≠m.heap.size:=by have:=B.out.2;omega
 have S:f≠m.heap.size:=by have:=B.out.2;omega
 have n:=aH r
 clear H t l Z n2 ob oe r lb tb
 have tG:j.cell? ⟨f,17,ae⟩=ag R.ld:=k.out.row.cell 17
 have L:j.cell? ⟨f,18,ae⟩=ag (aD aE E.begun):=k.out.row.cell 18
 have M:=k.out.row.free 17
 have N:=k.out.row.free 18
 have c9:j.cell? ⟨b,9,ae⟩=ag (lO c.back):=n.out.cell 9
 have nt:j.cell? ⟨b,10,ae⟩=ag (lL c.back):=n.out.cell 10
 have Bo:j.cell? ⟨b,11,ae⟩=ag (lK c.back):=n.out.cell 11
 have g9:=n.out.free 9
 have O:=n.out.free 10
 have Yy:=n.out.free 11
 unfold iU lO lL lK
 go_in
 go_wp2_with fail
 have o:=aH (show ∀x:am,x.heap[w.heap.size]?=j.heap[w.heap.size]?->x.cell? ⟨f,11,ae⟩=ag (aA (ag ⟨R.kb,0,ae⟩))->x.drew.cell? ⟨f,11,ae⟩=ag (aA (ag ⟨R.kb,0,ae⟩))/\x.drew.cell? ⟨w.heap.size,0,ae⟩=ag (ay az 4)/\x.drew.cell? ⟨w.heap.size,1,ae⟩=ag (.func (.func 250) #[] #[])/\x.drew.cell? ⟨w.heap.size,2,ae⟩=ag (.func (.func 251) #[] #[])from λx Q h2=>⟨h2,(cm Q).trans (aZ 0 I.out),(cm Q).trans (aZ 1 I.out),(cm Q).trans (aZ 2 I.out)⟩)
 have qR:∀p:In (λw'=>w'.cell? ⟨f,11,ae⟩=ag (aA (ag ⟨R.kb,0,ae⟩))/\w'.cell? ⟨w.heap.size,0,ae⟩=ag (ay az 4)/\w'.cell? ⟨w.heap.size,1,ae⟩=ag (.func (.func 250) #[] #[])/\w'.cell? ⟨w.heap.size,2,ae⟩=ag (.func (.func 251) #[] #[])),p.w.cell? ⟨f,11,ae⟩=ag (aA (ag ⟨R.kb,0,ae⟩))/\p.w.cell? ⟨w.heap.size,0,ae⟩=ag (ay az 4)/\p.w.cell? ⟨w.heap.size,1,ae⟩=ag (.func (.func 250) #[] #[])/\p.w.cell? ⟨w.heap.size,2,ae⟩=ag (.func (.func 251) #[] #[]):=λp=>p.h
 refine bX [0,1,2,3,4,5,6,7,9,8,10,11,12,13,14,15,16,17,18] (λw'=>w'.cell? ⟨f,11,ae⟩=ag (aA (ag ⟨R.kb,0,ae⟩))/\w'.cell? ⟨w.heap.size,0,ae⟩=ag (ay az 4)/\w'.cell? ⟨w.heap.size,1,ae⟩=ag (.func (.func 250) #[] #[])/\w'.cell? ⟨w.heap.size,2,ae⟩=ag (.func (.func 251) #[] #[])) (by kernel_rfl) (by kernel_rfl) (by intro c a d v w h;cases d <;> exact h) (o.out j rfl (k.out.row.cell 11)) ?_
 intro dF
 simp only[pick,aV,a8,aQ,aR]
 refine aX 9 (by kernel_rfl) ?_
 simp only[aJ,aO,aI,aL]
 repeat (go_big_quiet_step (fail))
 refine aU ?_
 refine aS rfl ?_ rfl
 go_wp2_with fail
 refine(yp R.kb E.now j.drew (k.out.clk.below (bi j))).mono ?_
 rintro e wd ⟨rfl,rfl⟩
 go_wp2_with fail
 refine⟨⟨⟨_,o.out j rfl (k.out.row.cell 11)⟩,rfl⟩,?_⟩
 refine aX 2 (by kernel_rfl) ?_
 simp only[aJ,aO,aI,aL]
 repeat (go_big_quiet_step (fail))
 refine aU ?_
 refine aS rfl ?_ rfl
 go_wp2_with fail
 have T:=k.out.row.set 17 (aA (ag ⟨b,0,ae⟩))
 refine⟨⟨⟨_,o.out _ (bD (cQ s)) (T.cell 11)⟩,rfl⟩,?_⟩
 refine aX 2 (by kernel_rfl) ?_
 simp only[aJ,aO,aI,aL]
 repeat (go_big_quiet_step (fail))
 refine aU ?_
 refine aS rfl ?_ rfl
 go_wp2_with fail
 have U:=T.set 18 (aD aE E.now)
 refine⟨⟨⟨_,o.out _ ((bD (cQ s)).trans (bD (cQ s))) (U.cell 11)⟩,rfl⟩,?_⟩
 refine aX 2 (by kernel_rfl) ?_
 simp only[aJ,aO,aI,aL]
 repeat (go_big_quiet_step (fail))
 refine aU ?_
 refine aS rfl ?_ rfl
 go_wp2_with fail
 have V:=((U.iZ u (i:=9) (v:=lO 4)).iZ u (i:=10) (v:=lL 4)).iZ u (i:=11) (v:=lK 4)
 refine⟨⟨⟨_,o.out _ ((bD (cQ F)).trans ((bD (cQ F)).trans ((bD (cQ F)).trans ((bD (cQ s)).trans (bD (cQ s)))))) (V.cell 11)⟩,rfl⟩,?_⟩
 refine bF ?_
 clear dF qR
 obtain⟨x,hx⟩:=bP ((((((j.setCell ⟨f,17,ae⟩ (aA (ag ⟨b,0,ae⟩))).setCell ⟨f,18,ae⟩ (aD aE E.now)).setCell ⟨b,9,ae⟩ (lO 4)).setCell ⟨b,10,ae⟩ (lL 4)).setCell ⟨b,11,ae⟩ (lK 4)).drew)
 have A:iD (λq=>q=b\/q=f) j x:=by rw[<-hx];exact((((((iD.refl (λq=>q=b\/q=f) j).set _ (.inl (.inr rfl))).set _ (.inl (.inr rfl))).set _ (.inl (.inl rfl))).set _ (.inl (.inl rfl))).set _ (.inl (.inl rfl))).on (bi _)
 have nx:x.heap[m.heap.size]?=ag (aG #[ay az 0,.nilFunc,.nilFunc] 131 (0,0)):=(A.gP _ C.out.lt (λe=>by rcases e with e | e;exact Ox e.symm;exact S e.symm)).trans C.out.row
 have HX:=aH (k.out.leads HC.out HB.out 4 A (by rw[<-hx];exact V.row) (λaa ab h=>by rw[<-hx];exact bE (bE (bE ((bD (cQ u)).trans ((bD (cQ u)).trans h)) 9 (lO 4)) 10 (lL 4)) 11 (lK 4)))
 have CX:=aH (show Ch [50,60] G j G x from Ch.lh A (λq _ e=>by rcases e with e | e;rw[e,n.out.tag];decide;rw[e,k.out.row.tag];decide))
 have Y:=aH nx
 have X:(((((j.setCell ⟨f,17,ae⟩ (aA (ag ⟨b,0,ae⟩))).setCell ⟨f,18,ae⟩ (aD aE E.now)).setCell ⟨b,9,ae⟩ (ay az 4)).setCell ⟨b,10,ae⟩ (.func (.func 250) #[] #[])).setCell ⟨b,11,ae⟩ (.func (.func 251) #[] #[])).drew=x:=hx
 rw[X]
 clear hx X A nx T U V tG L M N c9 nt Bo g9 O Yy j9 o
 go_wp2_with fail
 refine(pI x).mono ?_
 rintro e y ⟨rfl,l⟩
 have HY:=aH (HX.out.low l)
 have D:=aH (show Row y G 99 m.heap.size _ _ from⟨(l.block _ (aT Y.out)).trans Y.out,C.out.tag⟩)
 have CY:=aH (CX.out.on l)
 have ky:=eH D.out.row
 clear l
 unfold iU lO lL lK
 go_wp2_with fail
 refine bn (dM rfl m.heap.size 6 rfl rfl D.out.row) rfl ?_
 exact⟨rfl,G,(W.out.any.trans CY.out).ga _ _ _ (.inr B.out.2),HY.out.ch ((Ch.refl [99] G y).ga (b:=m.heap.size) _ _ _ (.inl (by rw[D.out.tag];decide))) (by decide)⟩
end
section
variable{K:dw}{P:jx}{R:oG}
theorem UE(f n b i k:Nat)(d:By)(E:fm)(m:List Nat)(y z:Lit->Option ar)(c:CV)(w:am)(g:Tg)(H:dZ w g f n K P E m R y z)(Q:E.cs[i]?=ag c)(O:m[i]?=ag b)(T:k<E.du)(S:E.D[k]?=ag d)(V:∀d∈E.D,d.length<=4096):
 aw ax 229 #[aA (ag ⟨f,0,ae⟩),aA (ag ⟨b,0,ae⟩),ay az ((K.b0+k:Nat):Int)] w λe w'=>e=aF (iU 9)/\∃g',Ch [60] g w g' w'/\dZ w' g' f n K P (lV E i 0 (K.b0+k) d) m R y z:=by
 obtain⟨Y,gv,dJ,u⟩:=bG w #[ay az 0,.nilFunc,.nilFunc] 131
 have j9:=eH u.out
 obtain⟨G,I,U,M⟩:=ku (g:=g) dJ.out u.out
 have C:=aH I
 have N1:=aH U
 have GZ:=aH M
 have L1:=aH (aT u.out)
 have l:=aH (H.ch C.out (λ_ _ h=>by cases h))
 have HC:=aH Q
 have HB:=aH O
 have e8:Y.cell? ⟨f,8,ae⟩=ag (aA (ag ⟨R.ob,0,ae⟩)):=l.out.row.cell 8
 have L:=l.out.log.UP
 have j:(E.D.take E.wr)[k]?=ag d:=by
  rw[dt,bj (by rw[dg]at L;omega)]
  exact S
 have D:=aH (abM R.ob n P.sm K.b0 (E.D.take E.wr) E.du k d Y G l.out.log T j (λx hx=>V x (Az hx)))
 obtain⟨lsn,A⟩:=bP (((K.b0+k:Nat):Int):Int)
 rw[show(K.b0:Int)+(k:Int)=lsn by omega]at D
 have HL:=aH A
 rw[A]
 clear H Q O T S V j L I U M A
 go_in
 go_wp2_with fail
 refine D.out.mono ?_
 rintro e w2 ⟨v,rfl,B,o⟩
 have F:=aH (oN.pL (g:=G) B (λq hq=>GZ.out q (by have:=L1.out;omega)))
 obtain⟨W,X,rfl,-⟩:=B.slice
 have H2:=aH (l.out.low o)
 have N2:=aH (N1.out.below o)
 have C2:=aH (C.out.on o)
 obtain⟨J,Z⟩:=bP d.length
 rw[Z]at F ⊢
 clear B o e8 j9 Z
 obtain⟨w3,pD,p,pZ⟩:=bG w2 #[ay az lsn,aB W J X] 72
 have Js:=gc pZ.out
 have H3:=aH (H2.out.low p.out)
 have N3:=aH (N2.out.below p.out)
 have C3:=aH (C2.out.on p.out)
 have s:=aH (F.out.ch (Ch.bh [] G p.out) (by decide))
 have a:=aH (Dh f n b i E m y z c 0 (K.b0+k) d (aB W J X) w3 G H3.out HC.out HB.out s.out)
 rw[HL.out]at a
 go_wp2_with fail
 refine a.out.mono ?_
 rintro e w4 ⟨rfl,t,N⟩
 have C4:=aH t
 have H4:=aH N
 have r:=aH (N3.out.ch t (by decide))
 have k4:=eH r.out.row
 clear t N Js
 unfold iU lO lL lK
 go_wp2_with fail
 refine bn (dM rfl w.heap.size 9 rfl rfl r.out.row) rfl ?_
 exact⟨rfl,G,(C3.out.any.trans C4.out).ga _ _ _ (.inr dx),H4.out.ch ((Ch.refl [99] G w4).ga (b:=w.heap.size) _ _ _ (.inl (by rw[r.out.tag];decide))) (by decide)⟩
theorem adb(j m b i:Nat)(E:fm)(l:List Nat)(s t:Lit->Option ar)(c:CV)(w:am)(g:Tg)(H:dZ w g j m K P E l R s t)(M:E.cs[i]?=ag c)(L:l[i]?=ag b)(nC:K.b0<=c.ask.lsn)(ry:∀d∈E.D,d.length<=4096):
 aw ax 230 #[aA (ag ⟨j,0,ae⟩),aA (ag ⟨b,0,ae⟩)] w λe w'=>(c.ask.lsn<K.b0+E.du/\e=aF (iU 9)/\∃g',Ch [60] g w g' w'/\dZ w' g' j m K P (lV E i 0 c.ask.lsn (E.D[c.ask.lsn-K.b0]?.getD [])) l R s t)\/
  (¬ c.ask.lsn<K.b0+E.du/\e=aF (iU 4)/\∃g',Ch [60] g w g' w'/\dZ w' g' j m K P E l R s t):=by
 obtain⟨y,gv,dJ,dL⟩:=bG w #[ay az 0,.nilFunc,.nilFunc] 131
 obtain⟨G,c1,n1,gz⟩:=ku (g:=g) dJ.out dL.out
 have U:=aH c1
 have N1:=aH n1
 have q:=aH (H.ch U.out (λ_ _ h=>by cases h))
 have HC:=aH M
 have HB:=aH L
 obtain⟨dv,rv,r,-⟩:=(q.out.cls.ie i c b M L).ex
 have RR:=aH r
 obtain⟨lsn,O⟩:=bP (((c.ask.lsn:Nat):Int):Int)
 obtain⟨J,N⟩:=bP (((K.b0+E.du:Nat):Int):Int)
 have X:=aH (λx hx=>pd j m P.sm (E.D.take E.wr) E.du x ((q.out.row).below hx) (q.out.log.low hx))
 rw[N]at X
 have F:y.cell? ⟨b,2,ae⟩=ag (ay az lsn):=by rw[<-O];exact r.cell 2
 have D:=aH (And.intro O N)
 have k:=aH nC
 have C:=aH ry
 clear H M L nC ry c1 n1 gz O N r
 go_in
 go_wp2_with fail
 have qR:∀p:In (λw'=>w'.cell? ⟨b,2,ae⟩=ag (ay az lsn)),p.w.cell? ⟨b,2,ae⟩=ag (ay az lsn):=λp=>p.h
 refine bX [0,1,2,3,4,5,6,7] (λw'=>w'.cell? ⟨b,2,ae⟩=ag (ay az lsn)) (by kernel_rfl) (by kernel_rfl) (by intro c a d v w h;cases d <;> exact h) F ?_
 intro dF
 simp only[pick,aV,a8,aQ,aR]
 refine aX 6 (by kernel_rfl) ?_
 simp only[aJ,aO,aI,aL]
 repeat (go_big_quiet_step (fail))
 refine aU ?_
 refine aS rfl ?_ rfl
 go_wp2_with fail
 refine(X.out y.drew (bi y)).mono ?_
 rintro e Q ⟨rfl,eA⟩
 have o:=aH (aM (bi y) eA)
 have d2:Q.cell? ⟨b,2,ae⟩=ag (ay az lsn):=(cm (o.out.block _ RR.out.lt)).trans F
 clear eA
 go_wp2_with fail
 refine⟨⟨⟨_,d2⟩,rfl⟩,?_⟩
 refine aX 1 (by kernel_rfl) ?_
 simp only[aJ,aO,aI,aL]
 repeat (go_big_quiet_step (fail))
 refine aU ?_
 refine bF ?_
 clear dF qR
 have A:=aH (q.out.low o.out)
 have W:=aH (N1.out.below o.out)
 have V:=aH (U.out.on o.out)
 clear F
 by_cases hx:lsn<J
 ·have x1:decide (lsn<J)=aj:=bM hx
  have n:c.ask.lsn<K.b0+E.du:=by have:=D.out;omega
  have LT:=aH n
  have kk:c.ask.lsn-K.b0<E.du:=by have:=k.out;omega
  have Z:=A.out.log.UP
  have kl:c.ask.lsn-K.b0<E.D.length:=by rw[dg]at Z;omega
  have Y:=aH (UE j m b i (c.ask.lsn-K.b0) (E.D[c.ask.lsn-K.b0]'kl) E l s t c Q G A.out HC.out HB.out kk (aP kl) C.out)
  rw[show K.b0+(c.ask.lsn-K.b0)=c.ask.lsn by have:=k.out;omega,D.out.1]at Y
  have GE:=aH (show E.D[c.ask.lsn-K.b0]?.getD []=E.D[c.ask.lsn-K.b0]'kl from by rw[aP kl];rfl)
  clear n kk Z
  go_wp2_with fail
  refine Y.out.mono ?_
  rintro e S ⟨rfl,g3,I,h3⟩
  have z:=aH I
  have B:=aH h3
  have f:=aH (W.out.ch I (by decide))
  have k3:=eH f.out.row
  clear I h3
  unfold iU lO lL lK
  go_wp2_with fail
  refine bn (dM rfl w.heap.size 9 rfl rfl f.out.row) rfl ?_
  rw[GE.out]
  exact .inl ⟨LT.out,rfl,g3,(V.out.any.trans z.out).ga _ _ _ (.inr dx),B.out.ch ((Ch.refl [99] g3 S).ga (b:=w.heap.size) _ _ _ (.inl (by rw[f.out.tag];decide))) (by decide)⟩
 ·have x1:decide (lsn<J)=ah:=bC hx
  have n:¬ c.ask.lsn<K.b0+E.du:=by have:=D.out;omega
  have LT:=aH n
  clear n
  go_wp2_with fail
  refine(xM Q).mono ?_
  rintro e S ⟨rfl,u⟩
  have B:=aH (A.out.low u)
  have f:=aH (W.out.below u)
  have z:=aH (V.out.on u)
  have k3:=eH f.out.row
  clear u
  unfold iU lO lL lK
  go_wp2_with fail
  refine bn (dM rfl w.heap.size 4 rfl rfl f.out.row) rfl ?_
  exact .inr ⟨LT.out,rfl,G,(z.out.any (T:=[60])).ga _ _ _ (.inr dx),B.out.ch ((Ch.refl [99] G S).ga (b:=w.heap.size) _ _ _ (.inl (by rw[f.out.tag];decide))) (by decide)⟩
end
section
variable{K:dw}{P:jx}{R:oG}
theorem ac'(a f b i:Nat)(E:fm)(k:List Nat)(n o:Lit->Option ar)(c:CV)(w:am)(g:Tg)(H:dZ w g a f K P E k R n o)(L:E.cs[i]?=ag c)(J:k[i]?=ag b)(nC:K.b0<=c.ask.lsn)(ry:∀d∈E.D,d.length<=4096):
 aw ax 251 #[aA (ag ⟨a,0,ae⟩),aA (ag ⟨b,0,ae⟩)] w λe w'=>(c.ask.lsn<K.b0+E.du/\e=aF (iU 9)/\∃g',Ch [50,60] g w g' w'/\dZ w' g' a f K P (lV E i 0 c.ask.lsn (E.D[c.ask.lsn-K.b0]?.getD [])) k R n o)\/
  (¬ c.ask.lsn<K.b0+E.du/\e=aF (iU 6)/\∃g',Ch [50,60] g w g' w'/\dZ w' g' a f K P (mc E i 4) k { R with ld:=aA (ag ⟨b,0,ae⟩) } n o):=by
 obtain⟨O,gv,dJ,dL⟩:=bG w #[ay az 0,.nilFunc,.nilFunc] 131
 obtain⟨G,c1,n1,gz⟩:=ku (g:=g) dJ.out dL.out
 have U:=aH c1
 have N1:=aH n1
 have j:=aH (H.ch U.out (λ_ _ h=>by cases h))
 have X:=aH L
 have W:=aH J
 obtain⟨dv,rv,r,-⟩:=(j.out.cls.ie i c b L J).ex
 obtain⟨lsn,N⟩:=bP (((c.ask.lsn:Nat):Int):Int)
 obtain⟨I,M⟩:=bP (((K.b0+E.du:Nat):Int):Int)
 obtain⟨nx,kA⟩:=bP (((K.b0+(E.D.take E.wr).length:Nat):Int):Int)
 have Z:=aH (λx hx=>pd a f P.sm (E.D.take E.wr) E.du x ((j.out.row).below hx) (j.out.log.low hx))
 have t:=aH (λx hx=>tP R.ob f P.sm K.b0 (E.D.take E.wr) E.du x G (j.out.log.low hx))
 rw[M]at Z t
 rw[kA]at t
 unfold zJ at t
 have c2:O.cell? ⟨b,2,ae⟩=ag (ay az lsn):=by rw[<-N];exact r.cell 2
 have e8:O.cell? ⟨a,8,ae⟩=ag (aA (ag ⟨R.ob,0,ae⟩)):=j.out.row.cell 8
 have C:=aH (And.intro N M)
 have l:=aH nC
 have A:=aH ry
 have aa:=Mg
 clear H L J nC ry c1 n1 gz N M kA r
 go_in
 go_wp2_with fail
 refine(t.out O (cX _ _)).mono ?_
 rintro e wa ⟨rfl,ha⟩
 have T:=aH ha
 clear ha
 go_wp2_with fail
 refine(Z.out wa T.out).mono ?_
 rintro e Q ⟨rfl,eA⟩
 have u:=aH (aM T.out eA)
 have q:=aH (j.out.low u.out)
 have Y:=aH (N1.out.below u.out)
 have V:=aH (U.out.on u.out)
 have QU:Q.cell? ⟨a,21,ae⟩=ag (aC ah):=q.out.row.cell 21
 clear c2 e8 eA
 by_cases hx:lsn<I
 ·have x1:decide (lsn<I)=aj:=bM hx
  have p:c.ask.lsn<K.b0+E.du:=by have:=C.out;omega
  have LT:=aH p
  have kk:c.ask.lsn-K.b0<E.du:=by have:=l.out;omega
  have UP:=q.out.log.UP
  have kl:c.ask.lsn-K.b0<E.D.length:=by rw[dg]at UP;omega
  have RD:=aH (UE a f b i (c.ask.lsn-K.b0) (E.D[c.ask.lsn-K.b0]'kl) E k n o c Q G q.out X.out W.out kk (aP kl) A.out)
  rw[show K.b0+(c.ask.lsn-K.b0)=c.ask.lsn by have:=l.out;omega,C.out.1]at RD
  have GE:=aH (show E.D[c.ask.lsn-K.b0]?.getD []=E.D[c.ask.lsn-K.b0]'kl from by rw[aP kl];rfl)
  clear p kk UP
  go_wp2_with fail
  refine RD.out.mono ?_
  rintro e S ⟨rfl,g3,D,h3⟩
  have y:=aH D
  have z:=aH h3
  have m:=aH (Y.out.ch D (by decide))
  have k3:=eH m.out.row
  clear D h3
  unfold iU lO lL lK
  go_wp2_with fail
  refine bn (dM rfl w.heap.size 9 rfl rfl m.out.row) rfl ?_
  rw[GE.out]
  exact .inl ⟨LT.out,rfl,g3,(V.out.any.trans (y.out.mono (by decide))).ga _ _ _ (.inr dx),z.out.ch ((Ch.refl [99] g3 S).ga (b:=w.heap.size) _ _ _ (.inl (by rw[m.out.tag];decide))) (by decide)⟩
 ·have x1:decide (lsn<I)=ah:=bC hx
  have p:¬ c.ask.lsn<K.b0+E.du:=by have:=C.out;omega
  have LT:=aH p
  clear p
  go_wp2_with fail
  refine(xM Q).mono ?_
  rintro e S ⟨rfl,s⟩
  have z:=aH (q.out.low s)
  have m:=aH (Y.out.below s)
  have y:=aH (V.out.on s)
  clear s
  go_wp2_with fail
  refine(UG a f b i E k n o c S G z.out X.out W.out).mono ?_
  rintro e w4 ⟨rfl,g4,F,h4⟩
  have C4:=aH F
  have H4:=aH h4
  have B:=aH (m.out.ch F (by decide))
  have k4:=eH B.out.row
  clear F h4
  unfold iU lO lL lK
  go_wp2_with fail
  refine bn (dM rfl w.heap.size 6 rfl rfl B.out.row) rfl ?_
  exact .inr ⟨LT.out,rfl,g4,(y.out.any.trans C4.out).ga _ _ _ (.inr dx),H4.out.ch ((Ch.refl [99] g4 w4).ga (b:=w.heap.size) _ _ _ (.inl (by rw[B.out.tag];decide))) (by decide)⟩
theorem ac7(f o b i:Nat)(E:fm)(n:List Nat)(z A:Lit->Option ar)(c:CV)(w:am)(g:Tg)(H:dZ w g f o K P E n R z A)(hc:E.cs[i]?=ag c)(hb:n[i]?=ag b)(hk:c.ask.kind=1):
 aw ax 249 #[aA (ag ⟨f,0,ae⟩),aA (ag ⟨b,0,ae⟩)] w λe w'=>(c.lsn<K.b0+E.du/\e=aF (iU 9)/\∃g',Ch [50,60] g w g' w'/\dZ w' g' f o K P (lV E i 0 c.lsn []) n R z A)\/
  (¬ c.lsn<K.b0+E.du/\e=aF (iU 6)/\∃g',Ch [50,60] g w g' w'/\dZ w' g' f o K P (mc E i 3) n { R with ld:=aA (ag ⟨b,0,ae⟩) } z A):=by
 obtain⟨D,gv,dJ,dL⟩:=bG w #[ay az 0,.nilFunc,.nilFunc] 131
 obtain⟨G,c1,n1,gz⟩:=ku (g:=g) dJ.out dL.out
 have C1:=aH c1
 have N1:=aH n1
 have F:=aH (H.ch C1.out (λ_ _ h=>by cases h))
 have HC:=aH hc
 have HB:=aH hb
 obtain⟨dv,rv,r,-⟩:=(F.out.cls.ie i c b hc hb).ex
 have I:=aH r
 obtain⟨lsn,hl⟩:=bP (((c.lsn:Nat):Int):Int)
 obtain⟨du,hd⟩:=bP (((K.b0+E.du:Nat):Int):Int)
 have Nu:=aH (λx hx=>pd f o P.sm (E.D.take E.wr) E.du x ((F.out.row).below hx) (F.out.log.low hx))
 rw[hd]at Nu
 have m:D.cell? ⟨b,4,ae⟩=ag (ay az lsn):=by rw[<-hl];exact r.cell 4
 have k1:D.cell? ⟨b,1,ae⟩=ag (ay az 1):=by have:=r.cell 1;rw[this];show ag (Value.int IntKind.i64 (c.ask.kind:Int))=_;rw[hk];rfl
 have V:=aH (And.intro hl hd)
 clear H hc hb hk c1 n1 gz hl hd r
 go_in
 go_wp2_with fail
 have qR:∀p:In (λw'=>w'.cell? ⟨b,4,ae⟩=ag (ay az lsn)),p.w.cell? ⟨b,4,ae⟩=ag (ay az lsn):=λp=>p.h
 refine bX [0,2,3,4,5,1,6,7] (λw'=>w'.cell? ⟨b,4,ae⟩=ag (ay az lsn)) (by kernel_rfl) (by kernel_rfl) (by intro c a d v w h;cases d <;> exact h) m ?_
 intro dF
 simp only[pick,aV,a8,aQ,aR]
 refine aX 5 (by kernel_rfl) ?_
 simp only[aJ,aO,aI,aL]
 repeat (go_big_quiet_step (fail))
 refine aU ?_
 refine aS rfl ?_ rfl
 go_wp2_with fail
 refine(Nu.out D.drew (bi D)).mono ?_
 rintro e j ⟨rfl,eA⟩
 have k:=aH (aM (bi D) eA)
 have Y:j.cell? ⟨b,4,ae⟩=ag (ay az lsn):=(cm (k.out.block _ I.out.lt)).trans m
 have d1:j.cell? ⟨b,1,ae⟩=ag (ay az 1):=(cm (k.out.block _ I.out.lt)).trans k1
 clear eA
 go_wp2_with fail
 refine⟨⟨⟨_,Y⟩,rfl⟩,?_⟩
 refine aX 2 (by kernel_rfl) ?_
 simp only[aJ,aO,aI,aL]
 repeat (go_big_quiet_step (fail))
 refine aU ?_
 refine bF ?_
 clear dF qR
 have O:=aH (F.out.low k.out)
 have u:=aH (N1.out.below k.out)
 have C2:=aH (C1.out.on k.out)
 have k2:=eH u.out.row
 have QU:j.cell? ⟨f,21,ae⟩=ag (aC ah):=O.out.row.cell 21
 clear m k1
 by_cases hx:lsn<du
 ·have x1:decide (lsn<du)=aj:=bM hx
  have B:c.lsn<K.b0+E.du:=by have:=V.out;omega
  have LT:=aH B
  clear B
  obtain⟨q,pD,qE,C⟩:=bG j #[ay az 0,ay az 0,aB ae 0 0] 52
  have Js:=eH C.out
  obtain⟨l,J,n3,-⟩:=ku (g:=G) qE.out C.out
  have Q:=aH (O.out.ch J (λ_ _ h=>by cases h))
  have T:=aH (u.out.ch J (by decide))
  have M:=aH (C2.out.trans J)
  have M3:=aH n3
  clear J n3
  have RM:=eU (i:=0) (v:=ay az 0) C.out rfl
  have Wq:=eU (i:=1) (v:=ay az 0) C.out rfl
  have aa:=eU (i:=2) (v:=aB ae 0 0) C.out rfl
  have Z:q.cell? ⟨b,4,ae⟩=ag (ay az lsn):=(cm (qE.out.block _ (aW I.out.lt k.out.size))).trans Y
  have X:q.cell? ⟨b,1,ae⟩=ag (ay az 1):=(cm (qE.out.block _ (aW I.out.lt k.out.size))).trans d1
  have nw:w.heap.size≠j.heap.size:=by have:=u.out.lt;omega
  have LW:=aH (show w.heap.size<=j.heap.size from dP u.out.lt)
  clear d1 Y k2
  go_wp2_with fail
  clear RM Wq aa
  obtain⟨x,t⟩:=bP (q.setCell ⟨j.heap.size,1,ae⟩ (ay az lsn))
  have cx:Ch [99] l q l x:=by rw[<-t];exact(Ch.refl _ _ _).set _ (.inl (by rw[M3.out.tag];decide))
  have S:=aH (Q.out.ch cx (by decide))
  have y:=aH (show Row x l 99 w.heap.size _ _ from by rw[<-t];exact T.out.iZ nw)
  have N:=aH (show Ch [] g w l x from by rw[<-t];exact M.out.set _ (.inr LW.out))
  rw[t]
  have s:=aH (Dh f o b i E n z A c 0 c.lsn [] (aB ae 0 0) x l S.out HC.out HB.out (oN.nil _ _))
  rw[V.out.1]at s
  clear t cx Z X Js
  refine s.out.mono ?_
  rintro e w5 ⟨rfl,W,h5⟩
  have C5:=aH W
  have H5:=aH h5
  have U:=aH (y.out.ch W (by decide))
  have k5:=eH U.out.row
  clear W h5
  unfold iU lO lL lK
  go_wp2_with fail
  refine bn (dM rfl w.heap.size 9 rfl rfl U.out.row) rfl ?_
  exact .inl ⟨LT.out,rfl,l,(N.out.any.trans (C5.out.mono (by decide))).ga _ _ _ (.inr dx),H5.out.ch ((Ch.refl [99] l w5).ga (b:=w.heap.size) _ _ _ (.inl (by rw[U.out.tag];decide))) (by decide)⟩
 ·have x1:decide (lsn<du)=ah:=bC hx
  have B:¬ c.lsn<K.b0+E.du:=by have:=V.out;omega
  have LT:=aH B
  clear B
  go_wp2_with fail
  refine(xL j).mono ?_
  rintro e q ⟨rfl,L⟩
  have Q:=aH (O.out.low L)
  have T:=aH (u.out.below L)
  have M:=aH (C2.out.on L)
  clear L k2
  go_wp2_with fail
  refine(UH f o b i E n z A c q G Q.out HC.out HB.out).mono ?_
  rintro e w4 ⟨rfl,g4,m,h4⟩
  have N:=aH m
  have S:=aH h4
  have y:=aH (T.out.ch m (by decide))
  have k4:=eH y.out.row
  clear m h4
  unfold iU lO lL lK
  go_wp2_with fail
  refine bn (dM rfl w.heap.size 6 rfl rfl y.out.row) rfl ?_
  exact .inr ⟨LT.out,rfl,g4,(M.out.any.trans N.out).ga _ _ _ (.inr dx),S.out.ch ((Ch.refl [99] g4 w4).ga (b:=w.heap.size) _ _ _ (.inl (by rw[y.out.tag];decide))) (by decide)⟩
theorem YZ(j o b i:Nat)(E:fm)(l:List Nat)(p q:Lit->Option ar)(c:CV)(w:am)(g:Tg)(H:dZ w g j o K P E l R p q)(S:E.cs[i]?=ag c)(Q:l[i]?=ag b)(d:c.ask.kind=1\/c.ask.kind=2):
 aw ax 261 #[aA (ag ⟨j,0,ae⟩),aA (ag ⟨b,0,ae⟩)] w λe w'=>(c.lR=aj/\c.ask.kind=2/\e=aF (iU 9)/\∃g',Ch [50,60] g w g' w'/\dZ w' g' j o K P (lV E i 0 c.lsn []) l R p q)\/(c.lR=aj/\c.ask.kind=1/\e=aF (iU 3)/\∃g',Ch [50,60] g w g' w'/\dZ w' g' j o K P E l R p q)\/
  (c.lR=ah/\e=aF (iU 6)/\∃g',Ch [50,60] g w g' w'/\dZ w' g' j o K P (mc E i 2) l { R with ld:=aA (ag ⟨b,0,ae⟩) } p q):=by
 obtain⟨s,gv,dJ,dL⟩:=bG w #[ay az 0,.nilFunc,.nilFunc] 131
 obtain⟨G,W,n1,gz⟩:=ku (g:=g) dJ.out dL.out
 have I:=aH W
 have U:=aH n1
 have B:=aH (H.ch I.out (λ_ _ h=>by cases h))
 have L:=aH S
 have J:=aH Q
 obtain⟨dv,rv,r,-⟩:=(B.out.cls.ie i c b S Q).ex
 have V:∀n,(s.drewN n).cell? ⟨j,21,ae⟩=ag (aC ah):=λn=>B.out.row.cell 21
 have D:∀n,(s.drewN n).cell? ⟨b,5,ae⟩=ag (.bool c.lR):=λn=>r.cell 5
 have HK:=aH d
 clear H S Q W n1 gz d r
 cases hi:c.lR with
 | true=>
  rw[hi]at D
  have HI:=aH hi
  clear hi
  go_in
  go_wp2_with fail
  go_quiet (fail)
  go_wp2_with fail
  have a:=below_drewN s nq
  obtain⟨F,y⟩:=bP (s.drewN nq)
  rw[y]at a ⊢
  have u:=aH (B.out.low a)
  have C:=aH (U.out.below a)
  have A:=aH (I.out.on a)
  clear y a V D
  rcases HK.out with d | d
  ·have m:=aH d
   refine(Mo j o b i E l p q c F G u.out L.out J.out d).mono ?_
   clear d
   rintro e z ⟨rfl,k⟩
   have x:=aH (u.out.low k)
   have f:=aH (C.out.below k)
   have t:=aH (A.out.on k)
   have k3:=eH f.out.row
   clear k
   unfold iU lO lL lK
   go_wp2_with fail
   refine bn (dM rfl w.heap.size 3 rfl rfl f.out.row) rfl ?_
   exact .inr (.inl ⟨trivial,m.out,rfl,G,(t.out.any (T:=[50,60])).ga _ _ _ (.inr dx),x.out.ch ((Ch.refl [99] G z).ga (b:=w.heap.size) _ _ _ (.inl (by rw[f.out.tag];decide))) (by decide)⟩)
  ·have m:=aH d
   refine(Mn j o b i E l p q c F G u.out L.out J.out d).mono ?_
   clear d
   rintro e z ⟨rfl,X,N,Z⟩
   have x:=aH Z
   have f:=aH (C.out.ch N (by decide))
   have t:=aH (A.out.any.trans (N.mono (T':=[50,60]) (by decide)))
   have k3:=eH f.out.row
   clear N Z
   unfold iU lO lL lK
   go_wp2_with fail
   refine bn (dM rfl w.heap.size 9 rfl rfl f.out.row) rfl ?_
   exact .inl ⟨trivial,m.out,rfl,X,(t.out).ga _ _ _ (.inr dx),x.out.ch ((Ch.refl [99] X z).ga (b:=w.heap.size) _ _ _ (.inl (by rw[f.out.tag];decide))) (by decide)⟩
 | false=>
  rw[hi]at D
  have HI:=aH hi
  clear hi
  go_in
  go_wp2_with fail
  go_quiet (fail)
  go_wp2_with fail
  have a:=below_drewN s nq
  obtain⟨F,y⟩:=bP (s.drewN nq)
  rw[y]at a ⊢
  have u:=aH (B.out.low a)
  have C:=aH (U.out.below a)
  have A:=aH (I.out.on a)
  clear y a V D
  refine(Fo F).mono ?_
  rintro e z ⟨rfl,k⟩
  have x:=aH (u.out.low k)
  have f:=aH (C.out.below k)
  have t:=aH (A.out.on k)
  clear k
  go_wp2_with fail
  refine(UI j o b i E l p q c z G x.out L.out J.out).mono ?_
  rintro e w4 ⟨rfl,Y,O,h4⟩
  have C4:=aH (t.out.any.trans O)
  have H4:=aH h4
  have M:=aH (f.out.ch O (by decide))
  have k4:=eH M.out.row
  clear O h4
  unfold iU lO lL lK
  go_wp2_with fail
  refine bn (dM rfl w.heap.size 6 rfl rfl M.out.row) rfl ?_
  exact .inr (.inr ⟨trivial,rfl,Y,(C4.out).ga _ _ _ (.inr dx),H4.out.ch ((Ch.refl [99] Y w4).ga (b:=w.heap.size) _ _ _ (.inl (by rw[M.out.tag];decide))) (by decide)⟩)
end
end
end Go.Proofs.YtooinenkenobaaaGreat

/- A part of the proof of what LawWholeReaders says. -/
import Derived.Test.YtooinenkenobaaaGreatAa
import Derived.Test.YtooinenkenobaaaGreatCk
import Derived.Test.YtooinenkenobaaaGreatBw
import Derived.Test.YtooinenkenobaaaGreatBl
set_option maxRecDepth 100000
set_option maxHeartbeats 20000000
namespace Go.Proofs.YtooinenkenobaaaGreat
open Option renaming none->ae,some->ag
open Bool renaming false->ah,true->aj
open Go.Proofs.Tryz renaming prog->ax
open Go.Value renaming int->ay,pointer->aA,slice->aB,bool->aC,float->aD
open Go.IntKind renaming i64->az
open Go.FloatKind renaming f64->aE
open Go.Ending renaming returned->aF
open Go.Obj renaming cells->aG
open Go renaming World->am,Value->ar,TypeId->au,Calls->aw
section
open Go.RowKit Go.Maps
abbrev TN:List Nat:=[1,5,6,10,11,12,13,14,15,16,21,24]
theorem PZ:oI nA:=by constructor <;> decide
theorem uL{w:am}{b q:Nat}{o:Option Obj}(a:q≠b)(h:w.heap[q]?=o){x y z:ar}:(((w.setCell ⟨b,0,ae⟩ x).setCell ⟨b,1,ae⟩ y).setCell ⟨b,2,ae⟩ z).heap[q]?=o:=(bD a).trans ((bD a).trans ((bD a).trans h))
theorem YA(b n d:Int)(w:am):(Instr.field 111 (.agg #[ay az b,ay az n,ay az d,ay az 1,ay az 1,aC ah,aC ah,ay az 0]) 1).run ax w=.ok (ay az n) w:=by kernel_rfl
section
variable{K:dw}{P:jx}
theorem mI{w:am}{g:Tg}{e a ob qb pb kb dm lm:Nat}(f:Row w g 50 e (jP K P ⟨ob,qb,pb,kb,dm,lm,aB ae 0 0,aB ae 0 0,aA ae,aB ae 0 0⟩ (K.b0:Int) 0 0) 122)(h:qC w g ob a P.sm K.b0 [] 0)(j:jI w g qb K.cap K.dO [] [] (K.b0:Int) 0)(l:Row w g 40 pb (ou K.most K.fj K.bU P.al nA) 185)(m:Row w g 41 kb (pN 0) 170)
 (n:i9 w g 53 2 dm 0 gj) (o:i9 w g 54 2 lm 0 gj):gw w g e a K P (fJ nA) []:=
 ⟨⟨⟨ob,qb,pb,kb,dm,lm,aB ae 0 0,aB ae 0 0,aA ae,aB ae 0 0⟩,gj,gj,⟨f,h,j,l,m,im.nil _ _ _ _ _ _,⟨iV.nil _ _ _ _,λq s=>by cases s⟩,⟨n,λk d _ r=>by simp[fJ]at r⟩,o,(λx hx=>by cases hx),rfl,tr.nil _ _,⟨rfl,vB,λi c b p=>by simp[fJ]at p⟩,PZ,by show 0<fI;decide⟩⟩⟩
theorem PG(n:Nat)(sm c:Int)(K:dw)(g b:Nat)(w:am)(h:¬(1<=K.cap/\K.cap<=1024/\1<=K.dO/\K.dO<=16777216)):
 aw ax 29 #[aA (ag ⟨n,0,ae⟩),.agg #[ay az sm,ay az c,ay az K.cap,ay az K.dO,ay az K.most,ay az K.fj,aD aE g,aD aE b]] w λe w'=>e=aF (.tuple #[aA ae,.agg #[aC ah,ay az 0,ay az 0],ay az 1])/\Below w.heap.size w w':=by
 obtain⟨j,u,m,d⟩:=bG w #[ay az sm,ay az c,ay az K.cap,ay az K.dO,ay az K.most,ay az K.fj,aD aE g,aD aE b] 28
 obtain⟨q,y,f,a⟩:=bG j #[aC ah,ay az 0,ay az 0] 67
 have r:=eH a.out
 have x:=oV ((f.out.block _ (aT d.out)).trans d.out)
 have k:=aH (aM m.out f.out)
 have s:=eU (i:=0) (v:=aC ah) a.out rfl
 have t:=eU (i:=1) (v:=ay az 0) a.out rfl
 have p:=eU (i:=2) (v:=ay az 0) a.out rfl
 have l:=aH h
 clear h
 go_in
 go_wp2_with fail
 refine(Sn K.cap K.dO q l.out).mono ?_
 rintro e w' ⟨rfl,o⟩
 subst o
 go_wp2_with fail
 refine bn (gh rfl j.heap.size rfl (aZ 0 a.out) (aZ 1 a.out) (aZ 2 a.out)) rfl ?_
 exact⟨rfl,k.out⟩
theorem PF(B:Nat)(sm p:Int)(K:dw)(g d:Nat)(w:am)(h:1<=K.cap/\K.cap<=1024/\1<=K.dO/\K.dO<=16777216)(r:oq K.most K.fj g d=ah):
 aw ax 29 #[aA (ag ⟨B,0,ae⟩),.agg #[ay az sm,ay az p,ay az K.cap,ay az K.dO,ay az K.most,ay az K.fj,aD aE g,aD aE d]] w λe w'=>e=aF (.tuple #[aA ae,.agg #[aC ah,ay az 0,ay az 0],ay az 1])/\Below w.heap.size w w':=by
 obtain⟨t,J,A,f⟩:=bG w #[ay az sm,ay az p,ay az K.cap,ay az K.dO,ay az K.most,ay az K.fj,aD aE g,aD aE d] 28
 obtain⟨m,M,k,s⟩:=bG t #[aC ah,ay az 0,ay az 0] 67
 have D:=oV ((k.out.block _ (aT f.out)).trans f.out)
 have x:=aH (aM A.out k.out)
 have o:=aH ((k.out.block _ (aT f.out)).trans f.out)
 have c:=aH h
 have z:=aH r
 clear h r
 go_in
 go_wp2_with fail
 refine(Sp K.cap K.dO m (λ_=>0) c.out.1 c.out.2.1 c.out.2.2.1 c.out.2.2.2 0).mono ?_
 rintro e u ⟨I,rfl,b,-⟩
 have j:=aH (show Below m.heap.size m u from⟨b.os,b.tape,b.output,b.size,λq C=>b.gP q C (λe=>by cases e)⟩)
 have E:=oV ((j.out.block _ (aT o.out)).trans o.out)
 have n:=aH ((j.out.block _ (aT s.out)).trans s.out)
 clear b D
 go_wp2_with fail
 refine(Sy K.most K.fj g d u z.out).mono ?_
 rintro e N ⟨rfl,l⟩
 have y:=aH (aM j.out l)
 have a:=aH ((l.block _ (aT n.out)).trans n.out)
 have L:=eH a.out
 have G:=eU (i:=0) (v:=aC ah) a.out rfl
 have H:=eU (i:=1) (v:=ay az 0) a.out rfl
 have F:=eU (i:=2) (v:=ay az 0) a.out rfl
 clear l E
 go_wp2_with fail
 refine bn (gh rfl t.heap.size rfl (aZ 0 a.out) (aZ 1 a.out) (aZ 2 a.out)) rfl ?_
 exact⟨rfl,aM x.out y.out⟩
theorem PC(z:Nat)(sm o:Int)(K:dw)(f n:Nat)(w:am)(h:1<=K.cap/\K.cap<=1024/\1<=K.dO/\K.dO<=16777216)(A:oq K.most K.fj f n=aj)(D:f<18446744073709551616)(B:o<1):
 aw ax 29 #[aA (ag ⟨z,0,ae⟩),.agg #[ay az sm,ay az o,ay az K.cap,ay az K.dO,ay az K.most,ay az K.fj,aD aE f,aD aE n]] w λe w'=>e=aF (.tuple #[aA ae,.agg #[aC ah,ay az 0,ay az 0],ay az 1])/\Below w.heap.size w w':=by
 obtain⟨E,gv,N,p⟩:=bG w #[ay az sm,ay az o,ay az K.cap,ay az K.dO,ay az K.most,ay az K.fj,aD aE f,aD aE n] 28
 obtain⟨u,lU,t,C⟩:=bG E #[aC ah,ay az 0,ay az 0] 67
 have S:=oV ((t.out.block _ (aT p.out)).trans p.out)
 have G:=aH (aM N.out t.out)
 have m:=aH ((t.out.block _ (aT p.out)).trans p.out)
 have k:=aH h
 have J:=aH A
 have L:=aH B
 have s:=aH D
 clear h A B D
 go_in
 go_wp2_with fail
 refine(Sp K.cap K.dO u (λ_=>0) k.out.1 k.out.2.1 k.out.2.2.1 k.out.2.2.2 0).mono ?_
 rintro e F ⟨g3,rfl,c,-⟩
 have g:=aH (show Below u.heap.size u F from⟨c.os,c.tape,c.output,c.size,λq O=>c.gP q O (λe=>by cases e)⟩)
 have T:=oV ((g.out.block _ (aT m.out)).trans m.out)
 have y:=aH ((g.out.block _ (aT m.out)).trans m.out)
 have x:=aH ((g.out.block _ (aT C.out)).trans C.out)
 clear c S
 go_wp2_with fail
 refine(FS K.most K.fj f n F J.out s.out).mono ?_
 rintro e w4 ⟨rfl,r,-⟩
 have H:=aH (aM g.out r)
 have l:=aH ((r.block _ (aT x.out)).trans x.out)
 have M:=aH ((r.block _ (aT y.out)).trans y.out)
 have U:=oV M.out
 clear r T
 go_wp2_with fail
 refine(Oh z sm o w4 L.out).mono ?_
 rintro e w5 ⟨rfl,j⟩
 obtain⟨w6,Q,d,a⟩:=bG w5 #[aC ah,ay az 0,ay az 0] 67
 have V:=eH a.out
 have I:=aH (aM (aM H.out j) d.out)
 have b:=aH ((d.out.block _ (aT ((j.block _ (aT l.out)).trans l.out))).trans ((j.block _ (aT l.out)).trans l.out))
 have kn:=eH b.out
 have RM:=eU (i:=0) (v:=aC ah) b.out rfl
 have Wq:=eU (i:=1) (v:=ay az 0) b.out rfl
 have W:=eU (i:=2) (v:=ay az 0) b.out rfl
 have X:=eU (i:=0) (v:=aC ah) a.out rfl
 have Y:=eU (i:=1) (v:=ay az 0) a.out rfl
 have Z:=eU (i:=2) (v:=ay az 0) a.out rfl
 clear j U
 go_wp2_with fail
 refine bn (gh rfl E.heap.size rfl (aZ 0 b.out) (aZ 1 b.out) (aZ 2 b.out)) rfl ?_
 exact⟨rfl,aM G.out I.out⟩
theorem aaT(db:Nat)(sm:Int)(lr al:Nat)(most:Int)(w:am)(g:Tg)(D:nE w g db most [] 0 0 gj)(hm:100000<=most/\most<=16777216)(hq:1<=K.cap/\K.cap<=1024/\1<=K.dO/\K.dO<=16777216)(hp:oq K.most K.fj lr al=aj)(qq:lr<18446744073709551616)(yD:K.bU=lr%9223372036854775808)(iL:1<=K.b0)(eA:K.b0<=1152921504606846976)(uy:1000<=sm/\sm<=1048576):
 aw ax 29 #[aA (ag ⟨db,0,ae⟩),.agg #[ay az sm,ay az K.b0,ay az K.cap,ay az K.dO,ay az K.most,ay az K.fj,aD aE lr,aD aE al]] w λe w'=>∃eb g',e=aF (.tuple #[aA (ag ⟨eb,0,ae⟩),.agg #[aC aj,ay az 0,ay az 0],ay az 0])/\Ch TN g w g' w'/\gw w' g' eb db K ⟨sm,lr,al⟩ (fJ nA) []:=by
 obtain⟨b0,QS⟩:=bP (((K.b0:Nat):Int):Int)
 rw[QS]
 obtain⟨w1,gv,dJ,dL⟩:=bG w #[ay az sm,ay az b0,ay az K.cap,ay az K.dO,ay az K.most,ay az K.fj,aD aE lr,aD aE al] 28
 obtain⟨w2,lU,lZ,kG⟩:=bG w1 #[aC ah,ay az 0,ay az 0] 67
 have C2:=aH (Ch.start g (aM dJ.out lZ.out))
 obtain⟨G,hG⟩:=bP (eJ g w.heap.size 0)
 rw[hG]at C2
 have D2:=aH (D.ch C2.out (by decide))
 have X1:=aH (show Row w2 G 0 w.heap.size _ _ from⟨(lZ.out.block _ (aT dL.out)).trans dL.out,by rw[<-hG];exact dQ dx⟩)
 have X2:=aH (show Row w2 G 0 w1.heap.size _ _ from⟨kG.out,by rw[<-hG];exact dQ dJ.out.size⟩)
 have Qt:w1.heap.size≠w.heap.size:=cM (aT dL.out)
 have HM:=aH (And.intro hm (And.intro hq (And.intro hp (And.intro qq (And.intro yD (And.intro iL (And.intro eA uy)))))))
 have k1:=oV X1.out.row
 have LW:=aH dJ.out.size
 have Q0:=aH QS
 clear D hm hq hp qq yD iL eA uy hG QS
 go_in
 go_wp2_with fail
 refine(Sp K.cap K.dO w2 G HM.out.2.1.1 HM.out.2.1.2.1 HM.out.2.1.2.2.1 HM.out.2.1.2.2.2 (K.b0:Int)).mono ?_
 rintro e w3 ⟨g3,rfl,c3,q3⟩
 obtain⟨qb,Mb⟩:=bP (w2.heap.size+1)
 have C3:=aH (C2.out.trans c3)
 have D3:=aH (D2.out.ch c3 (by decide))
 have X13:=aH (X1.out.ch c3 (by decide))
 have X23:=aH (X2.out.ch c3 (by decide))
 rw[Mb]at q3 ⊢
 have Q3:=aH q3
 have k3:=oV X13.out.row
 clear c3 q3 Mb k1
 go_wp2_with fail
 refine(FS K.most K.fj lr al w3 HM.out.2.2.1 HM.out.2.2.2.1).mono ?_
 rintro e w4 ⟨rfl,qy,hr4⟩
 obtain⟨pb,Wu⟩:=bP (w3.heap.size+1)
 rw[Wu]at hr4 ⊢
 obtain⟨g4,hg4⟩:=bP (tg g3 pb 40)
 have c4:Ch [] g3 w3 g4 w4:=by rw[<-hg4];exact(Ch.bh [] g3 qy).tg (by omega)
 have C4:=aH (C3.out.trans c4)
 have D4:=aH (D3.out.ch c4 (by decide))
 have X14:=aH (X13.out.ch c4 (by decide))
 have X24:=aH (X23.out.ch c4 (by decide))
 have Q4:=aH (Q3.out.ch c4 (by decide))
 have P4:=aH (show Row w4 g4 40 pb (ou K.most K.fj K.bU al nA) 185 from⟨by rw[HM.out.2.2.2.2.1];exact hr4,by rw[<-hg4];exact dG _ _ _⟩)
 have k4:=oV X14.out.row
 clear c4 qy hr4 Wu hg4 k3
 go_wp2_with fail
 have adF:=aH (af7 db sm K.b0 most w4 g4 D4.out HM.out.1 HM.out.2.2.2.2.2.1 HM.out.2.2.2.2.2.2.1 HM.out.2.2.2.2.2.2.2)
 rw[Q0.out]at adF
 refine adF.out.mono ?_
 rintro e w5 ⟨ob,g5,rfl,c5,l5⟩
 have C5:=aH (C4.out.any.trans (c5.mono (T':=TN) (by decide)))
 have X15:=aH (X14.out.ch c5 (by decide))
 have X25:=aH (X24.out.ch c5 (by decide))
 have Q5:=aH (Q4.out.ch c5 (by decide))
 have P5:=aH (P4.out.ch c5 (by decide))
 have L5:=aH l5
 obtain⟨w6,hw6,Bw6,Nw6⟩:=bG w5 #[aC ah,ay az 0,ay az 0] 67
 have kw6:=eH Nw6.out
 clear c5 l5 k4 adF
 go_wp2_with fail
 obtain⟨x,hx⟩:=bP (((w6.setCell ⟨w5.heap.size,0,ae⟩ (aC aj)).setCell ⟨w5.heap.size,1,ae⟩ (ay az 0)).setCell ⟨w5.heap.size,2,ae⟩ (ay az 0))
 have Qw:=aH (show w1.heap.size<w5.heap.size from aT X25.out.row)
 have CX5:=aH (show Ch [] g5 w5 g5 x from by rw[<-hx];exact(((Ch.bh [] g5 Bw6.out).set _ (.inr dx)).set _ (.inr dx)).set _ (.inr dx))
 have F6:=aH (show x.heap[w5.heap.size]?=ag (aG #[aC aj,ay az 0,ay az 0] 67 (0,0))from by rw[<-hx];exact bE (bE (bE Nw6.out 0 _) 1 _) 2 _)
 rw[hx]
 clear hx kw6
 refine(agF x).mono ?_
 rintro e w7 ⟨rfl,Da,hk7⟩
 obtain⟨kb,hkb⟩:=bP x.heap.size
 rw[hkb]at hk7 ⊢
 obtain⟨g7,Iw⟩:=bP (tg g5 kb 41)
 have c7:Ch [] g5 w5 g7 w7:=CX5.out.trans (by rw[<-Iw];exact(Ch.bh [] g5 Da).tg (by omega))
 have C7:=aH (C5.out.trans c7.any)
 have X17:=aH (X15.out.ch c7 (by decide))
 have wX:=aH (X25.out.ch c7 (by decide))
 have Q7:=aH (Q5.out.ch c7 (by decide))
 have P7:=aH (P5.out.ch c7 (by decide))
 have L7:=aH (L5.out.ch c7 (λt _ h=>by cases h))
 have K7:=aH (show Row w7 g7 41 kb (pN 0) 170 from⟨hk7,by rw[<-Iw];exact dG _ _ _⟩)
 have F7:=aH ((Da.block _ (aT F6.out)).trans F6.out)
 have eM:=aH (show ∀y:am,y.heap[w.heap.size]?=w7.heap[w.heap.size]?->y.heap[w5.heap.size]?=w7.heap[w5.heap.size]?->y.cell? ⟨w.heap.size,0,ae⟩=ag (ay az sm)/\y.cell? ⟨w.heap.size,1,ae⟩=ag (ay az b0)/\y.cell? ⟨w.heap.size,2,ae⟩=ag (ay az K.cap)/\y.cell? ⟨w.heap.size,3,ae⟩=ag (ay az K.dO)/\y.cell? ⟨w.heap.size,4,ae⟩=ag (ay az K.most)/\y.cell? ⟨w.heap.size,5,ae⟩=ag (ay az K.fj)/\y.cell? ⟨w.heap.size,6,ae⟩=ag (aD aE lr)/\y.cell? ⟨w.heap.size,7,ae⟩=ag (aD aE al)/\y.cell? ⟨w5.heap.size,0,ae⟩=ag (aC aj)/\y.cell? ⟨w5.heap.size,1,ae⟩=ag (ay az 0)/\y.cell? ⟨w5.heap.size,2,ae⟩=ag (ay az 0)from λy h1 h2=>by
  have e1:=λj=>aZ j (h1.trans X17.out.row)
  have e2:=λj=>aZ j (h2.trans F7.out)
  exact⟨e1 0,e1 1,e1 2,e1 3,e1 4,e1 5,e1 6,e1 7,e2 0,e2 1,e2 2⟩)
 have jS:=aH (show ∀y:am,Below w7.heap.size w7 y->aw ax 34 #[aA (ag ⟨ob,0,ae⟩)] y λe w'=>e=aF (.agg #[ay az b0,ay az b0,ay az b0,ay az 1,ay az 1,aC ah,aC ah,ay az 0])/\Below y.heap.size y w' from λy hy=>by
  have h:=tP ob db sm K.b0 [] 0 y g7 (L7.out.ch (Ch.bh [] g7 hy) (λt _ h=>by cases h))
  unfold zJ at h
  rw[show((K.b0+([]:List By).length:Nat):Int)=b0 from Q0.out,show((K.b0+0:Nat):Int)=b0 from Q0.out,Q0.out]at h
  exact h)
 have BD:=aH (bi w7)
 have fl1:=YA
 have hmm:=@run_makeMap ax
 have l7:=X17.out.lt
 have xo:=wX.out.lt
 have f7:=aT F7.out
 have INI:=aH (eM.out w7.drew rfl rfl)
 clear c7 Da hk7 hkb Iw
 go_wp2_with fail
 have qR:∀p:In (λw'=>w'.cell? ⟨w.heap.size,0,ae⟩=ag (ay az sm)/\w'.cell? ⟨w.heap.size,1,ae⟩=ag (ay az b0)/\w'.cell? ⟨w.heap.size,2,ae⟩=ag (ay az K.cap)/\w'.cell? ⟨w.heap.size,3,ae⟩=ag (ay az K.dO)/\w'.cell? ⟨w.heap.size,4,ae⟩=ag (ay az K.most)/\w'.cell? ⟨w.heap.size,5,ae⟩=ag (ay az K.fj)/\w'.cell? ⟨w.heap.size,6,ae⟩=ag (aD aE lr)/\w'.cell? ⟨w.heap.size,7,ae⟩=ag (aD aE al)/\w'.cell? ⟨w5.heap.size,0,ae⟩=ag (aC aj)/\w'.cell? ⟨w5.heap.size,1,ae⟩=ag (ay az 0)/\w'.cell? ⟨w5.heap.size,2,ae⟩=ag (ay az 0)),p.w.cell? ⟨w.heap.size,0,ae⟩=ag (ay az sm)/\p.w.cell? ⟨w.heap.size,1,ae⟩=ag (ay az b0)/\p.w.cell? ⟨w.heap.size,2,ae⟩=ag (ay az K.cap)/\p.w.cell? ⟨w.heap.size,3,ae⟩=ag (ay az K.dO)/\p.w.cell? ⟨w.heap.size,4,ae⟩=ag (ay az K.most)/\p.w.cell? ⟨w.heap.size,5,ae⟩=ag (ay az K.fj)/\p.w.cell? ⟨w.heap.size,6,ae⟩=ag (aD aE lr)/\p.w.cell? ⟨w.heap.size,7,ae⟩=ag (aD aE al)/\p.w.cell? ⟨w5.heap.size,0,ae⟩=ag (aC aj)/\p.w.cell? ⟨w5.heap.size,1,ae⟩=ag (ay az 0)/\p.w.cell? ⟨w5.heap.size,2,ae⟩=ag (ay az 0):=λp=>p.h
 refine gx (.run [0,1,2,3,4,7,12] (.tri 5 [] (.fork 6 [8,9,10,11,13,14] .done 8 [9,6,10,11,13,14] .done) 6 [] (.fork 5 [8,9,10,11,13,14] .done 8 [9,5,10,11,13,14] .done) 8 [9] (.fork 5 [6,10,11,13,14] .done 6 [5,10,11,13,14] .done))) 15 (λw'=>w'.cell? ⟨w.heap.size,0,ae⟩=ag (ay az sm)/\w'.cell? ⟨w.heap.size,1,ae⟩=ag (ay az b0)/\w'.cell? ⟨w.heap.size,2,ae⟩=ag (ay az K.cap)/\w'.cell? ⟨w.heap.size,3,ae⟩=ag (ay az K.dO)/\w'.cell? ⟨w.heap.size,4,ae⟩=ag (ay az K.most)/\w'.cell? ⟨w.heap.size,5,ae⟩=ag (ay az K.fj)/\w'.cell? ⟨w.heap.size,6,ae⟩=ag (aD aE lr)/\w'.cell? ⟨w.heap.size,7,ae⟩=ag (aD aE al)/\w'.cell? ⟨w5.heap.size,0,ae⟩=ag (aC aj)/\w'.cell? ⟨w5.heap.size,1,ae⟩=ag (ay az 0)/\w'.cell? ⟨w5.heap.size,2,ae⟩=ag (ay az 0)) (by kernel_rfl) (by kernel_rfl) (by intro c a d v w h;cases d <;> exact h) (INI.out) ?_
 intro dF
 unfold cC
 simp only[pick,aV,a8,aQ,aR]
 refine aX 7 (by kernel_rfl) ?_
 simp only[aJ,aO,aI,aL]
 repeat (go_big_quiet_step (fail))
 refine aU ?_
 refine bF ?_
 unfold dh cC
 dsimp only
 refine⟨?_,?_,?_⟩
 ·simp only[pick,aV,a8,aQ,aR]
  refine aS rfl ?_ rfl
  have bb:=aY w7.drew (.map #[] 0)
  have mm:=fL.made w7.drew 2
  obtain⟨y1,LR⟩:=bP (World.alloc w7.drew (.map #[] 0))
  rw[LR]at bb mm
  have By1:=aH bb
  have My1:=aH mm
  clear bb mm
  go_wp2_with fail
  have xf:=aH (aM BD.out By1.out)
  have Vh:=aH (show w7.drew.heap.size<y1.heap.size from My1.out.lt)
  refine⟨⟨⟨_,(eM.out _ (xf.out.block _ l7) (xf.out.block _ f7))⟩,rfl⟩,?_⟩
  refine bF ?_
  unfold dh cC
  dsimp only
  refine⟨?_,?_⟩
  ·simp only[pick,aV,a8,aQ,aR]
   refine aS rfl ?_ rfl
   have bb:=aY y1 (.map #[] 0)
   have mm:=fL.made y1 2
   obtain⟨y2,TC⟩:=bP (World.alloc y1 (.map #[] 0))
   rw[TC]at bb mm
   have WV:=aH bb
   have My2:=aH mm
   clear bb mm
   go_wp2_with fail
   have Ey:=aH (aM xf.out WV.out)
   have aic:=aH (aW Vh.out WV.out.size)
   have abm:=aH (My1.out.move (WV.out.block _ My1.out.lt))
   have ah':=aH (show y1.heap.size<y2.heap.size from My2.out.lt)
   refine⟨⟨⟨_,(eM.out _ (Ey.out.block _ l7) (Ey.out.block _ f7))⟩,rfl⟩,?_⟩
   refine aS rfl ?_ rfl
   go_wp2_with fail
   refine(jS.out _ Ey.out).mono ?_
   rintro e y3 ⟨rfl,hb⟩
   have wC:=aH (aM Ey.out hb)
   have aib:=aH (aW aic.out hb.size)
   have ah9:=aH (aW ah'.out hb.size)
   have abl:=aH (abm.out.move (hb.block _ abm.out.lt))
   have abi:=aH (My2.out.move (hb.block _ My2.out.lt))
   clear hb
   go_wp2_with fail
   refine⟨⟨⟨_,(eM.out _ (wC.out.block _ l7) (wC.out.block _ f7))⟩,rfl⟩,?_⟩
   refine aX 1 (by kernel_rfl) ?_
   simp only[aJ,aO,aI,aL]
   repeat (go_big_quiet_step (fail))
   refine aU ?_
   refine aS rfl ?_ rfl
   go_wp2_with fail
   refine⟨⟨⟨_,(eM.out _ (wC.out.block _ l7) (wC.out.block _ f7))⟩,rfl⟩,?_⟩
   refine aS rfl ?_ rfl
   have bb:=aY y3 (aG #[ay az sm,ay az b0,ay az K.cap,ay az K.dO,ay az K.most,ay az K.fj,aD aE lr,aD aE al,aA (ag ⟨ob,0,ae⟩),aA (ag ⟨qb,0,ae⟩),aA (ag ⟨pb,0,ae⟩),aA (ag ⟨kb,0,ae⟩),aB ae 0 0,aB ae 0 0,.map (ag (w7.heap.size)),.map (ag (y1.heap.size)),ay az b0,aA ae,aD aE 0,aB ae 0 0,ay az 0,aC ah,aC ah,ay az 0] 122)
   have mm:=bp y3 (aG #[ay az sm,ay az b0,ay az K.cap,ay az K.dO,ay az K.most,ay az K.fj,aD aE lr,aD aE al,aA (ag ⟨ob,0,ae⟩),aA (ag ⟨qb,0,ae⟩),aA (ag ⟨pb,0,ae⟩),aA (ag ⟨kb,0,ae⟩),aB ae 0 0,aB ae 0 0,.map (ag (w7.heap.size)),.map (ag (y1.heap.size)),ay az b0,aA ae,aD aE 0,aB ae 0 0,ay az 0,aC ah,aC ah,ay az 0] 122)
   obtain⟨y4,hy4⟩:=bP (World.alloc y3 (aG #[ay az sm,ay az b0,ay az K.cap,ay az K.dO,ay az K.most,ay az K.fj,aD aE lr,aD aE al,aA (ag ⟨ob,0,ae⟩),aA (ag ⟨qb,0,ae⟩),aA (ag ⟨pb,0,ae⟩),aA (ag ⟨kb,0,ae⟩),aB ae 0 0,aB ae 0 0,.map (ag (w7.heap.size)),.map (ag (y1.heap.size)),ay az b0,aA ae,aD aE 0,aB ae 0 0,ay az 0,aC ah,aC ah,ay az 0] 122))
   rw[hy4]at bb mm
   have By4:=aH bb
   have WN:=aH mm
   clear bb mm
   go_wp2_with fail
   have tH:=aH (aM wC.out By4.out)
   have ai':=aH (abl.out.move (By4.out.block _ abl.out.lt))
   have ai8:=aH (abi.out.move (By4.out.block _ abi.out.lt))
   refine⟨⟨⟨_,(eM.out _ (tH.out.block _ l7) (tH.out.block _ f7))⟩,rfl⟩,?_⟩
   refine aX 1 (by kernel_rfl) ?_
   simp only[aJ,aO,aI,aL]
   repeat (go_big_quiet_step (fail))
   refine aU ?_
   refine aS rfl ?_ rfl
   have R5:=aH ((tH.out.block _ xo).trans wX.out.row)
   have c5:=eH R5.out
   go_wp2_with fail
   obtain⟨y5,hy5⟩:=bP (((y4.setCell ⟨w1.heap.size,0,ae⟩ (aC aj)).setCell ⟨w1.heap.size,1,ae⟩ (ay az 0)).setCell ⟨w1.heap.size,2,ae⟩ (ay az 0))
   have Sy5:=aH (show ∀q o,q≠w1.heap.size->y4.heap[q]?=o->y5.heap[q]?=o from λq o hq h=>by rw[<-hy5];exact uL hq h)
   have Fy5:=aH (show y5.heap[w1.heap.size]?=ag (aG #[aC aj,ay az 0,ay az 0] 67 (0,0))from by rw[<-hy5];exact bE (bE (bE R5.out 0 _) 1 _) 2 _)
   have Zy5:=aH (show Ch [0] g7 w7 g7 y5 from by rw[<-hy5];exact(((Ch.bh [0] g7 tH.out).set _ (.inl (by rw[wX.out.tag];decide))).set _ (.inl (by rw[wX.out.tag];decide))).set _ (.inl (by rw[wX.out.tag];decide)))
   have aoh:=aH (show Ch TN g w g7 y5 from by rw[<-hy5];exact(((C7.out.on (tH.out)).set _ (.inr LW.out)).set _ (.inr LW.out)).set _ (.inr LW.out))
   rw[hy5]
   clear hy5 c5 R5
   refine⟨⟨⟨_,(eM.out _ (Sy5.out _ _ (cQ Qt) (tH.out.block _ l7)) (Sy5.out _ _ (cM Qw.out) (tH.out.block _ f7)))⟩,rfl⟩,?_⟩
   refine bF ?_
   unfold dh cC
   dsimp only
   clear dF qR
   change wpList _ _ _ _ _ _
   go_wp2_with fail
   refine bn (gh rfl w1.heap.size rfl (aZ 0 Fy5.out) (aZ 1 Fy5.out) (aZ 2 Fy5.out)) rfl ?_
   obtain⟨g8,se⟩:=bP (tg (tg (tg g7 (w7.drew.heap.size) 53) (y1.heap.size) 54) (y3.heap.size) 50)
   have iR:∀q,q<w7.heap.size->g8 q=g7 q:=λq hq=>by rw[<-se,dA (bR (aW hq (wC.out.size))),dA (bR (aW hq (xf.out.size))),dA (bR (aW hq (BD.out.size)))]
   have c8:=Zy5.out.gE (g2:=g8) iR
   refine⟨_,g8,rfl,aoh.out.gE (g2:=g8) (λq hq=>iR q (aW hq C7.out.size)),mI (ob:=ob) (qb:=qb) (pb:=pb) (kb:=kb) (dm:=w7.drew.heap.size) (lm:=y1.heap.size) ⟨?_,?_⟩ (L7.out.ch c8 (by decide)) (Q7.out.ch c8 (by decide)) (P7.out.ch c8 (by decide)) (K7.out.ch c8 (by decide)) ⟨ai'.out.move (Sy5.out _ _ (cM (aW xo (BD.out.size))) rfl),?_⟩ ⟨ai8.out.move (Sy5.out _ _ (cM (aW xo (xf.out.size))) rfl),?_⟩⟩
   ·have e:=Sy5.out _ _ (cM (aW xo (wC.out.size))) WN.out
    rw[<-Q0.out]at e
    exact e
   ·rw[<-se];exact dG _ _ _
   ·rw[<-se,dA (bR aib.out),dA (bR Vh.out)];exact dG _ _ _
   ·rw[<-se,dA (bR ah9.out)];exact dG _ _ _
  ·simp only[pick,aV,a8,aQ,aR]
   refine aS rfl ?_ rfl
   go_wp2_with fail
   refine(jS.out _ xf.out).mono ?_
   rintro e y6 ⟨rfl,hb⟩
   have Nv:=aH (aM xf.out hb)
   have aaX:=aH (aW Vh.out hb.size)
   have abk:=aH (My1.out.move (hb.block _ My1.out.lt))
   clear hb
   go_wp2_with fail
   refine⟨⟨⟨_,(eM.out _ (Nv.out.block _ l7) (Nv.out.block _ f7))⟩,rfl⟩,?_⟩
   refine aX 1 (by kernel_rfl) ?_
   simp only[aJ,aO,aI,aL]
   repeat (go_big_quiet_step (fail))
   refine aU ?_
   refine aS rfl ?_ rfl
   have bb:=aY y6 (.map #[] 0)
   have mm:=fL.made y6 2
   obtain⟨y7,hy7⟩:=bP (World.alloc y6 (.map #[] 0))
   rw[hy7]at bb mm
   have By7:=aH bb
   have My7:=aH mm
   clear bb mm
   go_wp2_with fail
   have WS:=aH (aM Nv.out By7.out)
   have aia:=aH (aW aaX.out By7.out.size)
   have abj:=aH (abk.out.move (By7.out.block _ abk.out.lt))
   have ah8:=aH (show y6.heap.size<y7.heap.size from My7.out.lt)
   refine⟨⟨⟨_,(eM.out _ (WS.out.block _ l7) (WS.out.block _ f7))⟩,rfl⟩,?_⟩
   refine aS rfl ?_ rfl
   go_wp2_with fail
   refine⟨⟨⟨_,(eM.out _ (WS.out.block _ l7) (WS.out.block _ f7))⟩,rfl⟩,?_⟩
   refine aS rfl ?_ rfl
   have bb:=aY y7 (aG #[ay az sm,ay az b0,ay az K.cap,ay az K.dO,ay az K.most,ay az K.fj,aD aE lr,aD aE al,aA (ag ⟨ob,0,ae⟩),aA (ag ⟨qb,0,ae⟩),aA (ag ⟨pb,0,ae⟩),aA (ag ⟨kb,0,ae⟩),aB ae 0 0,aB ae 0 0,.map (ag (w7.heap.size)),.map (ag (y6.heap.size)),ay az b0,aA ae,aD aE 0,aB ae 0 0,ay az 0,aC ah,aC ah,ay az 0] 122)
   have mm:=bp y7 (aG #[ay az sm,ay az b0,ay az K.cap,ay az K.dO,ay az K.most,ay az K.fj,aD aE lr,aD aE al,aA (ag ⟨ob,0,ae⟩),aA (ag ⟨qb,0,ae⟩),aA (ag ⟨pb,0,ae⟩),aA (ag ⟨kb,0,ae⟩),aB ae 0 0,aB ae 0 0,.map (ag (w7.heap.size)),.map (ag (y6.heap.size)),ay az b0,aA ae,aD aE 0,aB ae 0 0,ay az 0,aC ah,aC ah,ay az 0] 122)
   obtain⟨y8,Yo⟩:=bP (World.alloc y7 (aG #[ay az sm,ay az b0,ay az K.cap,ay az K.dO,ay az K.most,ay az K.fj,aD aE lr,aD aE al,aA (ag ⟨ob,0,ae⟩),aA (ag ⟨qb,0,ae⟩),aA (ag ⟨pb,0,ae⟩),aA (ag ⟨kb,0,ae⟩),aB ae 0 0,aB ae 0 0,.map (ag (w7.heap.size)),.map (ag (y6.heap.size)),ay az b0,aA ae,aD aE 0,aB ae 0 0,ay az 0,aC ah,aC ah,ay az 0] 122))
   rw[Yo]at bb mm
   have By8:=aH bb
   have Ny8:=aH mm
   clear bb mm
   go_wp2_with fail
   have WR:=aH (aM WS.out By8.out)
   have ai9:=aH (abj.out.move (By8.out.block _ abj.out.lt))
   have ai7:=aH (My7.out.move (By8.out.block _ My7.out.lt))
   refine⟨⟨⟨_,(eM.out _ (WR.out.block _ l7) (WR.out.block _ f7))⟩,rfl⟩,?_⟩
   refine aX 1 (by kernel_rfl) ?_
   simp only[aJ,aO,aI,aL]
   repeat (go_big_quiet_step (fail))
   refine aU ?_
   refine aS rfl ?_ rfl
   have R5:=aH ((WR.out.block _ xo).trans wX.out.row)
   have c5:=eH R5.out
   go_wp2_with fail
   obtain⟨y9,hy9⟩:=bP (((y8.setCell ⟨w1.heap.size,0,ae⟩ (aC aj)).setCell ⟨w1.heap.size,1,ae⟩ (ay az 0)).setCell ⟨w1.heap.size,2,ae⟩ (ay az 0))
   have Sy9:=aH (show ∀q o,q≠w1.heap.size->y8.heap[q]?=o->y9.heap[q]?=o from λq o hq h=>by rw[<-hy9];exact uL hq h)
   have Fy9:=aH (show y9.heap[w1.heap.size]?=ag (aG #[aC aj,ay az 0,ay az 0] 67 (0,0))from by rw[<-hy9];exact bE (bE (bE R5.out 0 _) 1 _) 2 _)
   have Zy9:=aH (show Ch [0] g7 w7 g7 y9 from by rw[<-hy9];exact(((Ch.bh [0] g7 WR.out).set _ (.inl (by rw[wX.out.tag];decide))).set _ (.inl (by rw[wX.out.tag];decide))).set _ (.inl (by rw[wX.out.tag];decide)))
   have aog:=aH (show Ch TN g w g7 y9 from by rw[<-hy9];exact(((C7.out.on (WR.out)).set _ (.inr LW.out)).set _ (.inr LW.out)).set _ (.inr LW.out))
   rw[hy9]
   clear hy9 c5 R5
   refine⟨⟨⟨_,(eM.out _ (Sy9.out _ _ (cQ Qt) (WR.out.block _ l7)) (Sy9.out _ _ (cM Qw.out) (WR.out.block _ f7)))⟩,rfl⟩,?_⟩
   refine bF ?_
   unfold dh cC
   dsimp only
   clear dF qR
   change wpList _ _ _ _ _ _
   go_wp2_with fail
   refine bn (gh rfl w1.heap.size rfl (aZ 0 Fy9.out) (aZ 1 Fy9.out) (aZ 2 Fy9.out)) rfl ?_
   obtain⟨g8,se⟩:=bP (tg (tg (tg g7 (w7.drew.heap.size) 53) (y6.heap.size) 54) (y7.heap.size) 50)
   have iR:∀q,q<w7.heap.size->g8 q=g7 q:=λq hq=>by rw[<-se,dA (bR (aW hq (WS.out.size))),dA (bR (aW hq (Nv.out.size))),dA (bR (aW hq (BD.out.size)))]
   have c8:=Zy9.out.gE (g2:=g8) iR
   refine⟨_,g8,rfl,aog.out.gE (g2:=g8) (λq hq=>iR q (aW hq C7.out.size)),mI (ob:=ob) (qb:=qb) (pb:=pb) (kb:=kb) (dm:=w7.drew.heap.size) (lm:=y6.heap.size) ⟨?_,?_⟩ (L7.out.ch c8 (by decide)) (Q7.out.ch c8 (by decide)) (P7.out.ch c8 (by decide)) (K7.out.ch c8 (by decide)) ⟨ai9.out.move (Sy9.out _ _ (cM (aW xo (BD.out.size))) rfl),?_⟩ ⟨ai7.out.move (Sy9.out _ _ (cM (aW xo (Nv.out.size))) rfl),?_⟩⟩
   ·have e:=Sy9.out _ _ (cM (aW xo (WS.out.size))) Ny8.out
    rw[<-Q0.out]at e
    exact e
   ·rw[<-se];exact dG _ _ _
   ·rw[<-se,dA (bR aia.out),dA (bR aaX.out)];exact dG _ _ _
   ·rw[<-se,dA (bR ah8.out)];exact dG _ _ _
 ·simp only[pick,aV,a8,aQ,aR]
  refine aS rfl ?_ rfl
  have bb:=aY w7.drew (.map #[] 0)
  have mm:=fL.made w7.drew 2
  obtain⟨zG,O'⟩:=bP (World.alloc w7.drew (.map #[] 0))
  rw[O']at bb mm
  have Zx:=aH bb
  have Vt:=aH mm
  clear bb mm
  go_wp2_with fail
  have Ax:=aH (aM BD.out Zx.out)
  have Kx:=aH (show w7.drew.heap.size<zG.heap.size from Vt.out.lt)
  refine⟨⟨⟨_,(eM.out _ (Ax.out.block _ l7) (Ax.out.block _ f7))⟩,rfl⟩,?_⟩
  refine bF ?_
  unfold dh cC
  dsimp only
  refine⟨?_,?_⟩
  ·simp only[pick,aV,a8,aQ,aR]
   refine aS rfl ?_ rfl
   have bb:=aY zG (.map #[] 0)
   have mm:=fL.made zG 2
   obtain⟨Ef,Gk⟩:=bP (World.alloc zG (.map #[] 0))
   rw[Gk]at bb mm
   have VP:=aH bb
   have adN:=aH mm
   clear bb mm
   go_wp2_with fail
   have KF:=aH (aM Ax.out VP.out)
   have adv:=aH (aW Kx.out VP.out.size)
   have Vy:=aH (Vt.out.move (VP.out.block _ Vt.out.lt))
   have adA:=aH (show zG.heap.size<Ef.heap.size from adN.out.lt)
   refine⟨⟨⟨_,(eM.out _ (KF.out.block _ l7) (KF.out.block _ f7))⟩,rfl⟩,?_⟩
   refine aS rfl ?_ rfl
   go_wp2_with fail
   refine(jS.out _ KF.out).mono ?_
   rintro e Ee ⟨rfl,hb⟩
   have vw:=aH (aM KF.out hb)
   have adu:=aH (aW adv.out hb.size)
   have adz:=aH (aW adA.out hb.size)
   have Vx:=aH (Vy.out.move (hb.block _ Vy.out.lt))
   have VB:=aH (adN.out.move (hb.block _ adN.out.lt))
   clear hb
   go_wp2_with fail
   refine⟨⟨⟨_,(eM.out _ (vw.out.block _ l7) (vw.out.block _ f7))⟩,rfl⟩,?_⟩
   refine aX 1 (by kernel_rfl) ?_
   simp only[aJ,aO,aI,aL]
   repeat (go_big_quiet_step (fail))
   refine aU ?_
   refine aS rfl ?_ rfl
   go_wp2_with fail
   refine⟨⟨⟨_,(eM.out _ (vw.out.block _ l7) (vw.out.block _ f7))⟩,rfl⟩,?_⟩
   refine aS rfl ?_ rfl
   have bb:=aY Ee (aG #[ay az sm,ay az b0,ay az K.cap,ay az K.dO,ay az K.most,ay az K.fj,aD aE lr,aD aE al,aA (ag ⟨ob,0,ae⟩),aA (ag ⟨qb,0,ae⟩),aA (ag ⟨pb,0,ae⟩),aA (ag ⟨kb,0,ae⟩),aB ae 0 0,aB ae 0 0,.map (ag (zG.heap.size)),.map (ag (w7.heap.size)),ay az b0,aA ae,aD aE 0,aB ae 0 0,ay az 0,aC ah,aC ah,ay az 0] 122)
   have mm:=bp Ee (aG #[ay az sm,ay az b0,ay az K.cap,ay az K.dO,ay az K.most,ay az K.fj,aD aE lr,aD aE al,aA (ag ⟨ob,0,ae⟩),aA (ag ⟨qb,0,ae⟩),aA (ag ⟨pb,0,ae⟩),aA (ag ⟨kb,0,ae⟩),aB ae 0 0,aB ae 0 0,.map (ag (zG.heap.size)),.map (ag (w7.heap.size)),ay az b0,aA ae,aD aE 0,aB ae 0 0,ay az 0,aC ah,aC ah,ay az 0] 122)
   obtain⟨ED,amz⟩:=bP (World.alloc Ee (aG #[ay az sm,ay az b0,ay az K.cap,ay az K.dO,ay az K.most,ay az K.fj,aD aE lr,aD aE al,aA (ag ⟨ob,0,ae⟩),aA (ag ⟨qb,0,ae⟩),aA (ag ⟨pb,0,ae⟩),aA (ag ⟨kb,0,ae⟩),aB ae 0 0,aB ae 0 0,.map (ag (zG.heap.size)),.map (ag (w7.heap.size)),ay az b0,aA ae,aD aE 0,aB ae 0 0,ay az 0,aC ah,aC ah,ay az 0] 122))
   rw[amz]at bb mm
   have aek:=aH bb
   have aoZ:=aH mm
   clear bb mm
   go_wp2_with fail
   have zD:=aH (aM vw.out aek.out)
   have adR:=aH (Vx.out.move (aek.out.block _ Vx.out.lt))
   have adV:=aH (VB.out.move (aek.out.block _ VB.out.lt))
   refine⟨⟨⟨_,(eM.out _ (zD.out.block _ l7) (zD.out.block _ f7))⟩,rfl⟩,?_⟩
   refine aX 1 (by kernel_rfl) ?_
   simp only[aJ,aO,aI,aL]
   repeat (go_big_quiet_step (fail))
   refine aU ?_
   refine aS rfl ?_ rfl
   have R5:=aH ((zD.out.block _ xo).trans wX.out.row)
   have c5:=eH R5.out
   go_wp2_with fail
   obtain⟨NF,yx⟩:=bP (((ED.setCell ⟨w1.heap.size,0,ae⟩ (aC aj)).setCell ⟨w1.heap.size,1,ae⟩ (ay az 0)).setCell ⟨w1.heap.size,2,ae⟩ (ay az 0))
   have Vl:=aH (show ∀q o,q≠w1.heap.size->ED.heap[q]?=o->NF.heap[q]?=o from λq o hq h=>by rw[<-yx];exact uL hq h)
   have ad6:=aH (show NF.heap[w1.heap.size]?=ag (aG #[aC aj,ay az 0,ay az 0] 67 (0,0))from by rw[<-yx];exact bE (bE (bE R5.out 0 _) 1 _) 2 _)
   have aof:=aH (show Ch [0] g7 w7 g7 NF from by rw[<-yx];exact(((Ch.bh [0] g7 zD.out).set _ (.inl (by rw[wX.out.tag];decide))).set _ (.inl (by rw[wX.out.tag];decide))).set _ (.inl (by rw[wX.out.tag];decide)))
   have ah2:=aH (show Ch TN g w g7 NF from by rw[<-yx];exact(((C7.out.on (zD.out)).set _ (.inr LW.out)).set _ (.inr LW.out)).set _ (.inr LW.out))
   rw[yx]
   clear yx c5 R5
   refine⟨⟨⟨_,(eM.out _ (Vl.out _ _ (cQ Qt) (zD.out.block _ l7)) (Vl.out _ _ (cM Qw.out) (zD.out.block _ f7)))⟩,rfl⟩,?_⟩
   refine bF ?_
   unfold dh cC
   dsimp only
   clear dF qR
   change wpList _ _ _ _ _ _
   go_wp2_with fail
   refine bn (gh rfl w1.heap.size rfl (aZ 0 ad6.out) (aZ 1 ad6.out) (aZ 2 ad6.out)) rfl ?_
   obtain⟨g8,se⟩:=bP (tg (tg (tg g7 (zG.heap.size) 53) (w7.drew.heap.size) 54) (Ee.heap.size) 50)
   have iR:∀q,q<w7.heap.size->g8 q=g7 q:=λq hq=>by rw[<-se,dA (bR (aW hq (vw.out.size))),dA (bR (aW hq (BD.out.size))),dA (bR (aW hq (Ax.out.size)))]
   have c8:=aof.out.gE (g2:=g8) iR
   refine⟨_,g8,rfl,ah2.out.gE (g2:=g8) (λq hq=>iR q (aW hq C7.out.size)),mI (ob:=ob) (qb:=qb) (pb:=pb) (kb:=kb) (dm:=zG.heap.size) (lm:=w7.drew.heap.size) ⟨?_,?_⟩ (L7.out.ch c8 (by decide)) (Q7.out.ch c8 (by decide)) (P7.out.ch c8 (by decide)) (K7.out.ch c8 (by decide)) ⟨adV.out.move (Vl.out _ _ (cM (aW xo (Ax.out.size))) rfl),?_⟩ ⟨adR.out.move (Vl.out _ _ (cM (aW xo (BD.out.size))) rfl),?_⟩⟩
   ·have e:=Vl.out _ _ (cM (aW xo (vw.out.size))) aoZ.out
    rw[<-Q0.out]at e
    exact e
   ·rw[<-se];exact dG _ _ _
   ·rw[<-se,dA (bR adz.out),dA (cM Kx.out)];exact dG _ _ _
   ·rw[<-se,dA (bR adu.out)];exact dG _ _ _
  ·simp only[pick,aV,a8,aQ,aR]
   refine aS rfl ?_ rfl
   go_wp2_with fail
   refine(jS.out _ Ax.out).mono ?_
   rintro e EC ⟨rfl,hb⟩
   have Ib:=aH (aM Ax.out hb)
   have Vf:=aH (aW Kx.out hb.size)
   have Vw:=aH (Vt.out.move (hb.block _ Vt.out.lt))
   clear hb
   go_wp2_with fail
   refine⟨⟨⟨_,(eM.out _ (Ib.out.block _ l7) (Ib.out.block _ f7))⟩,rfl⟩,?_⟩
   refine aX 1 (by kernel_rfl) ?_
   simp only[aJ,aO,aI,aL]
   repeat (go_big_quiet_step (fail))
   refine aU ?_
   refine aS rfl ?_ rfl
   have bb:=aY EC (.map #[] 0)
   have mm:=fL.made EC 2
   obtain⟨y16,agQ⟩:=bP (World.alloc EC (.map #[] 0))
   rw[agQ]at bb mm
   have Qz:=aH bb
   have adM:=aH mm
   clear bb mm
   go_wp2_with fail
   have zC:=aH (aM Ib.out Qz.out)
   have adt:=aH (aW Vf.out Qz.out.size)
   have Vv:=aH (Vw.out.move (Qz.out.block _ Vw.out.lt))
   have ady:=aH (show EC.heap.size<y16.heap.size from adM.out.lt)
   refine⟨⟨⟨_,(eM.out _ (zC.out.block _ l7) (zC.out.block _ f7))⟩,rfl⟩,?_⟩
   refine aS rfl ?_ rfl
   go_wp2_with fail
   refine⟨⟨⟨_,(eM.out _ (zC.out.block _ l7) (zC.out.block _ f7))⟩,rfl⟩,?_⟩
   refine aS rfl ?_ rfl
   have bb:=aY y16 (aG #[ay az sm,ay az b0,ay az K.cap,ay az K.dO,ay az K.most,ay az K.fj,aD aE lr,aD aE al,aA (ag ⟨ob,0,ae⟩),aA (ag ⟨qb,0,ae⟩),aA (ag ⟨pb,0,ae⟩),aA (ag ⟨kb,0,ae⟩),aB ae 0 0,aB ae 0 0,.map (ag (EC.heap.size)),.map (ag (w7.heap.size)),ay az b0,aA ae,aD aE 0,aB ae 0 0,ay az 0,aC ah,aC ah,ay az 0] 122)
   have mm:=bp y16 (aG #[ay az sm,ay az b0,ay az K.cap,ay az K.dO,ay az K.most,ay az K.fj,aD aE lr,aD aE al,aA (ag ⟨ob,0,ae⟩),aA (ag ⟨qb,0,ae⟩),aA (ag ⟨pb,0,ae⟩),aA (ag ⟨kb,0,ae⟩),aB ae 0 0,aB ae 0 0,.map (ag (EC.heap.size)),.map (ag (w7.heap.size)),ay az b0,aA ae,aD aE 0,aB ae 0 0,ay az 0,aC ah,aC ah,ay az 0] 122)
   obtain⟨y17,amy⟩:=bP (World.alloc y16 (aG #[ay az sm,ay az b0,ay az K.cap,ay az K.dO,ay az K.most,ay az K.fj,aD aE lr,aD aE al,aA (ag ⟨ob,0,ae⟩),aA (ag ⟨qb,0,ae⟩),aA (ag ⟨pb,0,ae⟩),aA (ag ⟨kb,0,ae⟩),aB ae 0 0,aB ae 0 0,.map (ag (EC.heap.size)),.map (ag (w7.heap.size)),ay az b0,aA ae,aD aE 0,aB ae 0 0,ay az 0,aC ah,aC ah,ay az 0] 122))
   rw[amy]at bb mm
   have aej:=aH bb
   have aoX:=aH mm
   clear bb mm
   go_wp2_with fail
   have Aw:=aH (aM zC.out aej.out)
   have adQ:=aH (Vv.out.move (aej.out.block _ Vv.out.lt))
   have adU:=aH (adM.out.move (aej.out.block _ adM.out.lt))
   refine⟨⟨⟨_,(eM.out _ (Aw.out.block _ l7) (Aw.out.block _ f7))⟩,rfl⟩,?_⟩
   refine aX 1 (by kernel_rfl) ?_
   simp only[aJ,aO,aI,aL]
   repeat (go_big_quiet_step (fail))
   refine aU ?_
   refine aS rfl ?_ rfl
   have R5:=aH ((Aw.out.block _ xo).trans wX.out.row)
   have c5:=eH R5.out
   go_wp2_with fail
   obtain⟨QE,wL⟩:=bP (((y17.setCell ⟨w1.heap.size,0,ae⟩ (aC aj)).setCell ⟨w1.heap.size,1,ae⟩ (ay az 0)).setCell ⟨w1.heap.size,2,ae⟩ (ay az 0))
   have Vk:=aH (show ∀q o,q≠w1.heap.size->y17.heap[q]?=o->QE.heap[q]?=o from λq o hq h=>by rw[<-wL];exact uL hq h)
   have ad5:=aH (show QE.heap[w1.heap.size]?=ag (aG #[aC aj,ay az 0,ay az 0] 67 (0,0))from by rw[<-wL];exact bE (bE (bE R5.out 0 _) 1 _) 2 _)
   have aoe:=aH (show Ch [0] g7 w7 g7 QE from by rw[<-wL];exact(((Ch.bh [0] g7 Aw.out).set _ (.inl (by rw[wX.out.tag];decide))).set _ (.inl (by rw[wX.out.tag];decide))).set _ (.inl (by rw[wX.out.tag];decide)))
   have ah1:=aH (show Ch TN g w g7 QE from by rw[<-wL];exact(((C7.out.on (Aw.out)).set _ (.inr LW.out)).set _ (.inr LW.out)).set _ (.inr LW.out))
   rw[wL]
   clear wL c5 R5
   refine⟨⟨⟨_,(eM.out _ (Vk.out _ _ (cQ Qt) (Aw.out.block _ l7)) (Vk.out _ _ (cM Qw.out) (Aw.out.block _ f7)))⟩,rfl⟩,?_⟩
   refine bF ?_
   unfold dh cC
   dsimp only
   clear dF qR
   change wpList _ _ _ _ _ _
   go_wp2_with fail
   refine bn (gh rfl w1.heap.size rfl (aZ 0 ad5.out) (aZ 1 ad5.out) (aZ 2 ad5.out)) rfl ?_
   obtain⟨g8,se⟩:=bP (tg (tg (tg g7 (EC.heap.size) 53) (w7.drew.heap.size) 54) (y16.heap.size) 50)
   have iR:∀q,q<w7.heap.size->g8 q=g7 q:=λq hq=>by rw[<-se,dA (bR (aW hq (zC.out.size))),dA (bR (aW hq (BD.out.size))),dA (bR (aW hq (Ib.out.size)))]
   have c8:=aoe.out.gE (g2:=g8) iR
   refine⟨_,g8,rfl,ah1.out.gE (g2:=g8) (λq hq=>iR q (aW hq C7.out.size)),mI (ob:=ob) (qb:=qb) (pb:=pb) (kb:=kb) (dm:=EC.heap.size) (lm:=w7.drew.heap.size) ⟨?_,?_⟩ (L7.out.ch c8 (by decide)) (Q7.out.ch c8 (by decide)) (P7.out.ch c8 (by decide)) (K7.out.ch c8 (by decide)) ⟨adU.out.move (Vk.out _ _ (cM (aW xo (Ib.out.size))) rfl),?_⟩ ⟨adQ.out.move (Vk.out _ _ (cM (aW xo (BD.out.size))) rfl),?_⟩⟩
   ·have e:=Vk.out _ _ (cM (aW xo (zC.out.size))) aoX.out
    rw[<-Q0.out]at e
    exact e
   ·rw[<-se];exact dG _ _ _
   ·rw[<-se,dA (bR ady.out),dA (cM Vf.out)];exact dG _ _ _
   ·rw[<-se,dA (bR adt.out)];exact dG _ _ _
 ·simp only[pick,aV,a8,aQ,aR]
  refine aS rfl ?_ rfl
  go_wp2_with fail
  refine(jS.out _ BD.out).mono ?_
  rintro e qK ⟨rfl,hb⟩
  have ux:=aH (aM BD.out hb)
  clear hb
  go_wp2_with fail
  refine⟨⟨⟨_,(eM.out _ (ux.out.block _ l7) (ux.out.block _ f7))⟩,rfl⟩,?_⟩
  refine aX 1 (by kernel_rfl) ?_
  simp only[aJ,aO,aI,aL]
  repeat (go_big_quiet_step (fail))
  refine aU ?_
  refine bF ?_
  unfold dh cC
  dsimp only
  refine⟨?_,?_⟩
  ·simp only[pick,aV,a8,aQ,aR]
   refine aS rfl ?_ rfl
   have bb:=aY qK (.map #[] 0)
   have mm:=fL.made qK 2
   obtain⟨uD,amx⟩:=bP (World.alloc qK (.map #[] 0))
   rw[amx]at bb mm
   have apX:=aH bb
   have adL:=aH mm
   clear bb mm
   go_wp2_with fail
   have Eb:=aH (aM ux.out apX.out)
   have Vg:=aH (show qK.heap.size<uD.heap.size from adL.out.lt)
   refine⟨⟨⟨_,(eM.out _ (Eb.out.block _ l7) (Eb.out.block _ f7))⟩,rfl⟩,?_⟩
   refine aS rfl ?_ rfl
   have bb:=aY uD (.map #[] 0)
   have mm:=fL.made uD 2
   obtain⟨V8,agP⟩:=bP (World.alloc uD (.map #[] 0))
   rw[agP]at bb mm
   have Qy:=aH bb
   have adK:=aH mm
   clear bb mm
   go_wp2_with fail
   have Av:=aH (aM Eb.out Qy.out)
   have adx:=aH (aW Vg.out Qy.out.size)
   have Vz:=aH (adL.out.move (Qy.out.block _ adL.out.lt))
   have ads:=aH (show uD.heap.size<V8.heap.size from adK.out.lt)
   refine⟨⟨⟨_,(eM.out _ (Av.out.block _ l7) (Av.out.block _ f7))⟩,rfl⟩,?_⟩
   refine aS rfl ?_ rfl
   go_wp2_with fail
   refine⟨⟨⟨_,(eM.out _ (Av.out.block _ l7) (Av.out.block _ f7))⟩,rfl⟩,?_⟩
   refine aS rfl ?_ rfl
   have bb:=aY V8 (aG #[ay az sm,ay az b0,ay az K.cap,ay az K.dO,ay az K.most,ay az K.fj,aD aE lr,aD aE al,aA (ag ⟨ob,0,ae⟩),aA (ag ⟨qb,0,ae⟩),aA (ag ⟨pb,0,ae⟩),aA (ag ⟨kb,0,ae⟩),aB ae 0 0,aB ae 0 0,.map (ag (qK.heap.size)),.map (ag (uD.heap.size)),ay az b0,aA ae,aD aE 0,aB ae 0 0,ay az 0,aC ah,aC ah,ay az 0] 122)
   have mm:=bp V8 (aG #[ay az sm,ay az b0,ay az K.cap,ay az K.dO,ay az K.most,ay az K.fj,aD aE lr,aD aE al,aA (ag ⟨ob,0,ae⟩),aA (ag ⟨qb,0,ae⟩),aA (ag ⟨pb,0,ae⟩),aA (ag ⟨kb,0,ae⟩),aB ae 0 0,aB ae 0 0,.map (ag (qK.heap.size)),.map (ag (uD.heap.size)),ay az b0,aA ae,aD aE 0,aB ae 0 0,ay az 0,aC ah,aC ah,ay az 0] 122)
   obtain⟨V7,JA⟩:=bP (World.alloc V8 (aG #[ay az sm,ay az b0,ay az K.cap,ay az K.dO,ay az K.most,ay az K.fj,aD aE lr,aD aE al,aA (ag ⟨ob,0,ae⟩),aA (ag ⟨qb,0,ae⟩),aA (ag ⟨pb,0,ae⟩),aA (ag ⟨kb,0,ae⟩),aB ae 0 0,aB ae 0 0,.map (ag (qK.heap.size)),.map (ag (uD.heap.size)),ay az b0,aA ae,aD aE 0,aB ae 0 0,ay az 0,aC ah,aC ah,ay az 0] 122))
   rw[JA]at bb mm
   have aei:=aH bb
   have aoW:=aH mm
   clear bb mm
   go_wp2_with fail
   have Au:=aH (aM Av.out aei.out)
   have adT:=aH (Vz.out.move (aei.out.block _ Vz.out.lt))
   have adP:=aH (adK.out.move (aei.out.block _ adK.out.lt))
   refine⟨⟨⟨_,(eM.out _ (Au.out.block _ l7) (Au.out.block _ f7))⟩,rfl⟩,?_⟩
   refine aX 1 (by kernel_rfl) ?_
   simp only[aJ,aO,aI,aL]
   repeat (go_big_quiet_step (fail))
   refine aU ?_
   refine aS rfl ?_ rfl
   have R5:=aH ((Au.out.block _ xo).trans wX.out.row)
   have c5:=eH R5.out
   go_wp2_with fail
   obtain⟨y23,Jy⟩:=bP (((V7.setCell ⟨w1.heap.size,0,ae⟩ (aC aj)).setCell ⟨w1.heap.size,1,ae⟩ (ay az 0)).setCell ⟨w1.heap.size,2,ae⟩ (ay az 0))
   have Vj:=aH (show ∀q o,q≠w1.heap.size->V7.heap[q]?=o->y23.heap[q]?=o from λq o hq h=>by rw[<-Jy];exact uL hq h)
   have ad4:=aH (show y23.heap[w1.heap.size]?=ag (aG #[aC aj,ay az 0,ay az 0] 67 (0,0))from by rw[<-Jy];exact bE (bE (bE R5.out 0 _) 1 _) 2 _)
   have aod:=aH (show Ch [0] g7 w7 g7 y23 from by rw[<-Jy];exact(((Ch.bh [0] g7 Au.out).set _ (.inl (by rw[wX.out.tag];decide))).set _ (.inl (by rw[wX.out.tag];decide))).set _ (.inl (by rw[wX.out.tag];decide)))
   have ah0:=aH (show Ch TN g w g7 y23 from by rw[<-Jy];exact(((C7.out.on (Au.out)).set _ (.inr LW.out)).set _ (.inr LW.out)).set _ (.inr LW.out))
   rw[Jy]
   clear Jy c5 R5
   refine⟨⟨⟨_,(eM.out _ (Vj.out _ _ (cQ Qt) (Au.out.block _ l7)) (Vj.out _ _ (cM Qw.out) (Au.out.block _ f7)))⟩,rfl⟩,?_⟩
   refine bF ?_
   unfold dh cC
   dsimp only
   clear dF qR
   change wpList _ _ _ _ _ _
   go_wp2_with fail
   refine bn (gh rfl w1.heap.size rfl (aZ 0 ad4.out) (aZ 1 ad4.out) (aZ 2 ad4.out)) rfl ?_
   obtain⟨g8,se⟩:=bP (tg (tg (tg g7 (qK.heap.size) 53) (uD.heap.size) 54) (V8.heap.size) 50)
   have iR:∀q,q<w7.heap.size->g8 q=g7 q:=λq hq=>by rw[<-se,dA (bR (aW hq (Av.out.size))),dA (bR (aW hq (Eb.out.size))),dA (bR (aW hq (ux.out.size)))]
   have c8:=aod.out.gE (g2:=g8) iR
   refine⟨_,g8,rfl,ah0.out.gE (g2:=g8) (λq hq=>iR q (aW hq C7.out.size)),mI (ob:=ob) (qb:=qb) (pb:=pb) (kb:=kb) (dm:=qK.heap.size) (lm:=uD.heap.size) ⟨?_,?_⟩ (L7.out.ch c8 (by decide)) (Q7.out.ch c8 (by decide)) (P7.out.ch c8 (by decide)) (K7.out.ch c8 (by decide)) ⟨adT.out.move (Vj.out _ _ (cM (aW xo (ux.out.size))) rfl),?_⟩ ⟨adP.out.move (Vj.out _ _ (cM (aW xo (Eb.out.size))) rfl),?_⟩⟩
   ·have e:=Vj.out _ _ (cM (aW xo (Av.out.size))) aoW.out
    rw[<-Q0.out]at e
    exact e
   ·rw[<-se];exact dG _ _ _
   ·rw[<-se,dA (bR adx.out),dA (bR Vg.out)];exact dG _ _ _
   ·rw[<-se,dA (bR ads.out)];exact dG _ _ _
  ·simp only[pick,aV,a8,aQ,aR]
   refine aS rfl ?_ rfl
   have bb:=aY qK (.map #[] 0)
   have mm:=fL.made qK 2
   obtain⟨IF,amw⟩:=bP (World.alloc qK (.map #[] 0))
   rw[amw]at bb mm
   have apW:=aH bb
   have adJ:=aH mm
   clear bb mm
   go_wp2_with fail
   have Ia:=aH (aM ux.out apW.out)
   have Ve:=aH (show qK.heap.size<IF.heap.size from adJ.out.lt)
   refine⟨⟨⟨_,(eM.out _ (Ia.out.block _ l7) (Ia.out.block _ f7))⟩,rfl⟩,?_⟩
   refine aS rfl ?_ rfl
   have bb:=aY IF (.map #[] 0)
   have mm:=fL.made IF 2
   obtain⟨Io,yw⟩:=bP (World.alloc IF (.map #[] 0))
   rw[yw]at bb mm
   have aeh:=aH bb
   have adI:=aH mm
   clear bb mm
   go_wp2_with fail
   have At:=aH (aM Ia.out aeh.out)
   have adr:=aH (aW Ve.out aeh.out.size)
   have Vu:=aH (adJ.out.move (aeh.out.block _ adJ.out.lt))
   have adw:=aH (show IF.heap.size<Io.heap.size from adI.out.lt)
   refine⟨⟨⟨_,(eM.out _ (At.out.block _ l7) (At.out.block _ f7))⟩,rfl⟩,?_⟩
   refine aS rfl ?_ rfl
   go_wp2_with fail
   refine⟨⟨⟨_,(eM.out _ (At.out.block _ l7) (At.out.block _ f7))⟩,rfl⟩,?_⟩
   refine aS rfl ?_ rfl
   have bb:=aY Io (aG #[ay az sm,ay az b0,ay az K.cap,ay az K.dO,ay az K.most,ay az K.fj,aD aE lr,aD aE al,aA (ag ⟨ob,0,ae⟩),aA (ag ⟨qb,0,ae⟩),aA (ag ⟨pb,0,ae⟩),aA (ag ⟨kb,0,ae⟩),aB ae 0 0,aB ae 0 0,.map (ag (IF.heap.size)),.map (ag (qK.heap.size)),ay az b0,aA ae,aD aE 0,aB ae 0 0,ay az 0,aC ah,aC ah,ay az 0] 122)
   have mm:=bp Io (aG #[ay az sm,ay az b0,ay az K.cap,ay az K.dO,ay az K.most,ay az K.fj,aD aE lr,aD aE al,aA (ag ⟨ob,0,ae⟩),aA (ag ⟨qb,0,ae⟩),aA (ag ⟨pb,0,ae⟩),aA (ag ⟨kb,0,ae⟩),aB ae 0 0,aB ae 0 0,.map (ag (IF.heap.size)),.map (ag (qK.heap.size)),ay az b0,aA ae,aD aE 0,aB ae 0 0,ay az 0,aC ah,aC ah,ay az 0] 122)
   obtain⟨KV,agO⟩:=bP (World.alloc Io (aG #[ay az sm,ay az b0,ay az K.cap,ay az K.dO,ay az K.most,ay az K.fj,aD aE lr,aD aE al,aA (ag ⟨ob,0,ae⟩),aA (ag ⟨qb,0,ae⟩),aA (ag ⟨pb,0,ae⟩),aA (ag ⟨kb,0,ae⟩),aB ae 0 0,aB ae 0 0,.map (ag (IF.heap.size)),.map (ag (qK.heap.size)),ay az b0,aA ae,aD aE 0,aB ae 0 0,ay az 0,aC ah,aC ah,ay az 0] 122))
   rw[agO]at bb mm
   have VO:=aH bb
   have H9:=aH mm
   clear bb mm
   go_wp2_with fail
   have vv:=aH (aM At.out VO.out)
   have adO:=aH (Vu.out.move (VO.out.block _ Vu.out.lt))
   have adS:=aH (adI.out.move (VO.out.block _ adI.out.lt))
   refine⟨⟨⟨_,(eM.out _ (vv.out.block _ l7) (vv.out.block _ f7))⟩,rfl⟩,?_⟩
   refine aX 1 (by kernel_rfl) ?_
   simp only[aJ,aO,aI,aL]
   repeat (go_big_quiet_step (fail))
   refine aU ?_
   refine aS rfl ?_ rfl
   have R5:=aH ((vv.out.block _ xo).trans wX.out.row)
   have c5:=eH R5.out
   go_wp2_with fail
   obtain⟨Im,O0⟩:=bP (((KV.setCell ⟨w1.heap.size,0,ae⟩ (aC aj)).setCell ⟨w1.heap.size,1,ae⟩ (ay az 0)).setCell ⟨w1.heap.size,2,ae⟩ (ay az 0))
   have Vi:=aH (show ∀q o,q≠w1.heap.size->KV.heap[q]?=o->Im.heap[q]?=o from λq o hq h=>by rw[<-O0];exact uL hq h)
   have ad3:=aH (show Im.heap[w1.heap.size]?=ag (aG #[aC aj,ay az 0,ay az 0] 67 (0,0))from by rw[<-O0];exact bE (bE (bE R5.out 0 _) 1 _) 2 _)
   have aoc:=aH (show Ch [0] g7 w7 g7 Im from by rw[<-O0];exact(((Ch.bh [0] g7 vv.out).set _ (.inl (by rw[wX.out.tag];decide))).set _ (.inl (by rw[wX.out.tag];decide))).set _ (.inl (by rw[wX.out.tag];decide)))
   have ahZ:=aH (show Ch TN g w g7 Im from by rw[<-O0];exact(((C7.out.on (vv.out)).set _ (.inr LW.out)).set _ (.inr LW.out)).set _ (.inr LW.out))
   rw[O0]
   clear O0 c5 R5
   refine⟨⟨⟨_,(eM.out _ (Vi.out _ _ (cQ Qt) (vv.out.block _ l7)) (Vi.out _ _ (cM Qw.out) (vv.out.block _ f7)))⟩,rfl⟩,?_⟩
   refine bF ?_
   unfold dh cC
   dsimp only
   clear dF qR
   change wpList _ _ _ _ _ _
   go_wp2_with fail
   refine bn (gh rfl w1.heap.size rfl (aZ 0 ad3.out) (aZ 1 ad3.out) (aZ 2 ad3.out)) rfl ?_
   obtain⟨g8,se⟩:=bP (tg (tg (tg g7 (IF.heap.size) 53) (qK.heap.size) 54) (Io.heap.size) 50)
   have iR:∀q,q<w7.heap.size->g8 q=g7 q:=λq hq=>by rw[<-se,dA (bR (aW hq (At.out.size))),dA (bR (aW hq (ux.out.size))),dA (bR (aW hq (Ia.out.size)))]
   have c8:=aoc.out.gE (g2:=g8) iR
   refine⟨_,g8,rfl,ahZ.out.gE (g2:=g8) (λq hq=>iR q (aW hq C7.out.size)),mI (ob:=ob) (qb:=qb) (pb:=pb) (kb:=kb) (dm:=IF.heap.size) (lm:=qK.heap.size) ⟨?_,?_⟩ (L7.out.ch c8 (by decide)) (Q7.out.ch c8 (by decide)) (P7.out.ch c8 (by decide)) (K7.out.ch c8 (by decide)) ⟨adS.out.move (Vi.out _ _ (cM (aW xo (Ia.out.size))) rfl),?_⟩ ⟨adO.out.move (Vi.out _ _ (cM (aW xo (ux.out.size))) rfl),?_⟩⟩
   ·have e:=Vi.out _ _ (cM (aW xo (At.out.size))) H9.out
    rw[<-Q0.out]at e
    exact e
   ·rw[<-se];exact dG _ _ _
   ·rw[<-se,dA (bR adw.out),dA (cM Ve.out)];exact dG _ _ _
   ·rw[<-se,dA (bR adr.out)];exact dG _ _ _
end
end
end Go.Proofs.YtooinenkenobaaaGreat

/- A part of the proof of what LawWholeReaders says. -/
import Derived.Test.YtooinenkenobaaaGreatAa
import Derived.Test.YtooinenkenobaaaGreatCi
import Derived.Test.YtooinenkenobaaaGreatBl
set_option maxRecDepth 100000
set_option maxHeartbeats 20000000
namespace Go.Proofs.YtooinenkenobaaaGreat
open Option renaming none->ae,some->ag
open Bool renaming false->ah,true->aj
open Go.Proofs.Tryz renaming prog->ax
open Go.Value renaming int->ay,pointer->aA,slice->aB,bool->aC,float->aD
open Go.IntKind renaming i64->az
open Go.FloatKind renaming f64->aE
open Go.Ending renaming returned->aF
open Go.Obj renaming cells->aG
open Go renaming World->am,Value->ar,TypeId->au,Calls->aw
section
open Go.RowKit Go.Maps
section
variable{K:dw}{P:jx}
theorem UF(eb db:Nat)(E:fm)(cb:List Nat)(w:am)(g:Tg)(H:gw w g eb db K P E cb)(h:fy K E):
 aw ax 18 #[aA (ag ⟨eb,0,ae⟩)] w λe w'=>e=aF (yi K E)/\Below w.heap.size w w':=by
 obtain⟨w1,gv,dJ,dL⟩:=bG w #[ay az 0,ay az 0,ay az 0,ay az 0,ay az 0,ay az 0,ay az 0,ay az 0,aD aE 0,aC ah,aC ah,aC ah,ay az 0] 40
 have H1:=aH (H.low dJ.out)
 have OK:=aH h
 obtain⟨fi,hfi⟩:=bP ((K.b0:Int):Int)
 obtain⟨du,yH⟩:=bP (((K.b0+E.du:Nat):Int):Int)
 obtain⟨rs,zM⟩:=bP (((K.b0+E.D.length:Nat):Int):Int)
 obtain⟨nx,kA⟩:=bP (((K.b0+(E.D.take E.wr).length:Nat):Int):Int)
 obtain⟨R,fd,fl,HE⟩:=H1.out.ex
 have jS:=aH (show ∀x,Below w1.heap.size w1 x->aw ax 34 #[aA (ag ⟨R.ob,0,ae⟩)] x λe w'=>e=aF (.agg #[ay az fi,ay az nx,ay az du,ay az 1,ay az 1,aC ah,aC ah,ay az 0])/\Below x.heap.size x w' from λx hx=>by
  rw[<-hfi,<-kA,<-yH]
  exact tP R.ob db P.sm K.b0 (E.D.take E.wr) E.du x g (HE.log.low hx))
 obtain⟨ib,f,M,-⟩:=HE.zL.ex
 obtain⟨lv,front,iB,m1,-,m3,-⟩:=M.ex
 obtain⟨la,lc,rfl,-⟩:=m3.shape
 obtain⟨hn,WB⟩:=bP E.held.length
 obtain⟨ln,yC⟩:=bP E.line.length
 obtain⟨su,hsu⟩:=bP (eR E.held:Int)
 obtain⟨he,hhe⟩:=bP ((hn:Int):Int)
 obtain⟨li,pE⟩:=bP ((ln:Int):Int)
 rw[WB,hsu,yC]at m1
 have CP:=HE.zL.bnd.c1
 have Vo:=aH (show ∀x,Below w1.heap.size w1 x->aw ax 35 #[aA (ag ⟨R.qb,0,ae⟩)] x λe w'=>e=aF (.agg #[ay az he,ay az su,ay az li])/\Below x.heap.size x w' from λx hx=>by
  rw[<-hhe,<-pE]
  exact Jc R.qb K.cap K.dO su lv front hn la ln lc ib x (m1.below hx) (by omega))
 have LV:=aH (show yi K E=.agg (r9 fi du rs he su li (ldI E.cW) E.cT E.now)from by unfold yi;rw[hfi,yH,zM,WB,hsu,yC,hhe,pE])
 have eM:=aH (show ∀x,Below w1.heap.size w1 x->x.cell? ⟨eb,8,ae⟩=ag (aA (ag ⟨R.ob,0,ae⟩))/\x.cell? ⟨eb,9,ae⟩=ag (aA (ag ⟨R.qb,0,ae⟩))from λx hx=>⟨(HE.row.below hx).cell 8,(HE.row.below hx).cell 9⟩)
 have BD:=aH (bi w1)
 have ROW:=aH HE.row
 have N1:=aH dL.out
 have W1:=aH dJ.out
 have lI:=aH (show ∀(X:am) (b3 b4:Nat) (u1 u5 u6 u7 u8 u9 u10 u11 u12 u13 u14 u15 u16 u17 u18 u19 u20 u21 u22 u23 u24 u25 u26 u27 u28 u29 u30 u31 u32 u33 u34 u35 u36 u37 u38 u39 u40 u41 u42 u43 u44 u45 u46 u47 u48 u49 u50 u51 u52 u53 u54 u55 u56 u57 u58 u59 u60 u61 u62 u63 u64 u65 u66 u67 u68 u69 u70 u71:ar),Below w1.heap.size w1 X->X.heap[b3]?=ag (aG #[ay az fi,ay az nx,ay az du,ay az 1,ay az 1,aC ah,aC ah,ay az 0] 111 (0,0))->X.heap[b4]?=ag (aG #[ay az he,ay az su,ay az li] 125 (0,0))->
  (lD Tryz.f18 4).wp ax (bodyPost ax Tryz.f18 λe w'=>e=aF (yi K E)/\Below w.heap.size w w') ⟨#[aA (ag ⟨eb,0,ae⟩),u1,aA (ag ⟨w.heap.size,0,ae⟩),aA (ag ⟨b3,0,ae⟩),aA (ag ⟨b4,0,ae⟩),u5,u6,u7,u8,u9,u10,u11,u12,u13,u14,u15,u16,u17,u18,u19,u20,u21,u22,u23,u24,u25,u26,u27,u28,u29,u30,u31,u32,u33,u34,u35,u36,u37,u38,u39,u40,u41,u42,u43,u44,u45,u46,u47,u48,u49,u50,u51,u52,u53,u54,u55,u56,u57,u58,u59,u60,u61,u62,u63,u64,u65,u66,u67,u68,u69,u70,u71],[]⟩ X from by
  intro X b3 b4 u1 u5 u6 u7 u8 u9 u10 u11 u12 u13 u14 u15 u16 u17 u18 u19 u20 u21 u22 u23 u24 u25 u26 u27 u28 u29 u30 u31 u32 u33 u34 u35 u36 u37 u38 u39 u40 u41 u42 u43 u44 u45 u46 u47 u48 u49 u50 u51 u52 u53 u54 u55 u56 u57 u58 u59 u60 u61 u62 u63 u64 u65 u66 u67 u68 u69 u70 u71 hx n3 n4
  refine agC eb db w.heap.size b3 b4 w.heap.size fi du rs he su li E.cT nx E cb X g (H1.out.low hx) OK.out ((hx.block _ (aT N1.out)).trans N1.out) n3 n4 dx zM.symm rfl (by intro c a d v w h;cases d <;> exact h) ?_
  intro wd x5 Rf Ip ZQ ZO ZK ZJ x26 x27 x28 x29 x30 x31 x32 x33 x34 x35 x36 x37 x38 x39 x40 x41 x42 x43 x44 x45 x46 x47 x48 x49 x50 x51 x52 x53 x54 x55 x56 x57 Wm Wl Wk Wj Wi Wh Wg Wf We Wc Wb Wa V' V9 hw hb
  refine bn (cH rfl _ _ w.heap.size 40 _ (0,0) _ rfl hw Tryz.underlying40 rfl (by kernel_rfl)) rfl ?_
  exact⟨by rw[LV.out],(W1.out.trans (hx.mono W1.out.size)).trans hb⟩)
 clear HE H h hfi yH zM kA WB yC hsu hhe pE m1 m3 M CP
 go_in
 go_wp2_with fail
 refine(uh eb w1 ROW.out).mono ?_
 rintro e w1 ⟨rfl,ez⟩
 subst ez
 go_wp2_with fail
 have qR:∀p:In (λw'=>w'.cell? ⟨eb,8,ae⟩=ag (aA (ag ⟨R.ob,0,ae⟩))/\w'.cell? ⟨eb,9,ae⟩=ag (aA (ag ⟨R.qb,0,ae⟩))),p.w.cell? ⟨eb,8,ae⟩=ag (aA (ag ⟨R.ob,0,ae⟩))/\p.w.cell? ⟨eb,9,ae⟩=ag (aA (ag ⟨R.qb,0,ae⟩)):=λp=>p.h
 refine gx (.run [0,1,2,3,5,6,7,8] (.tri 4 [] (.tri 9 [] (.fork 10 [11,12] .done 11 [10,12] .done) 10 [] (.fork 9 [11,12] .done 11 [9,12] .done) 11 [] (.fork 9 [10,12] .done 10 [9,12] .done)) 10 [] (.fork 4 [] (.fork 9 [11,12] .done 11 [9,12] .done) 11 [4,9,12] .done) 11 [] (.fork 4 [] (.fork 9 [10,12] .done 10 [9,12] .done) 10 [4,9,12] .done))) 13 (λw'=>w'.cell? ⟨eb,8,ae⟩=ag (aA (ag ⟨R.ob,0,ae⟩))/\w'.cell? ⟨eb,9,ae⟩=ag (aA (ag ⟨R.qb,0,ae⟩))) (by kernel_rfl) (by kernel_rfl) (by intro c a d v w h;cases d <;> exact h) (eM.out _ BD.out) ?_
 intro dF
 unfold cC
 simp only[pick,aV,a8,aQ,aR]
 refine aX 8 (by kernel_rfl) ?_
 simp only[aJ,aO,aI,aL]
 repeat (go_big_quiet_step (fail))
 refine aU ?_
 refine bF ?_
 unfold dh cC
 dsimp only
 refine⟨?_,?_,?_⟩
 ·simp only[pick,aV,a8,aQ,aR]
  refine aS rfl ?_ rfl
  go_wp2_with fail
  refine(jS.out _ BD.out).mono ?_
  rintro e y4 ⟨rfl,hb⟩
  try unfold zJ
  have tH:=aH (aM BD.out hb)
  clear hb
  go_wp2_with fail
  refine⟨⟨⟨_,(eM.out _ tH.out)⟩,rfl⟩,?_⟩
  refine bF ?_
  unfold dh cC
  dsimp only
  refine⟨?_,?_,?_⟩
  ·simp only[pick,aV,a8,aQ,aR]
   refine aS rfl ?_ rfl
   go_wp2_with fail
   refine(Vo.out _ tH.out).mono ?_
   rintro e y5 ⟨rfl,hb⟩
   try unfold zJ
   have Cy5:=aH (aM tH.out hb)
   clear hb
   go_wp2_with fail
   refine⟨⟨⟨_,(eM.out _ Cy5.out)⟩,rfl⟩,?_⟩
   refine bF ?_
   unfold dh cC
   dsimp only
   refine⟨?_,?_⟩
   ·simp only[pick,aV,a8,aQ,aR]
    refine aS rfl ?_ rfl
    obtain⟨y6,hy6,By6,WM⟩:=bG y5 #[ay az 0,ay az 0,ay az 0,ay az 0,ay az 0,aC ah,aC ah,ay az 0] 111
    go_wp2_with fail
    have Nv:=aH (aM Cy5.out By6.out)
    refine⟨⟨⟨_,(eM.out _ Nv.out)⟩,rfl⟩,?_⟩
    refine aS rfl ?_ rfl
    obtain⟨y7,hy7,By7,Ny7⟩:=bG y6 #[ay az 0,ay az 0,ay az 0] 125
    go_wp2_with fail
    have WS:=aH (aM Nv.out By7.out)
    have Zm:=aH ((By7.out.block _ (aT WM.out)).trans WM.out)
    refine⟨⟨⟨_,(eM.out _ WS.out)⟩,rfl⟩,?_⟩
    refine aS rfl ?_ rfl
    have c3:∀j,y7.cell? ⟨y5.heap.size,j,ae⟩=(#[ay az 0,ay az 0,ay az 0,ay az 0,ay az 0,aC ah,aC ah,ay az 0]:Array ar)[j]?:=λj=>aZ j Zm.out
    have f3:∀j,y7.frozen? ⟨y5.heap.size,j,ae⟩=ah:=λj=>bQ j Zm.out
    have lw:y5.heap.size<y7.heap.size:=aT Zm.out
    go_wp2_with fail
    obtain⟨y8,Yo⟩:=bP (((((((((y7.setCell ⟨y5.heap.size,0,ae⟩ (ay az fi)).setCell ⟨y5.heap.size,1,ae⟩ (ay az nx)).setCell ⟨y5.heap.size,2,ae⟩ (ay az du)).setCell ⟨y5.heap.size,3,ae⟩ (ay az 1)).setCell ⟨y5.heap.size,4,ae⟩ (ay az 1)).setCell ⟨y5.heap.size,5,ae⟩ (aC ah)).setCell ⟨y5.heap.size,6,ae⟩ (aC ah)).setCell ⟨y5.heap.size,7,ae⟩ (ay az 0)))
    have WR:=aH (show Below w1.heap.size w1 y8 from by rw[<-Yo];exact qm WS.out (Cy5.out.size))
    have aoI:=aH (show y8.heap[y5.heap.size]?=ag (aG #[ay az fi,ay az nx,ay az du,ay az 1,ay az 1,aC ah,aC ah,ay az 0] 111 (0,0))from by rw[<-Yo];exact qh fi nx du Zm.out)
    have Zl:=aH (show y8.heap[y6.heap.size]?=ag (aG #[ay az 0,ay az 0,ay az 0] 125 (0,0))from by rw[<-Yo];exact qj (cM (show y5.heap.size<y6.heap.size from aT WM.out)) Ny7.out)
    rw[Yo]
    clear Yo c3 f3 lw
    refine⟨⟨⟨_,(eM.out _ WR.out)⟩,rfl⟩,?_⟩
    refine bF ?_
    unfold dh cC
    dsimp only
    clear dF qR
    change wpList _ _ _ _ _ _
    have c4:∀j,y8.cell? ⟨y6.heap.size,j,ae⟩=(#[ay az 0,ay az 0,ay az 0]:Array ar)[j]?:=λj=>aZ j Zl.out
    have f4:∀j,y8.frozen? ⟨y6.heap.size,j,ae⟩=ah:=λj=>bQ j Zl.out
    have lw:y6.heap.size<y8.heap.size:=aT Zl.out
    go_step
    go_step
    go_step
    go_step
    go_step
    go_step
    exact lI.out (((y8.setCell ⟨y6.heap.size,0,ae⟩ (ay az he)).setCell ⟨y6.heap.size,1,ae⟩ (ay az su)).setCell ⟨y6.heap.size,2,ae⟩ (ay az li)) (y5.heap.size) (y6.heap.size) _ _ _ _ _ _ _ _ _ _ _ _ _ _ _ _ _ _ _ _ _ _ _ _ _ _ _ _ _ _ _ _ _ _ _ _ _ _ _ _ _ _ _ _ _ _ _ _ _ _ _ _ _ _ _ _ _ _ _ _ _ _ _ _ _ _ _ _ (qp WR.out (Nv.out.size)) (qk (bR (show y5.heap.size<y6.heap.size from aT WM.out)) aoI.out) (qi he su li Zl.out)
   ·simp only[pick,aV,a8,aQ,aR]
    refine aS rfl ?_ rfl
    obtain⟨y9,hy9,By9,Ny9⟩:=bG y5 #[ay az 0,ay az 0,ay az 0] 125
    go_wp2_with fail
    have Cy9:=aH (aM Cy5.out By9.out)
    refine⟨⟨⟨_,(eM.out _ Cy9.out)⟩,rfl⟩,?_⟩
    refine aS rfl ?_ rfl
    obtain⟨zG,O',Zx,Zs⟩:=bG y9 #[ay az 0,ay az 0,ay az 0,ay az 0,ay az 0,aC ah,aC ah,ay az 0] 111
    go_wp2_with fail
    have Ax:=aH (aM Cy9.out Zx.out)
    have aiG:=aH ((Zx.out.block _ (aT Ny9.out)).trans Ny9.out)
    refine⟨⟨⟨_,(eM.out _ Ax.out)⟩,rfl⟩,?_⟩
    refine aS rfl ?_ rfl
    have c3:∀j,zG.cell? ⟨y9.heap.size,j,ae⟩=(#[ay az 0,ay az 0,ay az 0,ay az 0,ay az 0,aC ah,aC ah,ay az 0]:Array ar)[j]?:=λj=>aZ j Zs.out
    have f3:∀j,zG.frozen? ⟨y9.heap.size,j,ae⟩=ah:=λj=>bQ j Zs.out
    have lw:y9.heap.size<zG.heap.size:=aT Zs.out
    go_wp2_with fail
    obtain⟨Ef,Gk⟩:=bP (((((((((zG.setCell ⟨y9.heap.size,0,ae⟩ (ay az fi)).setCell ⟨y9.heap.size,1,ae⟩ (ay az nx)).setCell ⟨y9.heap.size,2,ae⟩ (ay az du)).setCell ⟨y9.heap.size,3,ae⟩ (ay az 1)).setCell ⟨y9.heap.size,4,ae⟩ (ay az 1)).setCell ⟨y9.heap.size,5,ae⟩ (aC ah)).setCell ⟨y9.heap.size,6,ae⟩ (aC ah)).setCell ⟨y9.heap.size,7,ae⟩ (ay az 0)))
    have KF:=aH (show Below w1.heap.size w1 Ef from by rw[<-Gk];exact qm Ax.out (Cy9.out.size))
    have aiR:=aH (show Ef.heap[y9.heap.size]?=ag (aG #[ay az fi,ay az nx,ay az du,ay az 1,ay az 1,aC ah,aC ah,ay az 0] 111 (0,0))from by rw[<-Gk];exact qh fi nx du Zs.out)
    have Nd:=aH (show Ef.heap[y5.heap.size]?=ag (aG #[ay az 0,ay az 0,ay az 0] 125 (0,0))from by rw[<-Gk];exact qj (bR (show y5.heap.size<y9.heap.size from aT Ny9.out)) aiG.out)
    rw[Gk]
    clear Gk c3 f3 lw
    refine⟨⟨⟨_,(eM.out _ KF.out)⟩,rfl⟩,?_⟩
    refine bF ?_
    unfold dh cC
    dsimp only
    clear dF qR
    change wpList _ _ _ _ _ _
    have c4:∀j,Ef.cell? ⟨y5.heap.size,j,ae⟩=(#[ay az 0,ay az 0,ay az 0]:Array ar)[j]?:=λj=>aZ j Nd.out
    have f4:∀j,Ef.frozen? ⟨y5.heap.size,j,ae⟩=ah:=λj=>bQ j Nd.out
    have lw:y5.heap.size<Ef.heap.size:=aT Nd.out
    go_step
    go_step
    go_step
    go_step
    go_step
    go_step
    exact lI.out (((Ef.setCell ⟨y5.heap.size,0,ae⟩ (ay az he)).setCell ⟨y5.heap.size,1,ae⟩ (ay az su)).setCell ⟨y5.heap.size,2,ae⟩ (ay az li)) (y9.heap.size) (y5.heap.size) _ _ _ _ _ _ _ _ _ _ _ _ _ _ _ _ _ _ _ _ _ _ _ _ _ _ _ _ _ _ _ _ _ _ _ _ _ _ _ _ _ _ _ _ _ _ _ _ _ _ _ _ _ _ _ _ _ _ _ _ _ _ _ _ _ _ _ _ (qp KF.out (Cy5.out.size)) (qk (cM (show y5.heap.size<y9.heap.size from aT Ny9.out)) aiR.out) (qi he su li Nd.out)
  ·simp only[pick,aV,a8,aQ,aR]
   refine aS rfl ?_ rfl
   obtain⟨Ee,avs,apZ,Qr⟩:=bG y4 #[ay az 0,ay az 0,ay az 0,ay az 0,ay az 0,aC ah,aC ah,ay az 0] 111
   go_wp2_with fail
   have vw:=aH (aM tH.out apZ.out)
   refine⟨⟨⟨_,(eM.out _ vw.out)⟩,rfl⟩,?_⟩
   refine bF ?_
   unfold dh cC
   dsimp only
   refine⟨?_,?_⟩
   ·simp only[pick,aV,a8,aQ,aR]
    refine aS rfl ?_ rfl
    go_wp2_with fail
    refine(Vo.out _ vw.out).mono ?_
    rintro e ED ⟨rfl,hb⟩
    try unfold zJ
    have zD:=aH (aM vw.out hb)
    have Np:=aH ((hb.block _ (aT Qr.out)).trans Qr.out)
    clear hb
    go_wp2_with fail
    refine⟨⟨⟨_,(eM.out _ zD.out)⟩,rfl⟩,?_⟩
    refine aS rfl ?_ rfl
    obtain⟨NF,yx,ajS,aoY⟩:=bG ED #[ay az 0,ay az 0,ay az 0] 125
    go_wp2_with fail
    have ajC:=aH (aM zD.out ajS.out)
    have Nn:=aH ((ajS.out.block _ (aT Np.out)).trans Np.out)
    refine⟨⟨⟨_,(eM.out _ ajC.out)⟩,rfl⟩,?_⟩
    refine aS rfl ?_ rfl
    have c3:∀j,NF.cell? ⟨y4.heap.size,j,ae⟩=(#[ay az 0,ay az 0,ay az 0,ay az 0,ay az 0,aC ah,aC ah,ay az 0]:Array ar)[j]?:=λj=>aZ j Nn.out
    have f3:∀j,NF.frozen? ⟨y4.heap.size,j,ae⟩=ah:=λj=>bQ j Nn.out
    have lw:y4.heap.size<NF.heap.size:=aT Nn.out
    go_wp2_with fail
    obtain⟨EC,TF⟩:=bP (((((((((NF.setCell ⟨y4.heap.size,0,ae⟩ (ay az fi)).setCell ⟨y4.heap.size,1,ae⟩ (ay az nx)).setCell ⟨y4.heap.size,2,ae⟩ (ay az du)).setCell ⟨y4.heap.size,3,ae⟩ (ay az 1)).setCell ⟨y4.heap.size,4,ae⟩ (ay az 1)).setCell ⟨y4.heap.size,5,ae⟩ (aC ah)).setCell ⟨y4.heap.size,6,ae⟩ (aC ah)).setCell ⟨y4.heap.size,7,ae⟩ (ay az 0)))
    have Ib:=aH (show Below w1.heap.size w1 EC from by rw[<-TF];exact qm ajC.out (tH.out.size))
    have aiQ:=aH (show EC.heap[y4.heap.size]?=ag (aG #[ay az fi,ay az nx,ay az du,ay az 1,ay az 1,aC ah,aC ah,ay az 0] 111 (0,0))from by rw[<-TF];exact qh fi nx du Nn.out)
    have Nc:=aH (show EC.heap[ED.heap.size]?=ag (aG #[ay az 0,ay az 0,ay az 0] 125 (0,0))from by rw[<-TF];exact qj (cM (show y4.heap.size<ED.heap.size from aT Np.out)) aoY.out)
    rw[TF]
    clear TF c3 f3 lw
    refine⟨⟨⟨_,(eM.out _ Ib.out)⟩,rfl⟩,?_⟩
    refine bF ?_
    unfold dh cC
    dsimp only
    clear dF qR
    change wpList _ _ _ _ _ _
    have c4:∀j,EC.cell? ⟨ED.heap.size,j,ae⟩=(#[ay az 0,ay az 0,ay az 0]:Array ar)[j]?:=λj=>aZ j Nc.out
    have f4:∀j,EC.frozen? ⟨ED.heap.size,j,ae⟩=ah:=λj=>bQ j Nc.out
    have lw:ED.heap.size<EC.heap.size:=aT Nc.out
    go_step
    go_step
    go_step
    go_step
    go_step
    go_step
    exact lI.out (((EC.setCell ⟨ED.heap.size,0,ae⟩ (ay az he)).setCell ⟨ED.heap.size,1,ae⟩ (ay az su)).setCell ⟨ED.heap.size,2,ae⟩ (ay az li)) (y4.heap.size) (ED.heap.size) _ _ _ _ _ _ _ _ _ _ _ _ _ _ _ _ _ _ _ _ _ _ _ _ _ _ _ _ _ _ _ _ _ _ _ _ _ _ _ _ _ _ _ _ _ _ _ _ _ _ _ _ _ _ _ _ _ _ _ _ _ _ _ _ _ _ _ _ (qp Ib.out (zD.out.size)) (qk (bR (show y4.heap.size<ED.heap.size from aT Np.out)) aiQ.out) (qi he su li Nc.out)
   ·simp only[pick,aV,a8,aQ,aR]
    refine aS rfl ?_ rfl
    obtain⟨y16,agQ,Qz,ai1⟩:=bG Ee #[ay az 0,ay az 0,ay az 0] 125
    go_wp2_with fail
    have zC:=aH (aM vw.out Qz.out)
    have abd:=aH ((Qz.out.block _ (aT Qr.out)).trans Qr.out)
    refine⟨⟨⟨_,(eM.out _ zC.out)⟩,rfl⟩,?_⟩
    refine aS rfl ?_ rfl
    go_wp2_with fail
    refine(Vo.out _ zC.out).mono ?_
    rintro e y17 ⟨rfl,hb⟩
    try unfold zJ
    have Aw:=aH (aM zC.out hb)
    have Nm:=aH ((hb.block _ (aT abd.out)).trans abd.out)
    have aiF:=aH ((hb.block _ (aT ai1.out)).trans ai1.out)
    clear hb
    go_wp2_with fail
    refine⟨⟨⟨_,(eM.out _ Aw.out)⟩,rfl⟩,?_⟩
    refine aS rfl ?_ rfl
    have c3:∀j,y17.cell? ⟨y4.heap.size,j,ae⟩=(#[ay az 0,ay az 0,ay az 0,ay az 0,ay az 0,aC ah,aC ah,ay az 0]:Array ar)[j]?:=λj=>aZ j Nm.out
    have f3:∀j,y17.frozen? ⟨y4.heap.size,j,ae⟩=ah:=λj=>bQ j Nm.out
    have lw:y4.heap.size<y17.heap.size:=aT Nm.out
    go_wp2_with fail
    obtain⟨QE,wL⟩:=bP (((((((((y17.setCell ⟨y4.heap.size,0,ae⟩ (ay az fi)).setCell ⟨y4.heap.size,1,ae⟩ (ay az nx)).setCell ⟨y4.heap.size,2,ae⟩ (ay az du)).setCell ⟨y4.heap.size,3,ae⟩ (ay az 1)).setCell ⟨y4.heap.size,4,ae⟩ (ay az 1)).setCell ⟨y4.heap.size,5,ae⟩ (aC ah)).setCell ⟨y4.heap.size,6,ae⟩ (aC ah)).setCell ⟨y4.heap.size,7,ae⟩ (ay az 0)))
    have ajB:=aH (show Below w1.heap.size w1 QE from by rw[<-wL];exact qm Aw.out (tH.out.size))
    have aiP:=aH (show QE.heap[y4.heap.size]?=ag (aG #[ay az fi,ay az nx,ay az du,ay az 1,ay az 1,aC ah,aC ah,ay az 0] 111 (0,0))from by rw[<-wL];exact qh fi nx du Nm.out)
    have Nb:=aH (show QE.heap[Ee.heap.size]?=ag (aG #[ay az 0,ay az 0,ay az 0] 125 (0,0))from by rw[<-wL];exact qj (cM (show y4.heap.size<Ee.heap.size from aT Qr.out)) aiF.out)
    rw[wL]
    clear wL c3 f3 lw
    refine⟨⟨⟨_,(eM.out _ ajB.out)⟩,rfl⟩,?_⟩
    refine bF ?_
    unfold dh cC
    dsimp only
    clear dF qR
    change wpList _ _ _ _ _ _
    have c4:∀j,QE.cell? ⟨Ee.heap.size,j,ae⟩=(#[ay az 0,ay az 0,ay az 0]:Array ar)[j]?:=λj=>aZ j Nb.out
    have f4:∀j,QE.frozen? ⟨Ee.heap.size,j,ae⟩=ah:=λj=>bQ j Nb.out
    have lw:Ee.heap.size<QE.heap.size:=aT Nb.out
    go_step
    go_step
    go_step
    go_step
    go_step
    go_step
    exact lI.out (((QE.setCell ⟨Ee.heap.size,0,ae⟩ (ay az he)).setCell ⟨Ee.heap.size,1,ae⟩ (ay az su)).setCell ⟨Ee.heap.size,2,ae⟩ (ay az li)) (y4.heap.size) (Ee.heap.size) _ _ _ _ _ _ _ _ _ _ _ _ _ _ _ _ _ _ _ _ _ _ _ _ _ _ _ _ _ _ _ _ _ _ _ _ _ _ _ _ _ _ _ _ _ _ _ _ _ _ _ _ _ _ _ _ _ _ _ _ _ _ _ _ _ _ _ _ (qp ajB.out (vw.out.size)) (qk (bR (show y4.heap.size<Ee.heap.size from aT Qr.out)) aiP.out) (qi he su li Nb.out)
  ·simp only[pick,aV,a8,aQ,aR]
   refine aS rfl ?_ rfl
   obtain⟨qK,avr,apY,Qq⟩:=bG y4 #[ay az 0,ay az 0,ay az 0] 125
   go_wp2_with fail
   have ux:=aH (aM tH.out apY.out)
   refine⟨⟨⟨_,(eM.out _ ux.out)⟩,rfl⟩,?_⟩
   refine bF ?_
   unfold dh cC
   dsimp only
   refine⟨?_,?_⟩
   ·simp only[pick,aV,a8,aQ,aR]
    refine aS rfl ?_ rfl
    go_wp2_with fail
    refine(Vo.out _ ux.out).mono ?_
    rintro e uD ⟨rfl,hb⟩
    try unfold zJ
    have Eb:=aH (aM ux.out hb)
    have Na:=aH ((hb.block _ (aT Qq.out)).trans Qq.out)
    clear hb
    go_wp2_with fail
    refine⟨⟨⟨_,(eM.out _ Eb.out)⟩,rfl⟩,?_⟩
    refine aS rfl ?_ rfl
    obtain⟨V8,agP,Qy,Zr⟩:=bG uD #[ay az 0,ay az 0,ay az 0,ay az 0,ay az 0,aC ah,aC ah,ay az 0] 111
    go_wp2_with fail
    have Av:=aH (aM Eb.out Qy.out)
    have aiE:=aH ((Qy.out.block _ (aT Na.out)).trans Na.out)
    refine⟨⟨⟨_,(eM.out _ Av.out)⟩,rfl⟩,?_⟩
    refine aS rfl ?_ rfl
    have c3:∀j,V8.cell? ⟨uD.heap.size,j,ae⟩=(#[ay az 0,ay az 0,ay az 0,ay az 0,ay az 0,aC ah,aC ah,ay az 0]:Array ar)[j]?:=λj=>aZ j Zr.out
    have f3:∀j,V8.frozen? ⟨uD.heap.size,j,ae⟩=ah:=λj=>bQ j Zr.out
    have lw:uD.heap.size<V8.heap.size:=aT Zr.out
    go_wp2_with fail
    obtain⟨V7,JA⟩:=bP (((((((((V8.setCell ⟨uD.heap.size,0,ae⟩ (ay az fi)).setCell ⟨uD.heap.size,1,ae⟩ (ay az nx)).setCell ⟨uD.heap.size,2,ae⟩ (ay az du)).setCell ⟨uD.heap.size,3,ae⟩ (ay az 1)).setCell ⟨uD.heap.size,4,ae⟩ (ay az 1)).setCell ⟨uD.heap.size,5,ae⟩ (aC ah)).setCell ⟨uD.heap.size,6,ae⟩ (aC ah)).setCell ⟨uD.heap.size,7,ae⟩ (ay az 0)))
    have Au:=aH (show Below w1.heap.size w1 V7 from by rw[<-JA];exact qm Av.out (Eb.out.size))
    have aiO:=aH (show V7.heap[uD.heap.size]?=ag (aG #[ay az fi,ay az nx,ay az du,ay az 1,ay az 1,aC ah,aC ah,ay az 0] 111 (0,0))from by rw[<-JA];exact qh fi nx du Zr.out)
    have M':=aH (show V7.heap[y4.heap.size]?=ag (aG #[ay az 0,ay az 0,ay az 0] 125 (0,0))from by rw[<-JA];exact qj (bR (show y4.heap.size<uD.heap.size from aT Na.out)) aiE.out)
    rw[JA]
    clear JA c3 f3 lw
    refine⟨⟨⟨_,(eM.out _ Au.out)⟩,rfl⟩,?_⟩
    refine bF ?_
    unfold dh cC
    dsimp only
    clear dF qR
    change wpList _ _ _ _ _ _
    have c4:∀j,V7.cell? ⟨y4.heap.size,j,ae⟩=(#[ay az 0,ay az 0,ay az 0]:Array ar)[j]?:=λj=>aZ j M'.out
    have f4:∀j,V7.frozen? ⟨y4.heap.size,j,ae⟩=ah:=λj=>bQ j M'.out
    have lw:y4.heap.size<V7.heap.size:=aT M'.out
    go_step
    go_step
    go_step
    go_step
    go_step
    go_step
    exact lI.out (((V7.setCell ⟨y4.heap.size,0,ae⟩ (ay az he)).setCell ⟨y4.heap.size,1,ae⟩ (ay az su)).setCell ⟨y4.heap.size,2,ae⟩ (ay az li)) (uD.heap.size) (y4.heap.size) _ _ _ _ _ _ _ _ _ _ _ _ _ _ _ _ _ _ _ _ _ _ _ _ _ _ _ _ _ _ _ _ _ _ _ _ _ _ _ _ _ _ _ _ _ _ _ _ _ _ _ _ _ _ _ _ _ _ _ _ _ _ _ _ _ _ _ _ (qp Au.out (tH.out.size)) (qk (cM (show y4.heap.size<uD.heap.size from aT Na.out)) aiO.out) (qi he su li M'.out)
   ·simp only[pick,aV,a8,aQ,aR]
    refine aS rfl ?_ rfl
    obtain⟨y23,Jy,ajR,ai0⟩:=bG qK #[ay az 0,ay az 0,ay az 0,ay az 0,ay az 0,aC ah,aC ah,ay az 0] 111
    go_wp2_with fail
    have aee:=aH (aM ux.out ajR.out)
    have aa9:=aH ((ajR.out.block _ (aT Qq.out)).trans Qq.out)
    refine⟨⟨⟨_,(eM.out _ aee.out)⟩,rfl⟩,?_⟩
    refine aS rfl ?_ rfl
    go_wp2_with fail
    refine(Vo.out _ aee.out).mono ?_
    rintro e IF ⟨rfl,hb⟩
    try unfold zJ
    have Ia:=aH (aM aee.out hb)
    have aiD:=aH ((hb.block _ (aT aa9.out)).trans aa9.out)
    have Nl:=aH ((hb.block _ (aT ai0.out)).trans ai0.out)
    clear hb
    go_wp2_with fail
    refine⟨⟨⟨_,(eM.out _ Ia.out)⟩,rfl⟩,?_⟩
    refine aS rfl ?_ rfl
    have c3:∀j,IF.cell? ⟨qK.heap.size,j,ae⟩=(#[ay az 0,ay az 0,ay az 0,ay az 0,ay az 0,aC ah,aC ah,ay az 0]:Array ar)[j]?:=λj=>aZ j Nl.out
    have f3:∀j,IF.frozen? ⟨qK.heap.size,j,ae⟩=ah:=λj=>bQ j Nl.out
    have lw:qK.heap.size<IF.heap.size:=aT Nl.out
    go_wp2_with fail
    obtain⟨Io,yw⟩:=bP (((((((((IF.setCell ⟨qK.heap.size,0,ae⟩ (ay az fi)).setCell ⟨qK.heap.size,1,ae⟩ (ay az nx)).setCell ⟨qK.heap.size,2,ae⟩ (ay az du)).setCell ⟨qK.heap.size,3,ae⟩ (ay az 1)).setCell ⟨qK.heap.size,4,ae⟩ (ay az 1)).setCell ⟨qK.heap.size,5,ae⟩ (aC ah)).setCell ⟨qK.heap.size,6,ae⟩ (aC ah)).setCell ⟨qK.heap.size,7,ae⟩ (ay az 0)))
    have At:=aH (show Below w1.heap.size w1 Io from by rw[<-yw];exact qm Ia.out (ux.out.size))
    have aiN:=aH (show Io.heap[qK.heap.size]?=ag (aG #[ay az fi,ay az nx,ay az du,ay az 1,ay az 1,aC ah,aC ah,ay az 0] 111 (0,0))from by rw[<-yw];exact qh fi nx du Nl.out)
    have MZ:=aH (show Io.heap[y4.heap.size]?=ag (aG #[ay az 0,ay az 0,ay az 0] 125 (0,0))from by rw[<-yw];exact qj (bR (show y4.heap.size<qK.heap.size from aT Qq.out)) aiD.out)
    rw[yw]
    clear yw c3 f3 lw
    refine⟨⟨⟨_,(eM.out _ At.out)⟩,rfl⟩,?_⟩
    refine bF ?_
    unfold dh cC
    dsimp only
    clear dF qR
    change wpList _ _ _ _ _ _
    have c4:∀j,Io.cell? ⟨y4.heap.size,j,ae⟩=(#[ay az 0,ay az 0,ay az 0]:Array ar)[j]?:=λj=>aZ j MZ.out
    have f4:∀j,Io.frozen? ⟨y4.heap.size,j,ae⟩=ah:=λj=>bQ j MZ.out
    have lw:y4.heap.size<Io.heap.size:=aT MZ.out
    go_step
    go_step
    go_step
    go_step
    go_step
    go_step
    exact lI.out (((Io.setCell ⟨y4.heap.size,0,ae⟩ (ay az he)).setCell ⟨y4.heap.size,1,ae⟩ (ay az su)).setCell ⟨y4.heap.size,2,ae⟩ (ay az li)) (qK.heap.size) (y4.heap.size) _ _ _ _ _ _ _ _ _ _ _ _ _ _ _ _ _ _ _ _ _ _ _ _ _ _ _ _ _ _ _ _ _ _ _ _ _ _ _ _ _ _ _ _ _ _ _ _ _ _ _ _ _ _ _ _ _ _ _ _ _ _ _ _ _ _ _ _ (qp At.out (tH.out.size)) (qk (cM (show y4.heap.size<qK.heap.size from aT Qq.out)) aiN.out) (qi he su li MZ.out)
 ·simp only[pick,aV,a8,aQ,aR]
  refine aS rfl ?_ rfl
  obtain⟨KV,agO,VO,H9⟩:=bG w1.drew #[ay az 0,ay az 0,ay az 0,ay az 0,ay az 0,aC ah,aC ah,ay az 0] 111
  go_wp2_with fail
  have vv:=aH (aM BD.out VO.out)
  refine⟨⟨⟨_,(eM.out _ vv.out)⟩,rfl⟩,?_⟩
  refine bF ?_
  unfold dh cC
  dsimp only
  refine⟨?_,?_⟩
  ·simp only[pick,aV,a8,aQ,aR]
   refine aS rfl ?_ rfl
   go_wp2_with fail
   refine(jS.out _ vv.out).mono ?_
   rintro e Im ⟨rfl,hb⟩
   try unfold zJ
   have VK:=aH (aM vv.out hb)
   have Bz:=aH ((hb.block _ (aT H9.out)).trans H9.out)
   clear hb
   go_wp2_with fail
   refine⟨⟨⟨_,(eM.out _ VK.out)⟩,rfl⟩,?_⟩
   refine bF ?_
   unfold dh cC
   dsimp only
   refine⟨?_,?_⟩
   ·simp only[pick,aV,a8,aQ,aR]
    refine aS rfl ?_ rfl
    go_wp2_with fail
    refine(Vo.out _ VK.out).mono ?_
    rintro e Re ⟨rfl,hb⟩
    try unfold zJ
    have aed:=aH (aM VK.out hb)
    have Nk:=aH ((hb.block _ (aT Bz.out)).trans Bz.out)
    clear hb
    go_wp2_with fail
    refine⟨⟨⟨_,(eM.out _ aed.out)⟩,rfl⟩,?_⟩
    refine aS rfl ?_ rfl
    obtain⟨y29,avq,ajQ,aoV⟩:=bG Re #[ay az 0,ay az 0,ay az 0] 125
    go_wp2_with fail
    have ajA:=aH (aM aed.out ajQ.out)
    have Nj:=aH ((ajQ.out.block _ (aT Nk.out)).trans Nk.out)
    refine⟨⟨⟨_,(eM.out _ ajA.out)⟩,rfl⟩,?_⟩
    refine aS rfl ?_ rfl
    have c3:∀j,y29.cell? ⟨w1.heap.size,j,ae⟩=(#[ay az 0,ay az 0,ay az 0,ay az 0,ay az 0,aC ah,aC ah,ay az 0]:Array ar)[j]?:=λj=>aZ j Nj.out
    have f3:∀j,y29.frozen? ⟨w1.heap.size,j,ae⟩=ah:=λj=>bQ j Nj.out
    have lw:w1.heap.size<y29.heap.size:=aT Nj.out
    go_wp2_with fail
    obtain⟨y30,TA⟩:=bP (((((((((y29.setCell ⟨w1.heap.size,0,ae⟩ (ay az fi)).setCell ⟨w1.heap.size,1,ae⟩ (ay az nx)).setCell ⟨w1.heap.size,2,ae⟩ (ay az du)).setCell ⟨w1.heap.size,3,ae⟩ (ay az 1)).setCell ⟨w1.heap.size,4,ae⟩ (ay az 1)).setCell ⟨w1.heap.size,5,ae⟩ (aC ah)).setCell ⟨w1.heap.size,6,ae⟩ (aC ah)).setCell ⟨w1.heap.size,7,ae⟩ (ay az 0)))
    have ajz:=aH (show Below w1.heap.size w1 y30 from by rw[<-TA];exact qm ajA.out (BD.out.size))
    have aiM:=aH (show y30.heap[w1.heap.size]?=ag (aG #[ay az fi,ay az nx,ay az du,ay az 1,ay az 1,aC ah,aC ah,ay az 0] 111 (0,0))from by rw[<-TA];exact qh fi nx du Nj.out)
    have MY:=aH (show y30.heap[Re.heap.size]?=ag (aG #[ay az 0,ay az 0,ay az 0] 125 (0,0))from by rw[<-TA];exact qj (cM (show w1.heap.size<Re.heap.size from aT Nk.out)) aoV.out)
    rw[TA]
    clear TA c3 f3 lw
    refine⟨⟨⟨_,(eM.out _ ajz.out)⟩,rfl⟩,?_⟩
    refine bF ?_
    unfold dh cC
    dsimp only
    clear dF qR
    change wpList _ _ _ _ _ _
    have c4:∀j,y30.cell? ⟨Re.heap.size,j,ae⟩=(#[ay az 0,ay az 0,ay az 0]:Array ar)[j]?:=λj=>aZ j MY.out
    have f4:∀j,y30.frozen? ⟨Re.heap.size,j,ae⟩=ah:=λj=>bQ j MY.out
    have lw:Re.heap.size<y30.heap.size:=aT MY.out
    go_step
    go_step
    go_step
    go_step
    go_step
    go_step
    exact lI.out (((y30.setCell ⟨Re.heap.size,0,ae⟩ (ay az he)).setCell ⟨Re.heap.size,1,ae⟩ (ay az su)).setCell ⟨Re.heap.size,2,ae⟩ (ay az li)) (w1.heap.size) (Re.heap.size) _ _ _ _ _ _ _ _ _ _ _ _ _ _ _ _ _ _ _ _ _ _ _ _ _ _ _ _ _ _ _ _ _ _ _ _ _ _ _ _ _ _ _ _ _ _ _ _ _ _ _ _ _ _ _ _ _ _ _ _ _ _ _ _ _ _ _ _ (qp ajz.out (aed.out.size)) (qk (bR (show w1.heap.size<Re.heap.size from aT Nk.out)) aiM.out) (qi he su li MY.out)
   ·simp only[pick,aV,a8,aQ,aR]
    refine aS rfl ?_ rfl
    obtain⟨y31,avp,ajO,aiZ⟩:=bG Im #[ay az 0,ay az 0,ay az 0] 125
    go_wp2_with fail
    have aec:=aH (aM VK.out ajO.out)
    have abc:=aH ((ajO.out.block _ (aT Bz.out)).trans Bz.out)
    refine⟨⟨⟨_,(eM.out _ aec.out)⟩,rfl⟩,?_⟩
    refine aS rfl ?_ rfl
    go_wp2_with fail
    refine(Vo.out _ aec.out).mono ?_
    rintro e y32 ⟨rfl,hb⟩
    try unfold zJ
    have ajy:=aH (aM aec.out hb)
    have Ni:=aH ((hb.block _ (aT abc.out)).trans abc.out)
    have aiC:=aH ((hb.block _ (aT aiZ.out)).trans aiZ.out)
    clear hb
    go_wp2_with fail
    refine⟨⟨⟨_,(eM.out _ ajy.out)⟩,rfl⟩,?_⟩
    refine aS rfl ?_ rfl
    have c3:∀j,y32.cell? ⟨w1.heap.size,j,ae⟩=(#[ay az 0,ay az 0,ay az 0,ay az 0,ay az 0,aC ah,aC ah,ay az 0]:Array ar)[j]?:=λj=>aZ j Ni.out
    have f3:∀j,y32.frozen? ⟨w1.heap.size,j,ae⟩=ah:=λj=>bQ j Ni.out
    have lw:w1.heap.size<y32.heap.size:=aT Ni.out
    go_wp2_with fail
    obtain⟨y33,Tz⟩:=bP (((((((((y32.setCell ⟨w1.heap.size,0,ae⟩ (ay az fi)).setCell ⟨w1.heap.size,1,ae⟩ (ay az nx)).setCell ⟨w1.heap.size,2,ae⟩ (ay az du)).setCell ⟨w1.heap.size,3,ae⟩ (ay az 1)).setCell ⟨w1.heap.size,4,ae⟩ (ay az 1)).setCell ⟨w1.heap.size,5,ae⟩ (aC ah)).setCell ⟨w1.heap.size,6,ae⟩ (aC ah)).setCell ⟨w1.heap.size,7,ae⟩ (ay az 0)))
    have ajx:=aH (show Below w1.heap.size w1 y33 from by rw[<-Tz];exact qm ajy.out (BD.out.size))
    have aiL:=aH (show y33.heap[w1.heap.size]?=ag (aG #[ay az fi,ay az nx,ay az du,ay az 1,ay az 1,aC ah,aC ah,ay az 0] 111 (0,0))from by rw[<-Tz];exact qh fi nx du Ni.out)
    have MV:=aH (show y33.heap[Im.heap.size]?=ag (aG #[ay az 0,ay az 0,ay az 0] 125 (0,0))from by rw[<-Tz];exact qj (cM (show w1.heap.size<Im.heap.size from aT Bz.out)) aiC.out)
    rw[Tz]
    clear Tz c3 f3 lw
    refine⟨⟨⟨_,(eM.out _ ajx.out)⟩,rfl⟩,?_⟩
    refine bF ?_
    unfold dh cC
    dsimp only
    clear dF qR
    change wpList _ _ _ _ _ _
    have c4:∀j,y33.cell? ⟨Im.heap.size,j,ae⟩=(#[ay az 0,ay az 0,ay az 0]:Array ar)[j]?:=λj=>aZ j MV.out
    have f4:∀j,y33.frozen? ⟨Im.heap.size,j,ae⟩=ah:=λj=>bQ j MV.out
    have lw:Im.heap.size<y33.heap.size:=aT MV.out
    go_step
    go_step
    go_step
    go_step
    go_step
    go_step
    exact lI.out (((y33.setCell ⟨Im.heap.size,0,ae⟩ (ay az he)).setCell ⟨Im.heap.size,1,ae⟩ (ay az su)).setCell ⟨Im.heap.size,2,ae⟩ (ay az li)) (w1.heap.size) (Im.heap.size) _ _ _ _ _ _ _ _ _ _ _ _ _ _ _ _ _ _ _ _ _ _ _ _ _ _ _ _ _ _ _ _ _ _ _ _ _ _ _ _ _ _ _ _ _ _ _ _ _ _ _ _ _ _ _ _ _ _ _ _ _ _ _ _ _ _ _ _ (qp ajx.out (VK.out.size)) (qk (bR (show w1.heap.size<Im.heap.size from aT Bz.out)) aiL.out) (qi he su li MV.out)
  ·simp only[pick,aV,a8,aQ,aR]
   refine aS rfl ?_ rfl
   obtain⟨y34,avo,ajN,aiY⟩:=bG KV #[ay az 0,ay az 0,ay az 0] 125
   go_wp2_with fail
   have aeb:=aH (aM vv.out ajN.out)
   have abb:=aH ((ajN.out.block _ (aT H9.out)).trans H9.out)
   refine⟨⟨⟨_,(eM.out _ aeb.out)⟩,rfl⟩,?_⟩
   refine aS rfl ?_ rfl
   go_wp2_with fail
   refine(jS.out _ aeb.out).mono ?_
   rintro e y35 ⟨rfl,hb⟩
   try unfold zJ
   have aea:=aH (aM aeb.out hb)
   have aba:=aH ((hb.block _ (aT abb.out)).trans abb.out)
   have aa8:=aH ((hb.block _ (aT aiY.out)).trans aiY.out)
   clear hb
   go_wp2_with fail
   refine⟨⟨⟨_,(eM.out _ aea.out)⟩,rfl⟩,?_⟩
   refine aS rfl ?_ rfl
   go_wp2_with fail
   refine(Vo.out _ aea.out).mono ?_
   rintro e y36 ⟨rfl,hb⟩
   try unfold zJ
   have ajw:=aH (aM aea.out hb)
   have Nh:=aH ((hb.block _ (aT aba.out)).trans aba.out)
   have aiB:=aH ((hb.block _ (aT aa8.out)).trans aa8.out)
   clear hb
   go_wp2_with fail
   refine⟨⟨⟨_,(eM.out _ ajw.out)⟩,rfl⟩,?_⟩
   refine aS rfl ?_ rfl
   have c3:∀j,y36.cell? ⟨w1.heap.size,j,ae⟩=(#[ay az 0,ay az 0,ay az 0,ay az 0,ay az 0,aC ah,aC ah,ay az 0]:Array ar)[j]?:=λj=>aZ j Nh.out
   have f3:∀j,y36.frozen? ⟨w1.heap.size,j,ae⟩=ah:=λj=>bQ j Nh.out
   have lw:w1.heap.size<y36.heap.size:=aT Nh.out
   go_wp2_with fail
   obtain⟨y37,Ty⟩:=bP (((((((((y36.setCell ⟨w1.heap.size,0,ae⟩ (ay az fi)).setCell ⟨w1.heap.size,1,ae⟩ (ay az nx)).setCell ⟨w1.heap.size,2,ae⟩ (ay az du)).setCell ⟨w1.heap.size,3,ae⟩ (ay az 1)).setCell ⟨w1.heap.size,4,ae⟩ (ay az 1)).setCell ⟨w1.heap.size,5,ae⟩ (aC ah)).setCell ⟨w1.heap.size,6,ae⟩ (aC ah)).setCell ⟨w1.heap.size,7,ae⟩ (ay az 0)))
   have ajv:=aH (show Below w1.heap.size w1 y37 from by rw[<-Ty];exact qm ajw.out (BD.out.size))
   have aiK:=aH (show y37.heap[w1.heap.size]?=ag (aG #[ay az fi,ay az nx,ay az du,ay az 1,ay az 1,aC ah,aC ah,ay az 0] 111 (0,0))from by rw[<-Ty];exact qh fi nx du Nh.out)
   have MU:=aH (show y37.heap[KV.heap.size]?=ag (aG #[ay az 0,ay az 0,ay az 0] 125 (0,0))from by rw[<-Ty];exact qj (cM (show w1.heap.size<KV.heap.size from aT H9.out)) aiB.out)
   rw[Ty]
   clear Ty c3 f3 lw
   refine⟨⟨⟨_,(eM.out _ ajv.out)⟩,rfl⟩,?_⟩
   refine bF ?_
   unfold dh cC
   dsimp only
   clear dF qR
   change wpList _ _ _ _ _ _
   have c4:∀j,y37.cell? ⟨KV.heap.size,j,ae⟩=(#[ay az 0,ay az 0,ay az 0]:Array ar)[j]?:=λj=>aZ j MU.out
   have f4:∀j,y37.frozen? ⟨KV.heap.size,j,ae⟩=ah:=λj=>bQ j MU.out
   have lw:KV.heap.size<y37.heap.size:=aT MU.out
   go_step
   go_step
   go_step
   go_step
   go_step
   go_step
   exact lI.out (((y37.setCell ⟨KV.heap.size,0,ae⟩ (ay az he)).setCell ⟨KV.heap.size,1,ae⟩ (ay az su)).setCell ⟨KV.heap.size,2,ae⟩ (ay az li)) (w1.heap.size) (KV.heap.size) _ _ _ _ _ _ _ _ _ _ _ _ _ _ _ _ _ _ _ _ _ _ _ _ _ _ _ _ _ _ _ _ _ _ _ _ _ _ _ _ _ _ _ _ _ _ _ _ _ _ _ _ _ _ _ _ _ _ _ _ _ _ _ _ _ _ _ _ (qp ajv.out (vv.out.size)) (qk (bR (show w1.heap.size<KV.heap.size from aT H9.out)) aiK.out) (qi he su li MU.out)
 ·simp only[pick,aV,a8,aQ,aR]
  refine aS rfl ?_ rfl
  obtain⟨Il,avn,apV,Qp⟩:=bG w1.drew #[ay az 0,ay az 0,ay az 0] 125
  go_wp2_with fail
  have VJ:=aH (aM BD.out apV.out)
  refine⟨⟨⟨_,(eM.out _ VJ.out)⟩,rfl⟩,?_⟩
  refine bF ?_
  unfold dh cC
  dsimp only
  refine⟨?_,?_⟩
  ·simp only[pick,aV,a8,aQ,aR]
   refine aS rfl ?_ rfl
   go_wp2_with fail
   refine(jS.out _ VJ.out).mono ?_
   rintro e Ik ⟨rfl,hb⟩
   try unfold zJ
   have VI:=aH (aM VJ.out hb)
   have Bx:=aH ((hb.block _ (aT Qp.out)).trans Qp.out)
   clear hb
   go_wp2_with fail
   refine⟨⟨⟨_,(eM.out _ VI.out)⟩,rfl⟩,?_⟩
   refine bF ?_
   unfold dh cC
   dsimp only
   refine⟨?_,?_⟩
   ·simp only[pick,aV,a8,aQ,aR]
    refine aS rfl ?_ rfl
    go_wp2_with fail
    refine(Vo.out _ VI.out).mono ?_
    rintro e Ij ⟨rfl,hb⟩
    try unfold zJ
    have ad':=aH (aM VI.out hb)
    have MT:=aH ((hb.block _ (aT Bx.out)).trans Bx.out)
    clear hb
    go_wp2_with fail
    refine⟨⟨⟨_,(eM.out _ ad'.out)⟩,rfl⟩,?_⟩
    refine aS rfl ?_ rfl
    obtain⟨y41,avm,ajM,Zq⟩:=bG Ij #[ay az 0,ay az 0,ay az 0,ay az 0,ay az 0,aC ah,aC ah,ay az 0] 111
    go_wp2_with fail
    have aju:=aH (aM ad'.out ajM.out)
    have aiA:=aH ((ajM.out.block _ (aT MT.out)).trans MT.out)
    refine⟨⟨⟨_,(eM.out _ aju.out)⟩,rfl⟩,?_⟩
    refine aS rfl ?_ rfl
    have c3:∀j,y41.cell? ⟨Ij.heap.size,j,ae⟩=(#[ay az 0,ay az 0,ay az 0,ay az 0,ay az 0,aC ah,aC ah,ay az 0]:Array ar)[j]?:=λj=>aZ j Zq.out
    have f3:∀j,y41.frozen? ⟨Ij.heap.size,j,ae⟩=ah:=λj=>bQ j Zq.out
    have lw:Ij.heap.size<y41.heap.size:=aT Zq.out
    go_wp2_with fail
    obtain⟨y42,Tx⟩:=bP (((((((((y41.setCell ⟨Ij.heap.size,0,ae⟩ (ay az fi)).setCell ⟨Ij.heap.size,1,ae⟩ (ay az nx)).setCell ⟨Ij.heap.size,2,ae⟩ (ay az du)).setCell ⟨Ij.heap.size,3,ae⟩ (ay az 1)).setCell ⟨Ij.heap.size,4,ae⟩ (ay az 1)).setCell ⟨Ij.heap.size,5,ae⟩ (aC ah)).setCell ⟨Ij.heap.size,6,ae⟩ (aC ah)).setCell ⟨Ij.heap.size,7,ae⟩ (ay az 0)))
    have ajt:=aH (show Below w1.heap.size w1 y42 from by rw[<-Tx];exact qm aju.out (ad'.out.size))
    have aiJ:=aH (show y42.heap[Ij.heap.size]?=ag (aG #[ay az fi,ay az nx,ay az du,ay az 1,ay az 1,aC ah,aC ah,ay az 0] 111 (0,0))from by rw[<-Tx];exact qh fi nx du Zq.out)
    have MR:=aH (show y42.heap[w1.heap.size]?=ag (aG #[ay az 0,ay az 0,ay az 0] 125 (0,0))from by rw[<-Tx];exact qj (bR (show w1.heap.size<Ij.heap.size from aT MT.out)) aiA.out)
    rw[Tx]
    clear Tx c3 f3 lw
    refine⟨⟨⟨_,(eM.out _ ajt.out)⟩,rfl⟩,?_⟩
    refine bF ?_
    unfold dh cC
    dsimp only
    clear dF qR
    change wpList _ _ _ _ _ _
    have c4:∀j,y42.cell? ⟨w1.heap.size,j,ae⟩=(#[ay az 0,ay az 0,ay az 0]:Array ar)[j]?:=λj=>aZ j MR.out
    have f4:∀j,y42.frozen? ⟨w1.heap.size,j,ae⟩=ah:=λj=>bQ j MR.out
    have lw:w1.heap.size<y42.heap.size:=aT MR.out
    go_step
    go_step
    go_step
    go_step
    go_step
    go_step
    exact lI.out (((y42.setCell ⟨w1.heap.size,0,ae⟩ (ay az he)).setCell ⟨w1.heap.size,1,ae⟩ (ay az su)).setCell ⟨w1.heap.size,2,ae⟩ (ay az li)) (Ij.heap.size) (w1.heap.size) _ _ _ _ _ _ _ _ _ _ _ _ _ _ _ _ _ _ _ _ _ _ _ _ _ _ _ _ _ _ _ _ _ _ _ _ _ _ _ _ _ _ _ _ _ _ _ _ _ _ _ _ _ _ _ _ _ _ _ _ _ _ _ _ _ _ _ _ (qp ajt.out (BD.out.size)) (qk (cM (show w1.heap.size<Ij.heap.size from aT MT.out)) aiJ.out) (qi he su li MR.out)
   ·simp only[pick,aV,a8,aQ,aR]
    refine aS rfl ?_ rfl
    obtain⟨y43,avl,ajL,aiX⟩:=bG Ik #[ay az 0,ay az 0,ay az 0,ay az 0,ay az 0,aC ah,aC ah,ay az 0] 111
    go_wp2_with fail
    have ad9:=aH (aM VI.out ajL.out)
    have aa7:=aH ((ajL.out.block _ (aT Bx.out)).trans Bx.out)
    refine⟨⟨⟨_,(eM.out _ ad9.out)⟩,rfl⟩,?_⟩
    refine aS rfl ?_ rfl
    go_wp2_with fail
    refine(Vo.out _ ad9.out).mono ?_
    rintro e y44 ⟨rfl,hb⟩
    try unfold zJ
    have ajs:=aH (aM ad9.out hb)
    have aiz:=aH ((hb.block _ (aT aa7.out)).trans aa7.out)
    have Ng:=aH ((hb.block _ (aT aiX.out)).trans aiX.out)
    clear hb
    go_wp2_with fail
    refine⟨⟨⟨_,(eM.out _ ajs.out)⟩,rfl⟩,?_⟩
    refine aS rfl ?_ rfl
    have c3:∀j,y44.cell? ⟨Ik.heap.size,j,ae⟩=(#[ay az 0,ay az 0,ay az 0,ay az 0,ay az 0,aC ah,aC ah,ay az 0]:Array ar)[j]?:=λj=>aZ j Ng.out
    have f3:∀j,y44.frozen? ⟨Ik.heap.size,j,ae⟩=ah:=λj=>bQ j Ng.out
    have lw:Ik.heap.size<y44.heap.size:=aT Ng.out
    go_wp2_with fail
    obtain⟨y45,Tw⟩:=bP (((((((((y44.setCell ⟨Ik.heap.size,0,ae⟩ (ay az fi)).setCell ⟨Ik.heap.size,1,ae⟩ (ay az nx)).setCell ⟨Ik.heap.size,2,ae⟩ (ay az du)).setCell ⟨Ik.heap.size,3,ae⟩ (ay az 1)).setCell ⟨Ik.heap.size,4,ae⟩ (ay az 1)).setCell ⟨Ik.heap.size,5,ae⟩ (aC ah)).setCell ⟨Ik.heap.size,6,ae⟩ (aC ah)).setCell ⟨Ik.heap.size,7,ae⟩ (ay az 0)))
    have ajr:=aH (show Below w1.heap.size w1 y45 from by rw[<-Tw];exact qm ajs.out (VI.out.size))
    have aiI:=aH (show y45.heap[Ik.heap.size]?=ag (aG #[ay az fi,ay az nx,ay az du,ay az 1,ay az 1,aC ah,aC ah,ay az 0] 111 (0,0))from by rw[<-Tw];exact qh fi nx du Ng.out)
    have MQ:=aH (show y45.heap[w1.heap.size]?=ag (aG #[ay az 0,ay az 0,ay az 0] 125 (0,0))from by rw[<-Tw];exact qj (bR (show w1.heap.size<Ik.heap.size from aT Bx.out)) aiz.out)
    rw[Tw]
    clear Tw c3 f3 lw
    refine⟨⟨⟨_,(eM.out _ ajr.out)⟩,rfl⟩,?_⟩
    refine bF ?_
    unfold dh cC
    dsimp only
    clear dF qR
    change wpList _ _ _ _ _ _
    have c4:∀j,y45.cell? ⟨w1.heap.size,j,ae⟩=(#[ay az 0,ay az 0,ay az 0]:Array ar)[j]?:=λj=>aZ j MQ.out
    have f4:∀j,y45.frozen? ⟨w1.heap.size,j,ae⟩=ah:=λj=>bQ j MQ.out
    have lw:w1.heap.size<y45.heap.size:=aT MQ.out
    go_step
    go_step
    go_step
    go_step
    go_step
    go_step
    exact lI.out (((y45.setCell ⟨w1.heap.size,0,ae⟩ (ay az he)).setCell ⟨w1.heap.size,1,ae⟩ (ay az su)).setCell ⟨w1.heap.size,2,ae⟩ (ay az li)) (Ik.heap.size) (w1.heap.size) _ _ _ _ _ _ _ _ _ _ _ _ _ _ _ _ _ _ _ _ _ _ _ _ _ _ _ _ _ _ _ _ _ _ _ _ _ _ _ _ _ _ _ _ _ _ _ _ _ _ _ _ _ _ _ _ _ _ _ _ _ _ _ _ _ _ _ _ (qp ajr.out (BD.out.size)) (qk (cM (show w1.heap.size<Ik.heap.size from aT Bx.out)) aiI.out) (qi he su li MQ.out)
  ·simp only[pick,aV,a8,aQ,aR]
   refine aS rfl ?_ rfl
   obtain⟨y46,avk,ajK,aiW⟩:=bG Il #[ay az 0,ay az 0,ay az 0,ay az 0,ay az 0,aC ah,aC ah,ay az 0] 111
   go_wp2_with fail
   have ad8:=aH (aM VJ.out ajK.out)
   have aa6:=aH ((ajK.out.block _ (aT Qp.out)).trans Qp.out)
   refine⟨⟨⟨_,(eM.out _ ad8.out)⟩,rfl⟩,?_⟩
   refine aS rfl ?_ rfl
   go_wp2_with fail
   refine(jS.out _ ad8.out).mono ?_
   rintro e y47 ⟨rfl,hb⟩
   try unfold zJ
   have ad7:=aH (aM ad8.out hb)
   have aa5:=aH ((hb.block _ (aT aa6.out)).trans aa6.out)
   have aa':=aH ((hb.block _ (aT aiW.out)).trans aiW.out)
   clear hb
   go_wp2_with fail
   refine⟨⟨⟨_,(eM.out _ ad7.out)⟩,rfl⟩,?_⟩
   refine aS rfl ?_ rfl
   go_wp2_with fail
   refine(Vo.out _ ad7.out).mono ?_
   rintro e y48 ⟨rfl,hb⟩
   try unfold zJ
   have ajq:=aH (aM ad7.out hb)
   have aiy:=aH ((hb.block _ (aT aa5.out)).trans aa5.out)
   have Nf:=aH ((hb.block _ (aT aa'.out)).trans aa'.out)
   clear hb
   go_wp2_with fail
   refine⟨⟨⟨_,(eM.out _ ajq.out)⟩,rfl⟩,?_⟩
   refine aS rfl ?_ rfl
   have c3:∀j,y48.cell? ⟨Il.heap.size,j,ae⟩=(#[ay az 0,ay az 0,ay az 0,ay az 0,ay az 0,aC ah,aC ah,ay az 0]:Array ar)[j]?:=λj=>aZ j Nf.out
   have f3:∀j,y48.frozen? ⟨Il.heap.size,j,ae⟩=ah:=λj=>bQ j Nf.out
   have lw:Il.heap.size<y48.heap.size:=aT Nf.out
   go_wp2_with fail
   obtain⟨y49,Tv⟩:=bP (((((((((y48.setCell ⟨Il.heap.size,0,ae⟩ (ay az fi)).setCell ⟨Il.heap.size,1,ae⟩ (ay az nx)).setCell ⟨Il.heap.size,2,ae⟩ (ay az du)).setCell ⟨Il.heap.size,3,ae⟩ (ay az 1)).setCell ⟨Il.heap.size,4,ae⟩ (ay az 1)).setCell ⟨Il.heap.size,5,ae⟩ (aC ah)).setCell ⟨Il.heap.size,6,ae⟩ (aC ah)).setCell ⟨Il.heap.size,7,ae⟩ (ay az 0)))
   have ajp:=aH (show Below w1.heap.size w1 y49 from by rw[<-Tv];exact qm ajq.out (VJ.out.size))
   have aiH:=aH (show y49.heap[Il.heap.size]?=ag (aG #[ay az fi,ay az nx,ay az du,ay az 1,ay az 1,aC ah,aC ah,ay az 0] 111 (0,0))from by rw[<-Tv];exact qh fi nx du Nf.out)
   have MP:=aH (show y49.heap[w1.heap.size]?=ag (aG #[ay az 0,ay az 0,ay az 0] 125 (0,0))from by rw[<-Tv];exact qj (bR (show w1.heap.size<Il.heap.size from aT Qp.out)) aiy.out)
   rw[Tv]
   clear Tv c3 f3 lw
   refine⟨⟨⟨_,(eM.out _ ajp.out)⟩,rfl⟩,?_⟩
   refine bF ?_
   unfold dh cC
   dsimp only
   clear dF qR
   change wpList _ _ _ _ _ _
   have c4:∀j,y49.cell? ⟨w1.heap.size,j,ae⟩=(#[ay az 0,ay az 0,ay az 0]:Array ar)[j]?:=λj=>aZ j MP.out
   have f4:∀j,y49.frozen? ⟨w1.heap.size,j,ae⟩=ah:=λj=>bQ j MP.out
   have lw:w1.heap.size<y49.heap.size:=aT MP.out
   go_step
   go_step
   go_step
   go_step
   go_step
   go_step
   exact lI.out (((y49.setCell ⟨w1.heap.size,0,ae⟩ (ay az he)).setCell ⟨w1.heap.size,1,ae⟩ (ay az su)).setCell ⟨w1.heap.size,2,ae⟩ (ay az li)) (Il.heap.size) (w1.heap.size) _ _ _ _ _ _ _ _ _ _ _ _ _ _ _ _ _ _ _ _ _ _ _ _ _ _ _ _ _ _ _ _ _ _ _ _ _ _ _ _ _ _ _ _ _ _ _ _ _ _ _ _ _ _ _ _ _ _ _ _ _ _ _ _ _ _ _ _ (qp ajp.out (BD.out.size)) (qk (cM (show w1.heap.size<Il.heap.size from aT Qp.out)) aiH.out) (qi he su li MP.out)
end
end
end Go.Proofs.YtooinenkenobaaaGreat

/- A part of the proof of what LawWholeReaders says. -/
import Derived.Test.YtooinenkenobaaaGreatAa
import Derived.Test.YtooinenkenobaaaGreatCm
import Derived.Test.YtooinenkenobaaaGreatBl
set_option maxRecDepth 100000
set_option maxHeartbeats 20000000
namespace Go.Proofs.YtooinenkenobaaaGreat
open Option renaming none->ae,some->ag
open Bool renaming false->ah,true->aj
open Go.Proofs.Tryz renaming prog->ax
open Go.Value renaming int->ay,pointer->aA,slice->aB,bool->aC,float->aD
open Go.IntKind renaming i64->az
open Go.FloatKind renaming f64->aE
open Go.Ending renaming returned->aF
open Go.Obj renaming cells->aG
open Go renaming World->am,Value->ar,TypeId->au,Calls->aw
section
open Go.RowKit Go.Maps
theorem ik{w:am}{q:Nat}{L:List ar}{t:au}(h:w.heap[q]?=ag (.cells L.toArray t (0,0))):∀j u,L[j]?=ag u->w.cell? ((⟨q,0,ae⟩:Addr).add j)=ag u:=λj u a=>by
 rw[show(⟨q,0,ae⟩:Addr).add j=⟨q,j,ae⟩by unfold Addr.add;split <;> simp_all,aZ _ h,oK]
 exact a
theorem yh{w:am}{b:Nat}{t:au}{a c d e f i j k l m:ar}(h:w.heap[b]?=ag (aG #[ay az 0,ay az 0,ay az 0,ay az 0,aB ae 0 0,ay az 0,ay az 0,aB ae 0 0,ay az 0,ay az 0] t (0,0))):((((((((((w.setCell ⟨b,0,ae⟩ (a)).setCell ⟨b,1,ae⟩ (c)).setCell ⟨b,2,ae⟩ (d)).setCell ⟨b,3,ae⟩ (e)).setCell ⟨b,4,ae⟩ (f)).setCell ⟨b,5,ae⟩ (i)).setCell ⟨b,6,ae⟩ (j)).setCell ⟨b,7,ae⟩ (k)).setCell ⟨b,8,ae⟩ (l)).setCell ⟨b,9,ae⟩ (m)).heap[b]?=ag (aG #[a,c,d,e,f,i,j,k,l,m] t (0,0)):=by
 have n:(w.setCell ⟨b,0,ae⟩ (a)).heap[b]?=ag (aG #[a,ay az 0,ay az 0,ay az 0,aB ae 0 0,ay az 0,ay az 0,aB ae 0 0,ay az 0,ay az 0] t (0,0)):=bE h 0 _
 have o:((w.setCell ⟨b,0,ae⟩ (a)).setCell ⟨b,1,ae⟩ (c)).heap[b]?=ag (aG #[a,c,ay az 0,ay az 0,aB ae 0 0,ay az 0,ay az 0,aB ae 0 0,ay az 0,ay az 0] t (0,0)):=bE n 1 _
 have p:(((w.setCell ⟨b,0,ae⟩ (a)).setCell ⟨b,1,ae⟩ (c)).setCell ⟨b,2,ae⟩ (d)).heap[b]?=ag (aG #[a,c,d,ay az 0,aB ae 0 0,ay az 0,ay az 0,aB ae 0 0,ay az 0,ay az 0] t (0,0)):=bE o 2 _
 have q:((((w.setCell ⟨b,0,ae⟩ (a)).setCell ⟨b,1,ae⟩ (c)).setCell ⟨b,2,ae⟩ (d)).setCell ⟨b,3,ae⟩ (e)).heap[b]?=ag (aG #[a,c,d,e,aB ae 0 0,ay az 0,ay az 0,aB ae 0 0,ay az 0,ay az 0] t (0,0)):=bE p 3 _
 have r:(((((w.setCell ⟨b,0,ae⟩ (a)).setCell ⟨b,1,ae⟩ (c)).setCell ⟨b,2,ae⟩ (d)).setCell ⟨b,3,ae⟩ (e)).setCell ⟨b,4,ae⟩ (f)).heap[b]?=ag (aG #[a,c,d,e,f,ay az 0,ay az 0,aB ae 0 0,ay az 0,ay az 0] t (0,0)):=bE q 4 _
 have s:((((((w.setCell ⟨b,0,ae⟩ (a)).setCell ⟨b,1,ae⟩ (c)).setCell ⟨b,2,ae⟩ (d)).setCell ⟨b,3,ae⟩ (e)).setCell ⟨b,4,ae⟩ (f)).setCell ⟨b,5,ae⟩ (i)).heap[b]?=ag (aG #[a,c,d,e,f,i,ay az 0,aB ae 0 0,ay az 0,ay az 0] t (0,0)):=bE r 5 _
 have u:(((((((w.setCell ⟨b,0,ae⟩ (a)).setCell ⟨b,1,ae⟩ (c)).setCell ⟨b,2,ae⟩ (d)).setCell ⟨b,3,ae⟩ (e)).setCell ⟨b,4,ae⟩ (f)).setCell ⟨b,5,ae⟩ (i)).setCell ⟨b,6,ae⟩ (j)).heap[b]?=ag (aG #[a,c,d,e,f,i,j,aB ae 0 0,ay az 0,ay az 0] t (0,0)):=bE s 6 _
 have x:((((((((w.setCell ⟨b,0,ae⟩ (a)).setCell ⟨b,1,ae⟩ (c)).setCell ⟨b,2,ae⟩ (d)).setCell ⟨b,3,ae⟩ (e)).setCell ⟨b,4,ae⟩ (f)).setCell ⟨b,5,ae⟩ (i)).setCell ⟨b,6,ae⟩ (j)).setCell ⟨b,7,ae⟩ (k)).heap[b]?=ag (aG #[a,c,d,e,f,i,j,k,ay az 0,ay az 0] t (0,0)):=bE u 7 _
 have y:(((((((((w.setCell ⟨b,0,ae⟩ (a)).setCell ⟨b,1,ae⟩ (c)).setCell ⟨b,2,ae⟩ (d)).setCell ⟨b,3,ae⟩ (e)).setCell ⟨b,4,ae⟩ (f)).setCell ⟨b,5,ae⟩ (i)).setCell ⟨b,6,ae⟩ (j)).setCell ⟨b,7,ae⟩ (k)).setCell ⟨b,8,ae⟩ (l)).heap[b]?=ag (aG #[a,c,d,e,f,i,j,k,l,ay az 0] t (0,0)):=bE x 8 _
 have z:((((((((((w.setCell ⟨b,0,ae⟩ (a)).setCell ⟨b,1,ae⟩ (c)).setCell ⟨b,2,ae⟩ (d)).setCell ⟨b,3,ae⟩ (e)).setCell ⟨b,4,ae⟩ (f)).setCell ⟨b,5,ae⟩ (i)).setCell ⟨b,6,ae⟩ (j)).setCell ⟨b,7,ae⟩ (k)).setCell ⟨b,8,ae⟩ (l)).setCell ⟨b,9,ae⟩ (m)).heap[b]?=ag (aG #[a,c,d,e,f,i,j,k,l,m] t (0,0)):=bE y 9 _
 exact z
theorem yl{B b:Nat}{a w:am}(h:Below B a w)(c:B<=b){d e f i j k l m n o:ar}:Below B a ((((((((((w.setCell ⟨b,0,ae⟩ (d)).setCell ⟨b,1,ae⟩ (e)).setCell ⟨b,2,ae⟩ (f)).setCell ⟨b,3,ae⟩ (i)).setCell ⟨b,4,ae⟩ (j)).setCell ⟨b,5,ae⟩ (k)).setCell ⟨b,6,ae⟩ (l)).setCell ⟨b,7,ae⟩ (m)).setCell ⟨b,8,ae⟩ (n)).setCell ⟨b,9,ae⟩ (o)):=
 bK (bK (bK (bK (bK (bK (bK (bK (bK (bK h c _) c _) c _) c _) c _) c _) c _) c _) c _) c _
section
variable{w:am}{g:Tg}{K:dw}{S:jR}{P:eG}{picks:List Int}{W:iw}{R:si}{L:List uC}
theorem Rm(X:am)(H:mu X g K S P picks W R L)(h:fy K W.E){n b b3 b4:Nat}{t:jb}{l:List fu}{a:fu}(da:Option Addr)(dn dc:Nat){Q:Exit->Act->am->Prop}{u1 u2 u5 u6 u7 u8 u9 u10 u11 u12 u13 u14 u15 u16 u17 u18 u19 u20 u21 u22 u23 u24 u25 u26 u27 u28 u29 u30 u31 u32 u33 u34 u35 u36 u37 u38 u39 u40 u41 u42 u43 u44 u45 u46 u47 u48 u49 u50 u51 u52 u53 u54 u55 u56 u57 u58 u59 u60 u61 u62 u63 u64 u65 u66 u67 u68 u69 u70 u71 u72 u73 u74 u75 u76 u77 u78 u79 u80 u81 u82 u83 u84 u85 u86 u87 u88 u89 u90 u91 u92 u93 u94 u95 u96 u97 u98 u99 u100 u101 u102 u103 u104 u105 u106 u107 u108 u109 u110 u111 u112 u113 u114:ar}(hb:R.tb[n]?=ag b)(ht:W.ts[n]?=ag t)(hl:P[n]?=ag l)(ha:l[t.next]?=ag a)(hk:((a.kind=1\/a.kind=2)/\a.lsn=0)\/(a.kind=5/\K.b0<=a.lsn/\a.data=[]))
 (r3:Row X g 0 b3 #[ay az a.kind,ay az a.lsn,aB da dn dc] 50) (r4:Row X g 0 b4 #[ay az n,ay az t.next,ay az a.kind,ay az a.lsn,aB da dn dc,ay az 0,ay az 0,aB ae 0 0,ay az ((2*W.turns.length:Nat):Int),ay az 0] 56) (hs:oN X g (aB da dn dc) a.data)
 (ry:a.data.length<=100000) (Ud:W.E.act.length<4096) (Wy:W.E.cs.length<=100000) (wO:W.cJ.length<=100000) (kA:t.next<=100000) (hP:∀(c:List PanicEntry) (a:Act) (d:Option Tmp) (v:ar) (w:am),Q (.panic c) (a.put d v) w->Q (.panic c) a w)
 (hQ:∀(wd:am) (x1 x5 x6 x7 x8 x9 Rg EG Wo ZY ZW Wn ZV ZT ZS ZR Rf Ip ZQ ZO ZK ZJ x26 x27 x28 x29 x30 x31 x32 x33 x34 x35 x36 x37 x38 x39 x40 x41 x42 x43 x44 x45 x46 x47 x48 x49 x50 x51 x52 x53 x54 x55 x56 x57 Wm Wl Wk Wj Wi Wh Wg Wf We Wc Wb Wa V' V9 x72 x73 x74 x75 x76 x77 x78 x79 x80 x81 x82 x83 x84 x85 x86 x87 x88 x89 x90 x91 x92 x93 x94 x95 x96 x97 x98 x99 afW afV afU afT afS afR afQ afP afO afN afM afL afK afJ afI:ar) g' R' L',Ch [50,51,52,70,72,80+n] g X g' wd->mu wd g' K S P picks (fN P W n) R' L'->R'.sb=R.sb/\R'.tb=R.tb/\R'.eb=R.eb/\R'.db=R.db->Q .ret ⟨#[aA (ag ⟨b,0,ae⟩),x1,aC aj,aA (ag ⟨b3,0,ae⟩),aA (ag ⟨b4,0,ae⟩),x5,x6,x7,x8,x9,Rg,EG,Wo,ZY,ZW,Wn,ZV,ZT,ZS,ZR,Rf,Ip,ZQ,ZO,ZK,ZJ,x26,x27,x28,x29,x30,x31,x32,x33,x34,x35,x36,x37,x38,x39,x40,x41,x42,x43,x44,x45,x46,x47,x48,x49,x50,x51,x52,x53,x54,x55,x56,x57,Wm,Wl,Wk,Wj,Wi,Wh,Wg,Wf,We,Wc,Wb,Wa,V',V9,x72,x73,x74,x75,x76,x77,x78,x79,x80,x81,x82,x83,x84,x85,x86,x87,x88,x89,x90,x91,x92,x93,x94,x95,x96,x97,x98,x99,afW,afV,afU,afT,afS,afR,afQ,afP,afO,afN,afM,afL,afK,afJ,afI],[]⟩ wd):
 (lD Tryz.f212 4).wp ax Q ⟨#[aA (ag ⟨b,0,ae⟩),u1,u2,aA (ag ⟨b3,0,ae⟩),aA (ag ⟨b4,0,ae⟩),u5,u6,u7,u8,u9,u10,u11,u12,u13,u14,u15,u16,u17,u18,u19,u20,u21,u22,u23,u24,u25,u26,u27,u28,u29,u30,u31,u32,u33,u34,u35,u36,u37,u38,u39,u40,u41,u42,u43,u44,u45,u46,u47,u48,u49,u50,u51,u52,u53,u54,u55,u56,u57,u58,u59,u60,u61,u62,u63,u64,u65,u66,u67,u68,u69,u70,u71,u72,u73,u74,u75,u76,u77,u78,u79,u80,u81,u82,u83,u84,u85,u86,u87,u88,u89,u90,u91,u92,u93,u94,u95,u96,u97,u98,u99,u100,u101,u102,u103,u104,u105,u106,u107,u108,u109,u110,u111,u112,u113,u114],[]⟩ X:=by
 have HQ:=aH hQ
 have HP:=aH hP
 have Gt:n<16:=by have:=(aK.1 hb).1;have:=H.zI;have:=H.FU;omega
 have r:=H.Eg n b t hb ht
 obtain⟨sb,js⟩:=bP R.sb
 obtain⟨eb,oC⟩:=bP R.eb
 obtain⟨nx,Ys⟩:=bP t.next
 obtain⟨kd,Es⟩:=bP (((a.kind:Nat):Int):Int)
 obtain⟨ls,Gu⟩:=bP (((a.lsn:Nat):Int):Int)
 obtain⟨bg,hbg⟩:=bP (((2*W.turns.length:Nat):Int):Int)
 have iC:=aH (And.intro js (And.intro oC (And.intro Ys (And.intro Es (And.intro Gu hbg)))))
 have Nr:=aH (And.intro ry (And.intro Ud (And.intro Wy (And.intro wO Gt))))
 have Ay:=aH (And.intro hb (And.intro ht (And.intro hl (And.intro ha hk))))
 have nx1:nx<=100000:=by omega
 rw[Es,Gu]at r3 r4
 rw[hbg,Ys]at r4
 have t2:X.cell? ⟨b,2,ae⟩=ag (ay az nx):=by rw[r.cell 2,<-Ys];rfl
 have f2:=r.free 2
 have HH:=aH H
 have OK:=aH h
 have R3:=aH r3
 have R4:=aH r4
 have SD:=aH hs
 have RB:=aH r
 clear hQ hP Gt js oC Ys Es Gu hbg H h hb ht hl ha hk r3 r4 hs r ry Ud Wy wO kA
 conv=>arg 2;whnf
 go_wp2_with fail
 obtain⟨x1,Ir⟩:=bP (X.setCell ⟨b,2,ae⟩ (ay az ((nx:Int)+1)))
 have C1:=aH (show Ch [80+n] g X g x1 from by rw[<-Ir];exact(Ch.refl _ _ _).set _ (.inl (by rw[RB.out.tag];simp)))
 have B1:=aH (show Row x1 g (80+n) b #[aA (ag ⟨R.sb,0,ae⟩),ay az n,ay az ((nx:Int)+1),ay az (idI t.id),ay az t.kJ] 102 from by rw[<-Ir];exact RB.out.set 2 _)
 have NE:=aH (show ∀z∈TE,z∉[80+n]from λz hz hm=>by simp only[cR,dK,iG]at hz hm;omega)
 have E1:=aH (HH.out.GM.ch C1.out NE.out)
 have S1:=aH (HH.out.row.ch C1.out (by simp;omega))
 have U3:=aH (R3.out.ch C1.out (by simp;omega))
 have U4:=aH (R4.out.ch C1.out (by simp;omega))
 have SD1:=aH (SD.out.ch C1.out (by simp;omega))
 rw[Ir]
 clear Ir t2 f2
 have Nx:=aH (Y0 R.eb R.db W.E R.cb a da dn dc x1.drew g (E1.out.low (bi x1)) OK.out HH.out.Zb Ay.out.2.2.2.2 (SD1.out.ch (Ch.bh [] g (bi x1)) (by decide)) Nr.out.1 Nr.out.2.1 Nr.out.2.2.1)
 obtain⟨idz,Pb⟩:=bP ((W.E.cs.length:Int)+1:Int)
 rw[iC.out.2.1,iC.out.2.2.2.1,iC.out.2.2.2.2.1,Pb]at Nx
 have eM:=aH (show ∀y g',Ch [50,51,52] g x1 g' y->y.cell? ⟨b,0,ae⟩=ag (aA (ag ⟨sb,0,ae⟩))/\y.cell? ⟨sb,15,ae⟩=ag (aA (ag ⟨eb,0,ae⟩))/\y.cell? ⟨b3,0,ae⟩=ag (ay az kd)/\y.cell? ⟨b3,1,ae⟩=ag (ay az ls)/\y.cell? ⟨b3,2,ae⟩=ag (aB da dn dc)from λy g' c=>by
  have a1:=B1.out.ch c (by simp;omega)
  have a2:=S1.out.ch c (by decide)
  have a3:=U3.out.ch c (by decide)
  rw[<-iC.out.1,<-iC.out.2.1]
  exact⟨a1.cell 0,a2.cell 15,a3.cell 0,a3.cell 1,a3.cell 2⟩)
 have FI1:=eM.out x1 g (Ch.refl _ _ _)
 have qR:∀p:In (λw'=>w'.cell? ⟨b,0,ae⟩=ag (aA (ag ⟨sb,0,ae⟩))/\w'.cell? ⟨sb,15,ae⟩=ag (aA (ag ⟨eb,0,ae⟩))/\w'.cell? ⟨b3,0,ae⟩=ag (ay az kd)/\w'.cell? ⟨b3,1,ae⟩=ag (ay az ls)/\w'.cell? ⟨b3,2,ae⟩=ag (aB da dn dc)),p.w.cell? ⟨b,0,ae⟩=ag (aA (ag ⟨sb,0,ae⟩))/\p.w.cell? ⟨sb,15,ae⟩=ag (aA (ag ⟨eb,0,ae⟩))/\p.w.cell? ⟨b3,0,ae⟩=ag (ay az kd)/\p.w.cell? ⟨b3,1,ae⟩=ag (ay az ls)/\p.w.cell? ⟨b3,2,ae⟩=ag (aB da dn dc):=λp=>p.h
 refine bX [0,1,2,3,4,5,6,7,8,9,10,11,12,13] (λw'=>w'.cell? ⟨b,0,ae⟩=ag (aA (ag ⟨sb,0,ae⟩))/\w'.cell? ⟨sb,15,ae⟩=ag (aA (ag ⟨eb,0,ae⟩))/\w'.cell? ⟨b3,0,ae⟩=ag (ay az kd)/\w'.cell? ⟨b3,1,ae⟩=ag (ay az ls)/\w'.cell? ⟨b3,2,ae⟩=ag (aB da dn dc)) (by kernel_rfl) (by kernel_rfl) (λc a d v w h=>HP.out c a d v w h) FI1 ?_
 intro dF
 simp only[pick,aV,a8,aQ,aR]
 refine aX 8 (by kernel_rfl) ?_
 simp only[aJ,aO,aI,aL]
 repeat (go_big_quiet_step (fail))
 refine aU ?_
 refine aS rfl ?_ rfl
 go_wp2_with fail
 refine Nx.out.mono ?_
 rintro e w2 ⟨rfl,g2,q,c2,e2⟩
 have C2:=aH (show Ch [50,51,52] g x1 g2 w2 from(Ch.bh [50,51,52] g (bi x1)).trans c2)
 have E2:=aH e2
 clear c2 e2 FI1
 go_wp2_with fail
 refine⟨⟨⟨_,eM.out w2 g2 C2.out⟩,rfl⟩,?_⟩
 refine aX 5 (by kernel_rfl) ?_
 simp only[aJ,aO,aI,aL]
 repeat (go_big_quiet_step (fail))
 refine aU ?_
 refine bF ?_
 clear dF qR
 have B2:=aH (B1.out.ch C2.out (by simp;omega))
 have S2:=aH (S1.out.ch C2.out (by decide))
 have U42:=aH (U4.out.ch C2.out (by decide))
 have P2:=aH ((HH.out.Jg.ch C1.out (by simp;omega)).ch C2.out (by decide))
 obtain⟨pa,pc,uV,-⟩:=P2.out.own.shape
 obtain⟨np,Gp⟩:=bP L.length
 rw[Gp]at uV
 have NPH:=aH (show np=W.cJ.length from by rw[<-Gp];exact HH.out.Ei)
 have b0:w2.cell? ⟨b,0,ae⟩=ag (aA (ag ⟨sb,0,ae⟩)):=by rw[<-iC.out.1];exact B2.out.cell 0
 have b3':=B2.out.cell 3
 have b4':=B2.out.cell 4
 have fb3:=B2.out.free 3
 have fb4:=B2.out.free 4
 have s20:w2.cell? ⟨sb,20,ae⟩=ag (aB pa np pc):=by rw[<-iC.out.1,<-uV];exact S2.out.cell 20
 have EPV:=aH uV
 clear uV Gp
 go_wp2_with fail
 obtain⟨x3,En⟩:=bP ((w2.setCell ⟨b,3,ae⟩ (ay az idz)).setCell ⟨b,4,ae⟩ (ay az np))
 have C3:=aH (show Ch [80+n] g2 w2 g2 x3 from by rw[<-En];exact((Ch.refl _ _ _).set _ (.inl (by rw[B2.out.tag];simp))).set _ (.inl (by rw[B2.out.tag];simp)))
 have B3:=aH (show Row x3 g2 (80+n) b (Rt R.sb n ⟨t.next+1,ag W.E.cs.length,W.cJ.length⟩) 102 from by
  rw[<-En,<-NPH.out,<-Pb]
  have e:=(B2.out.set 3 (ay az ((W.E.cs.length:Int)+1))).set 4 (ay az np)
  rw[<-iC.out.2.2.1]at e
  exact e)
 have S3:=aH (S2.out.ch C3.out (by simp;omega))
 have U43:=aH (U42.out.ch C3.out (by simp;omega))
 have P3:=aH (P2.out.ch C3.out (by simp;omega))
 have E3:=aH (E2.out.ch C3.out NE.out)
 rw[En]
 clear En b0 b3' b4' fb3 fb4 s20
 obtain⟨xt,hxt⟩:=bP ((⟨n,nx,kd,ls,(da,dn,dc),0,0,(ae,0,0),bg,0⟩:uC):uC)
 have XTL:=aH (show IP xt=[ay az n,ay az nx,ay az kd,ay az ls,aB da dn dc,ay az 0,ay az 0,aB ae 0 0,ay az bg,ay az 0]from by rw[<-hxt];rfl)
 have FI3:=aH (show ∀y g' T,Ch T g2 x3 g' y->80+n∉T->70∉T->0∉T->y.cell? ⟨b,0,ae⟩=ag (aA (ag ⟨sb,0,ae⟩))/\y.cell? ⟨sb,20,ae⟩=ag (aB pa np pc)/\y.cell? ⟨b4,0,ae⟩=ag (ay az n)/\y.cell? ⟨b4,1,ae⟩=ag (ay az nx)/\y.cell? ⟨b4,2,ae⟩=ag (ay az kd)/\y.cell? ⟨b4,3,ae⟩=ag (ay az ls)/\y.cell? ⟨b4,4,ae⟩=ag (aB da dn dc)/\y.cell? ⟨b4,5,ae⟩=ag (ay az 0)/\y.cell? ⟨b4,6,ae⟩=ag (ay az 0)/\y.cell? ⟨b4,7,ae⟩=ag (aB ae 0 0)/\y.cell? ⟨b4,8,ae⟩=ag (ay az bg)/\y.cell? ⟨b4,9,ae⟩=ag (ay az 0)from λy g' T c h1 h2 h3=>by
  have a1:=B3.out.ch c h1
  have a2:=S3.out.ch c h2
  have a4:=U43.out.ch c h3
  rw[<-iC.out.1,<-EPV.out]
  exact⟨a1.cell 0,a2.cell 20,a4.cell 0,a4.cell 1,a4.cell 2,a4.cell 3,a4.cell 4,a4.cell 5,a4.cell 6,a4.cell 7,a4.cell 8,a4.cell 9⟩)
 have ajl:=FI3.out x3 g2 [] (Ch.refl _ _ _) (by simp) (by simp) (by simp)
 have qR:∀p:In (λw'=>w'.cell? ⟨b,0,ae⟩=ag (aA (ag ⟨sb,0,ae⟩))/\w'.cell? ⟨sb,20,ae⟩=ag (aB pa np pc)/\w'.cell? ⟨b4,0,ae⟩=ag (ay az n)/\w'.cell? ⟨b4,1,ae⟩=ag (ay az nx)/\w'.cell? ⟨b4,2,ae⟩=ag (ay az kd)/\w'.cell? ⟨b4,3,ae⟩=ag (ay az ls)/\w'.cell? ⟨b4,4,ae⟩=ag (aB da dn dc)/\w'.cell? ⟨b4,5,ae⟩=ag (ay az 0)/\w'.cell? ⟨b4,6,ae⟩=ag (ay az 0)/\w'.cell? ⟨b4,7,ae⟩=ag (aB ae 0 0)/\w'.cell? ⟨b4,8,ae⟩=ag (ay az bg)/\w'.cell? ⟨b4,9,ae⟩=ag (ay az 0)),p.w.cell? ⟨b,0,ae⟩=ag (aA (ag ⟨sb,0,ae⟩))/\p.w.cell? ⟨sb,20,ae⟩=ag (aB pa np pc)/\p.w.cell? ⟨b4,0,ae⟩=ag (ay az n)/\p.w.cell? ⟨b4,1,ae⟩=ag (ay az nx)/\p.w.cell? ⟨b4,2,ae⟩=ag (ay az kd)/\p.w.cell? ⟨b4,3,ae⟩=ag (ay az ls)/\p.w.cell? ⟨b4,4,ae⟩=ag (aB da dn dc)/\p.w.cell? ⟨b4,5,ae⟩=ag (ay az 0)/\p.w.cell? ⟨b4,6,ae⟩=ag (ay az 0)/\p.w.cell? ⟨b4,7,ae⟩=ag (aB ae 0 0)/\p.w.cell? ⟨b4,8,ae⟩=ag (ay az bg)/\p.w.cell? ⟨b4,9,ae⟩=ag (ay az 0):=λp=>p.h
 refine ct [0,1,2,3,4,5,6,7,8,9,10,11,12,13,14,15,16,17] 18 (λw'=>w'.cell? ⟨b,0,ae⟩=ag (aA (ag ⟨sb,0,ae⟩))/\w'.cell? ⟨sb,20,ae⟩=ag (aB pa np pc)/\w'.cell? ⟨b4,0,ae⟩=ag (ay az n)/\w'.cell? ⟨b4,1,ae⟩=ag (ay az nx)/\w'.cell? ⟨b4,2,ae⟩=ag (ay az kd)/\w'.cell? ⟨b4,3,ae⟩=ag (ay az ls)/\w'.cell? ⟨b4,4,ae⟩=ag (aB da dn dc)/\w'.cell? ⟨b4,5,ae⟩=ag (ay az 0)/\w'.cell? ⟨b4,6,ae⟩=ag (ay az 0)/\w'.cell? ⟨b4,7,ae⟩=ag (aB ae 0 0)/\w'.cell? ⟨b4,8,ae⟩=ag (ay az bg)/\w'.cell? ⟨b4,9,ae⟩=ag (ay az 0)) (by kernel_rfl) (by kernel_rfl) (λc a d v w h=>HP.out c a d v w h) ajl ?_
 intro dF
 simp only[pick,aV,a8,aQ,aR,aI,aL]
 refine aX 13 (by kernel_rfl) ?_
 simp only[aJ,aO,aI,aL]
 repeat (go_big_quiet_step (fail))
 refine aU ?_
 obtain⟨w4,Pa,zP,IB⟩:=bG x3.drew #[ay az n,ay az nx,ay az kd,ay az ls,aB da dn dc,ay az 0,ay az 0,aB ae 0 0,ay az bg,ay az 0] 56
 refine aS rfl ?_ rfl
 go_wp2_with fail
 have B4:=aH (aM (bi x3) zP.out)
 have C4:=aH (Ch.bh [] g2 B4.out)
 refine⟨⟨⟨_,FI3.out w4 g2 [] C4.out (by simp) (by simp) (by simp)⟩,rfl⟩,?_⟩
 have CN:=aH (show ∀j u,(IP xt)[j]?=ag u->w4.cell? ((⟨x3.heap.size,0,ae⟩:Addr).add j)=ag u from ik (by rw[XTL.out];exact IB.out))
 have P4:=aH (P3.out.ch C4.out (by simp))
 have O4:=aH (show fC IP 56 10 w4 (aB pa np pc) L from by rw[<-EPV.out];exact P4.out.own)
 have OT:=aH (show ∀q',(Value.slice pa np pc).ownBlock=ag q'->g2 q'=72/\q'<x3.heap.size from λq' hq=>by rw[<-EPV.out]at hq;exact⟨P3.out.tag q' hq,P3.out.own.lt q' hq⟩)
 have LL:=aH (show L.length<=1000000 from by have:=NPH.out;have:=HH.out.Ei;have:=Nr.out.2.2.2.1;omega)
 clear ajl
 refine aS rfl ?_ rfl
 go_wp2_with (at_builtin;refine cY (o:=⟨ag 109,_,_,_,_,_⟩) rfl _ _ 38 56 rfl Tryz.underlying38 Tryz.Tr rfl (by decide) (by decide) IP mC Xk _ L rfl O4.out ⟨x3.heap.size,0,ae⟩ xt rfl CN.out LL.out ?_)
 intro v6 w6 o6 gr6 i6
 obtain⟨a6,c6,rfl,-⟩:=o6.shape
 obtain⟨l6,Ue⟩:=bP ((L++[xt]).length)
 have O6:=aH o6
 have I6:=aH i6
 rw[Ue]at O6 I6 ⊢
 have C6:=aH (show Ch [72] g2 x3 g2 w6 from(C4.out.any).grown gr6 (λq' hq=>.inl (by rw[(OT.out q' hq.symm.symm).1];simp)))
 clear o6 gr6 i6 Ue
 go_wp2_with fail
 refine⟨⟨⟨_,FI3.out w6 g2 [72] C6.out (by simp;omega) (by simp) (by simp)⟩,rfl⟩,?_⟩
 refine aX 3 (by kernel_rfl) ?_
 simp only[aJ,aO,aI,aL]
 repeat (go_big_quiet_step (fail))
 refine aU ?_
 refine bF ?_
 clear dF qR
 change wpList _ _ _ _ _ _
 have S6:=aH (S3.out.ch C6.out (by decide))
 have s20:w6.cell? ⟨sb,20,ae⟩=ag (aB pa np pc):=by rw[<-iC.out.1,<-EPV.out];exact S6.out.cell 20
 have f20:w6.frozen? ⟨sb,20,ae⟩=ah:=by rw[<-iC.out.1];exact S6.out.free 20
 go_wp2_with fail
 obtain⟨g7,Iw⟩:=bP (eJ g2 x3.heap.size 72)
 have iR:∀q',q'<x3.heap.size->g7 q'=g2 q':=λq' hq=>by rw[<-Iw];exact dU hq
 have js:=iC.out.1
 have c7:Ch [70,72] g2 x3 g7 (w6.setCell ⟨sb,20,ae⟩ (aB a6 l6 c6)):=((C6.out.mono (by decide)).set _ (.inl (by rw[<-js,S3.out.tag];decide))).gE iR
 have all:Ch [50,51,52,70,72,80+n] g X g7 (w6.setCell ⟨sb,20,ae⟩ (aB a6 l6 c6)):=((C1.out.mono (by simp)).trans ((C2.out.mono (by simp)).trans (C3.out.mono (by simp)))).trans (c7.mono (by simp))
 have nb:∀q',(Value.slice a6 l6 c6).ownBlock=ag q'->q'≠sb/\g7 q'=72:=λq' hq=>by
  rcases I6.out q' hq with e | e
  ·obtain⟨e1,e2⟩:=OT.out q' e
   refine⟨λe3=>?_,(iR q' e2).trans e1⟩
   have:=S3.out.tag
   rw[js,<-e3,e1]at this
   exact absurd this (by decide)
  ·have e':x3.heap.size<=q':=bJ B4.out.size e
   have:=S3.out.lt
   rw[js]at this
   exact⟨by omega,by rw[<-Iw];exact dQ e'⟩
 refine HQ.out _ _ _ _ _ _ _ _ _ _ _ _ _ _ _ _ _ _ _ _ _ _ _ _ _ _ _ _ _ _ _ _ _ _ _ _ _ _ _ _ _ _ _ _ _ _ _ _ _ _ _ _ _ _ _ _ _ _ _ _ _ _ _ _ _ _ _ _ _ _ _ _ _ _ _ _ _ _ _ _ _ _ _ _ _ _ _ _ _ _ _ _ _ _ _ _ _ _ _ _ _ _ _ _ _ _ _ _ _ _ _ _ g7 _ _ all (HH.out.ahT (q:=q) (x:=xt) (pav:=aB a6 l6 c6) Ay.out.1 Ay.out.2.1 Ay.out.2.2.1 Ay.out.2.2.2.1 all ?_ (by have e:=E3.out.ch c7 (by decide);rw[iC.out.2.1];exact e) (B3.out.ch c7 (by simp;omega)) ?_ ?_) ⟨rfl,rfl,rfl,rfl⟩
 ·have e:=(S6.out.set 20 (aB a6 l6 c6)).gE (g':=g7) (iR _ S3.out.lt)
  rw[js]at e ⊢
  exact e
 ·exact⟨O6.out.same λq' hq=>bD (nb q' hq).1,λq' hq=>(nb q' hq).2⟩
 ·have sd:=(((SD1.out.ch C2.out (by decide)).ch C3.out (by simp;omega)).ch c7 (by decide))
  rw[<-hxt]
  exact⟨rfl,by show(nx:Int)=_;rw[<-iC.out.2.2.1],iC.out.2.2.2.1.symm,iC.out.2.2.2.2.1.symm,rfl,rfl,iC.out.2.2.2.2.2.symm,rfl,sd,oN.nil _ _⟩
theorem Xe(H:mu w g K S P picks W R L)(h:fy K W.E){n b:Nat}{t:jb}{l:List fu}{a:fu}(hb:R.tb[n]?=ag b)(ht:W.ts[n]?=ag t)(hl:P[n]?=ag l)(ha:l[t.next]?=ag a)(hk:((a.kind=1\/a.kind=2)/\a.lsn=0)\/(a.kind=5/\K.b0<=a.lsn/\a.data=[]))(ry:a.data.length<=100000)(Ud:W.E.act.length<4096)(Wy:W.E.cs.length<=100000)(Ba:W.turns.length<=100000)(wO:W.cJ.length<=100000)(Mc:l.length<=100000):
 aw ax 212 #[aA (ag ⟨b,0,ae⟩)] w λe w'=>e=aF (aC aj)/\∃g' R' L',Ch [50,51,52,70,72,80+n] g w g' w'/\mu w' g' K S P picks (fN P W n) R' L'/\R'.sb=R.sb/\R'.tb=R.tb/\R'.eb=R.eb/\R'.db=R.db:=by
 have Gt:n<16:=by have:=(aK.1 hb).1;have:=H.zI;have:=H.FU;omega
 obtain⟨ta,tc,Bj,kta⟩:=H.ask.ex
 obtain⟨tq,Fb,lv,rfl,tqg,tql,clv,al⟩:=kta n l hl
 obtain⟨la,lc,rfl,kla⟩:=al.ex
 obtain⟨lq,r8,dv,rfl,lqg,lql,ck,cl,cd,sd⟩:=kla t.next a ha
 obtain⟨da,dc,rfl,-⟩:=sd.ex
 obtain⟨sb,js⟩:=bP R.sb
 obtain⟨eb,oC⟩:=bP R.eb
 obtain⟨np,Gp⟩:=bP P.length
 obtain⟨ln,yC⟩:=bP l.length
 obtain⟨dn,wQ⟩:=bP a.data.length
 obtain⟨nx,kA⟩:=bP t.next
 obtain⟨kd,Es⟩:=bP (((a.kind:Nat):Int):Int)
 obtain⟨ls,Gu⟩:=bP (((a.lsn:Nat):Int):Int)
 have r:=H.Eg n b t hb ht
 have i1:(n:Int)<(np:Int):=by have:=(aK.1 hl).1;omega
 have i2:(nx:Int)<(ln:Int):=by have:=(aK.1 ha).1;omega
 have i3:nx<=100000:=by omega
 rw[Gp]at Bj
 rw[yC]at clv
 rw[kA,Es]at ck
 rw[kA,Gu]at cl
 rw[kA,wQ]at cd
 rw[wQ]at sd
 have eM:=aH (show ∀x,Below w.heap.size w x->x.cell? ⟨b,0,ae⟩=ag (aA (ag ⟨sb,0,ae⟩))/\x.cell? ⟨b,1,ae⟩=ag (ay az n)/\x.cell? ⟨b,2,ae⟩=ag (ay az nx)/\x.cell? ⟨sb,10,ae⟩=ag (aB (ag ⟨tq,Fb,ae⟩) np tc)/\x.cell? ⟨tq,Fb+n,ae⟩=ag (aB (ag ⟨lq,r8,ae⟩) ln lc)/\x.cell? ⟨lq,r8+nx*3,ae⟩=ag (ay az kd)/\x.cell? ⟨lq,r8+nx*3+1,ae⟩=ag (ay az ls)/\x.cell? ⟨lq,r8+nx*3+2,ae⟩=ag (aB da dn dc)/\x.cell? ⟨sb,15,ae⟩=ag (aA (ag ⟨eb,0,ae⟩))from λx hx=>by
  have r2:=r.below hx
  have s2:=H.row.below hx
  rw[<-js,<-oC,<-kA]
  refine⟨r2.cell 0,r2.cell 1,r2.cell 2,?_,(cm (hx.block tq tql)).trans clv,?_,?_,?_,s2.cell 15⟩
  ·have:=s2.cell 10;rw[<-Bj];exact this
  ·rw[kA];exact(cm (hx.block lq lql)).trans ck
  ·rw[kA];exact(cm (hx.block lq lql)).trans cl
  ·rw[kA];exact(cm (hx.block lq lql)).trans cd)
 have HH:=aH H
 have OK:=aH h
 have Ay:=aH (And.intro hb (And.intro ht (And.intro hl (And.intro ha hk))))
 have Nr:=aH (And.intro ry (And.intro Ud (And.intro Wy (And.intro Ba wO))))
 have iC:=aH (And.intro js (And.intro oC (And.intro wQ (And.intro kA (And.intro Es Gu)))))
 have SD:=aH sd
 have FD:=aH (eM.out w.drew (bi w))
 clear H h hb ht hl ha hk ry Ud Wy Ba wO Mc Gt Bj kta tqg tql clv al kla lqg lql ck cl cd sd r js oC Gp yC wQ kA Es Gu
 go_in
 go_wp2_with fail
 have qR:∀p:In (λw'=>w'.cell? ⟨b,0,ae⟩=ag (aA (ag ⟨sb,0,ae⟩))/\w'.cell? ⟨b,1,ae⟩=ag (ay az n)/\w'.cell? ⟨b,2,ae⟩=ag (ay az nx)/\w'.cell? ⟨sb,10,ae⟩=ag (aB (ag ⟨tq,Fb,ae⟩) np tc)/\w'.cell? ⟨tq,Fb+n,ae⟩=ag (aB (ag ⟨lq,r8,ae⟩) ln lc)/\w'.cell? ⟨lq,r8+nx*3,ae⟩=ag (ay az kd)/\w'.cell? ⟨lq,r8+nx*3+1,ae⟩=ag (ay az ls)/\w'.cell? ⟨lq,r8+nx*3+2,ae⟩=ag (aB da dn dc)/\w'.cell? ⟨sb,15,ae⟩=ag (aA (ag ⟨eb,0,ae⟩))),p.w.cell? ⟨b,0,ae⟩=ag (aA (ag ⟨sb,0,ae⟩))/\p.w.cell? ⟨b,1,ae⟩=ag (ay az n)/\p.w.cell? ⟨b,2,ae⟩=ag (ay az nx)/\p.w.cell? ⟨sb,10,ae⟩=ag (aB (ag ⟨tq,Fb,ae⟩) np tc)/\p.w.cell? ⟨tq,Fb+n,ae⟩=ag (aB (ag ⟨lq,r8,ae⟩) ln lc)/\p.w.cell? ⟨lq,r8+nx*3,ae⟩=ag (ay az kd)/\p.w.cell? ⟨lq,r8+nx*3+1,ae⟩=ag (ay az ls)/\p.w.cell? ⟨lq,r8+nx*3+2,ae⟩=ag (aB da dn dc)/\p.w.cell? ⟨sb,15,ae⟩=ag (aA (ag ⟨eb,0,ae⟩)):=λp=>p.h
 refine ct [0,1,2,3,4,5,6,7,8,9,10,11,12,13,14,15,16,17,18,19,20] 21 (λw'=>w'.cell? ⟨b,0,ae⟩=ag (aA (ag ⟨sb,0,ae⟩))/\w'.cell? ⟨b,1,ae⟩=ag (ay az n)/\w'.cell? ⟨b,2,ae⟩=ag (ay az nx)/\w'.cell? ⟨sb,10,ae⟩=ag (aB (ag ⟨tq,Fb,ae⟩) np tc)/\w'.cell? ⟨tq,Fb+n,ae⟩=ag (aB (ag ⟨lq,r8,ae⟩) ln lc)/\w'.cell? ⟨lq,r8+nx*3,ae⟩=ag (ay az kd)/\w'.cell? ⟨lq,r8+nx*3+1,ae⟩=ag (ay az ls)/\w'.cell? ⟨lq,r8+nx*3+2,ae⟩=ag (aB da dn dc)/\w'.cell? ⟨sb,15,ae⟩=ag (aA (ag ⟨eb,0,ae⟩))) (by kernel_rfl) (by kernel_rfl) (by intro c a d v w h;cases d <;> exact h) FD.out ?_
 intro dF
 simp only[pick,aV,a8,aQ,aR,aI,aL]
 refine aX 20 (by kernel_rfl) ?_
 simp only[aJ,aO,aI,aL]
 repeat (go_big_quiet_step (fail))
 refine aU ?_
 obtain⟨w1,gv,dJ,dL⟩:=bG w.drew #[ay az 0,ay az 0,aB ae 0 0] 50
 refine aS rfl ?_ rfl
 go_wp2_with fail
 have B1:=aH (aM (bi w) dJ.out)
 refine⟨⟨⟨_,eM.out _ B1.out⟩,rfl⟩,?_⟩
 refine bF ?_
 clear dF qR
 change wpList _ _ _ _ _ _
 have wd:w.drew.heap.size=w.heap.size:=rfl
 have N1:=aH (show w1.heap[w.heap.size]?=ag (aG #[ay az 0,ay az 0,aB ae 0 0] 50 (0,0))from dL.out)
 have k1:=eH N1.out
 have BX:=aH (show Below w.heap.size w (((w1.setCell ⟨w.heap.size,0,ae⟩ (ay az kd)).setCell ⟨w.heap.size,1,ae⟩ (ay az ls)).setCell ⟨w.heap.size,2,ae⟩ (aB da dn dc))from bK (bK (bK B1.out dx _) dx _) dx _)
 have SX:=aH (SD.out.ch (Ch.bh [] g BX.out) (by decide))
 have BY:=aH (show cD (((w1.setCell ⟨w.heap.size,0,ae⟩ (ay az kd)).setCell ⟨w.heap.size,1,ae⟩ (ay az ls)).setCell ⟨w.heap.size,2,ae⟩ (aB da dn dc)) da a.data/\(da=ae->dc=0)from by obtain⟨ao2,ca2,e,-,-,h1,h2,-⟩:=SX.out.ex;injection e with e1 e2 e3;subst e1 e3;exact⟨h1,h2⟩)
 have RX:=aH (show(((w1.setCell ⟨w.heap.size,0,ae⟩ (ay az kd)).setCell ⟨w.heap.size,1,ae⟩ (ay az ls)).setCell ⟨w.heap.size,2,ae⟩ (aB da dn dc)).heap[w.heap.size]?=ag (aG #[ay az kd,ay az ls,aB da dn dc] 50 (0,0))from bE (bE (bE N1.out 0 _) 1 _) 2 _)
 go_wp2_with (at_builtin;refine fG (o:=⟨ag 29,_,_,_,_,_⟩) rfl rfl w.heap.size (aB ae 0 0) [] rfl (cU.nil _ _) da dn dc a.data rfl iC.out.2.2.1.symm BY.out.1 BY.out.2 (by have:=Nr.out.1;simp only[eV];omega) BX.out.size ?_)
 intro v3 w3 h3 sf pD
 obtain⟨a3,c3,rfl,-⟩:=h3.slice
 obtain⟨m3,hm3⟩:=bP a.data.length
 have H3:=aH (show cU w3 w.heap.size (aB a3 m3 c3) a.data from by rw[<-hm3];exact h3)
 have W3:=aH (show ∀q,(Value.slice a3 m3 c3).ownBlock=ag q->w.heap.size<q from λq hq=>by
  rcases pD q (by rw[hm3];exact hq)with e | e
  ·cases e
  ·have:=aT RX.out
   omega)
 have R3:=aH ((sf.block _ (aT RX.out) (λe=>by cases e)).trans RX.out)
 have B3:=aH (BX.out.grown sf BX.out.size (λk hk=>by cases hk))
 have k3:=eH R3.out
 rw[hm3]
 clear h3 sf pD hm3 k1
 go_wp2_with fail
 obtain⟨wx,hx⟩:=bP (w3.setCell ⟨w.heap.size,2,ae⟩ (aB a3 m3 c3))
 have BX3:=aH (show Below w.heap.size w wx from by rw[<-hx];exact bK B3.out dx _)
 obtain⟨G,hG⟩:=bP (eJ g w.heap.size 0)
 have CG:=aH (show Ch [] g w G wx from by rw[<-hG];exact Ch.start g BX3.out)
 have GZ:=aH (show ∀q,w.heap.size<=q->G q=0 from λq hq=>by rw[<-hG];exact dQ hq)
 have HX:=aH (HH.out.ch CG.out (λ_ _ h=>by cases h))
 have RC:=aH (show Row wx G 0 w.heap.size #[ay az kd,ay az ls,aB a3 m3 c3] 50 from⟨by rw[<-hx];exact bE R3.out 2 _,GZ.out _ dx⟩)
 have SX3:=aH (show oN wx G (aB a3 m3 c3) a.data from oN.pL (base:=w.heap.size) (by
  rw[<-hx]
  exact dC H3.out λq hq=>bD (cM (W3.out q hq))) (λq hq=>GZ.out q hq))
 rw[hx]
 clear hx hG k3
 have RBX:=aH (HX.out.Eg n b t Ay.out.1 Ay.out.2.1)
 have kO:=aH (show ∀y,Below wx.heap.size wx y->y.cell? ⟨b,0,ae⟩=ag (aA (ag ⟨sb,0,ae⟩))/\y.cell? ⟨b,1,ae⟩=ag (ay az n)/\y.cell? ⟨b,2,ae⟩=ag (ay az nx)/\y.cell? ⟨w.heap.size,0,ae⟩=ag (ay az kd)/\y.cell? ⟨w.heap.size,1,ae⟩=ag (ay az ls)/\y.cell? ⟨w.heap.size,2,ae⟩=ag (aB a3 m3 c3)from λy hy=>by
  have r1:=RBX.out.below hy
  have r2:=RC.out.below hy
  rw[<-iC.out.1,<-iC.out.2.2.2.1]
  exact⟨r1.cell 0,r1.cell 1,r1.cell 2,r2.cell 0,r2.cell 1,r2.cell 2⟩)
 obtain⟨tn,tY⟩:=bP W.turns.length
 have tn1:tn<=100000:=by have:=Nr.out.2.2.2.1;omega
 have TNH:=aH tY
 have Vs:=aH (show ∀y,Below wx.heap.size wx y->aw ax 30 #[aA (ag ⟨sb,0,ae⟩)] y λe w'=>e=aF (ay az tn)/\y=w' from λy hy=>by rw[<-iC.out.1,<-tY];exact KZ (HX.out.low hy))
 have BD:=aH (bi wx)
 have lI:=aH (show ∀(X:am) (b4:Nat) (u1 u2 u5 u6 u7 u8 u9 u10 u11 u12 u13 u14 u15 u16 u17 u18 u19 u20 u21 u22 u23 u24 u25 u26 u27 u28 u29 u30 u31 u32 u33 u34 u35 u36 u37 u38 u39 u40 u41 u42 u43 u44 u45 u46 u47 u48 u49 u50 u51 u52 u53 u54 u55 u56 u57 u58 u59 u60 u61 u62 u63 u64 u65 u66 u67 u68 u69 u70 u71 u72 u73 u74 u75 u76 u77 u78 u79 u80 u81 u82 u83 u84 u85 u86 u87 u88 u89 u90 u91 u92 u93 u94 u95 u96 u97 u98 u99 u100 u101 u102 u103 u104 u105 u106 u107 u108 u109 u110 u111 u112 u113 u114:ar),Below wx.heap.size wx X->wx.heap.size<=b4->X.heap[b4]?=ag (aG #[ay az n,ay az nx,ay az kd,ay az ls,aB a3 m3 c3,ay az 0,ay az 0,aB ae 0 0,ay az (2*(tn:Int)),ay az 0] 56 (0,0))->
  (lD Tryz.f212 4).wp ax (bodyPost ax Tryz.f212 λe w'=>e=aF (aC aj)/\∃g' R' L',Ch [50,51,52,70,72,80+n] g w g' w'/\mu w' g' K S P picks (fN P W n) R' L'/\R'.sb=R.sb/\R'.tb=R.tb/\R'.eb=R.eb/\R'.db=R.db) ⟨#[aA (ag ⟨b,0,ae⟩),u1,u2,aA (ag ⟨w.heap.size,0,ae⟩),aA (ag ⟨b4,0,ae⟩),u5,u6,u7,u8,u9,u10,u11,u12,u13,u14,u15,u16,u17,u18,u19,u20,u21,u22,u23,u24,u25,u26,u27,u28,u29,u30,u31,u32,u33,u34,u35,u36,u37,u38,u39,u40,u41,u42,u43,u44,u45,u46,u47,u48,u49,u50,u51,u52,u53,u54,u55,u56,u57,u58,u59,u60,u61,u62,u63,u64,u65,u66,u67,u68,u69,u70,u71,u72,u73,u74,u75,u76,u77,u78,u79,u80,u81,u82,u83,u84,u85,u86,u87,u88,u89,u90,u91,u92,u93,u94,u95,u96,u97,u98,u99,u100,u101,u102,u103,u104,u105,u106,u107,u108,u109,u110,u111,u112,u113,u114],[]⟩ X from by
  intro X b4 u1 u2 u5 u6 u7 u8 u9 u10 u11 u12 u13 u14 u15 u16 u17 u18 u19 u20 u21 u22 u23 u24 u25 u26 u27 u28 u29 u30 u31 u32 u33 u34 u35 u36 u37 u38 u39 u40 u41 u42 u43 u44 u45 u46 u47 u48 u49 u50 u51 u52 u53 u54 u55 u56 u57 u58 u59 u60 u61 u62 u63 u64 u65 u66 u67 u68 u69 u70 u71 u72 u73 u74 u75 u76 u77 u78 u79 u80 u81 u82 u83 u84 u85 u86 u87 u88 u89 u90 u91 u92 u93 u94 u95 u96 u97 u98 u99 u100 u101 u102 u103 u104 u105 u106 u107 u108 u109 u110 u111 u112 u113 u114 hX qy r4
  refine Rm (g:=G) X (HX.out.low hX) OK.out (n:=n) (b:=b) (b3:=w.heap.size) (b4:=b4) (t:=t) (l:=l) (a:=a) a3 m3 c3 Ay.out.1 Ay.out.2.1 Ay.out.2.2.1 Ay.out.2.2.2.1 Ay.out.2.2.2.2 ?_ ?_ (SX3.out.ch (Ch.bh [] G hX) (by decide)) Nr.out.1 Nr.out.2.1 Nr.out.2.2.1 Nr.out.2.2.2.2 (by have:=iC.out.2.2.2.1;omega) (by intro c a d v w h;cases d <;> exact h) ?_
  ·rw[iC.out.2.2.2.2.1,iC.out.2.2.2.2.2]
   exact RC.out.below hX
  ·rw[iC.out.2.2.2.2.1,iC.out.2.2.2.2.2,iC.out.2.2.2.1,TNH.out]
   refine⟨?_,GZ.out b4 (bJ BX3.out.size qy)⟩
   rw[r4]
   rfl
  ·intro wd x1 x5 x6 x7 x8 x9 Rg EG Wo ZY ZW Wn ZV ZT ZS ZR Rf Ip ZQ ZO ZK ZJ x26 x27 x28 x29 x30 x31 x32 x33 x34 x35 x36 x37 x38 x39 x40 x41 x42 x43 x44 x45 x46 x47 x48 x49 x50 x51 x52 x53 x54 x55 x56 x57 Wm Wl Wk Wj Wi Wh Wg Wf We Wc Wb Wa V' V9 x72 x73 x74 x75 x76 x77 x78 x79 x80 x81 x82 x83 x84 x85 x86 x87 x88 x89 x90 x91 x92 x93 x94 x95 x96 x97 x98 x99 afW afV afU afT afS afR afQ afP afO afN afM afL afK afJ afI g' R' L' c' h' e'
   exact bn (results_tmp rfl _ _ _) rfl ⟨rfl,g',R',L',(CG.out.on (hX.mono dx)).any.trans c',h',e'⟩)
 have l7:=TNH.out
 clear tY i1 i2
 go_wp2_with fail
 have qR:∀p:In (λw'=>w'.cell? ⟨b,0,ae⟩=ag (aA (ag ⟨sb,0,ae⟩))/\w'.cell? ⟨b,1,ae⟩=ag (ay az n)/\w'.cell? ⟨b,2,ae⟩=ag (ay az nx)/\w'.cell? ⟨w.heap.size,0,ae⟩=ag (ay az kd)/\w'.cell? ⟨w.heap.size,1,ae⟩=ag (ay az ls)/\w'.cell? ⟨w.heap.size,2,ae⟩=ag (aB a3 m3 c3)),p.w.cell? ⟨b,0,ae⟩=ag (aA (ag ⟨sb,0,ae⟩))/\p.w.cell? ⟨b,1,ae⟩=ag (ay az n)/\p.w.cell? ⟨b,2,ae⟩=ag (ay az nx)/\p.w.cell? ⟨w.heap.size,0,ae⟩=ag (ay az kd)/\p.w.cell? ⟨w.heap.size,1,ae⟩=ag (ay az ls)/\p.w.cell? ⟨w.heap.size,2,ae⟩=ag (aB a3 m3 c3):=λp=>p.h
 refine gx (.run [0,1,2,3,4,5,6,7,8,9,10,11,12] (.fork 13 [14] (.fork 15 [] (.fork 16 [17] .done 17 [16] .done) 17 [15,16] .done) 17 [13,14,15,16] .done)) 18 (λw'=>w'.cell? ⟨b,0,ae⟩=ag (aA (ag ⟨sb,0,ae⟩))/\w'.cell? ⟨b,1,ae⟩=ag (ay az n)/\w'.cell? ⟨b,2,ae⟩=ag (ay az nx)/\w'.cell? ⟨w.heap.size,0,ae⟩=ag (ay az kd)/\w'.cell? ⟨w.heap.size,1,ae⟩=ag (ay az ls)/\w'.cell? ⟨w.heap.size,2,ae⟩=ag (aB a3 m3 c3)) (by kernel_rfl) (by kernel_rfl) (by intro c a d v w h;cases d <;> exact h) (kO.out _ BD.out) ?_
 intro dF
 unfold cC
 simp only[pick,aV,a8,aQ,aR]
 refine aX 13 (by kernel_rfl) ?_
 simp only[aJ,aO,aI,aL]
 repeat (go_big_quiet_step (fail))
 refine aU ?_
 refine bF ?_
 unfold dh cC
 dsimp only
 refine⟨?_,?_⟩
 ·simp only[pick,aV,a8,aQ,aR]
  refine aS rfl ?_ rfl
  go_wp2_with fail
  refine(Vs.out _ BD.out).mono ?_
  rintro e wz ⟨rfl,rfl⟩
  go_wp2_with fail
  refine⟨⟨⟨_,(kO.out _ BD.out)⟩,rfl⟩,?_⟩
  refine aX 1 (by kernel_rfl) ?_
  simp only[aJ,aO,aI,aL]
  repeat (go_big_quiet_step (fail))
  refine aU ?_
  refine bF ?_
  unfold dh cC
  dsimp only
  refine⟨?_,?_⟩
  ·simp only[pick,aV,a8,aQ,aR]
   refine aS rfl ?_ rfl
   go_wp2_with fail
   refine⟨⟨⟨_,(kO.out _ BD.out)⟩,rfl⟩,?_⟩
   refine bF ?_
   unfold dh cC
   dsimp only
   refine⟨?_,?_⟩
   ·simp only[pick,aV,a8,aQ,aR]
    refine aS rfl ?_ rfl
    go_wp2_with fail
    refine⟨⟨⟨_,(kO.out _ BD.out)⟩,rfl⟩,?_⟩
    refine aS rfl ?_ rfl
    obtain⟨y1,LR,By1,Qs⟩:=bG wx.drew #[ay az 0,ay az 0,ay az 0,ay az 0,aB ae 0 0,ay az 0,ay az 0,aB ae 0 0,ay az 0,ay az 0] 56
    go_wp2_with fail
    have xf:=aH (aM BD.out By1.out)
    refine⟨⟨⟨_,(kO.out _ xf.out)⟩,rfl⟩,?_⟩
    refine bF ?_
    unfold dh cC
    dsimp only
    clear dF qR
    change wpList _ _ _ _ _ _
    have nt:∀j,y1.cell? ⟨wx.heap.size,j,ae⟩=(#[ay az 0,ay az 0,ay az 0,ay az 0,aB ae 0 0,ay az 0,ay az 0,aB ae 0 0,ay az 0,ay az 0]:Array ar)[j]?:=λj=>aZ j Qs.out
    have f10:∀j,y1.frozen? ⟨wx.heap.size,j,ae⟩=ah:=λj=>bQ j Qs.out
    have lw:wx.heap.size<y1.heap.size:=aT Qs.out
    go_step
    go_step
    go_step
    go_step
    go_step
    go_step
    exact lI.out _ (wx.heap.size) _ _ _ _ _ _ _ _ _ _ _ _ _ _ _ _ _ _ _ _ _ _ _ _ _ _ _ _ _ _ _ _ _ _ _ _ _ _ _ _ _ _ _ _ _ _ _ _ _ _ _ _ _ _ _ _ _ _ _ _ _ _ _ _ _ _ _ _ _ _ _ _ _ _ _ _ _ _ _ _ _ _ _ _ _ _ _ _ _ _ _ _ _ _ _ _ _ _ _ _ _ _ _ _ _ _ _ _ _ _ _ _ (yl xf.out (BD.out.size)) (BD.out.size) (yh Qs.out)
   ·simp only[pick,aV,a8,aQ,aR]
    refine aS rfl ?_ rfl
    obtain⟨y2,TC,WV,Vp⟩:=bG wx.drew #[ay az 0,ay az 0,ay az 0,ay az 0,aB ae 0 0,ay az 0,ay az 0,aB ae 0 0,ay az 0,ay az 0] 56
    go_wp2_with fail
    have Ey:=aH (aM BD.out WV.out)
    refine⟨⟨⟨_,(kO.out _ Ey.out)⟩,rfl⟩,?_⟩
    refine aS rfl ?_ rfl
    go_wp2_with fail
    refine⟨⟨⟨_,(kO.out _ Ey.out)⟩,rfl⟩,?_⟩
    refine bF ?_
    unfold dh cC
    dsimp only
    clear dF qR
    change wpList _ _ _ _ _ _
    have nt:∀j,y2.cell? ⟨wx.heap.size,j,ae⟩=(#[ay az 0,ay az 0,ay az 0,ay az 0,aB ae 0 0,ay az 0,ay az 0,aB ae 0 0,ay az 0,ay az 0]:Array ar)[j]?:=λj=>aZ j Vp.out
    have f10:∀j,y2.frozen? ⟨wx.heap.size,j,ae⟩=ah:=λj=>bQ j Vp.out
    have lw:wx.heap.size<y2.heap.size:=aT Vp.out
    go_step
    go_step
    go_step
    go_step
    go_step
    go_step
    exact lI.out _ (wx.heap.size) _ _ _ _ _ _ _ _ _ _ _ _ _ _ _ _ _ _ _ _ _ _ _ _ _ _ _ _ _ _ _ _ _ _ _ _ _ _ _ _ _ _ _ _ _ _ _ _ _ _ _ _ _ _ _ _ _ _ _ _ _ _ _ _ _ _ _ _ _ _ _ _ _ _ _ _ _ _ _ _ _ _ _ _ _ _ _ _ _ _ _ _ _ _ _ _ _ _ _ _ _ _ _ _ _ _ _ _ _ _ _ _ (yl Ey.out (BD.out.size)) (BD.out.size) (yh Vp.out)
  ·simp only[pick,aV,a8,aQ,aR]
   refine aS rfl ?_ rfl
   obtain⟨y3,hy3,By3,Kz⟩:=bG wx.drew #[ay az 0,ay az 0,ay az 0,ay az 0,aB ae 0 0,ay az 0,ay az 0,aB ae 0 0,ay az 0,ay az 0] 56
   go_wp2_with fail
   have wC:=aH (aM BD.out By3.out)
   refine⟨⟨⟨_,(kO.out _ wC.out)⟩,rfl⟩,?_⟩
   refine aS rfl ?_ rfl
   go_wp2_with fail
   refine⟨⟨⟨_,(kO.out _ wC.out)⟩,rfl⟩,?_⟩
   refine aS rfl ?_ rfl
   go_wp2_with fail
   refine⟨⟨⟨_,(kO.out _ wC.out)⟩,rfl⟩,?_⟩
   refine bF ?_
   unfold dh cC
   dsimp only
   clear dF qR
   change wpList _ _ _ _ _ _
   have nt:∀j,y3.cell? ⟨wx.heap.size,j,ae⟩=(#[ay az 0,ay az 0,ay az 0,ay az 0,aB ae 0 0,ay az 0,ay az 0,aB ae 0 0,ay az 0,ay az 0]:Array ar)[j]?:=λj=>aZ j Kz.out
   have f10:∀j,y3.frozen? ⟨wx.heap.size,j,ae⟩=ah:=λj=>bQ j Kz.out
   have lw:wx.heap.size<y3.heap.size:=aT Kz.out
   go_step
   go_step
   go_step
   go_step
   go_step
   go_step
   exact lI.out _ (wx.heap.size) _ _ _ _ _ _ _ _ _ _ _ _ _ _ _ _ _ _ _ _ _ _ _ _ _ _ _ _ _ _ _ _ _ _ _ _ _ _ _ _ _ _ _ _ _ _ _ _ _ _ _ _ _ _ _ _ _ _ _ _ _ _ _ _ _ _ _ _ _ _ _ _ _ _ _ _ _ _ _ _ _ _ _ _ _ _ _ _ _ _ _ _ _ _ _ _ _ _ _ _ _ _ _ _ _ _ _ _ _ _ _ _ (yl wC.out (BD.out.size)) (BD.out.size) (yh Kz.out)
 ·simp only[pick,aV,a8,aQ,aR]
  refine aS rfl ?_ rfl
  obtain⟨y4,hy4,By4,WN⟩:=bG wx.drew #[ay az 0,ay az 0,ay az 0,ay az 0,aB ae 0 0,ay az 0,ay az 0,aB ae 0 0,ay az 0,ay az 0] 56
  go_wp2_with fail
  have tH:=aH (aM BD.out By4.out)
  refine⟨⟨⟨_,(kO.out _ tH.out)⟩,rfl⟩,?_⟩
  refine aS rfl ?_ rfl
  go_wp2_with fail
  refine(Vs.out _ tH.out).mono ?_
  rintro e wz ⟨rfl,rfl⟩
  go_wp2_with fail
  refine⟨⟨⟨_,(kO.out _ tH.out)⟩,rfl⟩,?_⟩
  refine aX 1 (by kernel_rfl) ?_
  simp only[aJ,aO,aI,aL]
  repeat (go_big_quiet_step (fail))
  refine aU ?_
  refine aS rfl ?_ rfl
  go_wp2_with fail
  refine⟨⟨⟨_,(kO.out _ tH.out)⟩,rfl⟩,?_⟩
  refine aS rfl ?_ rfl
  go_wp2_with fail
  refine⟨⟨⟨_,(kO.out _ tH.out)⟩,rfl⟩,?_⟩
  refine bF ?_
  unfold dh cC
  dsimp only
  clear dF qR
  change wpList _ _ _ _ _ _
  have nt:∀j,y4.cell? ⟨wx.heap.size,j,ae⟩=(#[ay az 0,ay az 0,ay az 0,ay az 0,aB ae 0 0,ay az 0,ay az 0,aB ae 0 0,ay az 0,ay az 0]:Array ar)[j]?:=λj=>aZ j WN.out
  have f10:∀j,y4.frozen? ⟨wx.heap.size,j,ae⟩=ah:=λj=>bQ j WN.out
  have lw:wx.heap.size<y4.heap.size:=aT WN.out
  go_step
  go_step
  go_step
  go_step
  go_step
  go_step
  exact lI.out _ (wx.heap.size) _ _ _ _ _ _ _ _ _ _ _ _ _ _ _ _ _ _ _ _ _ _ _ _ _ _ _ _ _ _ _ _ _ _ _ _ _ _ _ _ _ _ _ _ _ _ _ _ _ _ _ _ _ _ _ _ _ _ _ _ _ _ _ _ _ _ _ _ _ _ _ _ _ _ _ _ _ _ _ _ _ _ _ _ _ _ _ _ _ _ _ _ _ _ _ _ _ _ _ _ _ _ _ _ _ _ _ _ _ _ _ _ (yl tH.out (BD.out.size)) (BD.out.size) (yh WN.out)
end
end
end Go.Proofs.YtooinenkenobaaaGreat

/- A part of the proof of what LawWholeReaders says. -/
import Derived.Test.YtooinenkenobaaaGreatAa
import Derived.Test.YtooinenkenobaaaGreatCt
import Derived.Test.YtooinenkenobaaaGreatBl
set_option maxRecDepth 100000
set_option maxHeartbeats 20000000
namespace Go.Proofs.YtooinenkenobaaaGreat
open Option renaming none->ae,some->ag
open Bool renaming false->ah,true->aj
open Go.Proofs.Tryz renaming prog->ax
open Go.Value renaming int->ay,pointer->aA,slice->aB,bool->aC,float->aD
open Go.IntKind renaming i64->az
open Go.FloatKind renaming f64->aE
open Go.Ending renaming returned->aF
open Go.Obj renaming cells->aG
open Go renaming World->am,Value->ar,TypeId->au,Calls->aw
section
open Go.RowKit Go.Maps
def Ov(K:dw)(base:Int)(lr al:Nat)(po:Option Addr)(pn pc:Nat)(v:ar):Array ar:=#[ay az 2097152,ay az 1048576,ay az base,ay az K.cap,ay az K.dO,ay az K.most,ay az K.fj,aD aE lr,aD aE al,aB ae 0 0,v,aB po pn pc,ay az 3000,aB ae 0 0]
def XO(lr al:Nat)(po:Option Addr)(pn pc:Nat)(v:ar):jR:=⟨2097152,1048576,lr,al,3000,aB ae 0 0,v,aB po pn pc,aB ae 0 0⟩
section
variable{W:am}{K:dw}{base RM:Int}{lr al n rd pn pc:Nat}{po:Option Addr}{QV:Bool}{picks:List Int}
theorem XC(N R:Int)(l:picks.length=pn)(hx:N<1\/12<N\/R<1\/4<R\/1000<pn\/1152921504606846976<base\/K.dO<18):
 aw ax 7 #[.agg #[ay az RM,ay az base,ay az K.cap,ay az K.dO,ay az K.most,ay az K.fj,aD aE lr,aD aE al],ay az N,ay az R,.bool QV,aB po pn pc] W (lH W):=by
 obtain⟨p,s,m,i⟩:=bG W #[ay az RM,ay az base,ay az K.cap,ay az K.dO,ay az K.most,ay az K.fj,aD aE lr,aD aE al] 28
 have BT:=aH m.out
 have d:=aH (Z8 p)
 go_in
 go_wp2_with fail
 refine d.out.mono ?_
 rintro e u ⟨rfl,f⟩
 have k:=aH (BT.out.trans (f.mono BT.out.size))
 have h:=oV ((f.block _ (aT i.out)).trans i.out)
 have q:=h.2.2.1
 have r:=h.2.2.2.2.1
 clear f h
 rcases(show N<1\/(1<=N/\12<N)\/(1<=N/\N<=12/\R<1)\/(1<=N/\N<=12/\1<=R/\4<R)\/(1<=N/\N<=12/\1<=R/\R<=4/\(1000:Int)<(pn:Int))\/(1<=N/\N<=12/\1<=R/\R<=4/\(pn:Int)<=1000/\1152921504606846976<base)\/(1<=N/\N<=12/\1<=R/\R<=4/\(pn:Int)<=1000/\base<=1152921504606846976/\K.dO<18)by omega)with a | ⟨a,b⟩ | ⟨a,b,c⟩ | ⟨a,b,c,g⟩ | ⟨a,b,c,g,j⟩ | ⟨a,b,c,g,j,o⟩ | ⟨a,b,c,g,j,o,t⟩
 all_goals
  clear hx l
  go_wp2_with fail
  go_ret
  exact⟨rfl,k.out⟩
theorem abU{X:am}{v:ar}{qb pb kind:Nat}{s:ar}(b:Below W.heap.size W X){u6 u7 u8 u9 u12 u13 u14 u15 u16 u17 u18 u19 u20 u21 u22 u23 u24 u25 u26 u27 u28 u29 u30 u31 u32 u33 u34 u35 u36 u37 u38 u39 u40 u41 u42 u43 u44 u45 u46 u47 u48 u49 u50 u51 u52 u53 u54 u55 u56 u57 u58 u59 u60 u61 u62 u63 u64 u65 u66 u67 u68 u69 u70 u71 u72 u73 u74 u75 u76 u77 u78 u79 u80 u81 u82 u83 u84 u85 u86 u87 u88 u89 u90 u91 u92 u93 u94 u95 u96 u97 u98 u99 u100 u101 u102 u103 u104 u105 u106 u107 u108 u109 u110 u111 u112 u113 u114 u115 u116 u117 u118 u119 u120 u121 u122 u123 u124 u125 u126 u127 u128 u129 u130 u131 u132 u133 u134 u135 u136 u137 u138 u139 u140 u141 u142 u143 u144 u145 u146 u147 u148 u149 u150 u151 u152 u153 u154 u155 u156 u157 u158 u159 u160 u161 u162 u163 u164 u165 u166 u167 u168 u169 u170 u171 u172 u173 u174 u175 u176 u177 u178 u179 u180 u181 u182 u183:ar}(Q:X.heap[qb]?=ag (aG #[ay az 1048576,ay az base,ay az K.cap,ay az K.dO,ay az K.most,ay az K.fj,aD aE lr,aD aE al] 28 (0,0)))(R:X.heap[pb]?=ag (aG (Ov K base lr al po pn pc v) 34 (0,0)))(p:KG X v (qu kind K.b0 n rd))(ha:0<=base->sk X qI v (qu kind K.b0 n rd))(k:sK X qI (aB po pn pc) picks)
 (u:picks.length=pn) (f:kind=1\/kind=2) (j:1<=n/\n<=12) (o:1<=rd/\rd<=4) (q:18<=K.dO) (w:pn<=1000) (r:lr<18446744073709551616) (t:K.bU=lr%9223372036854775808) (e:K.b0=base.toNat) (d:base<=1152921504606846976):
 (lD Tryz.f7 25).wp ax (bodyPost ax Tryz.f7 (lH W)) ⟨#[s,ay az (n:Int),ay az (rd:Int),.bool QV,aB po pn pc,aA (ag ⟨qb,0,ae⟩),u6,u7,u8,u9,aC ah,aA (ag ⟨pb,0,ae⟩),u12,u13,u14,u15,u16,u17,u18,u19,u20,u21,u22,u23,u24,u25,u26,u27,u28,u29,u30,u31,u32,u33,u34,u35,u36,u37,u38,u39,u40,u41,u42,u43,u44,u45,u46,u47,u48,u49,u50,u51,u52,u53,u54,u55,u56,u57,u58,u59,u60,u61,u62,u63,u64,u65,u66,u67,u68,u69,u70,u71,u72,u73,u74,u75,u76,u77,u78,u79,u80,u81,u82,u83,u84,u85,u86,u87,u88,u89,u90,u91,u92,u93,u94,u95,u96,u97,u98,u99,u100,u101,u102,u103,u104,u105,u106,u107,u108,u109,u110,u111,u112,u113,u114,u115,u116,u117,u118,u119,u120,u121,u122,u123,u124,u125,u126,u127,u128,u129,u130,u131,u132,u133,u134,u135,u136,u137,u138,u139,u140,u141,u142,u143,u144,u145,u146,u147,u148,u149,u150,u151,u152,u153,u154,u155,u156,u157,u158,u159,u160,u161,u162,u163,u164,u165,u166,u167,u168,u169,u170,u171,u172,u173,u174,u175,u176,u177,u178,u179,u180,u181,u182,u183],[]⟩ X:=by
 have H:uv X qI K (XO lr al po pn pc v) (qu kind K.b0 n rd) picks base:=by
  refine⟨rfl,rfl,p,k,by rw[XH];omega,λl g=>?_,by omega,by show(0:Int)<=3000/\(3000:Int)<=65536;decide,by show(100000:Int)<=2097152/\(2097152:Int)<=16777216;decide,r,t,λh=>by rw[e];omega,d,by show(1000:Int)<=1048576/\(1048576:Int)<=1048576;decide⟩
  obtain⟨m,i⟩:=fg g
  rw[Si i]
  omega
 by_cases a:(∀z∈picks,0<=z)/\mv K lr al base
 ·have c:jq X qI K (XO lr al po pn pc v) (qu kind K.b0 n rd) picks base:=⟨H.fv,H.nv,ha (by have:=a.2.2.2;omega),H.Cm,H.p1,H.ll,H.pk,H.mo,H.dk,H.lr,H.kl,H.b,H.b2,H.sm⟩
  exact agd (S:=XO lr al po pn pc v) b Q R c f j o q rfl a.1 a.2
 ·exact agf (S:=XO lr al po pn pc v) b R H a
theorem Sj(a:Nat){n k:Nat}(h:k<n):(Cg a n).take (k+1)=(Cg a n).take k++[⟨5,a+k,[]⟩]:=by
 rw[ip]
 unfold Cg
 rw[cZ,iu h]
 rfl
theorem ET(kind:Nat){n k:Nat}(h:k<n):(EU kind n).take (k+1)=(EU kind n).take k++[⟨kind,0,[BitVec.ofNat 8 k,7]⟩]:=by
 rw[ip]
 unfold EU
 rw[cZ,iu h]
 rfl
theorem WW{P:Program}{c b:Code}{Q:Exit->Act->am->Prop}{a:Act}{w:am}(h:Code.wp P b Q a w)(e:c=b):Code.wp P c Q a w:=e▸h
theorem agu{g:Tg}{n:Nat}(h:∀q,g q≠97):∀q,eJ g n 98 q≠97:=λq=>by
 unfold eJ
 split
 ·decide
 ·exact h q
theorem XG{kind:Nat}(hp:sK W qI (aB po pn pc) picks)(JD:picks.length=pn)(hk:(QV=aj/\kind=2)\/(QV=ah/\kind=1))(hn:1<=n/\n<=12)(hr:1<=rd/\rd<=4)(hy:18<=K.dO)(Um:pn<=1000)(qq:lr<18446744073709551616)(yD:K.bU=lr%9223372036854775808)(hb:K.b0=base.toNat)(iL:-9223372036854775808<=base)(eA:base<=1152921504606846976):
 aw ax 7 #[.agg #[ay az RM,ay az base,ay az K.cap,ay az K.dO,ay az K.most,ay az K.fj,aD aE lr,aD aE al],ay az (n:Int),ay az (rd:Int),.bool QV,aB po pn pc] W (lH W):=by
 have i1:(1:Int)<=n:=by omega
 have i2:(n:Int)<=12:=by omega
 have i3:(1:Int)<=rd:=by omega
 have i4:(rd:Int)<=4:=by omega
 have i5:(pn:Int)<=1000:=by omega
 have Zz:=aH (And.intro hp (And.intro JD (And.intro hn (And.intro hr (And.intro Um (And.intro qq (And.intro yD hb)))))))
 have KN:=aH hk
 have HY:=aH hy
 clear hp JD hk hn hr Um qq yD hb
 obtain⟨qb,Mb⟩:=bP W.heap.size
 obtain⟨w1,gv,dJ,dL⟩:=bG W #[ay az RM,ay az base,ay az K.cap,ay az K.dO,ay az K.most,ay az K.fj,aD aE lr,aD aE al] 28
 have j9:=oV dL.out
 rw[Mb]at dL j9
 have BT:=aH dJ.out
 have TOP:=aH (Z8 w1)
 go_in
 go_wp2_with fail
 refine TOP.out.mono ?_
 rintro e w2 ⟨rfl,acY⟩
 have N2:=aH ((acY.block _ (aT dL.out)).trans dL.out)
 have B2:=aH (BT.out.trans (acY.mono BT.out.size))
 have k2:=oV N2.out
 obtain⟨x3,En⟩:=bP (w2.setCell ⟨qb,0,ae⟩ (ay az 1048576))
 have N3:=aH (show x3.heap[qb]?=ag (aG #[ay az 1048576,ay az base,ay az K.cap,ay az K.dO,ay az K.most,ay az K.fj,aD aE lr,aD aE al] 28 (0,0))from by rw[<-En];exact bE N2.out 0 (ay az 1048576))
 have B3:=aH (show Below W.heap.size W x3 from by rw[<-En];exact B2.out.setCell (jy Mb) _)
 have k3:=oV N3.out
 obtain⟨w4,Pa,zP,IB⟩:=bG x3 #[ay az 0,ay az 0,ay az 0,ay az 0,ay az 0,ay az 0,ay az 0,aD aE 0,aD aE 0,aB ae 0 0,aB ae 0 0,aB ae 0 0,ay az 0,aB ae 0 0] 34
 have kw4:=qV IB.out
 obtain⟨pb,Wu⟩:=bP x3.heap.size
 rw[Wu]at IB kw4
 clear kw4 j9 acY
 obtain⟨X0,Me⟩:=bP (w4.setRow pb (Ov K base lr al po pn pc (aB ae 0 0)))
 obtain⟨gz,JH⟩:=bP (tg qI pb 96)
 have QL:=aH (show qb<pb from by rw[<-Wu];exact aT N3.out)
 have BX:=aH (show Below W.heap.size W X0 from by rw[<-Me];exact((Ch.bh [] qI (B3.out.trans (zP.out.mono B3.out.size))).setRow _ (.inr (by have:=QL.out;omega))).below dx (λ_ _ h=>by cases h))
 have QX:=aH (show X0.heap[qb]?=ag (aG #[ay az 1048576,ay az base,ay az K.cap,ay az K.dO,ay az K.most,ay az K.fj,aD aE lr,aD aE al] 28 (0,0))from by rw[<-Me,setRow_other _ _ _ _ (bR QL.out)];exact(zP.out.block _ (aT N3.out)).trans N3.out)
 have GQ:=aH (show gz qb=0 from by rw[<-JH,dA (bR QL.out)];rfl)
 have ZP:=aH (show ∀q,q<pb->gz q=0 from λq hq=>by rw[<-JH,dA (bR hq)];rfl)
 have GZ:=aH (show ∀q,gz q=0\/gz q=96 from λq=>by
  rw[<-JH]
  unfold tg
  split
  ·exact .inr rfl
  ·exact .inl rfl)
 have I0:=aH (show zy (0<=base) X0 gz X0 gz pb (Ov K base lr al po pn pc) [] (aB ae 0 0) []from⟨⟨by rw[<-Me];exact oQ _ _ _ _ _ _ IB.out,by rw[<-JH];exact dG _ _ _⟩,im.nil _ _ _ _ _ _,rfl,λm x l h=>(by simp at h),λ_ m x l h=>(by simp at h),Ch.refl _ _ _⟩)
 clear JH
 go_wp2_with ((with_reducible (show wpList _ _ _ (⟨ae,.store 34 _ _,_,_,_,_⟩::_) _ _);refine kF rfl _ _ _ rfl pb (Ov K base lr al po pn pc (aB ae 0 0)) rfl rfl _ _ IB.out (by kernel_rfl) rfl (by simp[Ov,Value.oneCell']) ?_))
 clear Me k2 k3 En Wu
 go_loopw [12,13] (λu i wr=>∃(k:Nat) (xs:List WT) (gr:Tg),k<=n/\i=ay az k/\Hid (VM (0<=base) X0 gz wr gr xs u ((EU kind n).take k))) (λ_ i _=>n-(intOf i).toNat)
 case atStart=>exact⟨0,[],gz,cF _,rfl,aH (VM.start _ X0 gz)⟩
 case round=>
  obtain⟨k,xs,gr,hk,rfl,HI⟩:=hrel
  obtain⟨va,vc,rfl,-⟩:=HI.out.own.own.shape
  have HL:=aH (show xs.length=k from by rw[HI.out.len,dg,nI];omega)
  rw[HL.out]at HI ⊢
  by_cases fp:k<n
  ·have kz:(k:Int)<(n:Int):=by omega
   have au':(k:Int)%256=(k:Int):=Int.emod_eq_of_lt (by omega) (by omega)
   obtain⟨wa,hwa,Zy,Vq⟩:=bG wr #[ay .u8 (k:Int),ay .u8 7] 5
   obtain⟨wb,hwb,Bwb,Nwb⟩:=bG wa #[ay az 0,ay az 0,aB ae 0 0] 50
   have kwb:=eH Nwb.out
   obtain⟨cb,WD⟩:=bP wa.heap.size
   rw[WD]at Nwb kwb
   obtain⟨wc,hwc⟩:=bP (((wb.setCell ⟨cb,0,ae⟩ (ay az 1)).setCell ⟨cb,1,ae⟩ (ay az 0)).setCell ⟨cb,2,ae⟩ (aB (ag ⟨wr.heap.size,0,ae⟩) 2 2))
   have NC:=aH (show wc.heap[cb]?=ag (aG #[ay az 1,ay az 0,aB (ag ⟨wr.heap.size,0,ae⟩) 2 2] 50 (0,0))from by rw[<-hwc];exact tQ Nwb.out)
   have BC:=aH (show Below wa.heap.size wa wc from by rw[<-hwc];exact((Bwb.out.setCell (jy WD) _).setCell (jy WD) _).setCell (jy WD) _)
   have KK:=KN.out
   rcases KK with⟨ea,ek⟩ | ⟨ea,ek⟩
   ·subst ea ek
    obtain⟨wd,hwd⟩:=bP (wc.setCell ⟨cb,0,ae⟩ (ay az 2))
    have ND:=aH (show wd.heap[cb]?=ag (aG #[ay az 2,ay az 0,aB (ag ⟨wr.heap.size,0,ae⟩) 2 2] 50 (0,0))from by rw[<-hwd];exact bE NC.out 0 (ay az 2))
    have BD:=aH (show Below wa.heap.size wa wd from by rw[<-hwd];exact BC.out.setCell (jy WD) _)
    have kc0:=(eH NC.out).2.1
    have kcf:=(eH NC.out).2.2.2.2.1
    have kd:=eH ND.out
    obtain⟨we,hwe,VR,WO⟩:=bG wd #[ay az 2,ay az 0,aB (ag ⟨wr.heap.size,0,ae⟩) 2 2] 50
    have Yg:=eH WO.out
    have BE:=aH (Zy.out.trans ((BD.out.trans (VR.out.mono BD.out.size)).mono Zy.out.size))
    obtain⟨g1,Pc⟩:=bP (eJ gr wr.heap.size 0)
    have C1:=aH (show Ch [] gr wr g1 we from by rw[<-Pc];exact Ch.start gr BE.out)
    have G1:=aH (show ∀q,wr.heap.size<=q->g1 q=0 from λq hq=>by rw[<-Pc];exact dQ hq)
    have NA:=aH (show we.heap[wr.heap.size]?=_ from((BD.out.trans (VR.out.mono BD.out.size)).block _ (aT Vq.out)).trans Vq.out)
    have bz:bv (BitVec.ofNat 8 k)=(k:Int):=by
     show(((BitVec.ofNat 8 k).toNat:Nat):Int)=_
     rw[fk,dD (by omega)]
    have CA:=aH (show Ic we g1 ((2:Int),(0:Int),((ag (⟨wr.heap.size,0,ae⟩:Addr),2,2):qB)) ⟨2,0,[BitVec.ofNat 8 k,7]⟩from⟨rfl,rfl,⟨_,_,rfl,bT _,by show 2<=_;decide,uY (by rw[bz];exact(gc NA.out).2.1) (gc NA.out).2.2.1,(λe=>by cases e),λq off e _=>by
     injection e with e
     injection e with e
     subst e
     exact⟨G1.out _ dx,aT NA.out⟩⟩⟩)
    have O1:=aH (HI.out.own.own.below BE.out)
    have LN:=aH (show xs.length<=1000000 from by rw[HL.out];omega)
    have CN:=aH (show ∀j u,(Ms ((2:Int),(0:Int),((ag (⟨wr.heap.size,0,ae⟩:Addr),2,2):qB)))[j]?=ag u->we.cell? ((⟨wd.heap.size,0,ae⟩:Addr).add j)=ag u from ik (by unfold Ms oh;exact WO.out))
    have TKE:=aH (ET 2 (n:=n) fp)
    clear Yg Pc bz
    go_wp2_with (at_builtin;refine cY (o:=⟨ag 74,_,_,_,_,_⟩) rfl _ _ 58 50 rfl Tryz.underlying58 Tryz.Cy rfl (by decide) (by decide) Ms xv Dk _ xs rfl O1.out ⟨wd.heap.size,0,ae⟩ ((2:Int),(0:Int),((ag (⟨wr.heap.size,0,ae⟩:Addr),2,2):qB)) rfl CN.out LN.out ?_)
    intro v5 w5 o5 Pj i5
    have NX:=aH (HI.out.add C1.out (λ_=>CA.out) o5 Pj i5)
    rw[<-TKE.out]at NX
    clear o5 Pj i5 kd
    go_wp2_with fail
    go_roundw
    case rel=>exact⟨k+1,_,_,by omega,by go_num,NX⟩
    case measure=>simp[intOf];omega
   ·subst ea ek
    obtain⟨wd,hwd⟩:=bP wc
    subst hwd
    have ND:=NC
    have BD:=BC
    have kd:=eH ND.out
    obtain⟨we,hwe,VR,WO⟩:=bG wc #[ay az 1,ay az 0,aB (ag ⟨wr.heap.size,0,ae⟩) 2 2] 50
    have Yg:=eH WO.out
    have BE:=aH (Zy.out.trans ((BD.out.trans (VR.out.mono BD.out.size)).mono Zy.out.size))
    obtain⟨g1,Pc⟩:=bP (eJ gr wr.heap.size 0)
    have C1:=aH (show Ch [] gr wr g1 we from by rw[<-Pc];exact Ch.start gr BE.out)
    have G1:=aH (show ∀q,wr.heap.size<=q->g1 q=0 from λq hq=>by rw[<-Pc];exact dQ hq)
    have NA:=aH (show we.heap[wr.heap.size]?=_ from((BD.out.trans (VR.out.mono BD.out.size)).block _ (aT Vq.out)).trans Vq.out)
    have bz:bv (BitVec.ofNat 8 k)=(k:Int):=by
     show(((BitVec.ofNat 8 k).toNat:Nat):Int)=_
     rw[fk,dD (by omega)]
    have CA:=aH (show Ic we g1 ((1:Int),(0:Int),((ag (⟨wr.heap.size,0,ae⟩:Addr),2,2):qB)) ⟨1,0,[BitVec.ofNat 8 k,7]⟩from⟨rfl,rfl,⟨_,_,rfl,bT _,by show 2<=_;decide,uY (by rw[bz];exact(gc NA.out).2.1) (gc NA.out).2.2.1,(λe=>by cases e),λq off e _=>by
     injection e with e
     injection e with e
     subst e
     exact⟨G1.out _ dx,aT NA.out⟩⟩⟩)
    have O1:=aH (HI.out.own.own.below BE.out)
    have LN:=aH (show xs.length<=1000000 from by rw[HL.out];omega)
    have CN:=aH (show ∀j u,(Ms ((1:Int),(0:Int),((ag (⟨wr.heap.size,0,ae⟩:Addr),2,2):qB)))[j]?=ag u->we.cell? ((⟨wc.heap.size,0,ae⟩:Addr).add j)=ag u from ik (by unfold Ms oh;exact WO.out))
    have TKE:=aH (ET 1 (n:=n) fp)
    clear Yg Pc bz
    go_wp2_with (at_builtin;refine cY (o:=⟨ag 74,_,_,_,_,_⟩) rfl _ _ 58 50 rfl Tryz.underlying58 Tryz.Cy rfl (by decide) (by decide) Ms xv Dk _ xs rfl O1.out ⟨wc.heap.size,0,ae⟩ ((1:Int),(0:Int),((ag (⟨wr.heap.size,0,ae⟩:Addr),2,2):qB)) rfl CN.out LN.out ?_)
    intro v5 w5 o5 Pj i5
    have NX:=aH (HI.out.add C1.out (λ_=>CA.out) o5 Pj i5)
    rw[<-TKE.out]at NX
    clear o5 Pj i5 kd
    go_wp2_with fail
    go_roundw
    case rel=>exact⟨k+1,_,_,by omega,by go_num,NX⟩
    case measure=>simp[intOf];omega
  ·obtain rfl:k=n:=by omega
   have kz:(k:Int)<=(k:Int):=by omega
   have TK:=aH (show(EU kind k).take k=EU kind k from fE (by rw[nI];exact bT _))
   rw[TK.out]at HI
   obtain⟨g1,c1,n97,a1⟩:=HI.out.done (λq _=>by rcases GZ.out q with e | e <;> (rw[e];decide))
   have C1:=aH c1
   have A1:=aH a1
   have N97:=aH n97
   clear c1 a1 n97
   have R1:=aH (I0.out.row.ch C1.out (by simp))
   have nt:wr.cell? ⟨pb,10,ae⟩=ag (aB ae 0 0):=R1.out.cell 10
   obtain⟨wf,hwf,Bwf,Nwf⟩:=bG wr #[aB va k vc] 58
   have CF:=aH (C1.out.on Bwf.out)
   have CN:=aH (show ∀j u,(zU (va,k,vc))[j]?=ag u->wf.cell? ((⟨wr.heap.size,0,ae⟩:Addr).add j)=ag u from ik (by unfold zU;exact Nwf.out))
   have WL:=aH (nI kind k)
   go_wp2_with (at_builtin;refine cY (o:=⟨ag 79,_,_,_,_,_⟩) rfl _ _ 30 58 rfl Tryz.underlying30 Tryz.Cx rfl (by decide) (by decide) zU rO xh _ [] rfl (fC.nil _ _ _ _) ⟨wr.heap.size,0,ae⟩ (va,k,vc) rfl CN.out Rc ?_)
   intro v5 w5 o5 Pj i5
   have R5:=aH (I0.out.out CF.out Pj)
   have d10:w5.cell? ⟨pb,10,ae⟩=ag (aB ae 0 0):=R5.out.cell 10
   have e10:w5.frozen? ⟨pb,10,ae⟩=ah:=R5.out.free 10
   have NX:=aH (I0.out.add (x:=((va,k,vc):qB)) (l:=EU kind k) CF.out (λhp=>(A1.out hp).ch (Ch.bh [] g1 Bwf.out) (by simp)) (by show k=_;rw[WL.out]) o5 Pj i5 rfl)
   obtain⟨va5,vc5,rfl,-⟩:=o5.shape
   have L5:[((va,k,vc):qB)].length=1:=rfl
   rw[L5]at NX ⊢
   have apa:=aH (agu (n:=wf.heap.size) N97.out)
   clear o5 Pj i5 nt L5
   go_wp2_with fail
   rename_i K25 k25
   have aph:=aH k25
   clear k25
   go_loopw [15] (λi wr=>∃(r:Nat) (xs:List qB) (v:ar) (gr:Tg),r<=rd/\i=ay az r/\Hid (zy (0<=base) X0 gz wr gr pb (Ov K base lr al po pn pc) xs v (EU kind k::List.replicate r (Cg K.b0 k)))/\Hid (∀q,gr q≠97)) (λi _=>rd-(intOf i).toNat)
   case atStart=>exact⟨0,_,_,_,cF _,rfl,NX,apa⟩
   case round=>
    obtain⟨r,xs,v,gr,hr,rfl,HJ,H97⟩:=hrel
    obtain⟨vb,vd,rfl,-⟩:=HJ.out.own.own.shape
    have HL2:=aH (show xs.length=r+1 from by rw[HJ.out.len,bV,dW])
    rw[HL2.out]at HJ
    obtain⟨wo,rfl⟩:=nqZ wr
    by_cases fp:r<rd
    ·have rz:(r:Int)<(rd:Int):=by omega
     go_wp2_with fail
     go_loopw [16,17] (λu i wr=>∃(m:Nat) (ys:List WT) (gk:Tg),m<=k/\i=ay az m/\Hid (VM (0<=base) wo gr wr gk ys u ((Cg K.b0 k).take m))) (λ_ i _=>k-(intOf i).toNat)
     case atStart=>exact⟨0,[],gr,cF _,rfl,aH (VM.start _ wo gr)⟩
     case round=>
      obtain⟨m,ys,gk,hm,rfl,HC⟩:=hrel
      obtain⟨vy,vz,rfl,-⟩:=HC.out.own.own.shape
      have HL3:=aH (show ys.length=m from by rw[HC.out.len,dg,pJ];omega)
      rw[HL3.out]at HC ⊢
      have QW:=aH ((HJ.out.ch.gP qb (aT QX.out) (by rw[GQ.out];decide)).trans QX.out)
      have GQ2:=aH ((HJ.out.ch.tag qb (aT QX.out)).trans GQ.out)
      have QZ:=aH ((HC.out.ch.gP qb (aT QW.out) (by rw[GQ2.out];decide)).trans QW.out)
      by_cases hmk:m<k
      ·have mz:(m:Int)<(k:Int):=by omega
       have q1:=(oV QZ.out).2.2.1
       have m1:(m:Int)<=12:=by omega
       obtain⟨bk,hbk⟩:=bP (base+(m:Int))
       obtain⟨we,hwe,VR,WO⟩:=bG wr #[ay az 5,ay az bk,aB ae 0 0] 50
       have Yg:=eH WO.out
       have CA:=aH (show 0<=base->Ic we gk ((5:Int),bk,((ae,0,0):qB)) ⟨5,K.b0+m,[]⟩from λh0=>⟨rfl,by
        show bk=((K.b0+m:Nat):Int)
        have:=Zz.out.2.2.2.2.2.2.2
        omega,oN.nil _ _⟩)
       have O1:=aH (HC.out.own.own.below VR.out)
       have LN:=aH (show ys.length<=1000000 from by rw[HL3.out];omega)
       have CN:=aH (show ∀j u,(Ms ((5:Int),bk,((ae,0,0):qB)))[j]?=ag u->we.cell? ((⟨wr.heap.size,0,ae⟩:Addr).add j)=ag u from ik (by unfold Ms oh;exact WO.out))
       have TKE:=aH (Sj K.b0 (n:=k) hmk)
       have CE:=aH (Ch.bh [] gk VR.out)
       clear Yg
       go_wp2_with (at_builtin;refine cY (o:=⟨ag 99,_,_,_,_,_⟩) rfl _ _ 58 50 rfl Tryz.underlying58 Tryz.Cy rfl (by decide) (by decide) Ms xv Dk _ ys rfl O1.out ⟨wr.heap.size,0,ae⟩ ((5:Int),bk,((ae,0,0):qB)) rfl CN.out LN.out ?_)
       intro v6 w6 o6 gr6 i6
       have NY:=aH (HC.out.add CE.out CA.out o6 gr6 i6)
       rw[<-TKE.out]at NY
       clear o6 gr6 i6 q1
       go_wp2_with fail
       go_roundw
       case rel=>exact⟨m+1,_,_,by omega,by go_num,NY⟩
       case measure=>simp[intOf];omega
      ·obtain rfl:m=k:=by omega
       have mz:(m:Int)<=(m:Int):=by omega
       have TK2:=aH (show(Cg K.b0 m).take m=Cg K.b0 m from fE (by rw[pJ];exact bT _))
       rw[TK2.out]at HC
       obtain⟨g2,c2,agy,a2⟩:=HC.out.done (λq _=>H97.out q)
       have C2:=aH c2
       have A2:=aH a2
       have apc:=aH agy
       clear c2 a2 agy
       have R2:=aH (HJ.out.row.ch C2.out (by simp))
       have nt:wr.cell? ⟨pb,10,ae⟩=ag (aB vb (r+1) vd):=R2.out.cell 10
       obtain⟨wfX,avy,ajT,ao1⟩:=bG wr #[aB vy m vz] 58
       have CF2:=aH (C2.out.on ajT.out)
       have OW:=aH ((HJ.out.own.ch CF2.out (by simp)).own)
       have CN:=aH (show ∀j u,(zU (vy,m,vz))[j]?=ag u->wfX.cell? ((⟨wr.heap.size,0,ae⟩:Addr).add j)=ag u from ik (by unfold zU;exact ao1.out))
       have LN:=aH (show xs.length<=1000000 from by rw[HL2.out];omega)
       have RL:=aH (pJ K.b0 m)
       go_wp2_with (at_builtin;refine cY (o:=⟨ag 104,_,_,_,_,_⟩) rfl _ _ 30 58 rfl Tryz.underlying30 Tryz.Cx rfl (by decide) (by decide) zU rO xh _ xs rfl OW.out ⟨wr.heap.size,0,ae⟩ (vy,m,vz) rfl CN.out LN.out ?_)
       intro v7 w7 o7 gr7 i7
       have R7:=aH (HJ.out.out CF2.out gr7)
       have d10:w7.cell? ⟨pb,10,ae⟩=ag (aB vb (r+1) vd):=R7.out.cell 10
       have e10:w7.frozen? ⟨pb,10,ae⟩=ah:=R7.out.free 10
       have NX:=aH (HJ.out.add (x:=((vy,m,vz):qB)) (l:=Cg K.b0 m) CF2.out (λhp=>(A2.out hp).ch (Ch.bh [] g2 ajT.out) (by simp)) (by show m=_;rw[RL.out]) o7 gr7 i7 rfl)
       obtain⟨va7,vc7,rfl,-⟩:=o7.shape
       obtain⟨l7,hl7⟩:=bP ((xs++[((vy,m,vz):qB)]).length)
       rw[hl7]at NX ⊢
       have PP:=aH (show(EU kind m::List.replicate r (Cg K.b0 m))++[Cg K.b0 m]=EU kind m::List.replicate (r+1) (Cg K.b0 m)from by
        rw[eF,List.replicate_succ'])
       rw[PP.out]at NX
       have apb:=aH (agu (n:=wfX.heap.size) apc.out)
       clear o7 gr7 i7 nt hl7
       go_wp2_with fail
       go_roundw
       case rel=>exact⟨r+1,_,_,_,by omega,by go_num,NX,apb⟩
       case measure=>simp[intOf];omega
    ·obtain rfl:r=rd:=by omega
     have rz:(r:Int)<=(r:Int):=by omega
     have LW:=aH (show W.heap.size<=X0.heap.size from BX.out.size)
     have BW:=aH (BX.out.trans (HJ.out.ch.below (n:=W.heap.size) LW.out (λq hq=>by rw[ZP.out q (by have:=QL.out;omega)];decide)))
     have QW:=aH ((HJ.out.ch.gP qb (aT QX.out) (by rw[GQ.out];decide)).trans QX.out)
     go_wp2_with fail
     refine aph.out _ _ ?_
     refine WW (abU (kind:=kind) BW.out QW.out HJ.out.row.row HJ.out.lens HJ.out.ask (Zz.out.1.ch (Ch.bh [] qI BW.out) (by simp)) Zz.out.2.1 (by rcases KN.out with⟨-,e⟩ | ⟨-,e⟩ <;> omega) Zz.out.2.2.1 Zz.out.2.2.2.1 HY.out Zz.out.2.2.2.2.1 Zz.out.2.2.2.2.2.1 Zz.out.2.2.2.2.2.2.1 Zz.out.2.2.2.2.2.2.2 eA) (by kernel_rfl)
end
end
end Go.Proofs.YtooinenkenobaaaGreat

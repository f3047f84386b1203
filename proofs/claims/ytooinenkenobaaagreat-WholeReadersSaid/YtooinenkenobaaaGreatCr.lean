/- A part of the proof of what LawWholeReaders says. -/
import Derived.Test.YtooinenkenobaaaGreatAa
import Derived.Test.YtooinenkenobaaaGreatCp
import Derived.Test.YtooinenkenobaaaGreatCq
import Derived.Test.YtooinenkenobaaaGreatBl
set_option maxRecDepth 100000
set_option maxHeartbeats 20000000
namespace Go.Proofs.YtooinenkenobaaaGreat
open Option renaming none->ae,some->ag
open Bool renaming false->ah,true->aj
open Go.Proofs.Tryz renaming prog->ax
open Go.Value renaming int->ay,pointer->aA,slice->aB,bool->aC,float->aD
open Go.IntKind renaming i64->az
open Go.FloatKind renaming f64->aE
open Go.Ending renaming returned->aF
open Go.Obj renaming cells->aG
open Go renaming World->am,Value->ar,TypeId->au,Calls->aw
section
open Go.RowKit Go.Maps
def qI:Tg:=λ_=>0
def Ej(sb:Nat):Option Nat->List ar
 | some b=>[.iface 100 (aA (ag ⟨b,0,ae⟩))]
 | none=>[.iface 104 (.agg #[aA (ag ⟨sb,0,ae⟩)])]
theorem Ln(sb:Nat)(x:Option Nat):(Ej sb x).length=1:=by cases x <;> rfl
theorem Lm(sb:Nat)(x:Option Nat):∀u∈Ej sb x,u.oneCell'=aj:=λu a=>by
 cases x <;> (cases a with
  | head=>rfl
  | tail _ h=>cases h)
theorem St(tb:List Nat)(sb:Nat):(List.range (tb.length+1)).flatMap (rZ tb sb)=(tb.map ag++[ae]).flatMap (Ej sb):=by
 have a:rZ tb sb=λn=>Ej sb tb[n]?:=by
  funext n
  unfold rZ pK
  cases tb[n]? <;> rfl
 have b:(List.range (tb.length+1)).map (λn=>tb[n]?)=tb.map ag++[ae]:=by
  refine jc λi=>?_
  rw[cZ]
  rcases kR i tb.length with h | h | h
  ·rw[iu (by omega),bI (by rw[bZ];exact h),cZ]
   show ag (tb[i]?)=(tb[i]?).map ag
   rw[aP h]
   rfl
  ·rw[iu (by omega),bH (by rw[bZ];omega),bZ,h,dR]
   show ag (tb[tb.length]?)=ag ae
   rw[gH dx]
  ·rw[gH (by rw[gC];omega),gH (by rw[aN,bZ,cP];omega)]
   rfl
 rw[a,<-b,List.flatMap_map]
theorem im.XN{w:am}{g:Tg}{t sb:Nat}{v:ar}{tb:List Nat}{n:Nat}{E:au}(h:im (Ej sb) E 1 w g t v (tb.map ag++[ae]))(a:tb.length=n):im (rZ tb sb) E 1 w g t v (List.range (n+1)):=by
 subst a
 refine⟨?_,h.tag⟩
 have e:=h.own
 unfold fC at e ⊢
 rw[St,gC]
 rw[aN,bZ,cP]at e
 exact e
abbrev TB:List Nat:=[1,5,6,10,11,12,13,14,15,16,21,24,70,73,80,81,82,83,84,85,86,87,88,89,90,91,92,93,94,95]
theorem ami{n:Nat}(h:n<16):80+n∈TB:=by
 simp only[cR]
 omega
structure Ig(gz:Tg)(w0:am)(K:dw)(S:jR)(db eb sb:Nat)(wr:am)(gr:Tg)(tb:List Nat)(Eh:ar):Prop where
 row:Row wr gr 70 sb (IW K S db eb Eh (aB ae 0 0) (aB ae 0 0) (-1)) 85
 GM:gw wr gr eb db K ⟨S.sm,S.lr,S.al⟩ (fJ nA) []
 nd:tb.Nodup
 Eg:∀(n b:Nat),tb[n]?=ag b->Row wr gr (80+n) b (Rt sb n ⟨0,ae,0⟩) 102
 Je:im (Ej sb) 108 1 wr gr 73 Eh (tb.map ag)
 ch:Ch TB gz w0 gr wr
section
variable{w w':am}{gz g g':Tg}{K:dw}{S:jR}{P:eG}{picks:List Int}{base:Int}{db eb sb:Nat}{w0:am}{tb:List Nat}{Eh:ar}
theorem Ig.step{T:List Nat}(h:Ig gz w0 K S db eb sb w g tb Eh)(c:Ch T g w g' w')(l:∀t∈T,t∈[70,73]){f:List Nat}{j:ar}(A:Row w' g' 70 sb (IW K S db eb j (aB ae 0 0) (aB ae 0 0) (-1)) 85)(z:im (Ej sb) 108 1 w' g' 73 j (f.map ag))
 (m:f=tb\/∃b,f=tb++[b]/\w.heap.size<=b/\Row w' g' (80+tb.length) b (Rt sb tb.length ⟨0,ae,0⟩) 102):Ig gz w0 K S db eb sb w' g' f j:=by
 have r:∀t,t≠70->t≠73->t∉T:=λt C D u=>by
  have:=l t u
  simp only[cR,dK,iG]at this
  omega
 have p:∀(n b:Nat),tb[n]?=ag b->Row w' g' (80+n) b (Rt sb n ⟨0,ae,0⟩) 102:=λn b a=>(h.Eg n b a).ch c (r _ (by omega) (by omega))
 refine⟨A,h.GM.ch c (λt d=>r t ?_ ?_),?_,λn b a=>?_,z,h.ch.trans (c.mono λt d=>?_)⟩
 ·rintro rfl
  exact absurd d (by decide)
 ·rintro rfl
  exact absurd d (by decide)
 ·rcases m with rfl | ⟨b,rfl,a,-⟩
  ·exact h.nd
  ·rw[vC]
   refine⟨h.nd,List.nodup_cons.2 ⟨by simp,vB⟩,λx hx y o=>?_⟩
   rw[cE]at o
   subst o
   obtain⟨i,s⟩:=fg hx
   have:=(h.Eg i x s).lt
   omega
 ·rcases m with rfl | ⟨q,rfl,E,B⟩
  ·exact p n b a
  ·rcases cg n tb.length with k | k
   ·rw[bI k]at a
    exact p n b a
   ·rw[bH k]at a
    have e:n-tb.length=0:=by
     have:=(aK.1 a).1
     rw[cP]at this
     omega
    rw[e]at a
    injection a with a
    subst a
    obtain rfl:n=tb.length:=by omega
    exact B
 ·have:=l t d
  simp only[cR,dK,iG]at this
  rcases this with rfl | rfl <;> decide
theorem Ig.done(h:Ig gz w0 K S db eb sb w g tb Eh)(e:tb.length=P.length)(o:P.length<=15){d:ar}(c:Ch [70,73] g w g' w')(m:Row w' g' 70 sb (IW K S db eb d (aB ae 0 0) (aB ae 0 0) (-1)) 85)(l:im (Ej sb) 108 1 w' g' 73 d (tb.map ag++[ae]))(ha:sk w' g' S.tv P)(k:sK w' g' S.pv picks):
 mu w' g' K S P picks (iA (fJ nA) P) ⟨sb,eb,db,[],tb,d,aB ae 0 0,aB ae 0 0⟩ []:=by
 refine⟨m,h.GM.ch c (by decide),rfl,e,by show(List.replicate _ _).length=_;rw[dW],h.nd,λn b t f i=>?_,l.XN e,im.nil _ _ _ _ _ _,im.nil _ _ _ _ _ _,rfl,λj x p hx=>(by simp at hx),by omega,ha,k⟩
 have a:(List.replicate P.length (⟨0,ae,0⟩:jb))[n]?=ag t:=i
 rw[mh]at a
 split at a
 ·injection a with a
  subst a
  exact(h.Eg n b f).ch c (by simp only[cR,dK,iG];omega)
 ·cases a
theorem NH(H:jq w gz K S P picks base)(hz:∀q,w.heap.size<=q->gz q=0)(Ep:∀z∈picks,0<=z)(qx:mv K S.lr S.al base):
 aw ax 16 #[.agg (Cl K S base)] w λe w'=>∃g' R,e=aF (.tuple #[aA (ag ⟨R.sb,0,ae⟩),ay az 0])/\Ch TB gz w g' w'/\mu w' g' K S P picks (iA (fJ nA) P) R []:=by
 obtain⟨Y,Z,Bj,-⟩:=H.ask.ex
 obtain⟨pa,pc,uV,-⟩:=H.Cm.ex
 have HH:=aH H
 have a3:=aH qx
 have yB:=H.p1
 have Zu:=aH (show ∀y,Below w.heap.size w y->aw ax 26 #[.agg (Cl K S base)] y λe w'=>e=aF (aC aj)/\Below y.heap.size y w' from λy hy=>(Z9 (H.low hy).aly).mono λe w' ⟨⟨b,h1,h2,h3⟩⟩=>by
  have:=h2.2 ⟨Ep,qx⟩
  subst this
  exact⟨h1,h3⟩)
 have r:=H.b qx.2.2
 unfold Cl at Zu ⊢
 rw[H.fv,H.nv,Bj,uV]at Zu ⊢
 obtain⟨n,hn⟩:=bP P.length
 obtain⟨m,hm⟩:=bP picks.length
 obtain⟨E,Et⟩:=bP S.uX
 obtain⟨sm,uy⟩:=bP S.sm
 obtain⟨mo,oB⟩:=bP S.most
 obtain⟨C,qq⟩:=bP S.lr
 obtain⟨B,Ae⟩:=bP S.al
 rw[hn]at yB
 have i2:n<=15:=yB.2
 have a5:=aH (show ∀(d e:Nat) (pl:ar),IW K S d e pl (aB ae 0 0) (aB ae 0 0) (-1)=#[ay az E,ay az sm,ay az base,ay az K.cap,ay az K.dO,ay az K.most,ay az K.fj,aD aE C,aD aE B,aB ae 0 0,aB Y n Z,aB pa m pc,ay az mo,aB ae 0 0,aA (ag ⟨d,0,ae⟩),aA (ag ⟨e,0,ae⟩),pl,ay az (-1),ay az 0,aB ae 0 0,aB ae 0 0,ay az 0,ay az 0,ay az 0,ay az 0,ay az 0,ay az 0,ay az 0,ay az 0,aD aE 0,aC ah,aC ah,aC ah,ay az 0,ay az 0,ay az 0,ay az 0,ay az 0,ay az 0,ay az 0,ay az 0,ay az 0,ay az 0,aB ae 0 0]from λd e pl=>by
  unfold IW
  rw[H.fv,H.nv,Bj,uV,hn,hm,Et,uy,oB,qq,Ae,r])
 rw[hn,hm,Et,uy,oB,qq,Ae]at Zu ⊢
 have Q:=aH (And.intro hn (And.intro hm (And.intro Et (And.intro uy (And.intro qq (And.intro Ae r))))))
 clear Bj uV H Ep qx hn hm Et uy oB qq Ae yB r
 obtain⟨f,QS⟩:=bP w.heap.size
 obtain⟨w1,gv,dJ,dL⟩:=bG w #[ay az E,ay az sm,ay az base,ay az K.cap,ay az K.dO,ay az K.most,ay az K.fj,aD aE C,aD aE B,aB ae 0 0,aB Y n Z,aB pa m pc,ay az mo,aB ae 0 0] 34
 have j9:=qV dL.out
 rw[QS]at dL j9
 have C1:=aH (Ch.bh TB gz dJ.out)
 have R1:=aH (show Row w1 gz 0 f _ _ from⟨dL.out,hz f (by omega)⟩)
 have eM:=aH (show ∀y g' T,Ch T gz w1 g' y->0∉T->y.cell? ⟨f,0,ae⟩=ag (ay az E)/\y.cell? ⟨f,1,ae⟩=ag (ay az sm)/\y.cell? ⟨f,2,ae⟩=ag (ay az base)/\y.cell? ⟨f,3,ae⟩=ag (ay az K.cap)/\y.cell? ⟨f,4,ae⟩=ag (ay az K.dO)/\y.cell? ⟨f,5,ae⟩=ag (ay az K.most)/\y.cell? ⟨f,6,ae⟩=ag (ay az K.fj)/\y.cell? ⟨f,7,ae⟩=ag (aD aE C)/\y.cell? ⟨f,8,ae⟩=ag (aD aE B)/\y.cell? ⟨f,9,ae⟩=ag (aB ae 0 0)/\y.cell? ⟨f,10,ae⟩=ag (aB Y n Z)/\y.cell? ⟨f,11,ae⟩=ag (aB pa m pc)/\y.cell? ⟨f,12,ae⟩=ag (ay az mo)/\y.cell? ⟨f,13,ae⟩=ag (aB ae 0 0)from λy g' T c h0=>by
  have k:=qV (R1.out.ch c h0).row
  exact⟨k.2.1,k.2.2.1,k.2.2.2.1,k.2.2.2.2.1,k.2.2.2.2.2.1,k.2.2.2.2.2.2.1,k.2.2.2.2.2.2.2.1,k.2.2.2.2.2.2.2.2.1,k.2.2.2.2.2.2.2.2.2.1,k.2.2.2.2.2.2.2.2.2.2.1,k.2.2.2.2.2.2.2.2.2.2.2.1,k.2.2.2.2.2.2.2.2.2.2.2.2.1,k.2.2.2.2.2.2.2.2.2.2.2.2.2.1,k.2.2.2.2.2.2.2.2.2.2.2.2.2.2.1⟩)
 go_in
 go_wp2_with fail
 refine(Zu.out w1 dJ.out).mono ?_
 rintro e w2 ⟨rfl,eA⟩
 have C2:=aH (Ch.bh [] gz eA)
 have k2:=eM.out w2 gz [] C2.out (by simp)
 clear eA j9
 go_wp2_with fail
 have qR:∀p:In (λw'=>w'.cell? ⟨f,0,ae⟩=ag (ay az E)/\w'.cell? ⟨f,1,ae⟩=ag (ay az sm)/\w'.cell? ⟨f,2,ae⟩=ag (ay az base)/\w'.cell? ⟨f,3,ae⟩=ag (ay az K.cap)/\w'.cell? ⟨f,4,ae⟩=ag (ay az K.dO)/\w'.cell? ⟨f,5,ae⟩=ag (ay az K.most)/\w'.cell? ⟨f,6,ae⟩=ag (ay az K.fj)/\w'.cell? ⟨f,7,ae⟩=ag (aD aE C)/\w'.cell? ⟨f,8,ae⟩=ag (aD aE B)/\w'.cell? ⟨f,9,ae⟩=ag (aB ae 0 0)/\w'.cell? ⟨f,10,ae⟩=ag (aB Y n Z)/\w'.cell? ⟨f,11,ae⟩=ag (aB pa m pc)/\w'.cell? ⟨f,12,ae⟩=ag (ay az mo)/\w'.cell? ⟨f,13,ae⟩=ag (aB ae 0 0)),p.w.cell? ⟨f,0,ae⟩=ag (ay az E)/\p.w.cell? ⟨f,1,ae⟩=ag (ay az sm)/\p.w.cell? ⟨f,2,ae⟩=ag (ay az base)/\p.w.cell? ⟨f,3,ae⟩=ag (ay az K.cap)/\p.w.cell? ⟨f,4,ae⟩=ag (ay az K.dO)/\p.w.cell? ⟨f,5,ae⟩=ag (ay az K.most)/\p.w.cell? ⟨f,6,ae⟩=ag (ay az K.fj)/\p.w.cell? ⟨f,7,ae⟩=ag (aD aE C)/\p.w.cell? ⟨f,8,ae⟩=ag (aD aE B)/\p.w.cell? ⟨f,9,ae⟩=ag (aB ae 0 0)/\p.w.cell? ⟨f,10,ae⟩=ag (aB Y n Z)/\p.w.cell? ⟨f,11,ae⟩=ag (aB pa m pc)/\p.w.cell? ⟨f,12,ae⟩=ag (ay az mo)/\p.w.cell? ⟨f,13,ae⟩=ag (aB ae 0 0):=λp=>p.h
 refine bX [0,1,2,3,4,5,6] (λw'=>w'.cell? ⟨f,0,ae⟩=ag (ay az E)/\w'.cell? ⟨f,1,ae⟩=ag (ay az sm)/\w'.cell? ⟨f,2,ae⟩=ag (ay az base)/\w'.cell? ⟨f,3,ae⟩=ag (ay az K.cap)/\w'.cell? ⟨f,4,ae⟩=ag (ay az K.dO)/\w'.cell? ⟨f,5,ae⟩=ag (ay az K.most)/\w'.cell? ⟨f,6,ae⟩=ag (ay az K.fj)/\w'.cell? ⟨f,7,ae⟩=ag (aD aE C)/\w'.cell? ⟨f,8,ae⟩=ag (aD aE B)/\w'.cell? ⟨f,9,ae⟩=ag (aB ae 0 0)/\w'.cell? ⟨f,10,ae⟩=ag (aB Y n Z)/\w'.cell? ⟨f,11,ae⟩=ag (aB pa m pc)/\w'.cell? ⟨f,12,ae⟩=ag (ay az mo)/\w'.cell? ⟨f,13,ae⟩=ag (aB ae 0 0)) (by kernel_rfl) (by kernel_rfl) (by intro c a d v w h;cases d <;> exact h) k2 ?_
 intro dF
 simp only[pick,aV,a8,aQ,aR]
 refine aX 3 (by kernel_rfl) ?_
 simp only[aJ,aO,aI,aL]
 repeat (go_big_quiet_step (fail))
 refine aU ?_
 refine aS rfl ?_ rfl
 go_wp2_with fail
 refine(xu E _ gz (by have:=HH.out.dk;rw[Q.out.2.2.1]at this;omega)).mono ?_
 rintro e w3 ⟨g3,rfl,c3,d3⟩
 obtain⟨db,Pg⟩:=bP (w2.heap.size+2)
 have D3:=aH (show nE w3 g3 db E [] 0 0 gj from by rw[<-Pg];exact d3)
 have C3:=aH (show Ch [] gz w1 g3 w3 from(C2.out.on (bi w2)).trans c3)
 have k3:=eM.out w3 g3 [] C3.out (by simp)
 rw[show w2.drew.heap.size+2=db from Pg]
 clear c3 d3 Pg k2
 go_wp2_with fail
 refine⟨⟨⟨_,k3⟩,rfl⟩,?_⟩
 refine aS rfl ?_ rfl
 go_wp2_with fail
 refine⟨⟨⟨_,k3⟩,rfl⟩,?_⟩
 obtain⟨sb,js⟩:=bP w3.heap.size
 have b4:=aY w3 (aG #[ay az E,ay az sm,ay az base,ay az K.cap,ay az K.dO,ay az K.most,ay az K.fj,aD aE C,aD aE B,aB ae 0 0,aB Y n Z,aB pa m pc,ay az mo,aB ae 0 0,aA (ag ⟨db,0,ae⟩),aA ae,aB ae 0 0,ay az (-1),ay az 0,aB ae 0 0,aB ae 0 0,ay az 0,ay az 0,ay az 0,ay az 0,ay az 0,ay az 0,ay az 0,ay az 0,aD aE 0,aC ah,aC ah,aC ah,ay az 0,ay az 0,ay az 0,ay az 0,ay az 0,ay az 0,ay az 0,ay az 0,ay az 0,ay az 0,aB ae 0 0] 85)
 have n4:=bp w3 (aG #[ay az E,ay az sm,ay az base,ay az K.cap,ay az K.dO,ay az K.most,ay az K.fj,aD aE C,aD aE B,aB ae 0 0,aB Y n Z,aB pa m pc,ay az mo,aB ae 0 0,aA (ag ⟨db,0,ae⟩),aA ae,aB ae 0 0,ay az (-1),ay az 0,aB ae 0 0,aB ae 0 0,ay az 0,ay az 0,ay az 0,ay az 0,ay az 0,ay az 0,ay az 0,ay az 0,aD aE 0,aC ah,aC ah,aC ah,ay az 0,ay az 0,ay az 0,ay az 0,ay az 0,ay az 0,ay az 0,ay az 0,ay az 0,ay az 0,aB ae 0 0] 85)
 obtain⟨w4,Pa⟩:=bP (World.alloc w3 (aG #[ay az E,ay az sm,ay az base,ay az K.cap,ay az K.dO,ay az K.most,ay az K.fj,aD aE C,aD aE B,aB ae 0 0,aB Y n Z,aB pa m pc,ay az mo,aB ae 0 0,aA (ag ⟨db,0,ae⟩),aA ae,aB ae 0 0,ay az (-1),ay az 0,aB ae 0 0,aB ae 0 0,ay az 0,ay az 0,ay az 0,ay az 0,ay az 0,ay az 0,ay az 0,ay az 0,aD aE 0,aC ah,aC ah,aC ah,ay az 0,ay az 0,ay az 0,ay az 0,ay az 0,ay az 0,ay az 0,ay az 0,ay az 0,ay az 0,aB ae 0 0] 85))
 rw[Pa]at b4 n4
 rw[js]at n4
 refine aS rfl ?_ rfl
 go_wp2_with fail
 obtain⟨g4,ai⟩:=bP (tg g3 sb 70)
 have c4:Ch [] g3 w3 g4 w4:=by rw[<-ai];exact(Ch.bh [] g3 b4).tg (by omega)
 have C4:=aH (C3.out.trans c4)
 have D4:=aH (D3.out.ch c4 (by decide))
 have S4:=aH (show Row w4 g4 70 sb _ _ from⟨n4,by rw[<-ai];exact dG _ _ _⟩)
 have k4:=eM.out w4 g4 [] C4.out (by simp)
 refine⟨⟨⟨_,k4⟩,rfl⟩,?_⟩
 refine aX 1 (by kernel_rfl) ?_
 simp only[aJ,aO,aI,aL]
 repeat (go_big_quiet_step (fail))
 refine aU ?_
 refine bF ?_
 clear dF qR
 clear b4 n4 Pa js ai c4 k3
 have X:w4.cell? ⟨sb,14,ae⟩=ag (aA (ag ⟨db,0,ae⟩)):=S4.out.cell 14
 go_wp2_with fail
 have qR:∀p:In (λw'=>w'.cell? ⟨sb,14,ae⟩=ag (aA (ag ⟨db,0,ae⟩))/\w'.cell? ⟨f,9,ae⟩=ag (aB ae 0 0)),p.w.cell? ⟨sb,14,ae⟩=ag (aA (ag ⟨db,0,ae⟩))/\p.w.cell? ⟨f,9,ae⟩=ag (aB ae 0 0):=λp=>p.h
 refine bX [0,1,2,3,4,5,6] (λw'=>w'.cell? ⟨sb,14,ae⟩=ag (aA (ag ⟨db,0,ae⟩))/\w'.cell? ⟨f,9,ae⟩=ag (aB ae 0 0)) (by kernel_rfl) (by kernel_rfl) (by intro c a d v w h;cases d <;> exact h) ⟨X,k4.2.2.2.2.2.2.2.2.2.1⟩ ?_
 intro dF
 simp only[pick,aV,a8,aQ,aR]
 refine aX 6 (by kernel_rfl) ?_
 simp only[aJ,aO,aI,aL]
 repeat (go_big_quiet_step (fail))
 refine aU ?_
 refine aS rfl ?_ rfl
 go_wp2_with fail
 refine(Mq db 0 0 E [] gj w4.drew g4 (D4.out.ch (Ch.bh [] g4 (bi w4)) (by simp))).mono ?_
 rintro e w5 ⟨g5,rfl,c5,d5⟩
 have ad:Ch [1] g4 w4 g5 w5:=(Ch.bh [1] g4 (bi w4)).trans c5
 have C5:=aH (C4.out.any.trans (ad.mono (T':=TB) (by decide)))
 have D5:=aH d5
 have S5:=aH (S4.out.ch ad (by decide))
 have k5:=eM.out w5 g5 TB C5.out (by decide)
 have ac:w5.cell? ⟨sb,14,ae⟩=ag (aA (ag ⟨db,0,ae⟩)):=S5.out.cell 14
 clear c5 ad d5 k4 X
 go_wp2_with fail
 refine⟨⟨⟨_,⟨ac,k5.2.2.2.2.2.2.2.2.2.1⟩⟩,rfl⟩,?_⟩
 refine bF ?_
 clear dF qR
 have X:=ac
 clear ac
 go_wp2_with fail
 have qR:∀p:In (λw'=>w'.cell? ⟨sb,14,ae⟩=ag (aA (ag ⟨db,0,ae⟩))/\w'.cell? ⟨f,1,ae⟩=ag (ay az sm)/\w'.cell? ⟨f,2,ae⟩=ag (ay az base)/\w'.cell? ⟨f,3,ae⟩=ag (ay az K.cap)/\w'.cell? ⟨f,4,ae⟩=ag (ay az K.dO)/\w'.cell? ⟨f,5,ae⟩=ag (ay az K.most)/\w'.cell? ⟨f,6,ae⟩=ag (ay az K.fj)/\w'.cell? ⟨f,7,ae⟩=ag (aD aE C)/\w'.cell? ⟨f,8,ae⟩=ag (aD aE B)),p.w.cell? ⟨sb,14,ae⟩=ag (aA (ag ⟨db,0,ae⟩))/\p.w.cell? ⟨f,1,ae⟩=ag (ay az sm)/\p.w.cell? ⟨f,2,ae⟩=ag (ay az base)/\p.w.cell? ⟨f,3,ae⟩=ag (ay az K.cap)/\p.w.cell? ⟨f,4,ae⟩=ag (ay az K.dO)/\p.w.cell? ⟨f,5,ae⟩=ag (ay az K.most)/\p.w.cell? ⟨f,6,ae⟩=ag (ay az K.fj)/\p.w.cell? ⟨f,7,ae⟩=ag (aD aE C)/\p.w.cell? ⟨f,8,ae⟩=ag (aD aE B):=λp=>p.h
 refine bX [0,1,2,3,4,5,6,7,8,9,10,11,12,13,14,15,16,17,18,19] (λw'=>w'.cell? ⟨sb,14,ae⟩=ag (aA (ag ⟨db,0,ae⟩))/\w'.cell? ⟨f,1,ae⟩=ag (ay az sm)/\w'.cell? ⟨f,2,ae⟩=ag (ay az base)/\w'.cell? ⟨f,3,ae⟩=ag (ay az K.cap)/\w'.cell? ⟨f,4,ae⟩=ag (ay az K.dO)/\w'.cell? ⟨f,5,ae⟩=ag (ay az K.most)/\w'.cell? ⟨f,6,ae⟩=ag (ay az K.fj)/\w'.cell? ⟨f,7,ae⟩=ag (aD aE C)/\w'.cell? ⟨f,8,ae⟩=ag (aD aE B)) (by kernel_rfl) (by kernel_rfl) (by intro c a d v w h;cases d <;> exact h) ⟨X,k5.2.1,k5.2.2.1,k5.2.2.2.1,k5.2.2.2.2.1,k5.2.2.2.2.2.1,k5.2.2.2.2.2.2.1,k5.2.2.2.2.2.2.2.1,k5.2.2.2.2.2.2.2.2.1⟩ ?_
 intro dF
 simp only[pick,aV,a8,aQ,aR]
 refine aX 8 (by kernel_rfl) ?_
 simp only[aJ,aO,aI,aL]
 repeat (go_big_quiet_step (fail))
 refine aU ?_
 refine aS rfl ?_ rfl
 go_wp2_with fail
 have a2:=aH (D5.out.ch (Ch.bh [] g5 (bi w5)) (by simp))
 have an:=aH (show aw ax 29 #[aA (ag ⟨db,0,ae⟩),.agg #[ay az sm,ay az base,ay az K.cap,ay az K.dO,ay az K.most,ay az K.fj,aD aE C,aD aE B]] w5.drew λe w'=>∃eb g',e=aF (.tuple #[aA (ag ⟨eb,0,ae⟩),.agg #[aC aj,ay az 0,ay az 0],ay az 0])/\Ch TN g5 w5.drew g' w'/\gw w' g' eb db K ⟨sm,C,B⟩ (fJ nA) []from by
  have ok:=a3.out
  have h:=HH.out
  rw[<-Q.out.2.2.2.1,<-Q.out.2.2.2.2.1,<-Q.out.2.2.2.2.2.1,<-Q.out.2.2.2.2.2.2]
  exact aaT db S.sm S.lr S.al E w5.drew g5 a2.out (by have:=h.dk;rw[Q.out.2.2.1]at this;exact this) ok.1 ok.2.1 h.lr h.kl (by have:=ok.2.2;have:=Q.out.2.2.2.2.2.2;omega) (by have:=h.b2;have:=Q.out.2.2.2.2.2.2;omega) h.sm)
 refine an.out.mono ?_
 rintro e w6 ⟨eb,g6,rfl,c6,h6⟩
 have af:Ch TN g5 w5 g6 w6:=(Ch.bh TN g5 (bi w5)).trans c6
 have C6:=aH (C5.out.trans (af.mono (T':=TB) (by decide)))
 have E6:=aH h6
 have S6:=aH (S5.out.ch af (by decide))
 have k6:=eM.out w6 g6 TB C6.out (by decide)
 have a0:w6.cell? ⟨sb,14,ae⟩=ag (aA (ag ⟨db,0,ae⟩)):=S6.out.cell 14
 have a':w6.cell? ⟨sb,15,ae⟩=ag (aA ae):=S6.out.cell 15
 have u15:w6.frozen? ⟨sb,15,ae⟩=ah:=S6.out.free 15
 clear c6 af h6 an k5 X
 go_wp2_with fail
 refine⟨⟨⟨_,⟨a0,k6.2.1,k6.2.2.1,k6.2.2.2.1,k6.2.2.2.2.1,k6.2.2.2.2.2.1,k6.2.2.2.2.2.2.1,k6.2.2.2.2.2.2.2.1,k6.2.2.2.2.2.2.2.2.1⟩⟩,rfl⟩,?_⟩
 refine aX 6 (by kernel_rfl) ?_
 simp only[aJ,aO,aI,aL]
 repeat (go_big_quiet_step (fail))
 refine aU ?_
 obtain⟨x7,A'⟩:=bP (w6.setCell ⟨sb,15,ae⟩ (aA (ag ⟨eb,0,ae⟩)))
 have S7:=aH (show Row x7 g6 70 sb #[ay az E,ay az sm,ay az base,ay az K.cap,ay az K.dO,ay az K.most,ay az K.fj,aD aE C,aD aE B,aB ae 0 0,aB Y n Z,aB pa m pc,ay az mo,aB ae 0 0,aA (ag ⟨db,0,ae⟩),aA (ag ⟨eb,0,ae⟩),aB ae 0 0,ay az (-1),ay az 0,aB ae 0 0,aB ae 0 0,ay az 0,ay az 0,ay az 0,ay az 0,ay az 0,ay az 0,ay az 0,ay az 0,aD aE 0,aC ah,aC ah,aC ah,ay az 0,ay az 0,ay az 0,ay az 0,ay az 0,ay az 0,ay az 0,ay az 0,ay az 0,ay az 0,aB ae 0 0] 85 from by rw[<-A'];exact S6.out.set 15 (aA (ag ⟨eb,0,ae⟩)))
 have C7:=aH (show Ch TB gz w1 g6 x7 from by rw[<-A'];exact C6.out.set _ (.inl (by rw[S6.out.tag];decide)))
 have ao:Ch [70] g6 w6 g6 x7:=by rw[<-A'];exact(Ch.refl _ _ _).set _ (.inl (by rw[S6.out.tag];decide))
 have E7:=aH (E6.out.ch ao (by decide))
 have x:=eM.out x7 g6 TB C7.out (by decide)
 have al:x7.cell? ⟨sb,14,ae⟩=ag (aA (ag ⟨db,0,ae⟩)):=S7.out.cell 14
 clear ao
 refine aS rfl ?_ rfl
 go_wp2_with fail
 refine⟨⟨⟨_,⟨al,x.2.1,x.2.2.1,x.2.2.2.1,x.2.2.2.2.1,x.2.2.2.2.2.1,x.2.2.2.2.2.2.1,x.2.2.2.2.2.2.2.1,x.2.2.2.2.2.2.2.2.1⟩⟩,rfl⟩,?_⟩
 refine aX 3 (by kernel_rfl) ?_
 simp only[aJ,aO,aI,aL]
 repeat (go_big_quiet_step (fail))
 refine aU ?_
 have bb:x7.cell? ⟨sb,18,ae⟩=ag (ay az 0):=S7.out.cell 18
 have u18:x7.frozen? ⟨sb,18,ae⟩=ah:=S7.out.free 18
 have a6:=eU (i:=18) (v:=ay az 0) S7.out.row rfl
 refine aS rfl ?_ rfl
 go_wp2_with fail
 refine⟨⟨⟨_,⟨al,x.2.1,x.2.2.1,x.2.2.2.1,x.2.2.2.2.1,x.2.2.2.2.2.1,x.2.2.2.2.2.2.1,x.2.2.2.2.2.2.2.1,x.2.2.2.2.2.2.2.2.1⟩⟩,rfl⟩,?_⟩
 refine bF ?_
 clear dF qR
 clear k6 a0 a' u15 A' al bb u18 a6
 have be:x7.cell? ⟨f,10,ae⟩=ag (aB Y n Z):=x.2.2.2.2.2.2.2.2.2.2.1
 have B7:=aH (show Ig gz w1 K S db eb sb x7 g6 [] (aB ae 0 0)from⟨by rw[a5.out];exact S7.out,by rw[Q.out.2.2.2.1,Q.out.2.2.2.2.1,Q.out.2.2.2.2.2.1];exact E7.out,vB,λn b h=>(by simp at h),im.nil _ _ _ _ _ _,C7.out⟩)
 clear x
 go_wp2_with fail
 go_loopw [43] (λi wr=>∃(k:Nat) (tb:List Nat) (Eh:ar) (t:Tg),k<=n/\i=ay az k/\Hid (tb.length=k)/\Hid (Ig gz w1 K S db eb sb wr t tb Eh)) (λi _=>n-(intOf i).toNat)
 case atStart=>exact⟨0,[],_,_,cF _,rfl,aH rfl,B7⟩
 case round=>
  obtain⟨k,tb,Eh,t,hk,rfl,HL,r⟩:=hrel
  obtain⟨va,vc,rfl,-⟩:=r.out.Je.own.shape
  have ab:=aH (show(tb.map ag).length=k from by rw[bZ];exact HL.out)
  rw[ab.out]at r
  have av:wr.cell? ⟨sb,16,ae⟩=ag (aB va k vc):=by have e:=r.out.row.cell 16;rw[e];rfl
  by_cases fp:k<n
  ·have kz:(k:Int)<(n:Int):=by omega
   obtain⟨w8,bd,a1,L⟩:=bG wr #[aA (ag ⟨sb,0,ae⟩),ay az (k:Int),ay az 0,ay az 0,ay az 0] 102
   have aq:=aga L.out
   obtain⟨qb,Mb⟩:=bP wr.heap.size
   rw[Mb]at L aq
   obtain⟨w9,a9,I,V⟩:=bG w8 #[.iface 100 (aA (ag ⟨qb,0,ae⟩))] 108
   have ak:=jY V.out
   have F:=aH (aM a1.out I.out)
   have O9:=aH (show fC (Ej sb) 108 1 w9 (aB va k vc) (tb.map ag)from by have e:=r.out.Je.own;exact e.below F.out)
   have OT:=aH (show ∀l,(Value.slice va k vc).ownBlock=ag l->t l=73/\l<wr.heap.size from λl s=>⟨r.out.Je.tag l s,r.out.Je.own.lt l s⟩)
   have LN:=aH (show(tb.map ag).length<=1000000 from by rw[ab.out];omega)
   have CN:=aH (show ∀j u,(Ej sb (ag qb))[j]?=ag u->w9.cell? ((⟨w8.heap.size,0,ae⟩:Addr).add j)=ag u from ik (by unfold Ej;exact V.out))
   clear ak
   go_wp2_with (at_builtin;refine cY (o:=⟨ag 57,_,_,_,_,_⟩) rfl _ _ 83 108 rfl Tryz.underlying83 Tryz.sZ rfl (by decide) (by decide) (Ej sb) (Ln sb) (Lm sb) _ (tb.map ag) rfl O9.out ⟨w8.heap.size,0,ae⟩ (ag qb) rfl CN.out LN.out ?_)
   intro bc O D GA W
   obtain⟨J,N,rfl,-⟩:=D.shape
   obtain⟨M,Uf⟩:=bP ((tb.map ag++[ag qb]).length)
   have Zp:=aH D
   have U:=aH W
   rw[Uf]at Zp U ⊢
   have aa:=aH (show Ch [70,73] t wr t O from(Ch.bh [70,73] t F.out).grown GA (λl s=>.inl (by rw[(OT.out l s.symm.symm).1];decide)))
   have A:=aH (show Row O t 70 sb (IW K S db eb (aB va k vc) (aB ae 0 0) (aB ae 0 0) (-1)) 85 from⟨(GA.block _ (aW r.out.row.lt F.out.size) (λe=>by have:=(OT.out sb e.symm).1;rw[r.out.row.tag]at this;exact absurd this (by decide))).trans ((F.out.block _ r.out.row.lt).trans r.out.row.row),r.out.row.tag⟩)
   have a4:=aH (show O.heap[qb]?=ag (aG (Rt sb tb.length ⟨0,ae,0⟩) 102 (0,0))from by
    rw[HL.out]
    exact(GA.block _ (aW (aT L.out) I.out.size) (λe=>by have:=(OT.out qb e.symm).2;omega)).trans ((I.out.block _ (aT L.out)).trans L.out))
   have ba:O.cell? ⟨sb,16,ae⟩=ag (aB va k vc):=by have e:=A.out.cell 16;rw[e];rfl
   have a7:O.frozen? ⟨sb,16,ae⟩=ah:=A.out.free 16
   obtain⟨EG,wM⟩:=bP (O.setCell ⟨sb,16,ae⟩ (aB J M N))
   obtain⟨G,hG⟩:=bP (eJ (tg t qb (80+k)) w9.heap.size 73)
   have iR:∀l,l<wr.heap.size->G l=t l:=λl s=>by rw[<-hG,dU (aW s F.out.size)];exact dA (by omega)
   have CX:=aH (show Ch [70,73] t wr G EG from by rw[<-wM];exact(aa.out.set _ (.inl (by rw[r.out.row.tag];decide))).gE iR)
   have RX:=aH (show Row EG G 70 sb (IW K S db eb (aB J M N) (aB ae 0 0) (aB ae 0 0) (-1)) 85 from by
    have e:=(A.out.set 16 (aB J M N)).gE (g':=G) (iR _ r.out.row.lt)
    rw[wM]at e
    exact e)
   have nb:∀l,(Value.slice J M N).ownBlock=ag l->l≠sb/\G l=73:=λl s=>by
    rcases U.out l s with e | e
    ·obtain⟨e1,e2⟩:=OT.out l e
     refine⟨λe3=>?_,(iR l e2).trans e1⟩
     have:=r.out.row.tag
     rw[<-e3,e1]at this
     exact absurd this (by decide)
    ·have e':wr.heap.size<=l:=bJ F.out.size e
     have:=r.out.row.lt
     exact⟨by omega,by rw[<-hG];exact dQ e⟩
   have PX:=aH (show im (Ej sb) 108 1 EG G 73 (aB J M N) (tb.map ag++[ag qb])from⟨by rw[<-wM];exact Zp.out.same λl s=>bD (nb l s).1,λl s=>(nb l s).2⟩)
   have NX:=aH (show Ig gz w1 K S db eb sb EG G (tb++[qb]) (aB J M N)from r.out.step CX.out (by decide) RX.out (by rw[gM];exact PX.out) (.inr ⟨qb,rfl,by omega,⟨by rw[<-wM];exact(bD (by have:=r.out.row.lt;omega)).trans a4.out,by rw[<-hG,dU (aW (aT L.out) I.out.size),HL.out];exact dG _ _ _⟩⟩))
   have NL:=aH (show(tb++[qb]).length=k+1 from by rw[aN,cP,HL.out])
   clear D GA W Uf av aq iR nb hG
   go_wp2_with fail
   go_roundw
   case rel=>exact⟨k+1,tb++[qb],_,G,by omega,by go_num,NL,NX⟩
   case measure=>simp[intOf];omega
  ·obtain rfl:k=n:=by omega
   have kz:(k:Int)<=(k:Int):=by omega
   obtain⟨w9,a9,I,V⟩:=bG wr #[.iface 104 (.agg #[aA (ag ⟨sb,0,ae⟩)])] 108
   have ak:=jY V.out
   have F:=aH (I.out)
   have O9:=aH (show fC (Ej sb) 108 1 w9 (aB va k vc) (tb.map ag)from by have e:=r.out.Je.own;exact e.below F.out)
   have OT:=aH (show ∀l,(Value.slice va k vc).ownBlock=ag l->t l=73/\l<wr.heap.size from λl s=>⟨r.out.Je.tag l s,r.out.Je.own.lt l s⟩)
   have LN:=aH (show(tb.map ag).length<=1000000 from by rw[ab.out];omega)
   have CN:=aH (show ∀j u,(Ej sb (ae))[j]?=ag u->w9.cell? ((⟨wr.heap.size,0,ae⟩:Addr).add j)=ag u from ik (by unfold Ej;exact V.out))
   clear ak
   go_wp2_with (at_builtin;refine cY (o:=⟨ag 70,_,_,_,_,_⟩) rfl _ _ 83 108 rfl Tryz.underlying83 Tryz.sZ rfl (by decide) (by decide) (Ej sb) (Ln sb) (Lm sb) _ (tb.map ag) rfl O9.out ⟨wr.heap.size,0,ae⟩ (ae) rfl CN.out LN.out ?_)
   intro bc O D GA W
   obtain⟨J,N,rfl,-⟩:=D.shape
   obtain⟨M,Uf⟩:=bP ((tb.map ag++[ae]).length)
   have Zp:=aH D
   have U:=aH W
   rw[Uf]at Zp U ⊢
   have aa:=aH (show Ch [70,73] t wr t O from(Ch.bh [70,73] t F.out).grown GA (λl s=>.inl (by rw[(OT.out l s.symm.symm).1];decide)))
   have A:=aH (show Row O t 70 sb (IW K S db eb (aB va k vc) (aB ae 0 0) (aB ae 0 0) (-1)) 85 from⟨(GA.block _ (aW r.out.row.lt F.out.size) (λe=>by have:=(OT.out sb e.symm).1;rw[r.out.row.tag]at this;exact absurd this (by decide))).trans ((F.out.block _ r.out.row.lt).trans r.out.row.row),r.out.row.tag⟩)
   have ba:O.cell? ⟨sb,16,ae⟩=ag (aB va k vc):=by have e:=A.out.cell 16;rw[e];rfl
   have a7:O.frozen? ⟨sb,16,ae⟩=ah:=A.out.free 16
   obtain⟨EG,wM⟩:=bP (O.setCell ⟨sb,16,ae⟩ (aB J M N))
   obtain⟨G,hG⟩:=bP (eJ t w9.heap.size 73)
   have iR:∀l,l<wr.heap.size->G l=t l:=λl s=>by rw[<-hG,dU (aW s F.out.size)]
   have CX:=aH (show Ch [70,73] t wr G EG from by rw[<-wM];exact(aa.out.set _ (.inl (by rw[r.out.row.tag];decide))).gE iR)
   have RX:=aH (show Row EG G 70 sb (IW K S db eb (aB J M N) (aB ae 0 0) (aB ae 0 0) (-1)) 85 from by
    have e:=(A.out.set 16 (aB J M N)).gE (g':=G) (iR _ r.out.row.lt)
    rw[wM]at e
    exact e)
   have nb:∀l,(Value.slice J M N).ownBlock=ag l->l≠sb/\G l=73:=λl s=>by
    rcases U.out l s with e | e
    ·obtain⟨e1,e2⟩:=OT.out l e
     refine⟨λe3=>?_,(iR l e2).trans e1⟩
     have:=r.out.row.tag
     rw[<-e3,e1]at this
     exact absurd this (by decide)
    ·have e':wr.heap.size<=l:=bJ F.out.size e
     have:=r.out.row.lt
     exact⟨by omega,by rw[<-hG];exact dQ e⟩
   have PX:=aH (show im (Ej sb) 108 1 EG G 73 (aB J M N) (tb.map ag++[ae])from⟨by rw[<-wM];exact Zp.out.same λl s=>bD (nb l s).1,λl s=>(nb l s).2⟩)
   have CW:=aH (C1.out.trans (r.out.ch.trans (CX.out.mono (by decide))))
   clear D GA W Uf av iR nb hG
   go_wp2_with fail
   go_ret2
   exact⟨G,⟨sb,eb,db,[],tb,aB J M N,aB ae 0 0,aB ae 0 0⟩,rfl,CW.out,r.out.done (by rw[HL.out,Q.out.1]) HH.out.p1.2 CX.out RX.out PX.out (HH.out.ask.ch CW.out (by decide)) (HH.out.Cm.ch CW.out (by decide))⟩
end
end
end Go.Proofs.YtooinenkenobaaaGreat

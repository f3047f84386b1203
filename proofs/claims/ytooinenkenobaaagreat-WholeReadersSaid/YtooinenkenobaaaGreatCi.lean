/- A part of the proof of what LawWholeReaders says. -/
import Derived.Test.YtooinenkenobaaaGreatAa
import Derived.Test.YtooinenkenobaaaGreatCh
import Derived.Test.YtooinenkenobaaaGreatBy
import Derived.Test.YtooinenkenobaaaGreatBl
set_option maxRecDepth 100000
set_option maxHeartbeats 20000000
namespace Go.Proofs.YtooinenkenobaaaGreat
open Option renaming none->ae,some->ag
open Bool renaming false->ah,true->aj
open Go.Proofs.Tryz renaming prog->ax
open Go.Value renaming int->ay,pointer->aA,slice->aB,bool->aC,float->aD
open Go.IntKind renaming i64->az
open Go.FloatKind renaming f64->aE
open Go.Ending renaming returned->aF
open Go.Obj renaming cells->aG
open Go renaming World->am,Value->ar,TypeId->au,Calls->aw
section
open Go.RowKit Go.Maps
def sU:Nat:=fV (fP 20)
theorem Yf:sW=fP 20:=by decide
theorem Ux{l:Nat}(h:l<=sW):fV l<=sU:=by
 have a:=yP h
 rw[Yf]at a
 exact a
theorem R9(n:Nat)(o:1<=n)(q:n<=100000):∃T,fV T=n*sU/\T<fI:=by
 have g:n≠0:=by omega
 have a:=Nat.log2_self_le g
 have b:=Nat.lt_log2_self (n:=n)
 obtain⟨l,f⟩:=bP n.log2
 rw[f]at a b
 have m:l<=16:=by
  rcases cg 16 l with h | h
  ·have:=p9 (show 0<2 by decide) (show 17<=l from h)
   omega
  ·exact h
 have d:2^l*2^(52-l)=fB:=by rw[<-fe,show l+(52-l)=52 by omega];rfl
 have e:2^(l+1)*2^(52-l)=2*fB:=by rw[<-fe,show l+1+(52-l)=53 by omega];rfl
 have j:fB<=n*2^(52-l):=by rw[<-d];exact dp _ a
 have k:n*2^(52-l)<=2*fB:=by rw[<-e];exact dp _ (dP b)
 refine⟨(1094-(52-l))*fB+n*2^(52-l),?_,?_⟩
 ·have c:=Uy 20
  obtain⟨p,i⟩:=bP (20+1074)
  rw[i]at c
  rw[GL _ _ j k,ig,<-fe,show 52-l+(1094-(52-l))=p by omega,<-c]
  unfold sU
  exact Eq.refl _
 ·have:(1094-(52-l))*fB<=1094*fB:=dp _ (by omega)
  have:fI=2047*fB:=by decide
  have:0<fB:=by decide
  omega
theorem Zh{a b z:Nat}(h:Ieee.double.add a b=ag z)(w:am):(binOp .add 24 (aD aE a) (aD aE b)).run ax w=.ok (aD aE z) w:=by
 have c:FloatKind.f64.format.add a b=ag z:=h
 simp[binOp,Op.floatArith,c]
theorem Pm(b:Bool)(z:Nat)(w:am):(Instr.field 420 (.agg #[aC b,aD aE z]) 1).run ax w=.ok (aD aE z) w:=by kernel_rfl
section
variable{K:dw}{P:jx}
theorem YU(d u b i:Nat)(E:fm)(j:List Nat)(c:CV)(w:am)(g:Tg)(H:gw w g d u K P E j)(h:fy K E)(f:kW K P)(n:E.cs[i]?=ag c)(k:j[i]?=ag b)(l:E.cW=ag i)(m:c.st=6)(o:GC K E=ah):
 aw ax 319 #[aA (ag ⟨d,0,ae⟩)] w λe w'=>e=aF (aC aj)/\Below w.heap.size w w':=by
 have C:w.cell? ⟨b,6,ae⟩=ag (ay az 6):=by
  obtain⟨dv,rv,r⟩:=H.call n k
  rw[r.cell 6]
  show ag (Value.int IntKind.i64 (c.st:Int))=_
  rw[m]
  rfl
 obtain⟨R,D,F,a⟩:=H.ex
 have G:w.cell? ⟨d,17,ae⟩=ag (aA (ag ⟨b,0,ae⟩)):=by
  have e:=a.row.cell 17
  rw[e]
  show ag R.ld=_
  rw[a.ld,l]
  show ag (Value.pointer (ag ⟨j[i]?.getD 0,0,ae⟩))=_
  rw[k]
  rfl
 have y:w.cell? ⟨d,11,ae⟩=ag (aA (ag ⟨R.kb,0,ae⟩)):=a.row.cell 11
 have q:=aH a.row
 have t:=aH (yp R.kb E.now w a.clk)
 have s:=aH (JS d E.now E.held E.line _ E.want E.begun w a.row a.zL a.Ek a.cw ⟨f.k.m1,f.k.m2⟩ f.ln (h.clk (by rw[l];simp)) a.now)
 have p:=aH o
 have fl':=yM
 clear H a h f n k l m o
 go_in
 go_wp2_with fail
 refine(uh d w q.out).mono ?_
 rintro e I ⟨rfl,x⟩
 subst x
 go_wp2_with fail
 refine t.out.mono ?_
 rintro e J ⟨rfl,rfl⟩
 go_wp2_with fail
 refine s.out.mono ?_
 rintro e L ⟨z,rfl,B,-⟩
 have A:qA K.most K.fj K.bU E.want E.held.length (eR E.held) ((Ieee.double.sub E.now E.begun).getD 0)=ah:=p.out
 rw[A]
 go_wp2_with fail
 go_ret
 exact⟨rfl,B⟩
theorem dZ.abG{w w':am}{g:Tg}{R:oG}{d b:Nat}{E:fm}{a:List Nat}{e f:Lit->Option ar}(H:dZ w g d b K P E a R e f)(c:Ch [41] g w g w'){t:Nat}(i:t<fI)(h:Row w' g 41 R.kb (pN t) 170):dZ w' g d b K P { E with now:=t } a R e f:=
 ⟨H.row.ch c (by decide),H.log.ch c (by decide),H.zL.ch c (by decide),H.Ek.ch c (by decide),h,H.ul.ch c (by decide),H.act.ch c (by decide),H.sg.ch c (by decide) (by decide),H.A8.ch c (by decide),H.r',H.ld,H.xy.ch c (by decide) (by decide),H.cls.ch c (by decide),H.cw,i⟩
theorem ac9(q X b i:Nat)(E:fm)(N:List Nat)(c:CV)(w:am)(g:Tg)(H:gw w g q X K P E N)(h:fy K E)(o:kW K P)(V:K.bU<=sW)(hc:E.cs[i]?=ag c)(hb:N[i]?=ag b)(I:E.cW=ag i)(h6:c.st=6)(Y:GC K E=ah)(k:Nat)(hk:k<=10000)(hn:fV E.now<=k*sU):
 aw ax 207 #[aA (ag ⟨q,0,ae⟩)] w λe w'=>e=aF (aC aj)/\∃t g',E.now<=t/\GC K { E with now:=t }=aj/\fV t<=(k+1)*sU/\Ch [41] g w g' w'/\gw w' g' q X K P { E with now:=t } N:=by
 have TK:=aH (YU q X b i E N c w g H h o hc hb I h6 Y)
 obtain⟨R,fd,fl,f⟩:=H.ex
 obtain⟨l,G,m⟩:=R9 (k+1) (by omega) (by omega)
 have d:E.begun<=E.now:=h.clk (by rw[I];simp)
 have p:E.now<=l:=uU.1 (by rw[G,dT];omega)
 have Bb:∀t,GC K { E with now:=t }=qA K.most K.fj K.bU E.want E.held.length (eR E.held) ((Ieee.double.sub t E.begun).getD 0):=λt=>rfl
 have L:qA K.most K.fj K.bU E.want E.held.length (eR E.held) ((Ieee.double.sub l E.begun).getD 0)=aj:=by
  obtain⟨z,r,y,-⟩:=rN m (bJ d p)
  rw[r]
  have:K.bU<=z:=y _ (dP o.ln) (by
   have a:=Ux V
   have b:=yP d
   rw[G,dT]
   omega)
  unfold qA
  simp[this]
 have S:=aH f
 have HB:=aH (And.intro d p)
 have n:=aH m
 have U:=aH L
 have Q:=aH Bb
 have Zo:=aH (λx hx t h1 h2=>JS (K:=K) (P:=P) q t E.held E.line _ E.want E.begun x (f.row.below hx) (f.zL.ch (Ch.bh [] g hx) (by decide)) (f.Ek.below hx) f.cw ⟨o.k.m1,o.k.m2⟩ o.ln (bJ d h1) (tw h2 m))
 have HG:=aH (show qA K.most K.fj K.bU E.want E.held.length (eR E.held) ((Ieee.double.sub E.now E.begun).getD 0)=ah from Y)
 have FT:=aH (show ∀t,t<=l->fV t<=(k+1)*sU from λt ht=>by rw[<-G];exact yP ht)
 have T:=aH (show ∀z,z<=K.bU->∃s,Ieee.double.add E.now z=ag s/\E.now<=s/\s<=l from λz J=>by
  have I:z<fI:=tw J o.ln
  obtain⟨s,r,y,O⟩:=Zi f.now I
  exact⟨s,r,y _ (dP f.now) (by omega),O _ (by have:=Ux (bJ J V);rw[G,dT];omega)⟩)
 have F:∀x,Below w.heap.size w x->x.cell? ⟨q,11,ae⟩=ag (aA (ag ⟨R.kb,0,ae⟩)):=λx hx=>(f.row.below hx).cell 11
 have B:=aH F
 have fl':=yM
 have aa:=Pm
 clear F H f h o hc hb I h6 Y hn hk V G d p Bb L m
 go_in
 go_wp2_with fail
 refine TK.out.mono ?_
 rintro e Z ⟨rfl,iL⟩
 have M:=aH iL
 clear iL
 have k1:=B.out Z M.out
 go_wp2_with fail
 refine(yp R.kb E.now Z (S.out.clk.below M.out)).mono ?_
 rintro e w2 ⟨rfl,rfl⟩
 go_wp2_with fail
 refine(Zo.out Z M.out E.now dx HB.out.2).mono ?_
 rintro e w3 ⟨z,rfl,iY,J⟩
 have B3:=aH (aM M.out iY)
 obtain⟨s,r,y,O⟩:=T.out z (J HG.out).2
 have W:=Zh r
 have S1:=aH (And.intro y O)
 obtain⟨b3,D⟩:=bP (qA K.most K.fj K.bU E.want E.held.length (eR E.held) ((Ieee.double.sub E.now E.begun).getD 0))
 rw[D]
 clear iY J r y O k1 D
 go_wp2_with fail
 go_loopw [4] (λu wr=>∃t:Nat,u=aD aE t/\Hid (E.now<=t/\t<=l)/\Hid (Below w.heap.size w wr)) (λu _=>match u with | .float _ t=>l-t | _=>0)
 case atStart=>exact⟨s,rfl,S1,B3⟩
 case round=>
  obtain⟨t,rfl,j,C⟩:=hrel
  clear W
  go_wp2_with fail
  refine(Zo.out wr C.out t j.out.1 j.out.2).mono ?_
  rintro e w5 ⟨z5,rfl,Gz,-⟩
  have A:=aH (aM C.out Gz)
  clear Gz
  cases hv:qA K.most K.fj K.bU E.want E.held.length (eR E.held) ((Ieee.double.sub t E.begun).getD 0)with
  | false=>
   have lt:t<l:=by
    rcases cg t l with h | h
    ·exact h
    ·obtain rfl:t=l:=Nat.le_antisymm j.out.2 h
     rw[U.out]at hv
     cases hv
   have LT:=aH lt
   clear hv lt
   go_wp2_with fail
   refine(abZ t w5 (by have:=LT.out;have:=n.out;omega)).mono ?_
   rintro e w6 ⟨rfl,e6⟩
   subst e6
   go_wp2_with fail
   go_roundw
   case rel=>exact⟨t+1,rfl,aH ⟨by have:=j.out.1;omega,LT.out⟩,A⟩
   case measure=>have:=LT.out;simp;omega
  | true=>
   have HV:=aH hv
   clear hv
   have k5:=B.out w5 A.out
   go_wp2_with fail
   refine(ams R.kb E.now t w5 (S.out.clk.below A.out) j.out.1 (tw j.out.2 n.out)).mono ?_
   rintro e w6 ⟨rfl,c6,r6⟩
   go_wp2_with fail
   go_ret
   refine⟨rfl,t,g,j.out.1,(Q.out t).trans HV.out,FT.out t j.out.2,(Ch.bh [41] g A.out).trans c6,⟨_,_,_,(S.out.low A.out).abG c6 (tw j.out.2 n.out) r6⟩⟩
end
def ldI:Option Nat->Int
 | none=>0
 | some i=>(i:Int)+1
def r9(d c rs e h g f b:Int)(a:Nat):Array ar:=#[ay az d,ay az c,ay az rs,ay az e,ay az h,ay az g,ay az f,ay az b,aD aE a,aC ah,aC ah,aC ah,ay az 0]
def yi(K:dw)(E:fm):ar:=.agg (r9 K.b0 ((K.b0+E.du:Nat):Int) ((K.b0+E.D.length:Nat):Int) E.held.length (eR E.held) E.line.length (ldI E.cW) E.cT E.now)
theorem xQ{w:am}{b:Nat}{y x rs q p o n m:Int}{g:Nat}{t:au}(h:w.heap[b]?=ag (aG (r9 y x rs q p o n m g) t (0,0))){a c d e f i j k:Int}{l:Nat}:
 (((((((((((((w.setCell ⟨b,0,ae⟩ (ay az a)).setCell ⟨b,1,ae⟩ (ay az c)).setCell ⟨b,2,ae⟩ (ay az d)).setCell ⟨b,3,ae⟩ (ay az e)).setCell ⟨b,4,ae⟩ (ay az f)).setCell ⟨b,5,ae⟩ (ay az i)).setCell ⟨b,6,ae⟩ (ay az j)).setCell ⟨b,7,ae⟩ (ay az k)).setCell ⟨b,8,ae⟩ (aD aE l)).setCell ⟨b,9,ae⟩ (aC ah)).setCell ⟨b,10,ae⟩ (aC ah)).setCell ⟨b,11,ae⟩ (aC ah)).setCell ⟨b,12,ae⟩ (ay az 0)).heap[b]?=ag (aG (r9 a c d e f i j k l) t (0,0)):=by
 have z:(w.setCell ⟨b,0,ae⟩ (ay az a)).heap[b]?=ag (aG (r9 a x rs q p o n m g) t (0,0)):=bE h 0 _
 have A:((w.setCell ⟨b,0,ae⟩ (ay az a)).setCell ⟨b,1,ae⟩ (ay az c)).heap[b]?=ag (aG (r9 a c rs q p o n m g) t (0,0)):=bE z 1 _
 have B:(((w.setCell ⟨b,0,ae⟩ (ay az a)).setCell ⟨b,1,ae⟩ (ay az c)).setCell ⟨b,2,ae⟩ (ay az d)).heap[b]?=ag (aG (r9 a c d q p o n m g) t (0,0)):=bE A 2 _
 have C:((((w.setCell ⟨b,0,ae⟩ (ay az a)).setCell ⟨b,1,ae⟩ (ay az c)).setCell ⟨b,2,ae⟩ (ay az d)).setCell ⟨b,3,ae⟩ (ay az e)).heap[b]?=ag (aG (r9 a c d e p o n m g) t (0,0)):=bE B 3 _
 have D:(((((w.setCell ⟨b,0,ae⟩ (ay az a)).setCell ⟨b,1,ae⟩ (ay az c)).setCell ⟨b,2,ae⟩ (ay az d)).setCell ⟨b,3,ae⟩ (ay az e)).setCell ⟨b,4,ae⟩ (ay az f)).heap[b]?=ag (aG (r9 a c d e f o n m g) t (0,0)):=bE C 4 _
 have E:((((((w.setCell ⟨b,0,ae⟩ (ay az a)).setCell ⟨b,1,ae⟩ (ay az c)).setCell ⟨b,2,ae⟩ (ay az d)).setCell ⟨b,3,ae⟩ (ay az e)).setCell ⟨b,4,ae⟩ (ay az f)).setCell ⟨b,5,ae⟩ (ay az i)).heap[b]?=ag (aG (r9 a c d e f i n m g) t (0,0)):=bE D 5 _
 have F:(((((((w.setCell ⟨b,0,ae⟩ (ay az a)).setCell ⟨b,1,ae⟩ (ay az c)).setCell ⟨b,2,ae⟩ (ay az d)).setCell ⟨b,3,ae⟩ (ay az e)).setCell ⟨b,4,ae⟩ (ay az f)).setCell ⟨b,5,ae⟩ (ay az i)).setCell ⟨b,6,ae⟩ (ay az j)).heap[b]?=ag (aG (r9 a c d e f i j m g) t (0,0)):=bE E 6 _
 have G:((((((((w.setCell ⟨b,0,ae⟩ (ay az a)).setCell ⟨b,1,ae⟩ (ay az c)).setCell ⟨b,2,ae⟩ (ay az d)).setCell ⟨b,3,ae⟩ (ay az e)).setCell ⟨b,4,ae⟩ (ay az f)).setCell ⟨b,5,ae⟩ (ay az i)).setCell ⟨b,6,ae⟩ (ay az j)).setCell ⟨b,7,ae⟩ (ay az k)).heap[b]?=ag (aG (r9 a c d e f i j k g) t (0,0)):=bE F 7 _
 have H:(((((((((w.setCell ⟨b,0,ae⟩ (ay az a)).setCell ⟨b,1,ae⟩ (ay az c)).setCell ⟨b,2,ae⟩ (ay az d)).setCell ⟨b,3,ae⟩ (ay az e)).setCell ⟨b,4,ae⟩ (ay az f)).setCell ⟨b,5,ae⟩ (ay az i)).setCell ⟨b,6,ae⟩ (ay az j)).setCell ⟨b,7,ae⟩ (ay az k)).setCell ⟨b,8,ae⟩ (aD aE l)).heap[b]?=ag (aG (r9 a c d e f i j k l) t (0,0)):=bE G 8 _
 have I:((((((((((w.setCell ⟨b,0,ae⟩ (ay az a)).setCell ⟨b,1,ae⟩ (ay az c)).setCell ⟨b,2,ae⟩ (ay az d)).setCell ⟨b,3,ae⟩ (ay az e)).setCell ⟨b,4,ae⟩ (ay az f)).setCell ⟨b,5,ae⟩ (ay az i)).setCell ⟨b,6,ae⟩ (ay az j)).setCell ⟨b,7,ae⟩ (ay az k)).setCell ⟨b,8,ae⟩ (aD aE l)).setCell ⟨b,9,ae⟩ (aC ah)).heap[b]?=ag (aG (r9 a c d e f i j k l) t (0,0)):=bE H 9 _
 have r:(((((((((((w.setCell ⟨b,0,ae⟩ (ay az a)).setCell ⟨b,1,ae⟩ (ay az c)).setCell ⟨b,2,ae⟩ (ay az d)).setCell ⟨b,3,ae⟩ (ay az e)).setCell ⟨b,4,ae⟩ (ay az f)).setCell ⟨b,5,ae⟩ (ay az i)).setCell ⟨b,6,ae⟩ (ay az j)).setCell ⟨b,7,ae⟩ (ay az k)).setCell ⟨b,8,ae⟩ (aD aE l)).setCell ⟨b,9,ae⟩ (aC ah)).setCell ⟨b,10,ae⟩ (aC ah)).heap[b]?=ag (aG (r9 a c d e f i j k l) t (0,0)):=bE I 10 _
 have s:((((((((((((w.setCell ⟨b,0,ae⟩ (ay az a)).setCell ⟨b,1,ae⟩ (ay az c)).setCell ⟨b,2,ae⟩ (ay az d)).setCell ⟨b,3,ae⟩ (ay az e)).setCell ⟨b,4,ae⟩ (ay az f)).setCell ⟨b,5,ae⟩ (ay az i)).setCell ⟨b,6,ae⟩ (ay az j)).setCell ⟨b,7,ae⟩ (ay az k)).setCell ⟨b,8,ae⟩ (aD aE l)).setCell ⟨b,9,ae⟩ (aC ah)).setCell ⟨b,10,ae⟩ (aC ah)).setCell ⟨b,11,ae⟩ (aC ah)).heap[b]?=ag (aG (r9 a c d e f i j k l) t (0,0)):=bE r 11 _
 have u:(((((((((((((w.setCell ⟨b,0,ae⟩ (ay az a)).setCell ⟨b,1,ae⟩ (ay az c)).setCell ⟨b,2,ae⟩ (ay az d)).setCell ⟨b,3,ae⟩ (ay az e)).setCell ⟨b,4,ae⟩ (ay az f)).setCell ⟨b,5,ae⟩ (ay az i)).setCell ⟨b,6,ae⟩ (ay az j)).setCell ⟨b,7,ae⟩ (ay az k)).setCell ⟨b,8,ae⟩ (aD aE l)).setCell ⟨b,9,ae⟩ (aC ah)).setCell ⟨b,10,ae⟩ (aC ah)).setCell ⟨b,11,ae⟩ (aC ah)).setCell ⟨b,12,ae⟩ (ay az 0)).heap[b]?=ag (aG (r9 a c d e f i j k l) t (0,0)):=bE s 12 _
 exact u
theorem ww{B b:Nat}{a w:am}(h:Below B a w)(c:B<=b){g i j k l m n o p q d e f:ar}:
 Below B a (((((((((((((w.setCell ⟨b,0,ae⟩ g).setCell ⟨b,1,ae⟩ i).setCell ⟨b,2,ae⟩ j).setCell ⟨b,3,ae⟩ k).setCell ⟨b,4,ae⟩ l).setCell ⟨b,5,ae⟩ m).setCell ⟨b,6,ae⟩ n).setCell ⟨b,7,ae⟩ o).setCell ⟨b,8,ae⟩ p).setCell ⟨b,9,ae⟩ q).setCell ⟨b,10,ae⟩ d).setCell ⟨b,11,ae⟩ e).setCell ⟨b,12,ae⟩ f):=
 bK (bK (bK (bK (bK (bK (bK (bK (bK (bK (bK (bK (bK h c _) c _) c _) c _) c _) c _) c _) c _) c _) c _) c _) c _) c _
theorem Uw{w:am}{b q:Nat}{o:Option Obj}(a:q≠b)(h:w.heap[q]?=o){f g i j k l m n p r c d e:ar}:
 (((((((((((((w.setCell ⟨b,0,ae⟩ f).setCell ⟨b,1,ae⟩ g).setCell ⟨b,2,ae⟩ i).setCell ⟨b,3,ae⟩ j).setCell ⟨b,4,ae⟩ k).setCell ⟨b,5,ae⟩ l).setCell ⟨b,6,ae⟩ m).setCell ⟨b,7,ae⟩ n).setCell ⟨b,8,ae⟩ p).setCell ⟨b,9,ae⟩ r).setCell ⟨b,10,ae⟩ c).setCell ⟨b,11,ae⟩ d).setCell ⟨b,12,ae⟩ e).heap[q]?=o:=
 (bD a).trans ((bD a).trans ((bD a).trans ((bD a).trans ((bD a).trans ((bD a).trans ((bD a).trans ((bD a).trans ((bD a).trans ((bD a).trans ((bD a).trans ((bD a).trans ((bD a).trans h))))))))))))
theorem qh{w:am}{b:Nat}{t:au}(a c d:Int)(h:w.heap[b]?=ag (aG #[ay az 0,ay az 0,ay az 0,ay az 0,ay az 0,aC ah,aC ah,ay az 0] t (0,0))):((((((((w.setCell ⟨b,0,ae⟩ (ay az a)).setCell ⟨b,1,ae⟩ (ay az c)).setCell ⟨b,2,ae⟩ (ay az d)).setCell ⟨b,3,ae⟩ (ay az 1)).setCell ⟨b,4,ae⟩ (ay az 1)).setCell ⟨b,5,ae⟩ (aC ah)).setCell ⟨b,6,ae⟩ (aC ah)).setCell ⟨b,7,ae⟩ (ay az 0)).heap[b]?=ag (aG #[ay az a,ay az c,ay az d,ay az 1,ay az 1,aC ah,aC ah,ay az 0] t (0,0)):=by
 have e:(w.setCell ⟨b,0,ae⟩ (ay az a)).heap[b]?=ag (aG #[ay az a,ay az 0,ay az 0,ay az 0,ay az 0,aC ah,aC ah,ay az 0] t (0,0)):=bE h 0 _
 have f:((w.setCell ⟨b,0,ae⟩ (ay az a)).setCell ⟨b,1,ae⟩ (ay az c)).heap[b]?=ag (aG #[ay az a,ay az c,ay az 0,ay az 0,ay az 0,aC ah,aC ah,ay az 0] t (0,0)):=bE e 1 _
 have g:(((w.setCell ⟨b,0,ae⟩ (ay az a)).setCell ⟨b,1,ae⟩ (ay az c)).setCell ⟨b,2,ae⟩ (ay az d)).heap[b]?=ag (aG #[ay az a,ay az c,ay az d,ay az 0,ay az 0,aC ah,aC ah,ay az 0] t (0,0)):=bE f 2 _
 have i:((((w.setCell ⟨b,0,ae⟩ (ay az a)).setCell ⟨b,1,ae⟩ (ay az c)).setCell ⟨b,2,ae⟩ (ay az d)).setCell ⟨b,3,ae⟩ (ay az 1)).heap[b]?=ag (aG #[ay az a,ay az c,ay az d,ay az 1,ay az 0,aC ah,aC ah,ay az 0] t (0,0)):=bE g 3 _
 have j:(((((w.setCell ⟨b,0,ae⟩ (ay az a)).setCell ⟨b,1,ae⟩ (ay az c)).setCell ⟨b,2,ae⟩ (ay az d)).setCell ⟨b,3,ae⟩ (ay az 1)).setCell ⟨b,4,ae⟩ (ay az 1)).heap[b]?=ag (aG #[ay az a,ay az c,ay az d,ay az 1,ay az 1,aC ah,aC ah,ay az 0] t (0,0)):=bE i 4 _
 have k:((((((w.setCell ⟨b,0,ae⟩ (ay az a)).setCell ⟨b,1,ae⟩ (ay az c)).setCell ⟨b,2,ae⟩ (ay az d)).setCell ⟨b,3,ae⟩ (ay az 1)).setCell ⟨b,4,ae⟩ (ay az 1)).setCell ⟨b,5,ae⟩ (aC ah)).heap[b]?=ag (aG #[ay az a,ay az c,ay az d,ay az 1,ay az 1,aC ah,aC ah,ay az 0] t (0,0)):=bE j 5 _
 have l:(((((((w.setCell ⟨b,0,ae⟩ (ay az a)).setCell ⟨b,1,ae⟩ (ay az c)).setCell ⟨b,2,ae⟩ (ay az d)).setCell ⟨b,3,ae⟩ (ay az 1)).setCell ⟨b,4,ae⟩ (ay az 1)).setCell ⟨b,5,ae⟩ (aC ah)).setCell ⟨b,6,ae⟩ (aC ah)).heap[b]?=ag (aG #[ay az a,ay az c,ay az d,ay az 1,ay az 1,aC ah,aC ah,ay az 0] t (0,0)):=bE k 6 _
 have m:((((((((w.setCell ⟨b,0,ae⟩ (ay az a)).setCell ⟨b,1,ae⟩ (ay az c)).setCell ⟨b,2,ae⟩ (ay az d)).setCell ⟨b,3,ae⟩ (ay az 1)).setCell ⟨b,4,ae⟩ (ay az 1)).setCell ⟨b,5,ae⟩ (aC ah)).setCell ⟨b,6,ae⟩ (aC ah)).setCell ⟨b,7,ae⟩ (ay az 0)).heap[b]?=ag (aG #[ay az a,ay az c,ay az d,ay az 1,ay az 1,aC ah,aC ah,ay az 0] t (0,0)):=bE l 7 _
 exact m
theorem qm{B b:Nat}{a w:am}(h:Below B a w)(c:B<=b){d e f g i j k l:ar}:Below B a ((((((((w.setCell ⟨b,0,ae⟩ (d)).setCell ⟨b,1,ae⟩ (e)).setCell ⟨b,2,ae⟩ (f)).setCell ⟨b,3,ae⟩ (g)).setCell ⟨b,4,ae⟩ (i)).setCell ⟨b,5,ae⟩ (j)).setCell ⟨b,6,ae⟩ (k)).setCell ⟨b,7,ae⟩ (l)):=
 bK (bK (bK (bK (bK (bK (bK (bK h c _) c _) c _) c _) c _) c _) c _) c _
theorem qj{w:am}{b q:Nat}{o:Option Obj}(a:q≠b)(h:w.heap[q]?=o){c d e f g i j k:ar}:((((((((w.setCell ⟨b,0,ae⟩ (c)).setCell ⟨b,1,ae⟩ (d)).setCell ⟨b,2,ae⟩ (e)).setCell ⟨b,3,ae⟩ (f)).setCell ⟨b,4,ae⟩ (g)).setCell ⟨b,5,ae⟩ (i)).setCell ⟨b,6,ae⟩ (j)).setCell ⟨b,7,ae⟩ (k)).heap[q]?=o:=
 (bD a).trans ((bD a).trans ((bD a).trans ((bD a).trans ((bD a).trans ((bD a).trans ((bD a).trans ((bD a).trans h)))))))
theorem qi{w:am}{b:Nat}{t:au}(a c d:Int)(h:w.heap[b]?=ag (aG #[ay az 0,ay az 0,ay az 0] t (0,0))):(((w.setCell ⟨b,0,ae⟩ (ay az a)).setCell ⟨b,1,ae⟩ (ay az c)).setCell ⟨b,2,ae⟩ (ay az d)).heap[b]?=ag (aG #[ay az a,ay az c,ay az d] t (0,0)):=by
 have e:(w.setCell ⟨b,0,ae⟩ (ay az a)).heap[b]?=ag (aG #[ay az a,ay az 0,ay az 0] t (0,0)):=bE h 0 _
 have f:((w.setCell ⟨b,0,ae⟩ (ay az a)).setCell ⟨b,1,ae⟩ (ay az c)).heap[b]?=ag (aG #[ay az a,ay az c,ay az 0] t (0,0)):=bE e 1 _
 have g:(((w.setCell ⟨b,0,ae⟩ (ay az a)).setCell ⟨b,1,ae⟩ (ay az c)).setCell ⟨b,2,ae⟩ (ay az d)).heap[b]?=ag (aG #[ay az a,ay az c,ay az d] t (0,0)):=bE f 2 _
 exact g
theorem qp{B b:Nat}{a w:am}(h:Below B a w)(c:B<=b){d e f:ar}:Below B a (((w.setCell ⟨b,0,ae⟩ (d)).setCell ⟨b,1,ae⟩ (e)).setCell ⟨b,2,ae⟩ (f)):=
 bK (bK (bK h c _) c _) c _
theorem qk{w:am}{b q:Nat}{o:Option Obj}(a:q≠b)(h:w.heap[q]?=o){c d e:ar}:(((w.setCell ⟨b,0,ae⟩ (c)).setCell ⟨b,1,ae⟩ (d)).setCell ⟨b,2,ae⟩ (e)).heap[q]?=o:=
 (bD a).trans ((bD a).trans ((bD a).trans h))
section
variable{K:dw}{P:jx}
theorem Tf(p db f n t:Nat)(T S rs Y su li M:Int)(q:Nat)(E:fm)(O:List Nat){X:am}(g:Tg){Q:Exit->Act->am->Prop}{u1 u3 u4 u6 u7 u8 u9 u10 u11 u12 u13 u14 u15 u16 u17 u18 u19 u20 u21 u22 u23 u24 u25 u26 u27 u28 u29 u30 u31 u32 u33 u34 u35 u36 u37 u38 u39 u40 u41 u42 u43 u44 u45 u46 u47 u48 u49 u50 u51 u52 u53 u54 u55 u56 u57 u58 u59 u60 u61 u62 u63 u64 u65 u66 u67 u68 u69 u70 u71:ar}(H:gw X g p db K P E O)(h:fy K E)
 (d:X.heap[f]?=ag (aG (r9 0 0 0 0 0 0 0 0 0) 40 (0,0))) (o:X.heap[n]?=ag (aG (r9 T S rs Y su li 0 M q) 40 (0,0))) (ne:f≠n) (Z:t<=f) (l5:t<=n)
 (U:∀(L:am) (Wm Wl Wk Wj Wi Wh Wg Wf We Wc Wb Wa V' V9:ar),L.heap[f]?=ag (aG (r9 T S rs Y su li (ldI E.cW) M q) 40 (0,0))->Below t X L->Q .ret ⟨#[aA (ag ⟨p,0,ae⟩),u1,aA (ag ⟨f,0,ae⟩),u3,u4,aA (ag ⟨n,0,ae⟩),u6,u7,u8,u9,u10,u11,u12,u13,u14,u15,u16,u17,u18,u19,u20,u21,u22,u23,u24,u25,u26,u27,u28,u29,u30,u31,u32,u33,u34,u35,u36,u37,u38,u39,u40,u41,u42,u43,u44,u45,u46,u47,u48,u49,u50,u51,u52,u53,u54,u55,u56,u57,Wm,Wl,Wk,Wj,Wi,Wh,Wg,Wf,We,Wc,Wb,Wa,V',V9],[]⟩ L):
 (lD Tryz.f18 5).wp ax Q ⟨#[aA (ag ⟨p,0,ae⟩),u1,aA (ag ⟨f,0,ae⟩),u3,u4,aA (ag ⟨n,0,ae⟩),u6,u7,u8,u9,u10,u11,u12,u13,u14,u15,u16,u17,u18,u19,u20,u21,u22,u23,u24,u25,u26,u27,u28,u29,u30,u31,u32,u33,u34,u35,u36,u37,u38,u39,u40,u41,u42,u43,u44,u45,u46,u47,u48,u49,u50,u51,u52,u53,u54,u55,u56,u57,u58,u59,u60,u61,u62,u63,u64,u65,u66,u67,u68,u69,u70,u71],[]⟩ X:=by
 have s:=aH U
 obtain⟨R,fd,fl,e⟩:=H.ex
 have N2:=aH d
 have lC:t<=X.heap.size:=by have:=aT d;omega
 clear U lC
 cases hl:E.cW with
 | none=>
  have tG:X.cell? ⟨p,17,ae⟩=ag (aA ae):=by
   rw[e.row.cell 17]
   show ag R.ld=_
   rw[e.ld,hl]
   rfl
  rw[hl]at s
  have a:=λj=>aZ j o
  have f5:=λj=>bQ j o
  have u:=λj=>aZ j d
  have f2:=λj=>bQ j d
  have w:=a 0
  have x:=a 1
  have y:=a 2
  have A:=a 3
  have B:=a 4
  have C:=a 5
  have D:=a 6
  have F:=a 7
  have G:=a 8
  have I:=a 9
  have k:=a 10
  have l:=a 11
  have m:=a 12
  unfold r9 at w x y A B C D F G I k l m u
  clear hl e H h a d o
  conv=>arg 2;whnf
  go_wp2_with fail
  refine s.out _ _ _ _ _ _ _ _ _ _ _ _ _ _ _ (xQ N2.out) (ww (cX _ _) Z)
 | some i=>
  obtain⟨c,W,-⟩:=h.lead i hl
  obtain⟨b,V,N⟩:=e.cls.get W
  obtain⟨dv,rv,r,-⟩:=N.ex
  have tG:X.cell? ⟨p,17,ae⟩=ag (aA (ag ⟨b,0,ae⟩)):=by
   rw[e.row.cell 17]
   show ag R.ld=_
   rw[e.ld,hl]
   show ag (Value.pointer (ag ⟨O[i]?.getD 0,0,ae⟩))=_
   rw[V]
   rfl
  obtain⟨z,J⟩:=bP ((i:Int)+1:Int)
  have b0:X.cell? ⟨b,0,ae⟩=ag (ay az z):=by rw[r.cell 0,<-J];rfl
  rw[hl,show ldI (ag i)=z from J]at s
  have M2:=aH (show(X.setCell ⟨n,6,ae⟩ (ay az z)).heap[f]?=ag (aG (r9 0 0 0 0 0 0 0 0 0) 40 (0,0))from(bD ne).trans d)
  have a:=λj=>aZ j o
  have f5:=λj=>bQ j o
  have u:=λj=>aZ j d
  have f2:=λj=>bQ j d
  have w:=a 0
  have x:=a 1
  have y:=a 2
  have A:=a 3
  have B:=a 4
  have C:=a 5
  have D:=a 6
  have F:=a 7
  have G:=a 8
  have I:=a 9
  have k:=a 10
  have l:=a 11
  have m:=a 12
  unfold r9 at w x y A B C D F G I k l m u
  clear hl e H h a d o r N J W V
  conv=>arg 2;whnf
  go_wp2_with fail
  refine s.out _ _ _ _ _ _ _ _ _ _ _ _ _ _ _ (xQ M2.out) (ww (bK (cX _ _) l5 _) Z)
theorem agC(b db k b3 b4 I:Nat)(s o rs t y u n:Int)(nx:Int)(E:fm)(cb:List Nat)(X:am)(g:Tg){Q:Exit->Act->am->Prop}{u1 u5 u6 u7 u8 u9 u10 u11 u12 u13 u14 u15 u16 u17 u18 u19 u20 u21 u22 u23 u24 u25 u26 u27 u28 u29 u30 u31 u32 u33 u34 u35 u36 u37 u38 u39 u40 u41 u42 u43 u44 u45 u46 u47 u48 u49 u50 u51 u52 u53 u54 u55 u56 u57 u58 u59 u60 u61 u62 u63 u64 u65 u66 u67 u68 u69 u70 u71:ar}(H:gw X g b db K P E cb)(h:fy K E)
 (n2:X.heap[k]?=ag (aG (r9 0 0 0 0 0 0 0 0 0) 40 (0,0))) (n3:X.heap[b3]?=ag (aG #[ay az s,ay az nx,ay az o,ay az 1,ay az 1,aC ah,aC ah,ay az 0] 111 (0,0))) (n4:X.heap[b4]?=ag (aG #[ay az t,ay az y,ay az u] 125 (0,0)))
 (l2:I<=k) (zM:rs=((K.b0+E.D.length:Nat):Int)) (WF:n=E.cT) (hP:∀(c:List PanicEntry) (a:Act) (d:Option Tmp) (v:ar) (w:am),Q (.panic c) (a.put d v) w->Q (.panic c) a w)
 (hQ:∀(z:am) (x5 Rf Ip ZQ ZO ZK ZJ ac ad af ai ak al an ao aq av a0 a1 a2 a3 a4 a5 a6 a7 a9 a' ba bb bc bd be bg bh bk bl bm bo bq Wm Wl Wk Wj Wi Wh Z Y W V U T N O:ar),z.heap[k]?=ag (aG (r9 s o rs t y u (ldI E.cW) n E.now) 40 (0,0))->Below I X z->Q .ret ⟨#[aA (ag ⟨b,0,ae⟩),u1,aA (ag ⟨k,0,ae⟩),aA (ag ⟨b3,0,ae⟩),aA (ag ⟨b4,0,ae⟩),x5,u6,u7,u8,u9,u10,u11,u12,u13,u14,u15,u16,u17,u18,u19,Rf,Ip,ZQ,ZO,ZK,ZJ,ac,ad,af,ai,ak,al,an,ao,aq,av,a0,a1,a2,a3,a4,a5,a6,a7,a9,a',ba,bb,bc,bd,be,bg,bh,bk,bl,bm,bo,bq,Wm,Wl,Wk,Wj,Wi,Wh,Z,Y,W,V,U,T,N,O],[]⟩ z):
 (lD Tryz.f18 4).wp ax Q ⟨#[aA (ag ⟨b,0,ae⟩),u1,aA (ag ⟨k,0,ae⟩),aA (ag ⟨b3,0,ae⟩),aA (ag ⟨b4,0,ae⟩),u5,u6,u7,u8,u9,u10,u11,u12,u13,u14,u15,u16,u17,u18,u19,u20,u21,u22,u23,u24,u25,u26,u27,u28,u29,u30,u31,u32,u33,u34,u35,u36,u37,u38,u39,u40,u41,u42,u43,u44,u45,u46,u47,u48,u49,u50,u51,u52,u53,u54,u55,u56,u57,u58,u59,u60,u61,u62,u63,u64,u65,u66,u67,u68,u69,u70,u71],[]⟩ X:=by
 have HQ:=aH hQ
 have HP:=aH hP
 have HH:=aH H
 have OK:=aH h
 have m:=aH l2
 have i:=aH n2
 obtain⟨R,fd,fl,HE⟩:=H.ex
 have q:=aH (show ∀x,Below X.heap.size X x->x.cell? ⟨b,16,ae⟩=ag (ay az rs)/\x.cell? ⟨b,20,ae⟩=ag (ay az n)/\x.cell? ⟨b,11,ae⟩=ag (aA (ag ⟨R.kb,0,ae⟩))/\x.cell? ⟨b,21,ae⟩=ag (aC ah)/\x.cell? ⟨b,22,ae⟩=ag (aC ah)/\x.cell? ⟨b,23,ae⟩=ag (ay az 0)/\x.cell? ⟨b3,0,ae⟩=ag (ay az s)/\x.cell? ⟨b3,2,ae⟩=ag (ay az o)/\x.cell? ⟨b3,6,ae⟩=ag (aC ah)/\x.cell? ⟨b4,0,ae⟩=ag (ay az t)/\x.cell? ⟨b4,1,ae⟩=ag (ay az y)/\x.cell? ⟨b4,2,ae⟩=ag (ay az u)from λx hx=>by
  have r:=HE.row.below hx
  have e3:=λj=>aZ j ((hx.block _ (aT n3)).trans n3)
  have e4:=λj=>aZ j ((hx.block _ (aT n4)).trans n4)
  rw[zM,WF]
  exact⟨r.cell 16,r.cell 20,r.cell 11,r.cell 21,r.cell 22,r.cell 23,e3 0,e3 2,e3 6,e4 0,e4 1,e4 2⟩)
 have C:=aH (λx (hx:Below X.heap.size X x)=>yp R.kb E.now x (HE.clk.below hx))
 have f:=aH (bi X)
 clear hQ hP H h l2 n2 n3 n4 HE zM WF
 conv=>arg 2;whnf
 go_wp2_with fail
 have qR:∀p:In (λw'=>w'.cell? ⟨b,16,ae⟩=ag (ay az rs)/\w'.cell? ⟨b,20,ae⟩=ag (ay az n)/\w'.cell? ⟨b,11,ae⟩=ag (aA (ag ⟨R.kb,0,ae⟩))/\w'.cell? ⟨b,21,ae⟩=ag (aC ah)/\w'.cell? ⟨b,22,ae⟩=ag (aC ah)/\w'.cell? ⟨b,23,ae⟩=ag (ay az 0)/\w'.cell? ⟨b3,0,ae⟩=ag (ay az s)/\w'.cell? ⟨b3,2,ae⟩=ag (ay az o)/\w'.cell? ⟨b3,6,ae⟩=ag (aC ah)/\w'.cell? ⟨b4,0,ae⟩=ag (ay az t)/\w'.cell? ⟨b4,1,ae⟩=ag (ay az y)/\w'.cell? ⟨b4,2,ae⟩=ag (ay az u)),p.w.cell? ⟨b,16,ae⟩=ag (ay az rs)/\p.w.cell? ⟨b,20,ae⟩=ag (ay az n)/\p.w.cell? ⟨b,11,ae⟩=ag (aA (ag ⟨R.kb,0,ae⟩))/\p.w.cell? ⟨b,21,ae⟩=ag (aC ah)/\p.w.cell? ⟨b,22,ae⟩=ag (aC ah)/\p.w.cell? ⟨b,23,ae⟩=ag (ay az 0)/\p.w.cell? ⟨b3,0,ae⟩=ag (ay az s)/\p.w.cell? ⟨b3,2,ae⟩=ag (ay az o)/\p.w.cell? ⟨b3,6,ae⟩=ag (aC ah)/\p.w.cell? ⟨b4,0,ae⟩=ag (ay az t)/\p.w.cell? ⟨b4,1,ae⟩=ag (ay az y)/\p.w.cell? ⟨b4,2,ae⟩=ag (ay az u):=λp=>p.h
 refine gx (.run [0,1,2,3,4,5,6,7,8,9,10,11,12,13,14,15,16,17,18,19,20,21,23,24,25,26,27,28,29,30,31,32,33,34,35,36] (.fork 22 [] (.fork 37 [38] .done 38 [37] .done) 38 [22,37] .done)) 39 (λw'=>w'.cell? ⟨b,16,ae⟩=ag (ay az rs)/\w'.cell? ⟨b,20,ae⟩=ag (ay az n)/\w'.cell? ⟨b,11,ae⟩=ag (aA (ag ⟨R.kb,0,ae⟩))/\w'.cell? ⟨b,21,ae⟩=ag (aC ah)/\w'.cell? ⟨b,22,ae⟩=ag (aC ah)/\w'.cell? ⟨b,23,ae⟩=ag (ay az 0)/\w'.cell? ⟨b3,0,ae⟩=ag (ay az s)/\w'.cell? ⟨b3,2,ae⟩=ag (ay az o)/\w'.cell? ⟨b3,6,ae⟩=ag (aC ah)/\w'.cell? ⟨b4,0,ae⟩=ag (ay az t)/\w'.cell? ⟨b4,1,ae⟩=ag (ay az y)/\w'.cell? ⟨b4,2,ae⟩=ag (ay az u)) (by kernel_rfl) (by kernel_rfl) (λc a d v w h=>HP.out c a d v w h) (q.out _ f.out) ?_
 intro dF
 unfold cC
 simp only[pick,aV,a8,aQ,aR]
 refine aX 36 (by kernel_rfl) ?_
 simp only[aJ,aO,aI,aL]
 repeat (go_big_quiet_step (fail))
 refine aU ?_
 refine bF ?_
 unfold dh cC
 dsimp only
 refine⟨?_,?_⟩
 ·simp only[pick,aV,a8,aQ,aR]
  refine aS rfl ?_ rfl
  go_wp2_with fail
  refine(C.out _ f.out).mono ?_
  rintro e wz ⟨rfl,rfl⟩
  go_wp2_with fail
  refine⟨⟨⟨_,(q.out _ f.out)⟩,rfl⟩,?_⟩
  refine bF ?_
  unfold dh cC
  dsimp only
  refine⟨?_,?_⟩
  ·simp only[pick,aV,a8,aQ,aR]
   refine aS rfl ?_ rfl
   go_wp2_with fail
   refine⟨⟨⟨_,(q.out _ f.out)⟩,rfl⟩,?_⟩
   refine aS rfl ?_ rfl
   obtain⟨y1,LR,aa,M⟩:=bG X.drew #[ay az 0,ay az 0,ay az 0,ay az 0,ay az 0,ay az 0,ay az 0,ay az 0,aD aE 0,aC ah,aC ah,aC ah,ay az 0] 40
   go_wp2_with fail
   have J:=aH (aM f.out aa.out)
   refine⟨⟨⟨_,(q.out _ J.out)⟩,rfl⟩,?_⟩
   refine bF ?_
   unfold dh cC
   dsimp only
   clear dF qR
   change wpList _ _ _ _ _ _
   have D:∀j,y1.cell? ⟨X.heap.size,j,ae⟩=(r9 0 0 0 0 0 0 0 0 0)[j]?:=λj=>aZ j M.out
   have f5:∀j,y1.frozen? ⟨X.heap.size,j,ae⟩=ah:=λj=>bQ j M.out
   unfold r9 at D
   have lw:X.heap.size<y1.heap.size:=aT M.out
   go_step
   go_step
   go_step
   go_step
   go_step
   go_step
   have s2:=aT i.out
   have z1:=J.out.size
   have l:k<X.heap.size:=aW (aT i.out) (f.out.size)
   refine Tf b db k (X.heap.size) I s o rs t y u n E.now E cb g (HH.out.low (ww J.out (f.out.size))) OK.out (Uw (bR l) ((J.out.block _ (aT i.out)).trans i.out)) (xQ M.out) (bR l) m.out (bJ m.out (dP l)) ?_
   exact λz Wm Wl Wk Wj Wi Wh Z Y W V U T N O G F=>HQ.out z _ _ _ _ _ _ _ _ _ _ _ _ _ _ _ _ _ _ _ _ _ _ _ _ _ _ _ _ _ _ _ _ _ _ _ _ _ _ _ _ _ _ _ _ _ _ _ _ _ _ _ _ _ G (((ww J.out (f.out.size)).mono (bJ m.out (dP (aT i.out)))).trans F)
  ·simp only[pick,aV,a8,aQ,aR]
   refine aS rfl ?_ rfl
   obtain⟨y2,TC,WV,S⟩:=bG X.drew #[ay az 0,ay az 0,ay az 0,ay az 0,ay az 0,ay az 0,ay az 0,ay az 0,aD aE 0,aC ah,aC ah,aC ah,ay az 0] 40
   go_wp2_with fail
   have B:=aH (aM f.out WV.out)
   refine⟨⟨⟨_,(q.out _ B.out)⟩,rfl⟩,?_⟩
   refine aS rfl ?_ rfl
   go_wp2_with fail
   refine⟨⟨⟨_,(q.out _ B.out)⟩,rfl⟩,?_⟩
   refine bF ?_
   unfold dh cC
   dsimp only
   clear dF qR
   change wpList _ _ _ _ _ _
   have D:∀j,y2.cell? ⟨X.heap.size,j,ae⟩=(r9 0 0 0 0 0 0 0 0 0)[j]?:=λj=>aZ j S.out
   have f5:∀j,y2.frozen? ⟨X.heap.size,j,ae⟩=ah:=λj=>bQ j S.out
   unfold r9 at D
   have lw:X.heap.size<y2.heap.size:=aT S.out
   go_step
   go_step
   go_step
   go_step
   go_step
   go_step
   have s2:=aT i.out
   have z1:=B.out.size
   have l:k<X.heap.size:=aW (aT i.out) (f.out.size)
   refine Tf b db k (X.heap.size) I s o rs t y u n E.now E cb g (HH.out.low (ww B.out (f.out.size))) OK.out (Uw (bR l) ((B.out.block _ (aT i.out)).trans i.out)) (xQ S.out) (bR l) m.out (bJ m.out (dP l)) ?_
   exact λz Wm Wl Wk Wj Wi Wh Z Y W V U T N O G F=>HQ.out z _ _ _ _ _ _ _ _ _ _ _ _ _ _ _ _ _ _ _ _ _ _ _ _ _ _ _ _ _ _ _ _ _ _ _ _ _ _ _ _ _ _ _ _ _ _ _ _ _ _ _ _ _ G (((ww B.out (f.out.size)).mono (bJ m.out (dP (aT i.out)))).trans F)
 ·simp only[pick,aV,a8,aQ,aR]
  refine aS rfl ?_ rfl
  obtain⟨y3,bs,ab,L⟩:=bG X.drew #[ay az 0,ay az 0,ay az 0,ay az 0,ay az 0,ay az 0,ay az 0,ay az 0,aD aE 0,aC ah,aC ah,aC ah,ay az 0] 40
  go_wp2_with fail
  have A:=aH (aM f.out ab.out)
  refine⟨⟨⟨_,(q.out _ A.out)⟩,rfl⟩,?_⟩
  refine aS rfl ?_ rfl
  go_wp2_with fail
  refine(C.out _ A.out).mono ?_
  rintro e wz ⟨rfl,rfl⟩
  go_wp2_with fail
  refine⟨⟨⟨_,(q.out _ A.out)⟩,rfl⟩,?_⟩
  refine aS rfl ?_ rfl
  go_wp2_with fail
  refine⟨⟨⟨_,(q.out _ A.out)⟩,rfl⟩,?_⟩
  refine bF ?_
  unfold dh cC
  dsimp only
  clear dF qR
  change wpList _ _ _ _ _ _
  have D:∀j,y3.cell? ⟨X.heap.size,j,ae⟩=(r9 0 0 0 0 0 0 0 0 0)[j]?:=λj=>aZ j L.out
  have f5:∀j,y3.frozen? ⟨X.heap.size,j,ae⟩=ah:=λj=>bQ j L.out
  unfold r9 at D
  have lw:X.heap.size<y3.heap.size:=aT L.out
  go_step
  go_step
  go_step
  go_step
  go_step
  go_step
  have s2:=aT i.out
  have z1:=A.out.size
  have l:k<X.heap.size:=aW (aT i.out) (f.out.size)
  refine Tf b db k (X.heap.size) I s o rs t y u n E.now E cb g (HH.out.low (ww A.out (f.out.size))) OK.out (Uw (bR l) ((A.out.block _ (aT i.out)).trans i.out)) (xQ L.out) (bR l) m.out (bJ m.out (dP l)) ?_
  exact λz Wm Wl Wk Wj Wi Wh Z Y W V U T N O G F=>HQ.out z _ _ _ _ _ _ _ _ _ _ _ _ _ _ _ _ _ _ _ _ _ _ _ _ _ _ _ _ _ _ _ _ _ _ _ _ _ _ _ _ _ _ _ _ _ _ _ _ _ _ _ _ _ G (((ww A.out (f.out.size)).mono (bJ m.out (dP (aT i.out)))).trans F)
end
end
end Go.Proofs.YtooinenkenobaaaGreat

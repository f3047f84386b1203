/- A part of the proof of what LawWholeReaders says. -/
import Derived.Test.YtooinenkenobaaaGreatAa
import Derived.Test.YtooinenkenobaaaGreatCn
import Derived.Test.YtooinenkenobaaaGreatBy
import Derived.Test.YtooinenkenobaaaGreatBl
set_option maxRecDepth 100000
set_option maxHeartbeats 20000000
namespace Go.Proofs.YtooinenkenobaaaGreat
open Option renaming none->ae,some->ag
open Bool renaming false->ah,true->aj
open Go.Proofs.Tryz renaming prog->ax
open Go.Value renaming int->ay,pointer->aA,slice->aB,bool->aC,float->aD
open Go.IntKind renaming i64->az
open Go.FloatKind renaming f64->aE
open Go.Ending renaming returned->aF
open Go.Obj renaming cells->aG
open Go renaming World->am,Value->ar,TypeId->au,Calls->aw
section
open Go.RowKit Go.Maps
section
variable{w w':am}{g g':Tg}{K:dw}{S:jR}{P:eG}{picks:List Int}{W:iw}{R:si}{L:List uC}
theorem mu.Ld{T:List Nat}(H:mu w g K S P picks W R L){E':fm}(c:Ch T g w g' w')(i:∀t∈T,t≠0/\t<70)(k:gw w' g' R.eb R.db K ⟨S.sm,S.lr,S.al⟩ E' R.cb)(l:E'.cs.length=W.E.cs.length):mu w' g' K S P picks { W with E:=E' } R L:=by
 have d:0∉T:=λh=>(i 0 h).1 rfl
 have a:∀n,70<=n->n∉T:=λn m h=>by have:=(i n h).2;omega
 refine⟨H.row.ch c (a _ (by decide)),k,H.Zb.trans l.symm,H.zI,H.tsl,H.tbn,λn b t e f=>(H.Eg n b t e f).ch c (a _ (by omega)),H.Je.ch c (a _ (by decide)),H.Xh.ch c (a _ (by decide)),H.Jg.ch c (a _ (by decide)),H.Ei,λj x p e f=>(H.pat j x p e f).ch c d,H.FU,H.ask.ch c d,H.Cm.ch c d⟩
theorem Oa(a:List kN)(i j:Nat)(f:kN->kN):(mD a i f)[j]?=if i=j then(a[j]?).map f else a[j]?:=by
 unfold mD
 cases h:a[i]? with
 | none=>
  dsimp only
  split
  ·next e=>rw[<-e,h];rfl
  ·rfl
 | some t=>
  dsimp only
  rw[eB]
  have b:=(aK.1 h).1
  split
  ·next e=>subst e;first | (rw[h];rfl) | (rw[bj b,h];rfl)
  ·rfl
theorem N9(a:List kN)(i:Nat)(f:kN->kN):(mD a i f).length=a.length:=by
 unfold mD
 split
 ·rw[fZ]
 ·rfl
theorem mu.told(H:mu w g K S P picks W R L){n b:Nat}{t:jb}{p:kN}{x:uC}(f:kN->kN)(k:R.tb[n]?=ag b)(r:W.ts[n]?=ag t)(o:W.cJ[t.kJ]?=ag p)(c:Ch [72,80+n] g w g' w')
 (B:Row w' g' (80+n) b (Rt R.sb n { t with id:=ae }) 102) (h:im IP 56 10 w' g' 72 R.pav (L.set t.kJ x)) (hx:Ky w' g' x (f p)):
 mu w' g' K S P picks { W with ts:=jf W.ts n (λt=>{ t with id:=ae }),cJ:=mD W.cJ t.kJ f } R (L.set t.kJ x):=by
 have C:n<16:=by have:=(aK.1 k).1;have:=H.zI;have:=H.FU;omega
 have i:0∉[72,80+n]:=by simp;omega
 refine⟨H.row.ch c (by simp;omega),H.GM.ch c ?_,H.Zb,H.zI,?_,H.tbn,λm A u d a=>?_,H.Je.ch c (by simp;omega),H.Xh.ch c (by simp;omega),h,?_,λj y q d a=>?_,H.FU,H.ask.ch c i,H.Cm.ch c i⟩
 ·intro z s l
  simp only[cR,dK,iG]at s l
  omega
 ·show(jf W.ts n _).length=_
  rw[AJ]
  exact H.tsl
 ·have a:(jf W.ts n _)[m]?=ag u:=a
  rw[AK]at a
  by_cases e:n=m
  ·subst e
   rw[bj rfl,r]at a
   injection a with a
   subst a
   rw[k]at d
   injection d with d
   subst d
   exact B
  ·rw[bf e]at a
   have l:m<16:=by have:=(aK.1 d).1;have:=H.zI;have:=H.FU;omega
   exact(H.Eg m A u d a).ch c (by simp;omega)
 ·show(L.set t.kJ x).length=(mD W.cJ t.kJ f).length
  rw[fZ,N9,H.Ei]
 ·have a:(mD W.cJ t.kJ f)[j]?=ag q:=a
  rw[Oa]at a
  rw[eB]at d
  by_cases e:t.kJ=j
  ·subst e
   rw[bj rfl,o]at a
   injection a with a
   subst a
   rw[bj rfl,bj (by rw[H.Ei];exact(aK.1 o).1)]at d
   injection d with d
   subst d
   exact hx
  ·rw[bf e]at d a
   exact(H.pat j y q d a).ch c i
theorem Xb(X:am)(H:mu X g K S P picks W R L){n b rb:Nat}{t:jb}{p:kN}{i:Nat}(er rl:Nat)(rd:By)(y:Option Addr)(an s:Nat)(done:Bool)(Φ:Ending->am->Prop){u1 u4 u5 u6 u7 u8 u9 u10 u11 u12 u13 u14 u15 u16 u17 u18 u19 u20 u21 u22 u23 u24 u25 u26 u27 u28 u29 u30 u31 u32 u33 u34 u35 u36 u37 u38 u39 u40 u41 u42 u43 u44 u45 u46 u47 u48 u49 u50 u51 u52 u53 u54 u55 u56 u57 u58 u59 u60 u61 u62 u63 u64 u65 u66 u67 u68 u69 u70 u71 u72 u73 u74:ar}(hb:R.tb[n]?=ag b)(ht:W.ts[n]?=ag t)(hi:t.id=ag i)(Z:W.cJ[t.kJ]?=ag p)
 (r2:Row X g 0 rb #[ay az er,ay az rl,aB y an s] 52) (hs:oN X g (aB y an s) rd) (Ba:W.turns.length<=100000) (wO:W.cJ.length<=100000)
 (F:done=ah->Φ (aF (.tuple #[])) X) (B:done=aj->∀w' g' L',Ch [72,80+n] g X g' w'->mu w' g' K S P picks { W with ts:=jf W.ts n (λt=>{ t with id:=ae }),cJ:=mD W.cJ t.kJ (λp=>{ p with err:=er,rl:=rl,rd:=rd,fin:=2*W.turns.length+1 }) } R L'->Φ (aF (.tuple #[])) w'):
 (lD Tryz.f210 3).wp ax (bodyPost ax Tryz.f210 Φ) ⟨#[aA (ag ⟨b,0,ae⟩),u1,aA (ag ⟨rb,0,ae⟩),.bool done,u4,u5,u6,u7,u8,u9,u10,u11,u12,u13,u14,u15,u16,u17,u18,u19,u20,u21,u22,u23,u24,u25,u26,u27,u28,u29,u30,u31,u32,u33,u34,u35,u36,u37,u38,u39,u40,u41,u42,u43,u44,u45,u46,u47,u48,u49,u50,u51,u52,u53,u54,u55,u56,u57,u58,u59,u60,u61,u62,u63,u64,u65,u66,u67,u68,u69,u70,u71,u72,u73,u74],[]⟩ X:=by
 have H0:=aH F
 have H1:=aH B
 cases done with
 | false=>
  clear F B H hb ht hi Z r2 hs Ba wO
  conv=>arg 2;whnf
  go_wp2_with fail
  refine bn (gF rfl _ _ _) rfl ?_
  exact H0.out (by first | exact trivial | rfl)
 | true=>
  have Gt:n<16:=by have:=(aK.1 hb).1;have:=H.zI;have:=H.FU;omega
  obtain⟨x,hx⟩:∃x,L[t.kJ]?=ag x:=⟨_,aP (by rw[H.Ei];exact(aK.1 Z).1)⟩
  have TX:=aH (H.pat _ x p hx Z)
  obtain⟨f,pc,uV,ad,-,t8,C⟩:=H.Jg.own.get mC hx
  have l:=aH (show g f=72/\f<X.heap.size from by
   have e:R.pav.ownBlock=ag f:=by rw[uV];rfl
   exact⟨H.Jg.tag f e,H.Jg.own.lt f e⟩)
  have r:=H.Eg n b t hb ht
  obtain⟨O,js⟩:=bP R.sb
  obtain⟨k,N⟩:=bP t.kJ
  obtain⟨np,Gp⟩:=bP L.length
  obtain⟨Q,tY⟩:=bP W.turns.length
  obtain⟨o,JK⟩:=bP (((er:Nat):Int):Int)
  obtain⟨A,JC⟩:=bP (((rl:Nat):Int):Int)
  have D:=aH (And.intro js (And.intro N (And.intro Gp (And.intro tY (And.intro JK JC)))))
  have e1:(k:Int)<(np:Int):=by have:=(aK.1 hx).1;omega
  have i1:k<=100000:=by have:=(aK.1 Z).1;omega
  have i2:Q<=100000:=by omega
  rw[Gp]at uV
  have V:=aH r
  have R2:=aH r2
  have HH:=aH H
  have U:=aH (And.intro hb (And.intro ht (And.intro hi (And.intro Z hx))))
  have J:=aH uV
  have HS:=aH hs
  have Zt:=aH (λm=>KZ (H.low (below_drewN X m)))
  have b0:X.cell? ⟨b,0,ae⟩=ag (aA (ag ⟨O,0,ae⟩)):=by rw[<-js];exact r.cell 0
  have b4:X.cell? ⟨b,4,ae⟩=ag (ay az k):=by rw[<-N];exact r.cell 4
  have al:X.cell? ⟨O,20,ae⟩=ag (aB (ag ⟨f,0,ae⟩) np pc):=by rw[<-js,<-uV];exact H.row.cell 20
  have q0:X.cell? ⟨rb,0,ae⟩=ag (ay az o):=by rw[<-JK];exact r2.cell 0
  have q1:X.cell? ⟨rb,1,ae⟩=ag (ay az A):=by rw[<-JC];exact r2.cell 1
  have q2:X.cell? ⟨rb,2,ae⟩=ag (aB y an s):=r2.cell 2
  have k5:X.cell? ⟨f,k*10+5,ae⟩=ag (ay az x.err):=by rw[<-N];exact t8 5 (by decide)
  have k6:X.cell? ⟨f,k*10+6,ae⟩=ag (ay az x.rl):=by rw[<-N];exact t8 6 (by decide)
  have k7:X.cell? ⟨f,k*10+7,ae⟩=ag (oh x.rv):=by rw[<-N];exact t8 7 (by decide)
  have k9:X.cell? ⟨f,k*10+9,ae⟩=ag (ay az x.fin):=by rw[<-N];exact t8 9 (by decide)
  have f5:X.frozen? ⟨f,k*10+5,ae⟩=ah:=C _
  have f6:X.frozen? ⟨f,k*10+6,ae⟩=ah:=C _
  have f7:X.frozen? ⟨f,k*10+7,ae⟩=ah:=C _
  have f9:X.frozen? ⟨f,k*10+9,ae⟩=ah:=C _
  have lq:=l.out.2
  rw[js,tY]at Zt
  clear F B H hb ht hi Z r2 hs Ba wO hx uV ad t8 C r js N Gp tY JK JC H0
  conv=>arg 2;whnf
  go_wp2_with fail
  go_quiet (fail)
  go_wp2_with fail
  have qR:∀p:In (λw'=>w'.cell? ⟨b,0,ae⟩=ag (aA (ag ⟨O,0,ae⟩))/\w'.cell? ⟨rb,0,ae⟩=ag (ay az o)/\w'.cell? ⟨rb,1,ae⟩=ag (ay az A)/\w'.cell? ⟨rb,2,ae⟩=ag (aB y an s)),p.w.cell? ⟨b,0,ae⟩=ag (aA (ag ⟨O,0,ae⟩))/\p.w.cell? ⟨rb,0,ae⟩=ag (ay az o)/\p.w.cell? ⟨rb,1,ae⟩=ag (ay az A)/\p.w.cell? ⟨rb,2,ae⟩=ag (aB y an s):=λp=>p.h
  refine ct [0,1,2,3,4,5,6,7,8,9,10,11,12,13,14] 15 (λw'=>w'.cell? ⟨b,0,ae⟩=ag (aA (ag ⟨O,0,ae⟩))/\w'.cell? ⟨rb,0,ae⟩=ag (ay az o)/\w'.cell? ⟨rb,1,ae⟩=ag (ay az A)/\w'.cell? ⟨rb,2,ae⟩=ag (aB y an s)) (by kernel_rfl) (by kernel_rfl) (by intro c a d v w h;cases d <;> exact h) ⟨b0,q0,q1,q2⟩ ?_
  intro dF
  simp only[pick,aV,a8,aQ,aR,aI,aL]
  refine aX 7 (by kernel_rfl) ?_
  simp only[aJ,aO,aI,aL]
  repeat (go_big_quiet_step (fail))
  refine aU ?_
  refine aS rfl ?_ rfl
  go_wp2_with fail
  refine(Zt.out _).mono ?_
  rintro e w2 ⟨rfl,rfl⟩
  go_wp2_with fail
  refine⟨⟨⟨X.drewN (nq+1),b0,q0,q1,q2⟩,rfl⟩,?_⟩
  refine aX 4 (by kernel_rfl) ?_
  simp only[aJ,aO,aI,aL]
  repeat (go_big_quiet_step (fail))
  refine aU ?_
  refine aS rfl ?_ rfl
  go_wp2_with fail
  obtain⟨G,T⟩:=bP ((((X.drewN (nq+1)).setCell ⟨f,k*10+5,ae⟩ (ay az o)).setCell ⟨f,k*10+6,ae⟩ (ay az A)).setCell ⟨f,k*10+7,ae⟩ (aB y an s))
  rw[T]
  have nb:b≠f:=λe=>by have B:=V.out.tag;have h2:=l.out.1;rw[e]at B;omega
  have nr:rb≠f:=λe=>by have B:=R2.out.tag;have h2:=l.out.1;rw[e]at B;omega
  have nz:b≠O:=λe=>by have B:=V.out.tag;have h2:=HH.out.row.tag;rw[e,<-D.out.1]at B;omega
  have C1:=aH (show Ch [72,80+n] g X g G from by rw[<-T];exact(((Ch.bh [72,80+n] g (below_drewN X (nq+1))).set _ (.inl (by rw[l.out.1];simp))).set _ (.inl (by rw[l.out.1];simp))).set _ (.inl (by rw[l.out.1];simp)))
  have OT:=aH (show fC IP 56 10 G (aB (ag ⟨f,0,ae⟩) np pc) (L.set k { x with err:=o,rl:=A,rv:=(y,an,s) })from by
   have F:=HH.out.Jg.own.below (below_drewN X (nq+1))
   rw[J.out]at F
   have Y:=U.out.2.2.2.2
   rw[D.out.2.1]at Y
   have lp:=(aK.1 Y).1
   have B:=F.Xq mC (j:=5) (x':={ x with err:=o }) (u:=ay az o) Y (by decide) rfl
   have h2:=B.Xq mC (i:=k) (j:=6) (x:={ x with err:=o }) (x':={ x with err:=o,rl:=A }) (u:=ay az A) (by rw[eB,bj rfl,bj lp]) (by decide) rfl
   have h3:=h2.Xq mC (i:=k) (j:=7) (x:={ x with err:=o,rl:=A }) (x':={ x with err:=o,rl:=A,rv:=(y,an,s) }) (u:=aB y an s) (by rw[eB,bj rfl,bj (by rw[fZ];exact lp)]) (by decide) rfl
   rw[List.set_set,List.set_set]at h3
   rw[<-T]
   exact h3)
  have E:=aH (show Row G g (80+n) b (Rt R.sb n t) 102 from by rw[<-T];exact(((V.out.dn (nq+1)).iZ nb).iZ nb).iZ nb)
  have M:=aH (show Row G g 0 rb #[ay az er,ay az rl,aB y an s] 52 from by rw[<-T];exact(((R2.out.dn (nq+1)).iZ nr).iZ nr).iZ nr)
  have z0:G.cell? ⟨b,0,ae⟩=ag (aA (ag ⟨O,0,ae⟩)):=by rw[<-D.out.1];exact E.out.cell 0
  refine⟨⟨⟨G,z0,by rw[M.out.cell 0,<-D.out.2.2.2.2.1];rfl,by rw[M.out.cell 1,<-D.out.2.2.2.2.2];rfl,M.out.cell 2⟩,rfl⟩,?_⟩
  clear b0 b4 al q0 q1 q2 k5 k6 k7 k9 f5 f6 f7 f9 T
  refine aX 2 (by kernel_rfl) ?_
  simp only[aJ,aO,aI,aL]
  repeat (go_big_quiet_step (fail))
  refine aU ?_
  refine bF ?_
  clear dF qR
  change wpList _ _ _ _ _ _
  obtain⟨pg,af,pe,-,-,aa,ab⟩:=OT.out.get mC (i:=k) (x:={ x with err:=o,rl:=A,rv:=(y,an,s) }) (by rw[eB,bj rfl,bj];have:=U.out.2.2.2.2;rw[D.out.2.1]at this;exact(aK.1 this).1)
  injection pe with z ai ak
  injection z with z
  injection z with z
  have k9:G.cell? ⟨f,k*10+9,ae⟩=ag (ay az x.fin):=by rw[z];exact aa 9 (by decide)
  have f9:G.frozen? ⟨f,k*10+9,ae⟩=ah:=by rw[z];exact ab _
  clear aa ab z ai ak pg af
  have z3:=E.out.cell 3
  have fz:=E.out.free 3
  go_wp2_with fail
  go_end0
  obtain⟨y2,TC⟩:=bP (G.setCell ⟨f,k*10+9,ae⟩ (ay az (2*(Q:Int)+1)))
  have C2:Ch [72,80+n] g X g y2:=by rw[<-TC];exact C1.out.set _ (.inl (by rw[l.out.1];simp))
  have ac:Row y2 g (80+n) b (Rt R.sb n t) 102:=by rw[<-TC];exact E.out.iZ nb
  have O2:fC IP 56 10 y2 (aB (ag ⟨f,0,ae⟩) np pc) (L.set k { x with err:=o,rl:=A,rv:=(y,an,s),fin:=2*(Q:Int)+1 }):=by
   have Y:=U.out.2.2.2.2
   rw[D.out.2.1]at Y
   have lp:=(aK.1 Y).1
   have h4:=OT.out.Xq mC (i:=k) (j:=9) (x:={ x with err:=o,rl:=A,rv:=(y,an,s) }) (x':={ x with err:=o,rl:=A,rv:=(y,an,s),fin:=2*(Q:Int)+1 }) (u:=ay az (2*(Q:Int)+1)) (by rw[eB,bj rfl,bj lp]) (by decide) rfl
   rw[List.set_set]at h4
   rw[<-TC]
   exact h4
  have B:=H1.out (by first | exact trivial | rfl) (y2.setCell ⟨b,3,ae⟩ (ay az 0)) g (L.set t.kJ { x with err:=o,rl:=A,rv:=(y,an,s),fin:=2*(Q:Int)+1 }) (C2.set _ (.inl (by rw[V.out.tag];simp))) (HH.out.told (λp=>{ p with err:=er,rl:=rl,rd:=rd,fin:=2*W.turns.length+1 }) U.out.1 U.out.2.1 U.out.2.2.2.1 (C2.set _ (.inl (by rw[V.out.tag];simp))) (ac.set 3 (ay az 0)) ⟨?_,λq I=>?_⟩ ?_)
  ·rw[<-TC]at B
   exact B
  ·rw[J.out,D.out.2.1]
   exact O2.same λq I=>bD (λe=>nb (by injection I with I;rw[<-e,<-I]))
  ·rw[J.out]at I
   injection I with I
   rw[<-I]
   exact l.out.1
  ·have c3:Ch [72,80+n] g X g (y2.setCell ⟨b,3,ae⟩ (ay az 0)):=C2.set _ (.inl (by rw[V.out.tag];simp))
   have F:0∉[72,80+n]:=by simp;omega
   have tx:=TX.out
   exact⟨tx.task,tx.call,tx.kind,tx.lsn,D.out.2.2.2.2.1.symm,D.out.2.2.2.2.2.symm,tx.beg,by show 2*(Q:Int)+1=((2*W.turns.length+1:Nat):Int);rw[D.out.2.2.2.1];omega,tx.dv.ch c3 F,HS.out.ch c3 F⟩
end
theorem AX{w:am}{base b:Nat}{v:ar}{bs:By}(h:cU w base v bs)(a:∀q,v.ownBlock=ag q->q≠b){x y z:ar}:cU (((w.setCell ⟨b,0,ae⟩ x).setCell ⟨b,1,ae⟩ y).setCell ⟨b,2,ae⟩ z) base v bs:=
 dC h λq c=>(bD (a q c)).trans ((bD (a q c)).trans (bD (a q c)))
theorem xW{w:am}{base:Nat}{v:ar}{bs:By}(h:cU w base v bs):∀q,v.ownBlock=ag q->base<=q/\q<w.heap.size:=λq c=>by
 obtain⟨b,a,d⟩:=dq h c
 exact⟨b,aT d⟩
theorem Lp{w:am}{c d:Nat}{v:ar}{bs:By}(h:cU w d v bs)(j:c<=d):cU w c v bs:=by
 refine⟨h.1,?_⟩
 rcases h.2 with e | ⟨g,a,b,e,f,i⟩
 ·exact .inl e
 ·exact .inr ⟨g,a,b,e,bJ j f,i⟩
theorem tQ{w:am}{b:Nat}{t:au}{a c d x y z:ar}(h:w.heap[b]?=ag (aG #[a,c,d] t (0,0))):(((w.setCell ⟨b,0,ae⟩ x).setCell ⟨b,1,ae⟩ y).setCell ⟨b,2,ae⟩ z).heap[b]?=ag (aG #[x,y,z] t (0,0)):=bE (bE (bE h 0 _) 1 _) 2 _
section
variable{w w':am}{g g':Tg}{K:dw}{S:jR}{P:eG}{picks:List Int}{W:iw}{R:si}{L:List uC}
theorem Px(j l b i:Nat){E:fm}(f:List Nat)(c:CV)(w:am)(g:Tg){Q:jx}(H:gw w g j l K Q E f)(s:E.cs[i]?=ag c)(r:f[i]?=ag b)(m q:Nat)(d:By)(done:Bool)(x:(done=aj/\c.st=9/\m=c.err/\q=c.rl/\d=c.rd)\/(done=ah/\c.st≠9/\m=0/\q=0/\d=[]))(y:d.length<=100000)(z:Int)(t:z=(i:Int)+1):
 aw ax 214 #[aA (ag ⟨j,0,ae⟩),ay az z] w λe w'=>∃a k,e=aF (.tuple #[.agg #[ay az m,ay az q,aB a d.length k],.bool done])/\cU w' w.heap.size (aB a d.length k) d/\Below w.heap.size w w':=by
 rcases x with⟨rfl,p,rfl,rfl,rfl⟩ | ⟨rfl,p,rfl,rfl,rfl⟩
 ·refine(Py j l b i E f c w g H s r p y z t).mono ?_
  rintro e w' ⟨v,h,n,o⟩
  obtain⟨a,k,u,-⟩:=n.slice
  rw[u]at h n
  exact⟨a,k,h,n,o⟩
 ·refine(Pw j l b i E f c w g H s r p z t).mono ?_
  rintro e w' ⟨h,o⟩
  exact⟨ae,0,h,cU.nil _ _,o⟩
theorem KX(X:am)(H:mu X g K S P picks W R L)(h:fy K W.E)(hK:kW K ⟨S.sm,S.lr,S.al⟩){n b i:Nat}{t:jb}{c:CV}{Φ:Ending->am->Prop}{u1 u2 u3 u4 u5 u6 u7 u8 u9 u10 u11 u12 u13 u14 u15 u16 u17 u18 u19 u20 u21 u22 u23 u24 u25 u26 u27 u28 u29 u30 u31 u32 u33 u34 u35 u36 u37 u38 u39 u40 u41 u42 u43 u44 u45 u46 u47 u48 u49 u50 u51 u52 u53 u54 u55 u56 u57 u58 u59 u60 u61 u62 u63 u64 u65 u66 u67 u68 u69 u70 u71 u72 u73 u74:ar}(hb:R.tb[n]?=ag b)(ht:W.ts[n]?=ag t)(hi:t.id=ag i)(hp:t.kJ<W.cJ.length)(hc:W.E.cs[i]?=ag c)(hr:iX K W.E c=aj)
 (iP:c.st=1->c.ask.kind≠5->jp K W.E c.ask.data) (ry:W.E.D.length<=1000) (Gs:W.E.cT<=1000000) (Ae:W.E.act.length<=5000) (Ba:W.turns.length<=100000) (wO:W.cJ.length<=100000) (Yq:∀want c',(fK K W.E i want).cs[i]?=ag c'->c'.st=9->c'.rd.length<=100000)
 (hQ:∀w' want g' L',Ch ((80+n)::72::TS) g X g' w'->mu w' g' K S P picks (iH K W n want) R L'->Φ (aF (.tuple #[])) w'):
 (lD Tryz.f210 1).wp ax (bodyPost ax Tryz.f210 Φ) ⟨#[aA (ag ⟨b,0,ae⟩),u1,u2,u3,u4,u5,u6,u7,u8,u9,u10,u11,u12,u13,u14,u15,u16,u17,u18,u19,u20,u21,u22,u23,u24,u25,u26,u27,u28,u29,u30,u31,u32,u33,u34,u35,u36,u37,u38,u39,u40,u41,u42,u43,u44,u45,u46,u47,u48,u49,u50,u51,u52,u53,u54,u55,u56,u57,u58,u59,u60,u61,u62,u63,u64,u65,u66,u67,u68,u69,u70,u71,u72,u73,u74],[]⟩ X:=by
 have Gt:n<16:=by have:=(aK.1 hb).1;have:=H.zI;have:=H.FU;omega
 have HQ:=aH hQ
 have r:=H.Eg n b t hb ht
 obtain⟨qb,Mb⟩:∃q,R.cb[i]?=ag q:=⟨_,aP (by rw[H.Zb];exact(aK.1 hc).1)⟩
 obtain⟨sb,js⟩:=bP R.sb
 obtain⟨eb,oC⟩:=bP R.eb
 obtain⟨z,hz⟩:=bP ((i:Int)+1:Int)
 have iC:=aH (And.intro js (And.intro oC hz))
 have Ay:=aH (And.intro hb (And.intro ht (And.intro hi (And.intro hc (And.intro hp Mb)))))
 have Nr:=aH (And.intro Ba (And.intro wO Gt))
 have HRD:=aH Yq
 have HH:=aH H
 have Qo:=aH (ada R.eb R.db qb i W.E R.cb c X.drew g (H.low (bi X)).GM h hK hc Mb hr iP ry Gs Ae H.Zb z hz.symm)
 rw[oC]at Qo
 have eM:=aH (show ∀y g',Ch TS g X g' y->y.cell? ⟨b,0,ae⟩=ag (aA (ag ⟨sb,0,ae⟩))/\y.cell? ⟨b,3,ae⟩=ag (ay az z)/\y.cell? ⟨sb,15,ae⟩=ag (aA (ag ⟨eb,0,ae⟩))from λy g' c=>by
  have a1:=r.ch c (by simp;omega)
  have a2:=H.row.ch c (by decide)
  refine⟨by rw[<-js];exact a1.cell 0,?_,by rw[<-js,<-oC];exact a2.cell 15⟩
  rw[a1.cell 3,<-hz]
  show ag (Value.int .i64 (idI t.id))=_
  rw[hi]
  rfl)
 have FI1:=eM.out X.drew g (Ch.bh _ g (bi X))
 have EFF:=aH (λwant=>qP h hc hr want)
 clear hQ Gt r js oC hz hb ht hi hc hp Mb Ba wO Yq H h hK hr iP ry Gs Ae
 conv=>arg 2;whnf
 go_wp2_with fail
 have qR:∀p:In (λw'=>w'.cell? ⟨b,0,ae⟩=ag (aA (ag ⟨sb,0,ae⟩))/\w'.cell? ⟨b,3,ae⟩=ag (ay az z)/\w'.cell? ⟨sb,15,ae⟩=ag (aA (ag ⟨eb,0,ae⟩))),p.w.cell? ⟨b,0,ae⟩=ag (aA (ag ⟨sb,0,ae⟩))/\p.w.cell? ⟨b,3,ae⟩=ag (ay az z)/\p.w.cell? ⟨sb,15,ae⟩=ag (aA (ag ⟨eb,0,ae⟩)):=λp=>p.h
 refine bX [0,1,2,3,4,5,6,7,8,9,10,11] (λw'=>w'.cell? ⟨b,0,ae⟩=ag (aA (ag ⟨sb,0,ae⟩))/\w'.cell? ⟨b,3,ae⟩=ag (ay az z)/\w'.cell? ⟨sb,15,ae⟩=ag (aA (ag ⟨eb,0,ae⟩))) (by kernel_rfl) (by kernel_rfl) (by intro c a d v w h;cases d <;> exact h) FI1 ?_
 intro dF
 simp only[pick,aV,a8,aQ,aR]
 refine aX 11 (by kernel_rfl) ?_
 simp only[aJ,aO,aI,aL]
 repeat (go_big_quiet_step (fail))
 refine aU ?_
 refine aS rfl ?_ rfl
 go_wp2_with fail
 refine Qo.out.mono ?_
 rintro e x2 ⟨rfl,want,g2,c2,e2⟩
 have C2:=aH (show Ch TS g X g2 x2 from(Ch.bh TS g (bi X)).trans c2)
 have hlen:=(EFF.out want).len
 obtain⟨c',kM,-⟩:=(EFF.out want).own
 have W2:=aH (HH.out.Ld C2.out (by decide) (by rw[iC.out.2.1];exact e2) hlen)
 clear c2
 go_wp2_with fail
 refine⟨⟨⟨x2,eM.out x2 g2 C2.out⟩,rfl⟩,?_⟩
 refine bF ?_
 clear dF qR
 have HCC:=aH kM
 clear kM hlen e2 FI1 Qo
 obtain⟨er,rl,rd,done,hd,JC⟩:∃(er rl:Nat) (rd:By) (done:Bool),((done=aj/\c'.st=9/\er=c'.err/\rl=c'.rl/\rd=c'.rd)\/(done=ah/\c'.st≠9/\er=0/\rl=0/\rd=[]))/\rd.length<=100000:=by
  by_cases h9:c'.st=9
  ·exact⟨_,_,_,aj,.inl ⟨rfl,h9,rfl,rfl,rfl⟩,HRD.out want c' HCC.out h9⟩
  ·exact⟨0,0,[],ah,.inr ⟨rfl,h9,rfl,rfl,rfl⟩,by decide⟩
 obtain⟨m,hm⟩:=bP rd.length
 obtain⟨tF,JK⟩:=bP (((er:Nat):Int):Int)
 obtain⟨zK,acM⟩:=bP (((rl:Nat):Int):Int)
 have EQ2:=aH (And.intro hm (And.intro JK acM))
 have HD:=aH hd
 have WK:=aH (show ∀y,Below x2.heap.size x2 y->aw ax 214 #[aA (ag ⟨eb,0,ae⟩),ay az z] y λe w'=>∃a k,e=aF (.tuple #[.agg #[ay az tF,ay az zK,aB a m k],.bool done])/\cU w' y.heap.size (aB a m k) rd/\Below y.heap.size y w' from λy hy=>by
  have:=Px R.eb R.db qb i R.cb c' y g2 ((W2.out.GM).low hy) HCC.out Ay.out.2.2.2.2.2 er rl rd done hd JC z iC.out.2.2.symm
  rw[hm,JK,acM,iC.out.2.1]at this
  exact this)
 have kO:=aH (show ∀y,Below x2.heap.size x2 y->y.cell? ⟨b,0,ae⟩=ag (aA (ag ⟨sb,0,ae⟩))/\y.cell? ⟨b,3,ae⟩=ag (ay az z)/\y.cell? ⟨sb,15,ae⟩=ag (aA (ag ⟨eb,0,ae⟩))from λy hy=>eM.out y g2 (C2.out.trans (Ch.bh _ g2 hy)))
 obtain⟨G,hG⟩:=bP (eJ g2 x2.heap.size 0)
 have GZ:=aH (show ∀q,x2.heap.size<=q->G q=0 from λq hq=>by rw[<-hG];exact dQ hq)
 have CG:=aH (show ∀X',Below x2.heap.size x2 X'->Ch [] g2 x2 G X' from λX' hb=>by rw[<-hG];exact Ch.start g2 hb)
 clear hm JK acM hd hG JC
 have lI:=aH (show ∀(X':am) (rb k:Nat) (a:Option Addr) (u1 u4 u5 u6 u7 u8 u9 u10 u11 u12 u13 u14 u15 u16 u17 u18 u19 u20 u21 u22 u23 u24 u25 u26 u27 u28 u29 u30 u31 u32 u33 u34 u35 u36 u37 u38 u39 u40 u41 u42 u43 u44 u45 u46 u47 u48 u49 u50 u51 u52 u53 u54 u55 u56 u57 u58 u59 u60 u61 u62 u63 u64 u65 u66 u67 u68 u69 u70 u71 u72 u73 u74:ar),Below x2.heap.size x2 X'->x2.heap.size<=rb->X'.heap[rb]?=ag (aG #[ay az tF,ay az zK,aB a m k] 52 (0,0))->cU X' x2.heap.size (aB a m k) rd->
  (lD Tryz.f210 3).wp ax (bodyPost ax Tryz.f210 Φ) ⟨#[aA (ag ⟨b,0,ae⟩),u1,aA (ag ⟨rb,0,ae⟩),.bool done,u4,u5,u6,u7,u8,u9,u10,u11,u12,u13,u14,u15,u16,u17,u18,u19,u20,u21,u22,u23,u24,u25,u26,u27,u28,u29,u30,u31,u32,u33,u34,u35,u36,u37,u38,u39,u40,u41,u42,u43,u44,u45,u46,u47,u48,u49,u50,u51,u52,u53,u54,u55,u56,u57,u58,u59,u60,u61,u62,u63,u64,u65,u66,u67,u68,u69,u70,u71,u72,u73,u74],[]⟩ X' from by
  intro X' rb k a u1 u4 u5 u6 u7 u8 u9 u10 u11 u12 u13 u14 u15 u16 u17 u18 u19 u20 u21 u22 u23 u24 u25 u26 u27 u28 u29 u30 u31 u32 u33 u34 u35 u36 u37 u38 u39 u40 u41 u42 u43 u44 u45 u46 u47 u48 u49 u50 u51 u52 u53 u54 u55 u56 u57 u58 u59 u60 u61 u62 u63 u64 u65 u66 u67 u68 u69 u70 u71 u72 u73 u74 hX hrb yz jO
  have c3:=CG.out X' hX
  obtain⟨p,hp⟩:∃p,W.cJ[t.kJ]?=ag p:=⟨_,aP Ay.out.2.2.2.2.1⟩
  have eW:iH K W n want=if c'.st=9 then{ W with E:=fK K W.E i want,ts:=jf W.ts n (λt=>{ t with id:=ae }),cJ:=mD W.cJ t.kJ (λp=>{ p with err:=c'.err,rl:=c'.rl,rd:=c'.rd,fin:=2*W.turns.length+1 }) }else{ W with E:=fK K W.E i want }:=by
   unfold iH
   rw[Ay.out.2.1]
   dsimp only
   rw[Ay.out.2.2.1]
   dsimp only
   rw[HCC.out]
  have c4:Ch TS g X G X':=C2.out.trans (c3.mono (by simp))
  refine Xb (g:=G) (n:=n) (b:=b) (rb:=rb) (t:=t) (p:=p) (i:=i) X' (W2.out.ch c3 (λ_ _ h=>by cases h)) er rl rd a m k done Φ Ay.out.1 Ay.out.2.1 Ay.out.2.2.1 hp ?_ (oN.pL jO λq hq=>GZ.out q hq) Nr.out.1 Nr.out.2.1 ?_ ?_
  ·rw[EQ2.out.2.1,EQ2.out.2.2]
   exact⟨yz,GZ.out rb hrb⟩
  ·intro hf
   rcases HD.out with⟨e1,-⟩ | ⟨-,h9,-⟩
   ·rw[e1]at hf
    cases hf
   ·refine HQ.out X' want G L (c4.mono ?_) ?_
    ·exact λx hx=>fW _ (fW _ hx)
    ·rw[eW,bf h9]
     exact W2.out.ch c3 (λ_ _ h=>by cases h)
  ·intro hf w' g' L' c5 h5
   rcases HD.out with⟨-,h9,e1,e2,e3⟩ | ⟨e1,-⟩
   ·refine HQ.out w' want g' L' ((c4.mono ?_).trans (c5.mono ?_)) ?_
    ·exact λx hx=>fW _ (fW _ hx)
    ·intro x hx
     simp only[cR,dK,iG]at hx ⊢
     rcases hx with rfl | rfl
     ·exact .inr (.inl rfl)
     ·exact .inl rfl
    ·rw[eW,bj h9,<-e1,<-e2,<-e3]
     exact h5
   ·rw[e1]at hf
    cases hf)
 have BD:=aH (bi x2)
 go_wp2_with fail
 have qR:∀p:In (λw'=>w'.cell? ⟨b,0,ae⟩=ag (aA (ag ⟨sb,0,ae⟩))/\w'.cell? ⟨b,3,ae⟩=ag (ay az z)/\w'.cell? ⟨sb,15,ae⟩=ag (aA (ag ⟨eb,0,ae⟩))),p.w.cell? ⟨b,0,ae⟩=ag (aA (ag ⟨sb,0,ae⟩))/\p.w.cell? ⟨b,3,ae⟩=ag (ay az z)/\p.w.cell? ⟨sb,15,ae⟩=ag (aA (ag ⟨eb,0,ae⟩)):=λp=>p.h
 refine gx (.run [0,1,2,3,4,5,6,7,8,9,10] (.fork 11 [12,13,14,15,16] .done 15 [11,12,13,14,16] .done)) 17 (λw'=>w'.cell? ⟨b,0,ae⟩=ag (aA (ag ⟨sb,0,ae⟩))/\w'.cell? ⟨b,3,ae⟩=ag (ay az z)/\w'.cell? ⟨sb,15,ae⟩=ag (aA (ag ⟨eb,0,ae⟩))) (by kernel_rfl) (by kernel_rfl) (by intro c a d v w h;cases d <;> exact h) (kO.out _ BD.out) ?_
 intro dF
 unfold cC
 simp only[pick,aV,a8,aQ,aR]
 refine aX 11 (by kernel_rfl) ?_
 simp only[aJ,aO,aI,aL]
 repeat (go_big_quiet_step (fail))
 refine aU ?_
 refine bF ?_
 unfold dh cC
 dsimp only
 refine⟨?_,?_⟩
 ·simp only[pick,aV,a8,aQ,aR]
  refine aS rfl ?_ rfl
  go_wp2_with fail
  refine(WK.out _ BD.out).mono ?_
  rintro e y1 ⟨ay1,ky1,rfl,oy1,by1⟩
  have Oy1:=aH oy1
  have xf:=aH (show Below x2.heap.size x2 y1 from BD.out.trans (by1.mono BD.out.size))
  clear oy1 by1
  go_wp2_with fail
  refine⟨⟨⟨_,(kO.out _ xf.out)⟩,rfl⟩,?_⟩
  refine aX 3 (by kernel_rfl) ?_
  simp only[aJ,aO,aI,aL]
  repeat (go_big_quiet_step (fail))
  refine aU ?_
  refine aS rfl ?_ rfl
  obtain⟨y2,TC,WV,Vp⟩:=bG y1 #[ay az 0,ay az 0,aB ae 0 0] 52
  go_wp2_with fail
  have Ey:=aH (aM xf.out WV.out)
  refine⟨⟨⟨_,(kO.out _ Ey.out)⟩,rfl⟩,?_⟩
  refine aS rfl ?_ rfl
  have r0:y2.heap[y1.heap.size]?=ag (aG #[ay az 0,ay az 0,aB ae 0 0] 52 (0,0)):=Vp.out
  have k0:=eH r0
  go_wp2_with fail
  obtain⟨y3,hy⟩:=bP (((y2.setCell ⟨y1.heap.size,0,ae⟩ (ay az tF)).setCell ⟨y1.heap.size,1,ae⟩ (ay az zK)).setCell ⟨y1.heap.size,2,ae⟩ (aB ay1 m ky1))
  have Kz:=aH (show y3.heap[y1.heap.size]?=ag (aG #[ay az tF,ay az zK,aB ay1 m ky1] 52 (0,0))from by rw[<-hy];exact tQ r0)
  have wC:=aH (show Below x2.heap.size x2 y3 from by rw[<-hy];exact bK (bK (bK Ey.out (xf.out.size) _) (xf.out.size) _) (xf.out.size) _)
  have Oy3:=aH (show cU y3 x2.heap.size (aB ay1 m ky1) rd from by
   rw[<-hy]
   exact AX (Lp (dC Oy1.out λq hq=>WV.out.block q (xW Oy1.out q hq).2) dx) (λq hq=>bR (xW Oy1.out q hq).2))
  try rw[hy]
  clear hy r0 k0
  refine⟨⟨⟨_,(kO.out _ wC.out)⟩,rfl⟩,?_⟩
  refine bF ?_
  unfold dh cC
  dsimp only
  clear dF qR
  change wpList _ _ _ _ _ _
  go_step
  go_step
  go_step
  go_step
  first | (exact lI.out _ (y1.heap.size) _ _ _ _ _ _ _ _ _ _ _ _ _ _ _ _ _ _ _ _ _ _ _ _ _ _ _ _ _ _ _ _ _ _ _ _ _ _ _ _ _ _ _ _ _ _ _ _ _ _ _ _ _ _ _ _ _ _ _ _ _ _ _ _ _ _ _ _ _ _ _ _ _ _ wC.out (xf.out.size) Kz.out Oy3.out) | (go_step;first | (exact lI.out _ (y1.heap.size) _ _ _ _ _ _ _ _ _ _ _ _ _ _ _ _ _ _ _ _ _ _ _ _ _ _ _ _ _ _ _ _ _ _ _ _ _ _ _ _ _ _ _ _ _ _ _ _ _ _ _ _ _ _ _ _ _ _ _ _ _ _ _ _ _ _ _ _ _ _ _ _ _ _ wC.out (xf.out.size) Kz.out Oy3.out) | (go_step;exact lI.out _ (y1.heap.size) _ _ _ _ _ _ _ _ _ _ _ _ _ _ _ _ _ _ _ _ _ _ _ _ _ _ _ _ _ _ _ _ _ _ _ _ _ _ _ _ _ _ _ _ _ _ _ _ _ _ _ _ _ _ _ _ _ _ _ _ _ _ _ _ _ _ _ _ _ _ _ _ _ _ wC.out (xf.out.size) Kz.out Oy3.out))
 ·simp only[pick,aV,a8,aQ,aR]
  refine aS rfl ?_ rfl
  obtain⟨y4,hy4,By4,WN⟩:=bG x2.drew #[ay az 0,ay az 0,aB ae 0 0] 52
  go_wp2_with fail
  have tH:=aH (aM BD.out By4.out)
  refine⟨⟨⟨_,(kO.out _ tH.out)⟩,rfl⟩,?_⟩
  refine aS rfl ?_ rfl
  go_wp2_with fail
  refine(WK.out _ tH.out).mono ?_
  rintro e y5 ⟨ay5,ky5,rfl,oy5,by5⟩
  have Oy5:=aH oy5
  have Cy5:=aH (show Below x2.heap.size x2 y5 from tH.out.trans (by5.mono tH.out.size))
  have Dy5:=aH by5
  clear oy5 by5
  go_wp2_with fail
  refine⟨⟨⟨_,(kO.out _ Cy5.out)⟩,rfl⟩,?_⟩
  refine aX 3 (by kernel_rfl) ?_
  simp only[aJ,aO,aI,aL]
  repeat (go_big_quiet_step (fail))
  refine aU ?_
  refine aS rfl ?_ rfl
  have r0:y5.heap[x2.heap.size]?=ag (aG #[ay az 0,ay az 0,aB ae 0 0] 52 (0,0)):=((Dy5.out.block _ (aT WN.out)).trans WN.out)
  have k0:=eH r0
  go_wp2_with fail
  obtain⟨y6,hy⟩:=bP (((y5.setCell ⟨x2.heap.size,0,ae⟩ (ay az tF)).setCell ⟨x2.heap.size,1,ae⟩ (ay az zK)).setCell ⟨x2.heap.size,2,ae⟩ (aB ay5 m ky5))
  have WM:=aH (show y6.heap[x2.heap.size]?=ag (aG #[ay az tF,ay az zK,aB ay5 m ky5] 52 (0,0))from by rw[<-hy];exact tQ r0)
  have Nv:=aH (show Below x2.heap.size x2 y6 from by rw[<-hy];exact bK (bK (bK Cy5.out (BD.out.size) _) (BD.out.size) _) (BD.out.size) _)
  have Oy6:=aH (show cU y6 x2.heap.size (aB ay5 m ky5) rd from by
   rw[<-hy]
   exact AX (Lp Oy5.out (tH.out.size)) (λq hq=>cM (aW (aT WN.out) (xW Oy5.out q hq).1)))
  try rw[hy]
  clear hy r0 k0
  refine⟨⟨⟨_,(kO.out _ Nv.out)⟩,rfl⟩,?_⟩
  refine bF ?_
  unfold dh cC
  dsimp only
  clear dF qR
  change wpList _ _ _ _ _ _
  go_step
  go_step
  go_step
  go_step
  first | (exact lI.out _ (x2.heap.size) _ _ _ _ _ _ _ _ _ _ _ _ _ _ _ _ _ _ _ _ _ _ _ _ _ _ _ _ _ _ _ _ _ _ _ _ _ _ _ _ _ _ _ _ _ _ _ _ _ _ _ _ _ _ _ _ _ _ _ _ _ _ _ _ _ _ _ _ _ _ _ _ _ _ Nv.out (BD.out.size) WM.out Oy6.out) | (go_step;first | (exact lI.out _ (x2.heap.size) _ _ _ _ _ _ _ _ _ _ _ _ _ _ _ _ _ _ _ _ _ _ _ _ _ _ _ _ _ _ _ _ _ _ _ _ _ _ _ _ _ _ _ _ _ _ _ _ _ _ _ _ _ _ _ _ _ _ _ _ _ _ _ _ _ _ _ _ _ _ _ _ _ _ Nv.out (BD.out.size) WM.out Oy6.out) | (go_step;exact lI.out _ (x2.heap.size) _ _ _ _ _ _ _ _ _ _ _ _ _ _ _ _ _ _ _ _ _ _ _ _ _ _ _ _ _ _ _ _ _ _ _ _ _ _ _ _ _ _ _ _ _ _ _ _ _ _ _ _ _ _ _ _ _ _ _ _ _ _ _ _ _ _ _ _ _ _ _ _ _ _ Nv.out (BD.out.size) WM.out Oy6.out))
end
structure DQ(K:dw)(W:iw)(n:Nat):Prop where
 en:fy K W.E
 ex:∃t i c,W.ts[n]?=ag t/\t.id=ag i/\t.kJ<W.cJ.length/\W.E.cs[i]?=ag c/\iX K W.E c=aj/\(c.st=1->c.ask.kind≠5->jp K W.E c.ask.data)/\∀want c',(fK K W.E i want).cs[i]?=ag c'->c'.st=9->c'.rd.length<=100000
 dl:W.E.D.length<=1000
 nb:W.E.cT<=1000000
 al:W.E.act.length<=5000
 tl:W.turns.length<=100000
 pl:W.cJ.length<=100000
structure VS(K:dw)(P:eG)(W:iw)(n:Nat):Prop where
 en:fy K W.E
 ex:∃t l a,W.ts[n]?=ag t/\P[n]?=ag l/\t.id=ae/\l[t.next]?=ag a/\(((a.kind=1\/a.kind=2)/\a.lsn=0)\/(a.kind=5/\K.b0<=a.lsn/\a.data=[]))/\a.data.length<=100000/\l.length<=100000
 al:W.E.act.length<4096
 cl:W.E.cs.length<=100000
 tl:W.turns.length<=100000
 pl:W.cJ.length<=100000
section
variable{w w':am}{g g':Tg}{K:dw}{S:jR}{P:eG}{picks:List Int}{W:iw}{R:si}{L:List uC}
theorem Xa(H:mu w g K S P picks W R L)(u:kW K ⟨S.sm,S.lr,S.al⟩){n b:Nat}(m:R.tb[n]?=ag b)(h:DQ K W n):
 aw ax 210 #[aA (ag ⟨b,0,ae⟩)] w λe w'=>e=aF (.tuple #[])/\∃d g' j l,Ch ((80+n)::70::72::TS) g w g' w'/\mu w' g' K S P picks (iH K W n d) j l/\j.sb=R.sb/\j.tb=R.tb/\j.eb=R.eb/\j.db=R.db:=by
 obtain⟨t,i,c,p,o,C,B,D,F,s⟩:=h.ex
 have r:=H.Eg n b t m p
 obtain⟨z,E⟩:=bP ((i:Int)+1:Int)
 have Q:w.cell? ⟨b,3,ae⟩=ag (ay az z):=by
  rw[r.cell 3,<-E]
  show ag (Value.int .i64 (idI t.id))=_
  rw[o]
  rfl
 have T:z≠0:=by omega
 have I:=aH H
 have f:=aH h
 have A:=aH (And.intro m (And.intro p (And.intro o (And.intro C (And.intro B (And.intro D (And.intro F (And.intro s u))))))))
 clear H h p o C B D F s r E m u
 go_in
 go_step
 go_step
 rename_i M J G
 have k:=aH (show ∀a x,(lD Tryz.f210 1).wp ax M a x->J a x from G)
 clear G
 go_wp2_with fail
 refine k.out _ _ ?_
 refine KX w I.out f.out.en A.out.2.2.2.2.2.2.2.2 A.out.1 A.out.2.1 A.out.2.2.1 A.out.2.2.2.1 A.out.2.2.2.2.1 A.out.2.2.2.2.2.1 A.out.2.2.2.2.2.2.1 f.out.dl f.out.nb f.out.al f.out.tl f.out.pl A.out.2.2.2.2.2.2.2.1 ?_
 intro w' d g' l N O
 refine⟨rfl,d,g',R,l,N.mono ?_,O,rfl,rfl,rfl,rfl⟩
 intro y q
 rcases cR.1 q with e | q
 ·exact e▸List.mem_cons_self ..
 ·exact fW _ (fW _ q)
theorem W9(H:mu w g K S P picks W R L)(I:kW K ⟨S.sm,S.lr,S.al⟩){n b:Nat}(z:R.tb[n]?=ag b)(j:VS K P W n)(h:DQ K (fN P W n) n):
 aw ax 210 #[aA (ag ⟨b,0,ae⟩)] w λe w'=>e=aF (.tuple #[])/\∃d g' m F,Ch ((80+n)::70::72::TS) g w g' w'/\mu w' g' K S P picks (iH K (fN P W n) n d) m F/\m.sb=R.sb/\m.tb=R.tb/\m.eb=R.eb/\m.db=R.db:=by
 obtain⟨Q,l,a,k,M,o,ha,J,O,G⟩:=j.ex
 have r:=H.Eg n b Q z k
 have t3:w.cell? ⟨b,3,ae⟩=ag (ay az 0):=by
  rw[r.cell 3]
  show ag (Value.int .i64 (idI Q.id))=_
  rw[o]
  rfl
 have U:=aH (Xe H j.en z k M ha J O j.al j.cl j.tl j.pl G)
 have f:=aH h
 have A:=aH (And.intro z I)
 clear H j h z I k M o ha J O G r
 go_in
 go_step
 go_step
 rename_i X T N
 have E:=aH (show ∀a x,(lD Tryz.f210 1).wp ax X a x->T a x from N)
 clear N
 go_wp2_with fail
 refine U.out.mono ?_
 rintro e w2 ⟨rfl,g2,Y,L2,s,u,B,q,C,D⟩
 have V:=aH (And.intro s (And.intro u (And.intro B (And.intro q (And.intro C D)))))
 clear s u B q C D
 go_wp2_with fail
 refine E.out _ _ ?_
 obtain⟨t,i,c,ht,hi,hp,hc,hr,iP,Z⟩:=f.out.ex
 obtain⟨s,u,B,q,C,D⟩:=V.out
 refine KX w2 u f.out.en A.out.2 (by rw[q];exact A.out.1) ht hi hp hc hr iP f.out.dl f.out.nb f.out.al f.out.tl f.out.pl Z ?_
 intro w' d g' F c' h'
 refine⟨rfl,d,g',Y,F,(s.mono ?_).trans (c'.mono ?_),h',B,q,C,D⟩
 ·intro y p
  simp only[cR,dK,iG]at p ⊢
  omega
 ·intro y p
  rcases cR.1 p with e | p
  ·exact e▸List.mem_cons_self ..
  ·exact fW _ (fW _ p)
end
section
variable{w w':am}{g g':Tg}{K:dw}{S:jR}{P:eG}{picks:List Int}{W:iw}{R:si}{L:List uC}
theorem Vd(h:fy K W.E)(ha:kU K W=aj):∃i c,W.E.cW=ag i/\W.E.cs[i]?=ag c/\c.st=6/\GC K W.E=ah:=by
 unfold kU at ha
 cases hl:W.E.cW with
 | none=>rw[hl]at ha;cases ha
 | some i=>
  rw[hl]at ha
  dsimp only at ha
  cases hc:W.E.cs[i]? with
  | none=>rw[hc]at ha;cases ha
  | some c=>
   rw[hc]at ha
   dsimp only at ha
   rw[co]at ha
   have b:=dX ha.1
   refine⟨i,c,rfl,hc,b,?_⟩
   have a:=ha.2
   cases e:GC K W.E with
   | false=>rfl
   | true=>
    have:i∈gZ K W.E:=(kZ h).2 ⟨c,hc,by unfold iX;rw[b];simpa using e⟩
    rw[bM this]at a
    cases a
theorem W8(H:mu w g K S P picks W R L)(h:fy K W.E)(B:kW K ⟨S.sm,S.lr,S.al⟩)(x:K.bU<=sW)(ha:kU K W=aj)(k:Nat)(D:k<=10000)(G:fV W.E.now<=k*sU):aw ax 317 #[.agg #[aA (ag ⟨R.sb,0,ae⟩)]] w λe w'=>e=aF (.tuple #[])/\∃t g',W.E.now<=t/\GC K { W.E with now:=t }=aj/\fV t<=(k+1)*sU/\Ch [41] g w g' w'/\mu w' g' K S P picks { W with E:={ W.E with now:=t } } R L:=by
 obtain⟨i,c,F,p,z,C⟩:=Vd h ha
 obtain⟨qb,u⟩:∃q,R.cb[i]?=ag q:=⟨_,aP (by rw[H.Zb];exact(aK.1 p).1)⟩
 obtain⟨I,N,y,M⟩:=bG w #[aA (ag ⟨R.sb,0,ae⟩)] 104
 have O:=jY M.out
 have f:=H.low y.out
 have J:=aH f
 have b:I.cell? ⟨R.sb,15,ae⟩=ag (aA (ag ⟨R.eb,0,ae⟩)):=f.row.cell 15
 have a:=aH (ac9 R.eb R.db qb i W.E R.cb c I g f.GM h B x p u F z C k D G)
 obtain⟨T,r⟩:=bP R.sb
 obtain⟨Q,s⟩:=bP R.eb
 have o:=aH s
 rw[r]at b N O
 rw[s]at b a
 rw[r]
 clear H f h B x ha D G F p z C u r s
 go_in
 go_wp2_with fail
 refine a.out.mono ?_
 rintro e U ⟨rfl,t,g2,l,m,n,d,j⟩
 have A:=aH (And.intro l (And.intro m (And.intro n (And.intro d j))))
 clear l m n d j
 go_wp2_with fail
 go_end0
 obtain⟨l,m,n,d,j⟩:=A.out
 refine⟨rfl,t,g2,l,m,n,(Ch.bh [41] g y.out).trans d,J.out.Ld d (by decide) ?_ rfl⟩
 rw[o.out]
 exact j
end
abbrev TU:List Nat:=[70,71,72,80,81,82,83,84,85,86,87,88,89,90,91,92,93,94,95,1,11,12,13,17,18,19,20,21,30,31,32,33,40,41,50,51,52,53,54,55,60]
theorem acr{n:Nat}(h:n<16):80+n∈TU:=by
 simp only[cR]
 omega
structure nV(K:dw)(P:eG)(Sx:Option Nat->iw->Prop)(N:Nat):Prop where
 law:rX K P Sx
 ask:∀(m:Nat) (l:List fu) (a:fu),P[m]?=ag l->a∈l->Ny K a/\a.data.length<=100000
 ll:∀(m:Nat) (l:List fu),P[m]?=ag l->l.length<=100000
 dl:∀(x:Option Nat) (W:iw),oM K P x W->Sx x W->W.E.D.length<=N
 n:N<=1000
 t:(P.map List.length).sum<=1000
section
variable{w w':am}{g g':Tg}{K:dw}{S:jR}{P:eG}{picks:List Int}{W:iw}{R:si}{L:List uC}{Sx:Option Nat->iw->Prop}{N:Nat}
theorem Rq(o:nV K P Sx N)(h:oM K P ae W){n:Nat}{t:jb}{l:List fu}(i:W.ts[n]?=ag t)(c:P[n]?=ag l)(b:t.id=ae)(j:t.next<l.length)(f:W.turns.length<=100000):VS K P W n:=by
 obtain⟨a,e⟩:∃a,l[t.next]?=ag a:=⟨_,aP j⟩
 have d:=o.ask n l a c (cG e)
 have k:=h.total
 have m:=o.t
 have p:=h.pl
 have q:=DO h.en
 exact⟨h.en,⟨t,l,a,i,c,b,e,d.1,d.2,o.ll n l c⟩,by omega,by omega,f,by omega⟩
theorem AE(o:nV K P Sx N){x:Option Nat}(h:oM K P x W)(s:Sx x W){n i:Nat}{t:jb}{l:List fu}{c:CV}(j:W.ts[n]?=ag t)(u:P[n]?=ag l)(d:t.id=ag i)(b:W.E.cs[i]?=ag c)(f:iX K W.E c=aj)(k:W.turns.length<=100000)(r:W.E.cT<=1000000):DQ K W n:=by
 have C:=h.total
 have D:=o.t
 have E:=h.pl
 have F:=DO h.en
 have G:=o.dl x W h s
 have H:=o.n
 obtain⟨-,m⟩:=h.tk n t l j u
 obtain⟨e,B,p,-,y,-⟩:=m i d
 exact⟨h.en,⟨t,i,c,j,d,by rw[e];exact(aK.1 y).1,b,f,o.law.room x W i c h s b,λa A z q=>bJ (Xl h.en b f a z q) (by decide)⟩,by omega,r,by omega,k,by omega⟩
theorem W7(o:nV K P Sx N)(G:kW K ⟨S.sm,S.lr,S.al⟩)(Uc:K.bU<=sW){p:Nat}(hp:p∈ft K P W)(h:oM K P ae W)(s:Sx ae W)(Ba:W.turns.length<=90000)(aa:W.E.cT<=900000)(k:Nat)(hk:k<=10000)(Z:fV W.E.now<=k*sU)(H:mu w g K S P picks { W with last:=(p:Int),turns:=W.turns++[p] } R L):
 ∃f m T,pK R.tb R.sb p=.iface T m/\(∀x,(nilAhead 568 T m "flume/world.turn").run ax x=.ok (ag ah) x)/\(∀x,(method 568 T m "flume/world.turn").run ax x=.ok (f,m) x)/\(∀xs x,(callFunc f xs).run ax x=.ok (.enter f xs) x)/\
  aw ax f #[m] w λe w'=>e=aF (.tuple #[])/\∃d t g' q r,Ch TU g w g' w'/\mu w' g' K S P picks (gY K P W p d t) q r/\q.sb=R.sb/\q.tb=R.tb/\q.eb=R.eb/\q.db=R.db/\(p=P.length->W.E.now<=t/\GC K { W.E with now:=t }=aj/\fV t<=(k+1)*sU):=by
 have C:=h.IM (p:Int) (W.turns++[p])
 have hs:=o.law.IM ae W (p:Int) (W.turns++[p]) s
 have D:(W.turns++[p]).length<=100000:=by rw[aN,cP];omega
 have J:∀y∈70::72::TS,y∈TU:=by decide
 have z:∀n,n<P.length->∀y∈(80+n)::70::72::TS,y∈TU:=λn Z y I=>by
  have:=H.FU
  rcases cR.1 I with e | I
  ·rw[e];exact acr (by omega)
  ·exact J y I
 rcases vn hp with⟨F,ha⟩ | ⟨rfl,ha⟩
 ·obtain⟨b,Y,e2⟩:=Cj H.zI F
  refine⟨_,_,_,e2,SI b,OA b,λ_ _=>rfl,?_⟩
  unfold mr at ha
  cases hT:W.ts[p]? with
  | none=>rw[hT]at ha;cases ha
  | some u=>
   cases hL:P[p]? with
   | none=>rw[hT,hL]at ha;cases ha
   | some l=>
    rw[hT,hL]at ha
    dsimp only at ha
    have vV:Jw W p=u.id.isNone:=by
     show(match W.ts[p]? with | some t=>t.id.isNone | none=>ah)=_
     rw[hT]
    have X:∀d t,gY K P W p d t=iH K (if Jw W p then fN P { W with last:=(p:Int),turns:=W.turns++[p] } p else{ W with last:=(p:Int),turns:=W.turns++[p] }) p d:=λd t=>by
     unfold gY
     dsimp only
     rw[bf (by omega:¬ p=P.length)]
    rcases QA u.id with j | ⟨i,j⟩
    ·rw[j]at ha
     have kA:=dX ha
     obtain⟨a,E⟩:∃a,l[u.next]?=ag a:=⟨_,aP kA⟩
     have ak:=(o.ask p l a hL (cG E)).1
     obtain⟨b1,V,b3,⟨bg,b4⟩,bt⟩:=vj C hT hL j E ak
     have b5:=o.law.begin _ p u l a C hs hT hL j E
     have b6:(fN P { W with last:=(p:Int),turns:=W.turns++[p] } p).ts[p]?=ag ⟨u.next+1,ag W.E.cs.length,W.cJ.length⟩:=by rw[b3,kj,bj rfl,hT];rfl
     have b7:(fN P { W with last:=(p:Int),turns:=W.turns++[p] } p).E.cs[W.E.cs.length]?=ag ⟨a,0,ah,1,0,0,0,[]⟩:=by
      rw[V]
      show(W.E.cs++[_])[W.E.cs.length]?=_
      rw[bH dx,dR]
      rfl
     refine(W9 H G Y (Rq o C hT hL j kA D) (AE o b1 b5 b6 hL rfl b7 (by unfold iX;rfl) (by rw[bt];exact D) (by rw[V];show W.E.cT<=_;omega))).mono ?_
     rintro e w' ⟨rfl,d,g',q,r,A,B,M,O,Q,U⟩
     refine⟨rfl,d,0,g',q,r,A.mono (z p F),?_,M,O,Q,U,λe=>by omega⟩
     rw[X,bj (by rw[vV,j];rfl)]
     exact B
    ·rw[j]at ha
     obtain⟨c,hc,hr⟩:=(kZ h.en).1 (dX ha)
     refine(Xa H G Y (AE o C hs hT hL j hc hr D (by show W.E.cT<=_;omega))).mono ?_
     rintro e w' ⟨rfl,d,g',q,r,A,B,M,O,Q,U⟩
     refine⟨rfl,d,0,g',q,r,A.mono (z p F),?_,M,O,Q,U,λe=>by omega⟩
     rw[X,bf (by rw[vV,j];simp)]
     exact B
 ·refine⟨_,_,_,Ck H.zI,SJ R.sb,OC R.sb,λ_ _=>rfl,?_⟩
  refine(W8 H h.en G Uc ha k hk Z).mono ?_
  rintro e w' ⟨rfl,t,g',h1,h2,h3,A,B⟩
  refine⟨rfl,0,t,g',R,L,A.mono (by decide),?_,rfl,rfl,rfl,rfl,λ_=>⟨h1,h2,h3⟩⟩
  unfold gY
  dsimp only
  rw[bj rfl]
  exact B
end
end
end Go.Proofs.YtooinenkenobaaaGreat

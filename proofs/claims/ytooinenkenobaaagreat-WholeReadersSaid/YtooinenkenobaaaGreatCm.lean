/- A part of the proof of what LawWholeReaders says. -/
import Derived.Test.YtooinenkenobaaaGreatAa
import Derived.Test.YtooinenkenobaaaGreatCl
import Derived.Test.YtooinenkenobaaaGreatBl
import Derived.Test.YtooinenkenobaaaGreatBy
set_option maxRecDepth 100000
set_option maxHeartbeats 20000000
namespace Go.Proofs.YtooinenkenobaaaGreat
open Option renaming none->ae,some->ag
open Bool renaming false->ah,true->aj
open Go.Proofs.Tryz renaming prog->ax
open Go.Value renaming int->ay,pointer->aA,slice->aB,bool->aC,float->aD
open Go.IntKind renaming i64->az
open Go.FloatKind renaming f64->aE
open Go.Ending renaming returned->aF
open Go.Obj renaming cells->aG
open Go renaming World->am,Value->ar,TypeId->au,Calls->aw
section
open Go.RowKit Go.Maps
structure jR where
 uX:Int
 sm:Int
 lr:Nat
 al:Nat
 most:Int
 fv:ar
 tv:ar
 pv:ar
 nv:ar
def IW(K:dw)(S:jR)(c d:Nat)(b e pav:ar)(a:Int):Array ar:=
 #[ay az S.uX,ay az S.sm,ay az K.b0,ay az K.cap,ay az K.dO,ay az K.most,ay az K.fj,aD aE S.lr,aD aE S.al,S.fv,S.tv,S.pv,ay az S.most,S.nv,aA (ag ⟨c,0,ae⟩),aA (ag ⟨d,0,ae⟩),b,ay az a,ay az 0,e,pav,
  ay az 0,ay az 0,ay az 0,ay az 0,ay az 0,ay az 0,ay az 0,ay az 0,aD aE 0,aC ah,aC ah,aC ah,ay az 0,
  ay az 0,ay az 0,ay az 0,ay az 0,ay az 0,ay az 0,ay az 0,ay az 0,ay az 0,aB ae 0 0]
def idI:Option Nat->Int
 | none=>0
 | some i=>(i:Int)+1
def Rt(a n:Nat)(t:jb):Array ar:=#[aA (ag ⟨a,0,ae⟩),ay az n,ay az t.next,ay az (idI t.id),ay az t.kJ]
def pK(c:List Nat)(a n:Nat):ar:=match c[n]? with
 | some b=>.iface 100 (aA (ag ⟨b,0,ae⟩))
 | none=>.iface 104 (.agg #[aA (ag ⟨a,0,ae⟩)])
def rZ(b:List Nat)(a n:Nat):List ar:=[pK b a n]
theorem xV{b:List Nat}(a n:Nat):(rZ b a n).length=1:=rfl
theorem Su{c:List Nat}(b n:Nat):∀u∈rZ c b n,u.oneCell'=aj:=λu a=>by
 unfold rZ pK at a
 rw[cE.1 a]
 split <;> rfl
structure uC where
 task:Int
 call:Int
 kind:Int
 lsn:Int
 dv:qB
 err:Int
 rl:Int
 rv:qB
 beg:Int
 fin:Int
def oh(s:qB):ar:=aB s.1 s.2.1 s.2.2
def IP(x:uC):List ar:=[ay az x.task,ay az x.call,ay az x.kind,ay az x.lsn,oh x.dv,ay az x.err,ay az x.rl,oh x.rv,ay az x.beg,ay az x.fin]
theorem mC(x:uC):(IP x).length=10:=rfl
theorem Xk(x:uC):∀u∈IP x,u.oneCell'=aj:=λu a=>by
 unfold IP oh at a
 simp only[cR,dK,iG]at a
 rcases a with rfl | rfl | rfl | rfl | rfl | rfl | rfl | rfl | rfl | rfl <;> rfl
structure Ky(w:am)(g:Tg)(x:uC)(p:kN):Prop where
 task:x.task=p.task
 call:x.call=p.call
 kind:x.kind=p.ask.kind
 lsn:x.lsn=p.ask.lsn
 err:x.err=p.err
 rl:x.rl=p.rl
 beg:x.beg=p.beg
 fin:x.fin=p.fin
 dv:oN w g (oh x.dv) p.ask.data
 rv:oN w g (oh x.rv) p.rd
theorem Ky.ch{T:List Nat}{w w':am}{g g':Tg}{x:uC}{p:kN}(h:Ky w g x p)(c:Ch T g w g' w')(a:0∉T):Ky w' g' x p:=⟨h.task,h.call,h.kind,h.lsn,h.err,h.rl,h.beg,h.fin,h.dv.ch c a,h.rv.ch c a⟩
structure rK(w:am)(g:Tg)(v:ar)(l:List fu):Prop where
 ex:∃lo lc,v=aB lo l.length lc/\∀(j:Nat) (a:fu),l[j]?=ag a->∃lb off dv,lo=ag ⟨lb,off,ae⟩/\g lb=0/\lb<w.heap.size/\w.cell? ⟨lb,off+j*3,ae⟩=ag (ay az a.kind)/\w.cell? ⟨lb,off+j*3+1,ae⟩=ag (ay az a.lsn)/\w.cell? ⟨lb,off+j*3+2,ae⟩=ag dv/\oN w g dv a.data
theorem rK.ch{T:List Nat}{w w':am}{g g':Tg}{v:ar}{l:List fu}(h:rK w g v l)(c:Ch T g w g' w')(n:0∉T):rK w' g' v l:=by
 obtain⟨u,t,e,k⟩:=h.ex
 refine⟨u,t,e,λj a ha=>?_⟩
 obtain⟨f,i,dv,o,m,b,p,q,r,s⟩:=k j a ha
 have d:=c.gP f b (by rw[m];exact n)
 exact⟨f,i,dv,o,(c.tag f b).trans m,aW b c.size,(cm d).trans p,(cm d).trans q,(cm d).trans r,s.ch c n⟩
structure sk(w:am)(g:Tg)(v:ar)(P:eG):Prop where
 ex:∃ta tc,v=aB ta P.length tc/\∀(m:Nat) (l:List fu),P[m]?=ag l->∃tb off lv,ta=ag ⟨tb,off,ae⟩/\g tb=0/\tb<w.heap.size/\w.cell? ⟨tb,off+m,ae⟩=ag lv/\rK w g lv l
theorem sk.ch{T:List Nat}{w w':am}{g g':Tg}{v:ar}{P:eG}(h:sk w g v P)(c:Ch T g w g' w')(i:0∉T):sk w' g' v P:=by
 obtain⟨r,s,e,k⟩:=h.ex
 refine⟨r,s,e,λm l p=>?_⟩
 obtain⟨d,b,q,j,f,a,n,o⟩:=k m l p
 exact⟨d,b,q,j,(c.tag d a).trans f,aW a c.size,(cm (c.gP d a (by rw[f];exact i))).trans n,o.ch c i⟩
structure sK(w:am)(g:Tg)(v:ar)(L:List Int):Prop where
 ex:∃ao ca,v=aB ao L.length ca/\∀(j:Nat) (z:Int),L[j]?=ag z->∃b off,ao=ag ⟨b,off,ae⟩/\g b=0/\b<w.heap.size/\w.cell? ⟨b,off+j,ae⟩=ag (ay az z)
theorem sK.ch{T:List Nat}{w w':am}{g g':Tg}{v:ar}{L:List Int}(h:sK w g v L)(c:Ch T g w g' w')(o:0∉T):sK w' g' v L:=by
 obtain⟨i,l,e,k⟩:=h.ex
 refine⟨i,l,e,λj z p=>?_⟩
 obtain⟨b,d,m,f,a,n⟩:=k j z p
 exact⟨b,d,m,(c.tag b a).trans f,aW a c.size,(cm (c.gP b a (by rw[f];exact o))).trans n⟩
structure si where
 sb:Nat
 eb:Nat
 db:Nat
 cb:List Nat
 tb:List Nat
 Eh:ar
 xG:ar
 pav:ar
structure mu(w:am)(g:Tg)(K:dw)(S:jR)(P:eG)(picks:List Int)(W:iw)(R:si)(L:List uC):Prop where
 row:Row w g 70 R.sb (IW K S R.db R.eb R.Eh R.xG R.pav W.last) 85
 GM:gw w g R.eb R.db K ⟨S.sm,S.lr,S.al⟩ W.E R.cb
 Zb:R.cb.length=W.E.cs.length
 zI:R.tb.length=P.length
 tsl:W.ts.length=P.length
 tbn:R.tb.Nodup
 Eg:∀(n b:Nat) (t:jb),R.tb[n]?=ag b->W.ts[n]?=ag t->Row w g (80+n) b (Rt R.sb n t) 102
 Je:im (rZ R.tb R.sb) 108 1 w g 73 R.Eh (List.range (P.length+1))
 Xh:im lS 3 1 w g 71 R.xG (W.turns.map λn:Nat=>(n:Int))
 Jg:im IP 56 10 w g 72 R.pav L
 Ei:L.length=W.cJ.length
 pat:∀(j:Nat) (x:uC) (p:kN),L[j]?=ag x->W.cJ[j]?=ag p->Ky w g x p
 FU:P.length<=16
 ask:sk w g S.tv P
 Cm:sK w g S.pv picks
abbrev TW:List Nat:=[70,71,72,73,80,81,82,83,84,85,86,87,88,89,90,91,92,93,94,95,0,1,5,6,10,11,12,13,14,15,16,17,18,19,20,21,22,23,30,31,32,33,40,41,50,51,52,53,54,55,60]
theorem acq{n:Nat}(h:n<16):80+n∈TW:=by
 simp only[cR]
 omega
section
variable{T:List Nat}{w w':am}{g g':Tg}{K:dw}{S:jR}{P:eG}{picks:List Int}{W:iw}{R:si}{L:List uC}
theorem mu.ch(h:mu w g K S P picks W R L)(c:Ch T g w g' w')(a:∀t,t∈TW->t∉T):mu w' g' K S P picks W R L:=by
 have e:0∉T:=a 0 (by decide)
 refine⟨h.row.ch c (a _ (by decide)),h.GM.ch c (λt i=>a t ?_),h.Zb,h.zI,h.tsl,h.tbn,λn b t d f=>(h.Eg n b t d f).ch c (a _ (acq ?_)),h.Je.ch c (a _ (by decide)),h.Xh.ch c (a _ (by decide)),h.Jg.ch c (a _ (by decide)),h.Ei,λj x p d f=>(h.pat j x p d f).ch c e,h.FU,h.ask.ch c e,h.Cm.ch c e⟩
 ·simp only[cR,dK,iG]at i ⊢
  omega
 ·have:=(aK.1 d).1
  have:=h.zI
  have:=h.FU
  omega
theorem mu.low(h:mu w g K S P picks W R L)(c:Below w.heap.size w w'):mu w' g K S P picks W R L:=h.ch (Ch.bh [] g c) (λ_ _ h=>by cases h)
end
theorem RO{v:ar}(L:List Int)(z:Int)(w:am)(H:Hz w v L)(D:L.length<=100000):aw ax 215 #[v,ay az z] w λe w'=>(∃k:Int,e=aF (ay az k)/\(0<=k↔z∈L))/\w=w':=by
 obtain⟨F,I,rfl,B,C,-⟩:=H.shape
 obtain⟨n,b⟩:=bP L.length
 have f:=aH b
 have o:=aH H
 rw[b]at D ⊢
 clear H B C b
 go_in
 go_wp2_with fail
 go_loopw [8] (λx wr=>∃k:Nat,k<=n/\x=ay az k/\wr=w/\Hid (∀j,j<k->L[j]?≠ag z)) (λx _=>n-(intOf x).toNat)
 case atStart=>exact⟨0,cF _,rfl,rfl,aH (λj a=>absurd a (nF j))⟩
 case round=>
  obtain⟨k,J,rfl,rfl,d⟩:=hrel
  by_cases A:k<n
  ·have E:(k:Int)<(n:Int):=by omega
   obtain⟨y,c⟩:∃y,L[k]?=ag y:=⟨_,aP (by rw[f.out];exact A)⟩
   obtain⟨q,r,e,-,-,l,-⟩:=o.out.get ro c
   injection e with s t u
   subst s u
   have G:wr.cell? ⟨q,k,ae⟩=ag (ay az y):=by have:=l 0 (by decide);rw[dY,fD]at this;exact this
   have i:=aH c
   clear l c t
   by_cases m:z=y
   ·subst m
    go_wp2_with fail
    go_ret
    exact⟨⟨_,rfl,⟨λ_=>cG i.out,λ_=>by omega⟩⟩,rfl⟩
   ·have p:=aH (show ∀j,j<k+1->L[j]?≠ag z from λj a e=>by
     rcases cg j k with h | h
     ·exact d.out j h e
     ·obtain rfl:j=k:=by omega
      rw[i.out]at e
      injection e with e
      exact m e.symm)
    go_wp2_with fail
    go_roundw
    case rel=>exact⟨k+1,by omega,by go_num,trivial,p⟩
    case measure=>simp[intOf];omega
  ·obtain rfl:k=n:=by omega
   have E:(k:Int)<=(k:Int):=by omega
   go_wp2_with fail
   go_ret
   refine⟨⟨-1,rfl,⟨λh=>by omega,λh=>?_⟩⟩,rfl⟩
   obtain⟨j,a⟩:=fg h
   exact absurd a (d.out j (by have:=(aK.1 a).1;rw[f.out]at this;exact this))
theorem vJ(v:ar){L:List Int}(z:Int)(w:am)(H:Hz w v L)(f:L.length<=100000):aw ax 211 #[v,ay az z] w λe w'=>e=aF (aC (decide (z∈L)))/\w=w':=by
 have c:=aH H
 obtain⟨h,i,rfl,-⟩:=H.shape
 clear H
 go_in
 go_wp2_with fail
 refine(RO L z w c.out f).mono ?_
 rintro e j ⟨⟨k,rfl,a⟩,d⟩
 subst d
 have b:=aH a
 clear a
 go_wp2_with fail
 go_ret
 refine⟨?_,rfl⟩
 show Ending.returned (Value.bool (decide (0<=k)))=_
 rw[mg.2 b.out]
theorem Lw{L:List Nat}{i:Nat}:(i:Int)+1∈nB L↔i∈L:=by
 unfold nB
 rw[qG]
 exact⟨λ⟨j,a,e⟩=>by obtain rfl:j=i:=(by omega);exact a,λh=>⟨i,h,rfl⟩⟩
section
variable{w:am}{g:Tg}{K:dw}{S:jR}{P:eG}{picks:List Int}{W:iw}{R:si}{L:List uC}
theorem KZ(H:mu w g K S P picks W R L):aw ax 30 #[aA (ag ⟨R.sb,0,ae⟩)] w λe w'=>e=aF (ay az W.turns.length)/\w=w':=by
 obtain⟨f,h,b,-⟩:=H.Xh.own.shape
 rw[bZ]at b
 have a:w.cell? ⟨R.sb,19,ae⟩=ag (aB f W.turns.length h):=by rw[H.row.cell 19];show ag R.xG=_;rw[b]
 obtain⟨n,c⟩:=bP W.turns.length
 obtain⟨i,d⟩:=bP R.sb
 rw[c,d]at a
 rw[c,d]
 clear H b c d
 go_in
 go_wp2_with fail
 go_ret
 exact⟨rfl,rfl⟩
theorem Rl(b n:Nat)(t:jb){a:au}(h:w.heap[b]?=ag (aG (Rt R.sb n t) a (0,0))):aw ax 209 #[aA (ag ⟨b,0,ae⟩)] w λe w'=>e=aF (ay az n)/\w=w':=by
 have c:w.cell? ⟨b,1,ae⟩=ag (ay az n):=aZ 1 h
 clear h
 go_in
 go_wp2_with fail
 go_ret
 exact⟨rfl,rfl⟩
theorem NG(H:mu w g K S P picks W R L):aw ax 316 #[.agg #[aA (ag ⟨R.sb,0,ae⟩)]] w λe w'=>e=aF (ay az P.length)/\Below w.heap.size w w':=by
 obtain⟨l,m,f,-⟩:=H.ask.ex
 obtain⟨o,j,d,i⟩:=bG w #[aA (ag ⟨R.sb,0,ae⟩)] 104
 have k:=jY i.out
 have c:=H.low d.out
 have h:o.cell? ⟨R.sb,10,ae⟩=ag (aB l P.length m):=by rw[c.row.cell 10];show ag S.tv=_;rw[f]
 obtain⟨n,a⟩:=bP P.length
 rw[a]at h
 rw[a]
 obtain⟨p,b⟩:=bP R.sb
 rw[b]at h j k
 rw[b]
 clear H c f a b
 go_in
 go_wp2_with fail
 go_ret
 exact⟨rfl,d.out⟩
end
theorem YC(e d rs f i h b c:Int)(a:Nat)(w:am):(Instr.field 40 (.agg #[ay az e,ay az d,ay az rs,ay az f,ay az i,ay az h,ay az b,ay az c,aD aE a,aC ah,aC ah,aC ah,ay az 0]) 6).run ax w=.ok (ay az b) w:=by kernel_rfl
section
variable{w:am}{g:Tg}{K:dw}{S:jR}{P:eG}{picks:List Int}{W:iw}{R:si}{L:List uC}
theorem Kv{n:Nat}{t:jb}{l:List fu}(c:W.ts[n]?=ag t)(b:P[n]?=ag l)(a:t.id=ae):mr K P W n=decide (t.next<l.length):=by
 unfold mr
 rw[c,b]
 dsimp only
 rw[a]
theorem Ku{n i:Nat}{t:jb}{l:List fu}(c:W.ts[n]?=ag t)(b:P[n]?=ag l)(a:t.id=ag i):mr K P W n=decide (i∈gZ K W.E):=by
 unfold mr
 rw[c,b]
 dsimp only
 rw[a]
theorem abD(n b:Nat){v:ar}(H:mu w g K S P picks W R L)(m:R.tb[n]?=ag b)(s:Hz w v (nB (gZ K W.E)))(a:W.E.act.length<=5000):
 aw ax 208 #[aA (ag ⟨b,0,ae⟩),v] w λe w'=>e=aF (aC (mr K P W n))/\Below w.heap.size w w':=by
 have o:=(aK.1 m).1
 obtain⟨t,h⟩:∃t,W.ts[n]?=ag t:=⟨_,aP (by rw[H.tsl,<-H.zI];exact o)⟩
 obtain⟨l,d⟩:∃l,P[n]?=ag l:=⟨_,aP (by rw[<-H.zI];exact o)⟩
 have r:=H.Eg n b t m h
 have f:w.cell? ⟨b,3,ae⟩=ag (ay az (idI t.id)):=r.cell 3
 rcases QA t.id with c | ⟨i,c⟩
 ·rw[Kv h d c]
  rw[c]at f
  obtain⟨ta,tc,C,E⟩:=H.ask.ex
  obtain⟨M,j,lv,rfl,-,-,y,F⟩:=E n l d
  obtain⟨X,q,rfl,-⟩:=F.ex
  obtain⟨J,x⟩:=bP R.sb
  have t0:∀k,(w.drewN k).cell? ⟨b,0,ae⟩=ag (aA (ag ⟨J,0,ae⟩)):=λk=>by rw[<-x];exact r.cell 0
  have t1:∀k,(w.drewN k).cell? ⟨b,1,ae⟩=ag (ay az n):=λk=>r.cell 1
  have Z:∀k,(w.drewN k).cell? ⟨b,2,ae⟩=ag (ay az t.next):=λk=>r.cell 2
  obtain⟨I,B⟩:=bP P.length
  have O:(n:Int)<(I:Int):=by have:=(aK.1 d).1;omega
  have Y:∀k,(w.drewN k).cell? ⟨J,10,ae⟩=ag (aB (ag ⟨M,j,ae⟩) I tc):=λk=>by rw[<-x,<-B];have:=H.row.cell 10;rw[<-C];exact this
  obtain⟨V,N⟩:=bP l.length
  rw[N]at y ⊢
  have U:∀k,(w.drewN k).cell? ⟨M,j+n,ae⟩=ag (aB X V q):=λk=>y
  obtain⟨nx,D⟩:=bP t.next
  rw[D]at Z ⊢
  have A:w.cell? ⟨b,3,ae⟩=ag (ay az 0):=f
  clear H m s a o h d r f c E C F y x B N D
  go_in
  go_wp2_with fail
  go_quiet (fail)
  go_wp2_with fail
  go_ret
  exact⟨rfl,below_drewN _ _⟩
 ·rw[Ku h d c]
  rw[c]at f
  obtain⟨z,u⟩:=bP ((i:Int)+1:Int)
  have A:w.cell? ⟨b,3,ae⟩=ag (ay az z):=by rw[<-u];exact f
  have zn:¬ z=0:=by omega
  have G:(nB (gZ K W.E)).length<=100000:=by
   unfold nB gZ
   rw[bZ]
   have:=xB (rY K W.E) W.E.act
   omega
  have p:=aH (vJ v z w s G)
  have T:=aH (show decide (z∈nB (gZ K W.E))=decide (i∈gZ K W.E)from by rw[<-u];exact mg.2 Lw)
  clear H m s a o h d r f c G u
  go_in
  go_wp2_with fail
  refine p.out.mono ?_
  rintro e w1 ⟨rfl,Q⟩
  subst Q
  go_wp2_with fail
  go_ret
  refine⟨?_,cX _ _⟩
  show Ending.returned (Value.bool (decide (z∈nB (gZ K W.E))))=_
  rw[T.out]
theorem Xg{v:ar}(H:mu w g K S P picks W R L)(h:fy K W.E)(y:Hz w v (nB (gZ K W.E)))(b:W.E.act.length<=5000):
 aw ax 315 #[.agg #[aA (ag ⟨R.sb,0,ae⟩)],v] w λe w'=>e=aF (aC (kU K W))/\Below w.heap.size w w':=by
 obtain⟨n,gv,r,N⟩:=bG w #[aA (ag ⟨R.sb,0,ae⟩)] 104
 have j9:=jY N.out
 have u:=aH (H.low r.out)
 have U:=aH (y.below r.out)
 have f:=aH (UF R.eb R.db W.E R.cb n g u.out.GM h)
 unfold yi r9 at f
 obtain⟨sb,t⟩:=bP R.sb
 obtain⟨O,m⟩:=bP R.eb
 have p:∀x,Below n.heap.size n x->x.cell? ⟨sb,15,ae⟩=ag (aA (ag ⟨O,0,ae⟩)):=λx hx=>by rw[<-t,<-m];exact(u.out.row.below hx).cell 15
 have aa:=p n (cX _ _)
 have M:=aH p
 have q:=aH N.out
 rw[t]at q gv j9 ⊢
 rw[m]at f
 have Z:=YC
 have A:(nB (gZ K W.E)).length<=100000:=by
  unfold nB gZ
  rw[bZ]
  have:=xB (rY K W.E) W.E.act
  omega
 have T:=aH A
 cases hl:W.E.cW with
 | none=>
  have o:=aH (show kU K W=ah from by unfold kU;rw[hl])
  have k:ldI W.E.cW=0:=by rw[hl];rfl
  rw[k]at f
  clear H h y b hl A p k t m
  go_in
  go_wp2_with fail
  refine f.out.mono ?_
  rintro e j ⟨rfl,a⟩
  have d:=aH a
  clear a
  go_wp2_with fail
  go_ret
  exact⟨by rw[o.out];rfl,aM r.out d.out⟩
 | some i=>
  obtain⟨c,l,J⟩:=h.lead i hl
  obtain⟨R2,fd,fl,C⟩:=u.out.GM.ex
  obtain⟨F,E,-⟩:=C.cls.get l
  obtain⟨z,s⟩:=bP ((i:Int)+1:Int)
  have k:ldI W.E.cW=z:=by rw[hl];exact s
  rw[k]at f
  have zn:¬ z=0:=by omega
  have V:=aH zn
  have D:=aH (λx (hx:Below n.heap.size n x)=>YW (K:=K) (P:=⟨S.sm,S.lr,S.al⟩) O R.db F i W.E R.cb c x g (by rw[<-m];exact u.out.GM.low hx) l E z s.symm)
  obtain⟨Q,I⟩:=bP (((c.st:Nat):Int):Int)
  rw[I]at D
  have Y:=aH (show decide (z∈nB (gZ K W.E))=decide (i∈gZ K W.E)from by rw[<-s];exact mg.2 Lw)
  by_cases B:c.st=6
  ·have o:=aH (show kU K W=!decide (i∈gZ K W.E)from by unfold kU;rw[hl];dsimp only;rw[l];dsimp only;rw[bM B];rfl)
   obtain rfl:Q=6:=by omega
   clear H h y b hl A p k t m l J C E s I B
   go_in
   go_wp2_with fail
   refine f.out.mono ?_
   rintro e j ⟨rfl,a⟩
   have d:=aH a
   have k2:=M.out j a
   have n2:=jY ((a.block _ (aT q.out)).trans q.out)
   clear a
   go_wp2_with fail
   refine(D.out j d.out).mono ?_
   rintro e w3 ⟨rfl,G⟩
   subst G
   go_wp2_with fail
   refine(vJ v z j (U.out.below d.out) T.out).mono ?_
   rintro e w4 ⟨rfl,X⟩
   subst X
   rw[Y.out]
   go_wp2_with fail
   go_ret
   refine⟨?_,aM r.out d.out⟩
   rw[o.out]
   show Ending.returned (Value.bool (z !=0&&!decide (i∈gZ K W.E)))=_
   rw[show(z !=0)=aj from by simpa using V.out]
   rfl
  ·have o:=aH (show kU K W=ah from by unfold kU;rw[hl];dsimp only;rw[l];dsimp only;rw[bC B];rfl)
   have n6:¬ Q=6:=by omega
   clear H h y b hl A p k t m l J C E s I B
   go_in
   go_wp2_with fail
   refine f.out.mono ?_
   rintro e j ⟨rfl,a⟩
   have d:=aH a
   have k2:=M.out j a
   have n2:=jY ((a.block _ (aT q.out)).trans q.out)
   clear a
   go_wp2_with fail
   refine(D.out j d.out).mono ?_
   rintro e w3 ⟨rfl,G⟩
   subst G
   go_wp2_with fail
   go_ret
   exact⟨by rw[o.out];rfl,aM r.out d.out⟩
end
theorem Tryz.sZ:(Tryz.prog.info? 108).map (λi=>(i.zero,i.size,i.bytes))=ag (ag .nilIface,1,16):=by kernel_rfl
theorem SK(b:Nat)(w:am):(nilAhead 568 100 (aA (ag ⟨b,0,ae⟩)) "flume/world.able").run ax w=.ok (ag ah) w:=by kernel_rfl
theorem OD(b:Nat)(w:am):(method 568 100 (aA (ag ⟨b,0,ae⟩)) "flume/world.able").run ax w=.ok (208,aA (ag ⟨b,0,ae⟩)) w:=by kernel_rfl
theorem SP(b:Nat)(w:am):(nilAhead 568 104 (.agg #[aA (ag ⟨b,0,ae⟩)]) "flume/world.able").run ax w=.ok (ag ah) w:=by kernel_rfl
theorem OH(b:Nat)(w:am):(method 568 104 (.agg #[aA (ag ⟨b,0,ae⟩)]) "flume/world.able").run ax w=.ok (315,.agg #[aA (ag ⟨b,0,ae⟩)]) w:=by kernel_rfl
theorem Yc(b:Nat)(w:am):(nilAhead 568 100 (aA (ag ⟨b,0,ae⟩)) "flume/world.number").run ax w=.ok (ag ah) w:=by kernel_rfl
theorem S8(b:Nat)(w:am):(method 568 100 (aA (ag ⟨b,0,ae⟩)) "flume/world.number").run ax w=.ok (209,aA (ag ⟨b,0,ae⟩)) w:=by kernel_rfl
theorem Yd(b:Nat)(w:am):(nilAhead 568 104 (.agg #[aA (ag ⟨b,0,ae⟩)]) "flume/world.number").run ax w=.ok (ag ah) w:=by kernel_rfl
theorem Ta(b:Nat)(w:am):(method 568 104 (.agg #[aA (ag ⟨b,0,ae⟩)]) "flume/world.number").run ax w=.ok (316,.agg #[aA (ag ⟨b,0,ae⟩)]) w:=by kernel_rfl
theorem SI(b:Nat)(w:am):(nilAhead 568 100 (aA (ag ⟨b,0,ae⟩)) "flume/world.turn").run ax w=.ok (ag ah) w:=by kernel_rfl
theorem OA(b:Nat)(w:am):(method 568 100 (aA (ag ⟨b,0,ae⟩)) "flume/world.turn").run ax w=.ok (210,aA (ag ⟨b,0,ae⟩)) w:=by kernel_rfl
theorem SJ(b:Nat)(w:am):(nilAhead 568 104 (.agg #[aA (ag ⟨b,0,ae⟩)]) "flume/world.turn").run ax w=.ok (ag ah) w:=by kernel_rfl
theorem OC(b:Nat)(w:am):(method 568 104 (.agg #[aA (ag ⟨b,0,ae⟩)]) "flume/world.turn").run ax w=.ok (317,.agg #[aA (ag ⟨b,0,ae⟩)]) w:=by kernel_rfl
def rJ(K:dw)(P:eG)(W:iw)(n:Nat):Bool:=if n<P.length then mr K P W n else kU K W
theorem zp(K:dw)(P:eG)(W:iw):ft K P W=(List.range (P.length+1)).filter (rJ K P W):=by
 unfold ft
 rw[List.range_succ,List.filter_append]
 congr 1
 ·refine List.filter_congr λn a=>?_
  unfold rJ
  rw[bj (vD.1 a)]
 ·unfold rJ
  cases kU K W <;> simp
theorem Vc{K:dw}{P:eG}{W:iw}{n:Nat}(h:n∈ft K P W):n<=P.length:=by
 rw[zp]at h
 have:=vD.1 (List.mem_filter.1 h).1
 omega
section
variable{w:am}{g:Tg}{K:dw}{S:jR}{P:eG}{picks:List Int}{W:iw}{R:si}{L:List uC}
theorem Cj(h:R.tb.length=P.length){n:Nat}(c:n<P.length):∃b,R.tb[n]?=ag b/\pK R.tb R.sb n=.iface 100 (aA (ag ⟨b,0,ae⟩)):=by
 have a:n<R.tb.length:=by omega
 refine⟨_,aP a,?_⟩
 unfold pK
 rw[aP a]
theorem Ck(h:R.tb.length=P.length):pK R.tb R.sb P.length=.iface 104 (.agg #[aA (ag ⟨R.sb,0,ae⟩)]):=by
 unfold pK
 rw[gH (by omega)]
theorem Xf(H:mu w g K S P picks W R L)(h:fy K W.E)(hP:kW K ⟨S.sm,S.lr,S.al⟩)(d:W.E.act.length<=5000)(wO:P.length<=16):
 aw ax 31 #[aA (ag ⟨R.sb,0,ae⟩)] w λe w'=>∃v,e=aF v/\fC (rZ R.tb R.sb) 108 1 w' v (ft K P W)/\(∀q,v.ownBlock=ag q->w.heap.size<=q)/\Below w.heap.size w w':=by
 obtain⟨sb,J⟩:=bP R.sb
 obtain⟨eb,oC⟩:=bP R.eb
 obtain⟨pa,pc,I,-⟩:=H.Je.own.shape
 obtain⟨n,hn⟩:=bP (P.length+1)
 rw[gC,hn]at I
 have y:=aH (show ∀x,Below w.heap.size w x->x.cell? ⟨sb,15,ae⟩=ag (aA (ag ⟨eb,0,ae⟩))/\x.cell? ⟨sb,16,ae⟩=ag (aB pa n pc)from λx hx=>by
  have r:=H.row.below hx
  rw[<-J,<-oC]
  exact⟨r.cell 15,by have:=r.cell 16;rw[this];show ag R.Eh=_;rw[I]⟩)
 have t:=aH (YX R.eb R.db W.E R.cb w g H.GM h hP d)
 rw[oC]at t
 have HH:=aH H
 have OK:=aH h
 have DX:=aH d
 have F:=aH hn
 have EV:=aH I
 have k0:=y.out w (cX _ _)
 have X:=aH J
 have nl:n<=17:=by omega
 rw[J]
 clear H h hP d wO hn I oC J
 go_in
 go_wp2_with fail
 refine t.out.mono ?_
 rintro e D ⟨rv,rfl,or,aa,iL⟩
 have RV:=aH or
 have N:=aH iL
 have k1:=y.out D iL
 obtain⟨ra,rc,rfl,-⟩:=or.shape
 obtain⟨rn,C⟩:=bP ((nB (gZ K W.E)).length)
 rw[C]at RV ⊢
 clear k0 or aa iL C
 go_wp2_with fail
 go_loopw [4,22] (λu i wr=>∃k:Nat,k<=n/\i=ay az k/\Hid (fC (rZ R.tb R.sb) 108 1 wr u (((List.range (P.length+1)).take k).filter (rJ K P W)))/\Hid (∀q,u.ownBlock=ag q->D.heap.size<=q)/\Hid (Below D.heap.size D wr)) (λ_ i _=>n-(intOf i).toNat)
 case atStart=>exact⟨0,cF _,rfl,aH (fC.nil _ _ _ _),aH (λq B=>by cases B),aH (cX _ _)⟩
 case round=>
  obtain⟨k,hk,rfl,G,p,m⟩:=hrel
  by_cases fp:k<n
  ·have kz:(k:Int)<(n:Int):=by omega
   have TK:=aH (Fe (A:=List.range (P.length+1)) (f:=rJ K P W) (k:=k) (i:=k) (iu (by have:=F.out;omega)))
   have s:=aH (HH.out.low (aM N.out m.out))
   obtain⟨q,cc,e,-,-,c,-⟩:=s.out.Je.own.get (xV _) (iu (show k<P.length+1 by have:=F.out;omega))
   have ep:pa=ag ⟨q,0,ae⟩:=by have Y:=EV.out;rw[Y]at e;injection e
   have c0:wr.cell? ⟨q,k,ae⟩=ag (pK R.tb R.sb k):=by have:=c 0 (by decide);rw[dY,fD]at this;exact this
   subst ep
   have z:Hid (∃f a T,pK R.tb R.sb k=.iface T a/\(∀x,(nilAhead 568 T a "flume/world.able").run ax x=.ok (ag ah) x)/\(∀x,(method 568 T a "flume/world.able").run ax x=.ok (f,a) x)/\(∀xs x,(callFunc f xs).run ax x=.ok (.enter f xs) x)/\aw ax f #[a,aB ra rn rc] wr λe w'=>e=aF (aC (rJ K P W k))/\Below wr.heap.size wr w'):=by
    refine aH ?_
    have vr:=RV.out.below m.out
    rcases cg k P.length with h | h
    ·obtain⟨b,hb,Y⟩:=Cj s.out.zI h
     refine⟨_,_,_,Y,SK b,OD b,λ_ _=>rfl,?_⟩
     unfold rJ
     rw[bj h]
     exact abD k b s.out hb vr DX.out
    ·obtain rfl:k=P.length:=by have:=F.out;omega
     refine⟨_,_,_,Ck s.out.zI,SP R.sb,OH R.sb,λ_ _=>rfl,?_⟩
     unfold rJ
     rw[bf (Nat.lt_irrefl _)]
     exact Xg s.out OK.out vr DX.out
   obtain⟨f,a,T,V,na,me,cf,vY⟩:=z.out
   rw[V]at c0
   have l:=aH vY
   have Q:=aH V
   clear c e k1 vY V z
   go_wp2_with fail
   refine l.out.mono ?_
   rintro e M ⟨rfl,Z⟩
   have O:=aH (aM m.out Z)
   have U:=aH (G.out.below Z)
   clear Z c0 na me cf
   cases hv:rJ K P W k with
   | false=>
    have E2:=aH (show fC (rZ R.tb R.sb) 108 1 M u4 (((List.range (P.length+1)).take (k+1)).filter (rJ K P W))from by rw[TK.out,hv,bf (by decide),eP];exact U.out)
    clear hv
    go_wp2_with fail
    go_roundw
    case rel=>exact⟨k+1,by omega,by go_num,E2,p,O⟩
    case measure=>simp[intOf];omega
   | true=>
    have EQ:=aH (show((List.range (P.length+1)).take (k+1)).filter (rJ K P W)=((List.range (P.length+1)).take k).filter (rJ K P W)++[k]from by rw[TK.out,hv,bj rfl])
    have LN:=aH (show(((List.range (P.length+1)).take k).filter (rJ K P W)).length<=1000000 from by
     have h1:=xB (rJ K P W) ((List.range (P.length+1)).take k)
     have h2:((List.range (P.length+1)).take k).length<=k:=List.length_take_le k _
     omega)
    obtain⟨w3,pD,qE,pZ⟩:=bG M #[.iface T a] 108
    have CN:=aH (jQ (v:=.iface T a) pZ.out)
    have WU:=aH (show ∀j u,(rZ R.tb R.sb k)[j]?=ag u->w3.cell? ((⟨M.heap.size,0,ae⟩:Addr).add j)=ag u from by unfold rZ;rw[Q.out];exact CN.out)
    have O3:=aH (U.out.below qE.out)
    have E:=aH (aM O.out qE.out)
    clear hv
    go_wp2_with (at_builtin;refine cY (o:=⟨ag 32,_,_,_,_,_⟩) rfl _ _ 83 108 rfl Tryz.underlying83 Tryz.sZ rfl (by decide) (by decide) (rZ R.tb R.sb) (xV _) (Su _) _ (((List.range (P.length+1)).take k).filter (rJ K P W)) rfl O3.out ⟨M.heap.size,0,ae⟩ k rfl WU.out LN.out ?_)
    intro v5 w5 h5 kL oA
    have H5:=aH (show fC (rZ R.tb R.sb) 108 1 w5 v5 (((List.range (P.length+1)).take (k+1)).filter (rJ K P W))from by rw[EQ.out,List.range_succ];exact h5)
    have W5:=aH (show ∀q,v5.ownBlock=ag q->D.heap.size<=q from λq B=>by
     rcases oA q B with h | h
     ·exact p.out q h
     ·have:=E.out.size;omega)
    have B5:=aH (E.out.grown kL E.out.size p.out)
    clear h5 kL oA O3 WU G p m U O E
    go_wp2_with fail
    go_roundw
    case rel=>exact⟨k+1,by omega,by go_num,H5,W5,B5⟩
    case measure=>simp[intOf];omega
  ·obtain rfl:k=n:=by omega
   have kz:(k:Int)<=(k:Int):=by omega
   have e:(List.range (P.length+1)).take k=List.range (P.length+1):=fE (by rw[gC];have:=F.out;omega)
   rw[e,<-zp]at G
   clear e k1
   go_wp2_with fail
   go_ret
   refine⟨_,rfl,?_,λq B=>bJ N.out.size (p.out q B),aM N.out m.out⟩
   rw[<-X.out]
   exact G.out
end
theorem Mi{f:Nat->Bool}:∀{l:List Nat} {k p:Nat},l[k]?=ag p->f p=aj->(∀j q,j<k->l[j]?=ag q->f q=ah)->l.find? f=ag p
 | [],k,p,h,_,_=>by simp at h
 | x::l,0,p,h,hp,_=>by
  simp at h
  subst h
  rw[List.find?_cons,hp]
 | x::l,k+1,p,h,hp,hn=>by
  have a:=hn 0 x (Nat.succ_pos k) rfl
  rw[List.find?_cons,a]
  exact Mi (by simpa using h) hp (λj q c b=>hn (j+1) q (by omega) (by simpa using b))
theorem YH{f:Nat->Bool}{l:List Nat}(h:∀(j q:Nat),l[j]?=ag q->f q=ah):l.find? f=ae:=List.find?_eq_none.2 λx hx=>by
 obtain⟨j,a⟩:=fg hx
 rw[h j x a]
 decide
section
variable{w:am}{g:Tg}{K:dw}{S:jR}{P:eG}{picks:List Int}{W:iw}{R:si}{L:List uC}
theorem AC(H:mu w g K S P picks W R L){n:Nat}(j:n<=P.length):∃f a T,pK R.tb R.sb n=.iface T a/\(∀x,(nilAhead 568 T a "flume/world.number").run ax x=.ok (ag ah) x)/\(∀x,(method 568 T a "flume/world.number").run ax x=.ok (f,a) x)/\(∀xs x,(callFunc f xs).run ax x=.ok (.enter f xs) x)/\∀x,Below w.heap.size w x->aw ax f #[a] x λe w'=>e=aF (ay az n)/\Below x.heap.size x w':=by
 rcases cg n P.length with h | h
 ·obtain⟨b,d,c⟩:=Cj H.zI h
  refine⟨_,_,_,c,Yc b,S8 b,λ_ _=>rfl,λx hx=>?_⟩
  obtain⟨t,i⟩:∃t,W.ts[n]?=ag t:=⟨_,aP (by rw[H.tsl];exact h)⟩
  refine(Rl (R:=R) b n t ((H.Eg n b t d i).below hx).row).mono ?_
  rintro e w' ⟨rfl,c⟩
  subst c
  exact⟨rfl,cX _ _⟩
 ·obtain rfl:n=P.length:=by omega
  exact⟨_,_,_,Ck H.zI,Yd R.sb,Ta R.sb,λ_ _=>rfl,λx hx=>NG (H.low hx)⟩
theorem WY(v:ar)(Ls:List Nat)(H:mu w g K S P picks W R L)(N:fC (rZ R.tb R.sb) 108 1 w v Ls)(Y:Ls≠[])(J:∀n∈Ls,n<=P.length)(M:Ls.length<=100)(Ep:∀z∈picks,0<=z)(_:picks.length<=100000)(_:W.turns.length<=100000):
 aw ax 32 #[aA (ag ⟨R.sb,0,ae⟩),v] w λe w'=>e=aF (pK R.tb R.sb (whose (picks.map Int.toNat) W Ls))/\Below w.heap.size w w':=by
 have X:=aH (KZ H)
 obtain⟨l,u⟩:=bP R.sb
 obtain⟨po,pc,ev,kp⟩:=H.Cm.ex
 obtain⟨n,hn⟩:=bP Ls.length
 obtain⟨vo,vc,rfl,-⟩:=N.shape
 have n1:1<=n:=by have:=Ez.2 Y;omega
 have HV:=aH N
 have A:=aH hn
 have HH:=aH H
 have ab:=aH J
 obtain⟨np,Gp⟩:=bP picks.length
 obtain⟨Q,tY⟩:=bP W.turns.length
 have ao:w.cell? ⟨l,11,ae⟩=ag (aB po np pc):=by rw[<-u,<-Gp];have:=H.row.cell 11;rw[<-ev];exact this
 have E:=aH (show ∀x,Below w.heap.size w x->x.cell? ⟨l,17,ae⟩=ag (ay az W.last)from λx hx=>by rw[<-u];exact(H.row.below hx).cell 17)
 have ad:=aH u
 have KP:=aH kp
 have ac:=aH Ep
 have B:=aH Gp
 have D:=aH tY
 have ak:n<=100:=by omega
 rw[tY]at X
 rw[u]at X
 have t:=aH (show ∀k p,Ls[k]?=ag p->∃q,vo=ag ⟨q,0,ae⟩/\q<w.heap.size/\w.cell? ⟨q,k,ae⟩=ag (pK R.tb l p)from λk p hk=>by
  obtain⟨q,cc,e,-,-,hc,-⟩:=N.get (xV _) hk
  injection e with G e2 e3
  have c0:=hc 0 (by decide)
  rw[dY,fD]at c0
  subst G
  refine⟨q,rfl,?_,by rw[<-u];exact c0⟩
  exact N.lt q rfl)
 rw[hn]
 rw[u]
 clear H N Y J M Ep hn Gp tY u ev kp
 by_cases fp:Q<np
 ·have hz:(Q:Int)<(np:Int):=by omega
  obtain⟨z,V⟩:∃z,picks[Q]?=ag z:=⟨_,aP (by rw[B.out];exact fp)⟩
  have z0:=ac.out z (cG V)
  obtain⟨pb,an,rfl,-,-,cz⟩:=KP.out Q z V
  obtain⟨zn,rfl⟩:=ZE z0
  obtain⟨m,hm⟩:=bP (zn%n:Nat)
  have ml:m<n:=by rw[<-hm];exact nj _ n1
  have mz:Int.tmod (zn:Int) (n:Int)=(m:Int):=by rw[Xx,hm]
  obtain⟨p,s⟩:∃p,Ls[m]?=ag p:=⟨_,aP (by rw[A.out];exact ml)⟩
  obtain⟨q,rfl,-,cp⟩:=t.out m p s
  have F:=aH (show whose (picks.map Int.toNat) W Ls=p from by
   unfold whose
   rw[D.out,cZ,V]
   dsimp only[Option.map_some,Int.toNat_natCast]
   rw[A.out,hm,s]
   rfl)
  have al:(m:Int)<(n:Int):=by omega
  clear V hm s
  go_in
  go_wp2_with fail
  refine X.out.mono ?_
  rintro e w1 ⟨rfl,G⟩
  subst G
  go_wp2_with fail
  go_ret
  rw[F.out]
  exact⟨rfl,cX _ _⟩
 ·have hz:(np:Int)<=(Q:Int):=by omega
  have PN:=aH (show(picks.map Int.toNat)[W.turns.length]?=ae from by rw[D.out];exact gH (by rw[bZ,B.out];omega))
  obtain⟨p0,T7⟩:∃p,Ls[0]?=ag p:=⟨_,aP (by rw[A.out];exact n1)⟩
  obtain⟨q,rfl,ql,cp⟩:=t.out 0 p0 T7
  have VN:=aH (show ∀k p,Ls[k]?=ag p->w.cell? ⟨q,k,ae⟩=ag (pK R.tb l p)from λk p hk=>by
   obtain⟨q2,e,-,c⟩:=t.out k p hk
   injection e with e
   injection e with e
   rw[e]
   exact c)
  have C:=aH T7
  have QL:=aH ql
  clear T7 cp ql
  go_in
  go_wp2_with fail
  refine X.out.mono ?_
  rintro e w1 ⟨rfl,G⟩
  subst G
  go_wp2_with fail
  go_loopw [34] (λi wr=>∃k:Nat,k<=n/\i=ay az k/\Hid (∀(j r:Nat),j<k->Ls[j]?=ag r->decide (W.last<(r:Int))=ah)/\Hid (Below w.heap.size w wr)) (λi _=>n-(intOf i).toNat)
  case atStart=>exact⟨0,cF _,rfl,aH (λj r Z=>absurd Z (nF j)),aH (cX _ _)⟩
  case round=>
   obtain⟨k,hk,rfl,HK,o⟩:=hrel
   by_cases af:k<n
   ·have kz:(k:Int)<(n:Int):=by omega
    obtain⟨p,s⟩:∃p,Ls[k]?=ag p:=⟨_,aP (by rw[A.out];exact af)⟩
    have ck:wr.cell? ⟨q,k,ae⟩=ag (pK R.tb l p):=(cm (o.out.block q QL.out)).trans (VN.out k p s)
    obtain⟨f,ai,T,U,na,me,cf,vY⟩:=AC HH.out (ab.out p (cG s))
    rw[ad.out]at U
    rw[U]at ck
    have y:=aH (vY wr.drew (o.out.trans ((bi wr).mono o.out.size)))
    have HP:=aH s
    have aa:=aH U
    clear vY s U
    have O:=E.out wr o.out
    go_wp2_with fail
    have qR:∀p:In (λw'=>w'.cell? ⟨l,17,ae⟩=ag (ay az W.last)),p.w.cell? ⟨l,17,ae⟩=ag (ay az W.last):=λp=>p.h
    refine bX [0,2,3,4,5,1,6] (λw'=>w'.cell? ⟨l,17,ae⟩=ag (ay az W.last)) (by kernel_rfl) (by kernel_rfl) (by intro c a d v w h;cases d <;> exact h) O ?_
    intro Y
    simp only[pick,aV,a8,aQ,aR]
    refine aX 5 (by kernel_rfl) ?_
    simp only[aJ,aO,aI,aL]
    repeat (go_big_quiet_step (fail))
    refine aU ?_
    refine aS rfl ?_ rfl
    go_wp2_with fail
    refine y.out.mono ?_
    rintro e w2 ⟨rfl,eA⟩
    have BX:=o.out.trans ((bi wr).mono o.out.size)
    have B2:=aH (BX.trans (eA.mono BX.size))
    clear eA BX
    go_wp2_with fail
    refine⟨⟨⟨_,E.out w2 B2.out⟩,rfl⟩,?_⟩
    refine aX 1 (by kernel_rfl) ?_
    simp only[aJ,aO,aI,aL]
    repeat (go_big_quiet_step (fail))
    refine aU ?_
    refine bF ?_
    clear Y qR
    clear O ck na me cf
    by_cases I:W.last<(p:Int)
    ·have F:=aH (show whose (picks.map Int.toNat) W Ls=p from by
      unfold whose
      rw[PN.out]
      dsimp only
      rw[Mi HP.out (bM I) (λj r Z b=>HK.out j r Z b)])
     go_wp2_with fail
     go_ret
     rw[F.out]
     exact⟨by rw[aa.out];rfl,B2.out⟩
    ·have K2:=aH (show ∀(j r:Nat),j<k+1->Ls[j]?=ag r->decide (W.last<(r:Int))=ah from λj r Z b=>by
      rcases cg j k with h | h
      ·exact HK.out j r h b
      ·obtain rfl:j=k:=by omega
       rw[HP.out]at b
       injection b with b
       subst b
       exact bC I)
     go_wp2_with fail
     go_roundw
     case rel=>exact⟨k+1,by omega,by go_num,K2,B2⟩
     case measure=>simp[intOf];omega
   ·obtain rfl:k=n:=by omega
    have kz:(k:Int)<=(k:Int):=by omega
    have c0:wr.cell? ⟨q,0,ae⟩=ag (pK R.tb l p0):=(cm (o.out.block q QL.out)).trans (VN.out 0 p0 C.out)
    have F:=aH (show whose (picks.map Int.toNat) W Ls=p0 from by
     unfold whose
     rw[PN.out]
     dsimp only
     rw[YH (λj r b=>HK.out j r (by have:=(aK.1 b).1;rw[A.out]at this;exact this) b),C.out]
     rfl)
    go_wp2_with fail
    go_ret
    rw[F.out]
    exact⟨rfl,o.out⟩
end
theorem Tryz.Tr:(Tryz.prog.info? 56).map (λi=>(i.zero,i.size,i.bytes))=ag (ag (.agg #[ay az 0,ay az 0,ay az 0,ay az 0,aB ae 0 0,ay az 0,ay az 0,aB ae 0 0,ay az 0,ay az 0]),10,112):=by kernel_rfl
section
variable{w w':am}{g g':Tg}{K:dw}{S:jR}{P:eG}{picks:List Int}{W:iw}{R:si}{L:List uC}
theorem vk{n:Nat}{t:jb}{l:List fu}{a:fu}(c:W.ts[n]?=ag t)(b:P[n]?=ag l)(ha:l[t.next]?=ag a):fN P W n={ W with E:=gT W.E a,ts:=jf W.ts n (λt=>{ next:=t.next+1,id:=ag W.E.cs.length,kJ:=W.cJ.length }),cJ:=W.cJ++[⟨n,t.next,a,0,0,[],2*W.turns.length,0⟩] }:=by
 unfold fN
 rw[c,b]
 dsimp only
 rw[ha]
theorem AK(a:List jb)(i j:Nat)(f:jb->jb):(jf a i f)[j]?=if i=j then(a[j]?).map f else a[j]?:=by
 unfold jf
 cases h:a[i]? with
 | none=>
  dsimp only
  split
  ·next e=>rw[<-e,h];rfl
  ·rfl
 | some t=>
  dsimp only
  rw[eB]
  have b:=(aK.1 h).1
  split
  ·next e=>subst e;first | (rw[h];rfl) | (rw[bj b,h];rfl)
  ·rfl
theorem AJ(a:List jb)(i:Nat)(f:jb->jb):(jf a i f).length=a.length:=by
 unfold jf
 split
 ·rw[fZ]
 ·rfl
theorem mu.ahT(H:mu w g K S P picks W R L){n b q:Nat}{t:jb}{l:List fu}{a:fu}{pav:ar}{x:uC}(r:R.tb[n]?=ag b)(s:W.ts[n]?=ag t)(A:P[n]?=ag l)(ha:l[t.next]?=ag a)(c:Ch [50,51,52,70,72,80+n] g w g' w')
 (D:Row w' g' 70 R.sb (IW K S R.db R.eb R.Eh R.xG pav W.last) 85) (i:gw w' g' R.eb R.db K ⟨S.sm,S.lr,S.al⟩ (gT W.E a) (R.cb++[q])) (C:Row w' g' (80+n) b (Rt R.sb n ⟨t.next+1,ag W.E.cs.length,W.cJ.length⟩) 102)
 (h:im IP 56 10 w' g' 72 pav (L++[x])) (hx:Ky w' g' x ⟨n,t.next,a,0,0,[],2*W.turns.length,0⟩):mu w' g' K S P picks (fN P W n) { R with cb:=R.cb++[q],pav:=pav } (L++[x]):=by
 have F:n<16:=by have:=(aK.1 r).1;have:=H.zI;have:=H.FU;omega
 have k:0∉[50,51,52,70,72,80+n]:=by simp;omega
 rw[vk s A ha]
 refine⟨D,i,?_,H.zI,?_,H.tbn,λm z u f d=>?_,H.Je.ch c (by simp;omega),H.Xh.ch c (by simp;omega),h,?_,λj y p f d=>?_,H.FU,H.ask.ch c k,H.Cm.ch c k⟩
 ·show(R.cb++[q]).length=(W.E.cs++[_]).length
  rw[aN,aN,H.Zb]
  rfl
 ·show(jf W.ts n _).length=_
  rw[AJ]
  exact H.tsl
 ·have f:R.tb[m]?=ag z:=f
  have d:(jf W.ts n _)[m]?=ag u:=d
  rw[AK]at d
  by_cases e:n=m
  ·subst e
   rw[bj rfl,s]at d
   injection d with d
   subst d
   rw[r]at f
   injection f with f
   subst f
   exact C
  ·rw[bf e]at d
   have E:m<16:=by have:=(aK.1 f).1;have:=H.zI;have:=H.FU;omega
   exact(H.Eg m z u f d).ch c (by simp;omega)
 ·show(L++[x]).length=(W.cJ++[_]).length
  rw[aN,aN,H.Ei]
  rfl
 ·have d:(W.cJ++[_])[j]?=ag p:=d
  rcases cg j L.length with o | o
  ·rw[bI o]at f
   rw[bI (by rw[<-H.Ei];exact o)]at d
   exact(H.pat j y p f d).ch c k
  ·have B:=(aK.1 f).1
   rw[aN,cP]at B
   obtain rfl:j=L.length:=by omega
   rw[bH dx,dR]at f
   rw[H.Ei,bH dx,dR]at d
   injection f with f
   injection d with d
   subst f d
   exact hx
end
theorem Uu{α:Type}{f:α->List ar}{k:Nat}(d:∀x,(f x).length=k){L:List α}{i j:Nat}{x x':α}{u:ar}(p:L[i]?=ag x)(l:j<k)(hx:f x'=(f x).set j u):(L.flatMap f).set (i*k+j) u=(L.set i x').flatMap f:=by
 have b:=(aK.1 p).1
 apply jc
 intro m
 have q:0<k:=by omega
 have e:=Nat.div_add_mod m k
 have r:=nj m q
 have n:m=m/k*k+m%k:=by rw[fR];exact e.symm
 have o:=kC f k d L (m/k) (m%k) r
 have g2:=kC f k d (L.set i x') (m/k) (m%k) r
 rw[<-n]at o g2
 rw[g2,eB,o]
 by_cases a:i*k+j=m
 ·have s:m/k=i:=by rw[<-a,fR,Nat.mul_add_div q,zF l,fD]
  have t:m%k=j:=by rw[<-a,fR,Nat.mul_add_mod,dD l]
  have y:i*k+j<(L.flatMap f).length:=by
   rw[jC f k d]
   have:=dp k (show i+1<=L.length by omega)
   rw[dT]at this
   omega
  rw[bj a,bj y,s,t,eB,bj rfl,bj b]
  dsimp only[Option.bind_some]
  rw[hx,eB,bj rfl,bj (by rw[d];exact l)]
 ·rw[bf a,eB]
  by_cases c:i=m/k
  ·rw[bj c,bj b,<-c,p]
   dsimp only[Option.bind_some]
   have z:j≠m%k:=λh=>a (by rw[c,h];exact n.symm)
   rw[hx,eB,bf z]
  ·rw[bf c]
theorem fC.Xq{α:Type}{f:α->List ar}{E:au}{k:Nat}{w:am}{q b:Nat}{L:List α}{n:Nat}(h:fC f E k w (aB (ag ⟨q,0,ae⟩) n b) L)(s:∀x,(f x).length=k){i j:Nat}{x x':α}{u:ar}(t:L[i]?=ag x)(y:j<k)(hx:f x'=(f x).set j u):fC f E k (w.setCell ⟨q,i*k+j,ae⟩ u) (aB (ag ⟨q,0,ae⟩) n b) (L.set i x'):=by
 have A:=Uu s t y hx
 unfold fC at h ⊢
 rw[fZ,<-A]
 refine⟨by rw[fZ];exact h.1,?_⟩
 rcases h.2 with⟨e,-⟩ | ⟨g,l,c,e,p,r,d,z,B,C⟩
 ·cases e
 ·injection e with a m o
  injection a with a
  injection a with a
  subst a m o
  refine .inr ⟨q,b,c.setIfInBounds (i*k+j) u,rfl,p,bE r _ u,d,z,by rw[Array.size_setIfInBounds];exact B,?_⟩
  rw[Array.toList_setIfInBounds,<-C]
  rw[List.take_set]
end
end Go.Proofs.YtooinenkenobaaaGreat

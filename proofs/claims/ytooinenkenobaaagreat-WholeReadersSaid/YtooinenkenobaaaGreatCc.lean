/- A part of the proof of what LawWholeReaders says. -/
import Derived.Test.YtooinenkenobaaaGreatAa
import Derived.Test.YtooinenkenobaaaGreatCb
import Derived.Test.YtooinenkenobaaaGreatBl
set_option maxRecDepth 100000
set_option maxHeartbeats 20000000
namespace Go.Proofs.YtooinenkenobaaaGreat
open Option renaming none->ae,some->ag
open Bool renaming false->ah,true->aj
open Go.Proofs.Tryz renaming prog->ax
open Go.Value renaming int->ay,pointer->aA,slice->aB,bool->aC,float->aD
open Go.IntKind renaming i64->az
open Go.FloatKind renaming f64->aE
open Go.Ending renaming returned->aF
open Go.Obj renaming cells->aG
open Go renaming World->am,Value->ar,TypeId->au,Calls->aw
section
open Go.RowKit Go.Maps
def nu(b:Nat):List ar:=[aA (ag ⟨b,0,ae⟩)]
theorem jB(b:Nat):(nu b).length=1:=rfl
theorem oX(b:Nat):∀u∈nu b,u.oneCell'=aj:=λu a=>by
 unfold nu at a
 rw[cE.1 a]
 rfl
abbrev qB:=Option Addr×Nat×Nat
def zU(s:qB):List ar:=[aB s.1 s.2.1 s.2.2]
theorem rO(s:qB):(zU s).length=1:=rfl
theorem xh(s:qB):∀u∈zU s,u.oneCell'=aj:=λu a=>by
 unfold zU at a
 rw[cE.1 a]
 rfl
def ldV(a:List Nat):Option Nat->ar
 | none=>.pointer ae
 | some i=>.pointer (ag ⟨a[i]?.getD 0,0,ae⟩)
def wJ(a:Nat)(ow b:List Nat)(z:Int):Nat:=b[ow[(z-(a:Int)).toNat]?.getD 0]?.getD 0
structure KH(w:am)(g:Tg)(v:ar)(L:List Nat):Prop where
 own:iV nu 119 1 w v L
 tag:∀q,v.ownBlock=ag q->g q=52
theorem KH.ch{T:List Nat}{w w':am}{g g':Tg}{v:ar}{L:List Nat}(h:KH w g v L)(c:Ch T g w g' w')(b:52∉T):KH w' g' v L:=
 ⟨h.own.same λq a=>c.gP q (h.own.lt q a) (by rw[h.tag q a];exact b),λq a=>(c.tag q (h.own.lt q a)).trans (h.tag q a)⟩
structure tr(w:am)(g:Tg)(v:ar)(L:List By):Prop where
 ex:∃vs:List qB,im zU 48 1 w g 55 v vs/\vs.length=L.length/\∀(j:Nat) (u:qB) (d:By),vs[j]?=ag u->L[j]?=ag d->oN w g (aB u.1 u.2.1 u.2.2) d
theorem tr.ch{T:List Nat}{w w':am}{g g':Tg}{v:ar}{L:List By}(h:tr w g v L)(c:Ch T g w g' w')(a:0∉T)(i:55∉T):tr w' g' v L:=by
 obtain⟨m,b,e,f⟩:=h.ex
 exact⟨m,b.ch c i,e,λj u d l k=>(f j u d l k).ch c a⟩
theorem tr.nil(w:am)(g:Tg):tr w g (aB ae 0 0) []:=⟨[],im.nil _ _ _ _ _ _,rfl,λj u d a _=>by cases j <;> cases a⟩
structure Qx(w:am)(g:Tg)(b0 dm n:Nat)(f:Lit->Option ar)(D:List By)(tk:Nat):Prop where
 map:i9 w g 53 2 dm n f
 ie:∀(k:Nat) (d:By),tk<=k->D[k]?=ag d->∃v,f (kI ((b0+k:Nat):Int))=ag v/\oN w g v d
theorem Qx.ch{T:List Nat}{w w':am}{g g':Tg}{a dm n:Nat}{f:Lit->Option ar}{D:List By}{b:Nat}(h:Qx w g a dm n f D b)(c:Ch T g w g' w')(e:0∉T)(l:53∉T):Qx w' g' a dm n f D b:=
 ⟨h.map.ch c l,λk d o m=>by
  obtain⟨v,i,j⟩:=h.ie k d o m
  exact⟨v,i,j.ch c e⟩⟩
structure dZ(w:am)(g:Tg)(eb db:Nat)(K:dw)(P:jx)(E:fm)(cb:List Nat)(R:oG)(fd fl:Lit->Option ar):Prop where
 row:D9 w g eb K P R ((K.b0+E.D.length:Nat):Int) E.begun E.cT
 log:qC w g R.ob db P.sm K.b0 (E.D.take E.wr) E.du
 zL:jI w g R.qb K.cap K.dO E.held E.line ((K.b0+E.D.length:Nat):Int) E.D.length
 Ek:Row w g 40 R.pb (ou K.most K.fj K.bU P.al E.want) 185
 clk:Row w g 41 R.kb (pN E.now) 170
 ul:im nu 119 1 w g 51 R.cv cb
 act:KH w g R.av (E.act.map λi=>cb[i]?.getD 0)
 sg:Qx w g K.b0 R.dm E.D.length fd E.D E.tk
 A8:i9 w g 54 2 R.lm E.D.length fl
 r':∀x∈E.line,fl (kI x.id)=ag (aA (ag ⟨wJ K.b0 E.ow cb x.id,0,ae⟩))
 ld:R.ld=ldV cb E.cW
 xy:tr w g R.bv E.batch
 cls:p8 w g cb E.cs
 cw:oI E.want
 now:E.now<fI
structure gw(w:am)(g:Tg)(eb db:Nat)(K:dw)(P:jx)(E:fm)(cb:List Nat):Prop where
 ex:∃R fd fl,dZ w g eb db K P E cb R fd fl
structure kW(K:dw)(P:jx):Prop where
 k:kX K
 ln:K.bU<fI
 sm:1000<=P.sm
 a1:(FloatKind.f64.format.order P.al 0==ag .gt)=aj
 a2:(FloatKind.f64.format.order P.al 4607182418800017408==ag .lt || FloatKind.f64.format.order P.al 4607182418800017408==ag .eq)=aj
abbrev TE:List Nat:=[0,1,5,6,10,11,12,13,14,15,16,17,18,19,20,21,22,23,30,31,32,33,40,41,50,51,52,53,54,55,60]
section
variable{K:dw}{P:jx}{R:oG}
theorem dZ.ch{T:List Nat}{w w':am}{g g':Tg}{e d:Nat}{E:fm}{b:List Nat}{f i:Lit->Option ar}(h:dZ w g e d K P E b R f i)(c:Ch T g w g' w')(a:∀t,t∈TE->t∉T):dZ w' g' e d K P E b R f i:=
 ⟨h.row.ch c (a _ (by decide)),h.log.ch c (λt j=>a t (by revert j;simp only[TE,cR,dK,iG];omega)),h.zL.ch c ⟨a _ (by decide),a _ (by decide),a _ (by decide),a _ (by decide)⟩,h.Ek.ch c (a _ (by decide)),h.clk.ch c (a _ (by decide)),h.ul.ch c (a _ (by decide)),h.act.ch c (a _ (by decide)),h.sg.ch c (a _ (by decide)) (a _ (by decide)),h.A8.ch c (a _ (by decide)),h.r',h.ld,h.xy.ch c (a _ (by decide)) (a _ (by decide)),h.cls.ch c ⟨a _ (by decide),a _ (by decide)⟩,h.cw,h.now⟩
theorem dZ.low{w w':am}{g:Tg}{d b:Nat}{E:fm}{a:List Nat}{e f:Lit->Option ar}(h:dZ w g d b K P E a R e f)(c:Below w.heap.size w w'):dZ w' g d b K P E a R e f:=h.ch (Ch.bh [] g c) (λ_ _ h=>by cases h)
theorem yT(a b:Nat)(w:am):aw ax 224 #[aA (ag ⟨a,0,ae⟩),aA (ag ⟨b,0,ae⟩)] w λe w'=>e=aF (aC aj)/\w'=w:=by
 go_in
 go_wp2_with fail
 go_ret
 exact⟨rfl,rfl⟩
theorem JT(f p b i:Nat)(E:fm)(h:List Nat)(t u:Lit->Option ar)(c:CV)(w:am)(g:Tg)(H:dZ w g f p K P E h R t u)(l:E.cs[i]?=ag c)(k:h[i]?=ag b):
 aw ax 260 #[aA (ag ⟨f,0,ae⟩),aA (ag ⟨b,0,ae⟩)] w λe w'=>e=aF (aC (c.lR || E.cW.isNone))/\Below w.heap.size w w':=by
 obtain⟨dv,rv,r,-⟩:=(H.cls.ie i c b l k).ex
 have o:w.cell? ⟨b,5,ae⟩=ag (.bool c.lR):=r.cell 5
 have x:w.cell? ⟨f,21,ae⟩=ag (aC ah):=H.row.cell 21
 have a:w.cell? ⟨f,17,ae⟩=ag R.ld:=H.row.cell 17
 rw[H.ld]at a
 obtain⟨n,d⟩:=bP c.lR
 rw[d]at o ⊢
 clear r H l k d
 cases hl:E.cW with
 | none=>
  rw[hl]at a
  unfold ldV at a
  clear hl
  cases n
  ·go_in
   go_wp2_with fail
   go_ret
   exact⟨rfl,cX _ _⟩
  ·go_in
   go_wp2_with fail
   go_ret
   exact⟨rfl,cX _ _⟩
 | some j=>
  rw[hl]at a
  obtain⟨q,m⟩:=bP (h[j]?.getD 0)
  have s:w.cell? ⟨f,17,ae⟩=ag (aA (ag ⟨q,0,ae⟩)):=by rw[<-m];exact a
  clear hl m a
  cases n
  ·go_in
   go_wp2_with fail
   go_ret
   exact⟨rfl,cX _ _⟩
  ·go_in
   go_wp2_with fail
   go_ret
   exact⟨rfl,cX _ _⟩
theorem Lz{w:am}{g:Tg}{c e:Nat}{E:fm}{d:List Nat}{f h:Lit->Option ar}(H:dZ w g c e K P E d R f h):∃a:Option Addr,w.cell? ⟨c,17,ae⟩=ag (.pointer a)/\E.cW.isNone=a.isNone:=by
 have b:w.cell? ⟨c,17,ae⟩=ag R.ld:=H.row.cell 17
 rw[H.ld]at b
 cases hl:E.cW with
 | none=>rw[hl]at b;exact⟨ae,b,rfl⟩
 | some j=>rw[hl]at b;exact⟨_,b,rfl⟩
theorem PH(f z b i:Nat)(E:fm)(y:List Nat)(O Q:Lit->Option ar)(c:CV)(w:am)(g:Tg)(H:dZ w g f z K P E y R O Q)(F:E.cs[i]?=ag c)(D:y[i]?=ag b):
 aw ax 248 #[aA (ag ⟨f,0,ae⟩),aA (ag ⟨b,0,ae⟩)] w λe w'=>e=aF (aC (decide (c.lsn<K.b0+E.du) || E.cW.isNone))/\Below w.heap.size w w':=by
 obtain⟨dv,rv,r,-⟩:=(H.cls.ie i c b F D).ex
 obtain⟨a,L,B⟩:=Lz H
 rw[B]
 have o:=aH H
 have N:=aH r
 obtain⟨lsn,I⟩:=bP (((c.lsn:Nat):Int):Int)
 obtain⟨l,G⟩:=bP (((K.b0+E.du:Nat):Int):Int)
 have s:=aH (λx hx=>pd f z P.sm (E.D.take E.wr) E.du x ((H.row).below hx) (H.log.low hx))
 rw[G]at s
 have C:decide (c.lsn<K.b0+E.du)=decide (lsn<l):=mg.2 ⟨λh=>by omega,λh=>by omega⟩
 rw[C]
 have u:w.cell? ⟨b,4,ae⟩=ag (ay az lsn):=by rw[<-I];exact r.cell 4
 have t:w.cell? ⟨f,21,ae⟩=ag (aC ah):=H.row.cell 21
 clear r H F D I G B C
 have j:∀x:am,Below w.heap.size w x->x.cell? ⟨b,4,ae⟩=ag (ay az lsn)/\x.cell? ⟨f,21,ae⟩=ag (aC ah)/\x.cell? ⟨f,17,ae⟩=ag (.pointer a):=λx hx=>
  ⟨(cm (hx.block _ N.out.lt)).trans u,(cm (hx.block _ o.out.row.lt)).trans t,(cm (hx.block _ o.out.row.lt)).trans L⟩
 have A:=aH j
 clear j u t L
 go_in
 go_wp2_with fail
 have n:∀p:In (λw'=>w'.cell? ⟨b,4,ae⟩=ag (ay az lsn)/\w'.cell? ⟨f,21,ae⟩=ag (aC ah)/\w'.cell? ⟨f,17,ae⟩=ag (.pointer a)),p.w.cell? ⟨b,4,ae⟩=ag (ay az lsn)/\p.w.cell? ⟨f,21,ae⟩=ag (aC ah)/\p.w.cell? ⟨f,17,ae⟩=ag (.pointer a):=λp=>p.h
 refine bX [0,2,3,4,5,1,6,7,8,9,10,11,12,13,14,15,16,17,18,19,20] (λw'=>w'.cell? ⟨b,4,ae⟩=ag (ay az lsn)/\w'.cell? ⟨f,21,ae⟩=ag (aC ah)/\w'.cell? ⟨f,17,ae⟩=ag (.pointer a)) (by kernel_rfl) (by kernel_rfl) (by intro c a d v w h;cases d <;> exact h) (A.out _ (bi w)) ?_
 intro m
 simp only[pick,aV,a8,aQ,aR]
 refine aX 5 (by kernel_rfl) ?_
 simp only[aJ,aO,aI,aL]
 repeat (go_big_quiet_step (fail))
 refine aU ?_
 refine aS rfl ?_ rfl
 go_wp2_with fail
 refine(s.out w.drew (bi w)).mono ?_
 rintro e S ⟨rfl,J⟩
 have k:=aH (aM (bi w) J)
 clear J
 go_wp2_with fail
 refine⟨⟨⟨_,A.out S k.out⟩,rfl⟩,?_⟩
 by_cases hx:lsn<l
 ·have M:decide (lsn<l)=aj:=bM hx
  refine aX 15 (by kernel_rfl) ?_
  simp only[aJ,aO,aI,aL]
  repeat (go_big_quiet_step (fail))
  refine aU ?_
  refine bF ?_
  clear m n
  go_wp2_with fail
  go_ret
  exact⟨by simp[M],k.out⟩
 ·have M:decide (lsn<l)=ah:=bC hx
  cases a with
  | none=>
   refine aX 15 (by kernel_rfl) ?_
   simp only[aJ,aO,aI,aL]
   repeat (go_big_quiet_step (fail))
   refine aU ?_
   refine bF ?_
   clear m n
   go_wp2_with fail
   go_ret
   exact⟨by simp,k.out⟩
  | some q=>
   obtain⟨qb,T,U⟩:=q
   refine aX 15 (by kernel_rfl) ?_
   simp only[aJ,aO,aI,aL]
   repeat (go_big_quiet_step (fail))
   refine aU ?_
   refine bF ?_
   clear m n
   go_wp2_with fail
   go_ret
   exact⟨by simp,k.out⟩
theorem PJ(d p b i:Nat)(E:fm)(u:List Nat)(T U:Lit->Option ar)(c:CV)(w:am)(g:Tg)(H:dZ w g d p K P E u R T U)(G:E.cs[i]?=ag c)(F:u[i]?=ag b):
 aw ax 250 #[aA (ag ⟨d,0,ae⟩),aA (ag ⟨b,0,ae⟩)] w λe w'=>e=aF (aC (decide (c.ask.lsn<K.b0+E.du) || (E.cW.isNone&&decide (c.ask.lsn<K.b0+E.D.length))))/\Below w.heap.size w w':=by
 obtain⟨dv,rv,r,-⟩:=(H.cls.ie i c b G F).ex
 obtain⟨a,O,B⟩:=Lz H
 rw[B]
 have l:=aH H
 obtain⟨lsn,J⟩:=bP (((c.ask.lsn:Nat):Int):Int)
 obtain⟨m,I⟩:=bP (((K.b0+E.du:Nat):Int):Int)
 obtain⟨rs,L⟩:=bP (((K.b0+E.D.length:Nat):Int):Int)
 have s:=aH (λx hx=>pd d p P.sm (E.D.take E.wr) E.du x ((H.row).below hx) (H.log.low hx))
 have n:=aH (λx hx=>tP R.ob p P.sm K.b0 (E.D.take E.wr) E.du x g (H.log.low hx))
 rw[I]at s n
 obtain⟨nx,N⟩:=bP (((K.b0+(E.D.take E.wr).length:Nat):Int):Int)
 rw[N]at n
 unfold zJ at n
 have C:decide (c.ask.lsn<K.b0+E.du)=decide (lsn<m):=mg.2 ⟨λh=>by omega,λh=>by omega⟩
 have D:decide (c.ask.lsn<K.b0+E.D.length)=decide (lsn<rs):=mg.2 ⟨λh=>by omega,λh=>by omega⟩
 rw[C,D]
 have Y:w.cell? ⟨b,2,ae⟩=ag (ay az lsn):=by rw[<-J];exact r.cell 2
 have f:w.cell? ⟨d,16,ae⟩=ag (ay az rs):=by rw[<-L];exact H.row.cell 16
 have t:w.cell? ⟨d,21,ae⟩=ag (aC ah):=H.row.cell 21
 have y:w.cell? ⟨d,8,ae⟩=ag (aA (ag ⟨R.ob,0,ae⟩)):=H.row.cell 8
 have j:∀x:am,Below w.heap.size w x->x.cell? ⟨d,16,ae⟩=ag (ay az rs)/\x.cell? ⟨d,21,ae⟩=ag (aC ah)/\x.cell? ⟨d,8,ae⟩=ag (aA (ag ⟨R.ob,0,ae⟩))/\x.cell? ⟨d,17,ae⟩=ag (.pointer a):=λx hx=>
  ⟨(cm (hx.block _ l.out.row.lt)).trans f,(cm (hx.block _ l.out.row.lt)).trans t,(cm (hx.block _ l.out.row.lt)).trans y,(cm (hx.block _ l.out.row.lt)).trans O⟩
 have A:=aH j
 have V:=Mg
 clear r H G F J I L B C D N j f t y O
 go_in
 go_wp2_with fail
 refine(s.out w (cX _ _)).mono ?_
 rintro e Q ⟨rfl,M⟩
 have k:=aH M
 clear M
 have W:=A.out Q k.out
 by_cases hx:lsn<m
 ·have S:decide (lsn<m)=aj:=bM hx
  go_wp2_with fail
  go_ret
  exact⟨by simp[S],k.out⟩
 ·have S:decide (lsn<m)=ah:=bC hx
  go_wp2_with fail
  refine(n.out Q k.out).mono ?_
  rintro e X ⟨rfl,z⟩
  have o:=aH (aM k.out z)
  clear z W
  have Z:=A.out X o.out
  cases a with
  | none=>
   go_wp2_with fail
   go_ret
   exact⟨by simp;omega,o.out⟩
  | some q=>
   obtain⟨qb,qo,qs⟩:=q
   go_wp2_with fail
   go_ret
   exact⟨by simp;omega,o.out⟩
theorem YY(c l b:Nat)(E:fm)(k:List Nat)(o f:Lit->Option ar)(w:am)(g:Tg)(H:dZ w g c l K P E k R o f)(h:kW K P)(i:E.begun<=E.now):
 aw ax 271 #[aA (ag ⟨c,0,ae⟩),aA (ag ⟨b,0,ae⟩)] w λe w'=>e=aF (aC (GC K E))/\Below w.heap.size w w':=by
 have a:=aH H
 have d:=aH h
 have j:=aH i
 have m:w.cell? ⟨c,11,ae⟩=ag (aA (ag ⟨R.kb,0,ae⟩)):=H.row.cell 11
 have f:=yM
 clear H h i
 go_in
 go_wp2_with fail
 refine(yp R.kb E.now w a.out.clk).mono ?_
 rintro e p ⟨rfl,rfl⟩
 go_wp2_with fail
 refine(JS c E.now E.held E.line _ E.want E.begun w a.out.row a.out.zL a.out.Ek a.out.cw ⟨d.out.k.m1,d.out.k.m2⟩ d.out.ln j.out a.out.now).mono ?_
 rintro e q ⟨z,rfl,n,-⟩
 go_wp2_with fail
 go_ret
 exact⟨rfl,n⟩
end
@[go_sem] theorem Sc{P:Program}{w:am}{a:Addr}{m:Mode}(f:Fn)(x y:Array ar):(store a (.func f x y) m).run P w=stored P w a (.func f x y) m:=run_store P w a _ m rfl
theorem Fm(w:am):aw ax 222 #[] w λe w'=>e=aF (iU 1)/\Below w.heap.size w w':=by
 obtain⟨d,c,a,b⟩:=bG w #[ay az 1,.func (.func 224) #[] #[],.func (.func 225) #[] #[]] 131
 go_in
 go_wp2_with fail
 refine bn (cH rfl _ _ w.heap.size 131 _ (0,0) _ rfl b.out Tryz.underlying131 rfl (by kernel_rfl)) rfl ?_
 exact⟨rfl,a.out⟩
theorem Fo(w:am):aw ax 246 #[] w λe w'=>e=aF (iU 2)/\Below w.heap.size w w':=by
 obtain⟨d,c,a,b⟩:=bG w #[ay az 2,.func (.func 260) #[] #[],.func (.func 261) #[] #[]] 131
 go_in
 go_wp2_with fail
 refine bn (cH rfl _ _ w.heap.size 131 _ (0,0) _ rfl b.out Tryz.underlying131 rfl (by kernel_rfl)) rfl ?_
 exact⟨rfl,a.out⟩
theorem xL(w:am):aw ax 237 #[] w λe w'=>e=aF (iU 3)/\Below w.heap.size w w':=by
 obtain⟨d,c,a,b⟩:=bG w #[ay az 3,.func (.func 248) #[] #[],.func (.func 249) #[] #[]] 131
 go_in
 go_wp2_with fail
 refine bn (cH rfl _ _ w.heap.size 131 _ (0,0) _ rfl b.out Tryz.underlying131 rfl (by kernel_rfl)) rfl ?_
 exact⟨rfl,a.out⟩
theorem xM(w:am):aw ax 238 #[] w λe w'=>e=aF (iU 4)/\Below w.heap.size w w':=by
 obtain⟨d,c,a,b⟩:=bG w #[ay az 4,.func (.func 250) #[] #[],.func (.func 251) #[] #[]] 131
 go_in
 go_wp2_with fail
 refine bn (cH rfl _ _ w.heap.size 131 _ (0,0) _ rfl b.out Tryz.underlying131 rfl (by kernel_rfl)) rfl ?_
 exact⟨rfl,a.out⟩
theorem pI(w:am):aw ax 269 #[] w λe w'=>e=aF (iU 6)/\Below w.heap.size w w':=by
 obtain⟨d,c,a,b⟩:=bG w #[ay az 6,.func (.func 271) #[] #[],.func (.func 272) #[] #[]] 131
 go_in
 go_wp2_with fail
 refine bn (cH rfl _ _ w.heap.size 131 _ (0,0) _ rfl b.out Tryz.underlying131 rfl (by kernel_rfl)) rfl ?_
 exact⟨rfl,a.out⟩
theorem IV(w:am):aw ax 276 #[] w λe w'=>e=aF (iU 7)/\Below w.heap.size w w':=by
 obtain⟨d,c,a,b⟩:=bG w #[ay az 7,.func (.func 224) #[] #[],.func (.func 280) #[] #[]] 131
 go_in
 go_wp2_with fail
 refine bn (cH rfl _ _ w.heap.size 131 _ (0,0) _ rfl b.out Tryz.underlying131 rfl (by kernel_rfl)) rfl ?_
 exact⟨rfl,a.out⟩
theorem Fp(w:am):aw ax 285 #[] w λe w'=>e=aF (iU 8)/\Below w.heap.size w w':=by
 obtain⟨d,c,a,b⟩:=bG w #[ay az 8,.func (.func 224) #[] #[],.func (.func 291) #[] #[]] 131
 go_in
 go_wp2_with fail
 refine bn (cH rfl _ _ w.heap.size 131 _ (0,0) _ rfl b.out Tryz.underlying131 rfl (by kernel_rfl)) rfl ?_
 exact⟨rfl,a.out⟩
theorem Xn(w:am):aw ax 247 #[] w λe w'=>e=aF (iU 9)/\Below w.heap.size w w':=by
 obtain⟨d,c,a,b⟩:=bG w #[ay az 9,.func (.func 262) #[] #[],.func (.func 225) #[] #[]] 131
 go_in
 go_wp2_with fail
 refine bn (cH rfl _ _ w.heap.size 131 _ (0,0) _ rfl b.out Tryz.underlying131 rfl (by kernel_rfl)) rfl ?_
 exact⟨rfl,a.out⟩
def Pr(c:CV)(err rl:Nat)(rd:By):CV:={ c with ask:={ c.ask with data:=[] },err:=err,rl:=rl,rd:=rd }
theorem adc(b:Nat)(id:Int)(c:CV)(dv i:ar)(a j:Nat)(C:By)(f:Option Addr)(rn g:Nat)(w:am)(H:w.heap[b]?=ag (aG (ji id c dv i) 133 (0,0))):
 aw ax 235 #[aA (ag ⟨b,0,ae⟩),.agg #[ay az a,ay az j,aB f rn g]] w λe w'=>e=aF (iU 9)/\iD (λq=>q=b) w w'/\w'.heap[b]?=ag (aG (ji id (Pr c a j C) (aB ae 0 0) (aB f rn g)) 133 (0,0)):=by
 obtain⟨l,p⟩:=bP (((a:Nat):Int):Int)
 obtain⟨n,B⟩:=bP (((j:Nat):Int):Int)
 rw[p,B]
 obtain⟨o,Y,s,t⟩:=bG w #[ay az l,ay az n,aB f rn g] 52
 have V:=eH t.out
 obtain⟨k,lU,K,X⟩:=bG o #[ay az 0,.nilFunc,.nilFunc] 131
 have E:=aH (aM s.out K.out)
 have d:=aH ((E.out.block _ (aT H)).trans H)
 have W:=eH ((K.out.block _ (aT t.out)).trans t.out)
 have lb:=aT H
 have h:b≠o.heap.size:=by have:=s.out.size;omega
 have O:k.cell? ⟨b,12,ae⟩=ag (ay az c.err):=aZ 12 d.out
 have P:k.cell? ⟨b,13,ae⟩=ag (ay az c.rl):=aZ 13 d.out
 have r:k.cell? ⟨b,14,ae⟩=ag i:=aZ 14 d.out
 have T:k.cell? ⟨b,3,ae⟩=ag dv:=aZ 3 d.out
 have U:=bQ 12 d.out
 have u:=bQ 13 d.out
 have z:=bQ 14 d.out
 have A:=bQ 3 d.out
 clear H
 go_in
 go_wp2_with fail
 obtain⟨x,hx⟩:=bP ((((k.setCell ⟨b,12,ae⟩ (ay az l)).setCell ⟨b,13,ae⟩ (ay az n)).setCell ⟨b,14,ae⟩ (aB f rn g)).setCell ⟨b,3,ae⟩ (aB ae 0 0))
 have L:x.heap[b]?=ag (aG (ji id (Pr c a j C) (aB ae 0 0) (aB f rn g)) 133 (0,0)):=by
  have e:ji id (Pr c a j C) (aB ae 0 0) (aB f rn g)=((((ji id c dv i).setIfInBounds 12 (ay az l)).setIfInBounds 13 (ay az n)).setIfInBounds 14 (aB f rn g)).setIfInBounds 3 (aB ae 0 0):=by rw[<-p,<-B];rfl
  rw[<-hx,e]
  exact bE (bE (bE (bE d.out 12 (ay az l)) 13 (ay az n)) 14 (aB f rn g)) 3 (aB ae 0 0)
 have J:iD (λq=>q=b) w x:=by rw[<-hx];exact((((iD.bh (S:=λq=>q=b) E.out).set _ (.inl rfl)).set _ (.inl rfl)).set _ (.inl rfl)).set _ (.inl rfl)
 have F:=aH (show x.heap[o.heap.size]?=ag (aG #[ay az 0,.nilFunc,.nilFunc] 131 (0,0))from by
  rw[<-hx]
  exact(bD (cQ h)).trans ((bD (cQ h)).trans ((bD (cQ h)).trans ((bD (cQ h)).trans X.out))))
 rw[hx]
 have I:=aH L
 have M:=aH J
 clear p B hx L J O P r T U u z A W V
 refine(Xn x).mono ?_
 rintro e y ⟨rfl,m⟩
 have Q:=aH ((m.block _ (aT I.out)).trans I.out)
 have G:=aH ((m.block _ (aT F.out)).trans F.out)
 have N:=aH (M.out.on m)
 have Z:=eH G.out
 unfold iU lO lL lK
 clear m
 go_wp2_with fail
 refine bn (cH rfl _ _ o.heap.size 131 _ (0,0) _ rfl (bE (bE (bE G.out 0 _) 1 _) 2 _) Tryz.underlying131 rfl (by kernel_rfl)) rfl ?_
 have D:=s.out.size
 refine⟨rfl,((N.out.set _ (.inr D)).set _ (.inr D)).set _ (.inr D),?_⟩
 exact(bD h).trans ((bD h).trans ((bD h).trans Q.out))
def lV(E:fm)(i a d:Nat)(b:By):fm:={ E with cs:=fh E.cs i (λc=>Pr c a d b) }
def mc(E:fm)(i back:Nat):fm:={ E with cW:=ag i,begun:=E.now,cs:=fh E.cs i (λc=>{ c with back:=back }) }
theorem Ch.ga{T:List Nat}{g a:Tg}{w d:am}(h:Ch T g w a d){b:Nat}(x y z:ar)(c:a b∈T\/w.heap.size<=b):Ch T g w a (((d.setCell ⟨b,0,ae⟩ x).setCell ⟨b,1,ae⟩ y).setCell ⟨b,2,ae⟩ z):=((h.set x c).set y c).set z c
theorem ku{w a:am}{g:Tg}{cs:Array ar}{b:au}(c:Below w.heap.size w a)(d:a.heap[w.heap.size]?=ag (.cells cs b (0,0))):∃G,Ch [] g w G a/\Row a G 99 w.heap.size cs b/\∀q,w.heap.size<q->G q=0:=
 ⟨tg (eJ g w.heap.size 0) w.heap.size 99,(Ch.start g c).tg dx,⟨d,dG _ _ _⟩,λq e=>by rw[dA (by omega)];exact dQ (by omega)⟩
theorem dM{f:Func}{p:Tmp}(h:f.results=#[.cell p 131]){e:Array ar}{w:am}(b:Nat)(n:Nat){cs:Array ar}(g:e.getD p undef=aA (ag ⟨b,0,ae⟩))(j:cs.size=3)(i:w.heap[b]?=ag (.cells cs 131 (0,0))):
 (results f e).run ax (((w.setCell ⟨b,0,ae⟩ (lO n)).setCell ⟨b,1,ae⟩ (lL n)).setCell ⟨b,2,ae⟩ (lK n))=.ok (iU n) (((w.setCell ⟨b,0,ae⟩ (lO n)).setCell ⟨b,1,ae⟩ (lL n)).setCell ⟨b,2,ae⟩ (lK n)):=by
 obtain⟨a,c,d,rfl⟩:∃a c d,cs=#[a,c,d]:=by
  obtain⟨l⟩:=cs
  match l,j with
  | [a,c,d],_=>exact⟨a,c,d,rfl⟩
 exact cH h e _ b 131 _ (0,0) _ g (bE (bE (bE i 0 _) 1 _) 2 _) Tryz.underlying131 rfl (by kernel_rfl)
section
variable{K:dw}{P:jx}{R:oG}
theorem dZ.lt{w:am}{g:Tg}{e d:Nat}{E:fm}{a:List Nat}{f h:Lit->Option ar}(H:dZ w g e d K P E a R f h){i b:Nat}{c:CV}(k:E.cs[i]?=ag c)(j:a[i]?=ag b):b<w.heap.size/\g b=60:=by
 obtain⟨dv,rv,r,-⟩:=(H.cls.ie i c b k j).ex
 exact⟨r.lt,r.tag⟩
theorem dZ.call{w w':am}{g:Tg}{m l:Nat}{E:fm}{h:List Nat}{n o:Lit->Option ar}(H:dZ w g m l K P E h R n o){i b:Nat}{c:CV}(j:E.cs[i]?=ag c)(p:h[i]?=ag b)(f:CV->CV)(k:iD (λq=>q=b) w w'){dv rv:ar}
 (y:w'.heap[b]?=ag (aG (ji ((i:Int)+1) (f c) dv rv) 133 (0,0))) (t:oN w' g dv (f c).ask.data) (u:oN w' g rv (f c).rd):dZ w' g m l K P { E with cs:=fh E.cs i f } h R n o:=by
 obtain⟨A,r⟩:=H.lt j p
 have a:Ch [60] g w g w':=Ch.lh k (λq _ e=>by rw[e,r];decide)
 refine⟨H.row.ch a (by decide),H.log.ch a (by decide),H.zL.ch a (by decide),H.Ek.ch a (by decide),H.clk.ch a (by decide),H.ul.ch a (by decide),H.act.ch a (by decide),H.sg.ch a (by decide) (by decide),H.A8.ch a (by decide),H.r',H.ld,H.xy.ch a (by decide) (by decide),?_,H.cw,H.now⟩
 refine H.cls.upd f p (aK.1 j).1 (λq x s _=>⟨k.gP q s x,rfl⟩) k.size (λz d=>?_)
 rw[j]at d
 injection d with d
 subst d
 exact⟨dv,rv,⟨y,r⟩,t,u⟩
theorem oN.low{w w':am}{g:Tg}{v:ar}{bs:By}(h:oN w g v bs){S:Nat->Prop}(k:iD S w w')(n:∀q,S q->g q≠0):oN w' g v bs:=by
 obtain⟨d,f,e,i,j,l,m,c⟩:=h.ex
 exact⟨d,f,e,i,j,l.same λq a e b=>k.gP q (c q a e b).2 (λs=>n q s (c q a e b).1),m,λq a e b=>⟨(c q a e b).1,aW (c q a e b).2 k.size⟩⟩
theorem Dh(o n b i:Nat)(E:fm)(h:List Nat)(p s:Lit->Option ar)(c:CV)(a f:Nat)(d:By)(rv:ar)(w:am)(g:Tg)(H:dZ w g o n K P E h R p s)(l:E.cs[i]?=ag c)(j:h[i]?=ag b)(u:oN w g rv d):
 aw ax 235 #[aA (ag ⟨b,0,ae⟩),.agg #[ay az a,ay az f,rv]] w λe w'=>e=aF (iU 9)/\Ch [60] g w g w'/\dZ w' g o n K P (lV E i a f d) h R p s:=by
 obtain⟨A,t⟩:=H.lt l j
 obtain⟨dv,m,r,-⟩:=(H.cls.ie i c b l j).ex
 obtain⟨y,z,rfl,-⟩:=u.ex
 refine(adc b ((i:Int)+1) c dv m a f d y d.length z w r.row).mono ?_
 rintro e w' ⟨rfl,k,x⟩
 exact⟨rfl,Ch.lh k (λq _ e=>by rw[e,t];decide),H.call l j (λc=>Pr c a f d) k x (oN.nil _ _) (u.low k (λq e=>by rw[e,t];decide))⟩
theorem Mn(m l b i:Nat)(E:fm)(d:List Nat)(n o:Lit->Option ar)(c:CV)(w:am)(g:Tg)(H:dZ w g m l K P E d R n o)(q:E.cs[i]?=ag c)(p:d[i]?=ag b)(z:c.ask.kind=2):
 aw ax 245 #[aA (ag ⟨b,0,ae⟩)] w λe w'=>e=aF (iU 9)/\∃g',Ch [60] g w g' w'/\dZ w' g' m l K P (lV E i 0 c.lsn []) d R n o:=by
 obtain⟨t,N,F,I⟩:=bG w #[ay az 0,.nilFunc,.nilFunc] 131
 obtain⟨G,j,A,-⟩:=ku (g:=g) F.out I.out
 have u:=aH j
 have D:=aH A
 have x:=aH (H.ch u.out (λ_ _ h=>by cases h))
 clear j A
 obtain⟨dv,J,r,-⟩:=(x.out.cls.ie i c b q p).ex
 obtain⟨lsn,s⟩:=bP (((c.lsn:Nat):Int):Int)
 have j:t.cell? ⟨b,1,ae⟩=ag (ay az 2):=by have:=r.cell 1;rw[this];show ag (Value.int IntKind.i64 (c.ask.kind:Int))=_;rw[z];rfl
 have M:t.cell? ⟨b,4,ae⟩=ag (ay az lsn):=by rw[<-s];exact r.cell 4
 have a:=aH (Dh m l b i E d n o c 0 c.lsn [] (aB ae 0 0) t G x.out q p (oN.nil _ _))
 rw[s]at a
 clear r H q p z s
 go_in
 go_wp2_with fail
 refine a.out.mono ?_
 rintro e L ⟨rfl,k,y⟩
 have B:=aH k
 have C:=aH y
 have f:=aH (D.out.ch k (by decide))
 have O:=eH f.out.row
 clear k y
 unfold iU lO lL lK
 go_wp2_with fail
 refine bn (dM rfl w.heap.size 9 rfl rfl f.out.row) rfl ?_
 exact⟨rfl,G,(u.out.any.trans B.out).ga _ _ _ (.inr dx),C.out.ch ((Ch.refl [99] G L).ga (b:=w.heap.size) _ _ _ (.inl (by rw[f.out.tag];decide))) (by decide)⟩
theorem Mo(s q b i:Nat)(E:fm)(h:List Nat)(t u:Lit->Option ar)(c:CV)(w:am)(g:Tg)(H:dZ w g s q K P E h R t u)(l:E.cs[i]?=ag c)(a:h[i]?=ag b)(m:c.ask.kind=1):
 aw ax 245 #[aA (ag ⟨b,0,ae⟩)] w λe w'=>e=aF (iU 3)/\Below w.heap.size w w':=by
 obtain⟨n,y,j,k⟩:=bG w #[ay az 0,.nilFunc,.nilFunc] 131
 have d:=aH (H.low j.out)
 obtain⟨dv,x,r,-⟩:=(d.out.cls.ie i c b l a).ex
 have p:n.cell? ⟨b,1,ae⟩=ag (ay az 1):=by have:=r.cell 1;rw[this];show ag (Value.int IntKind.i64 (c.ask.kind:Int))=_;rw[m];rfl
 clear r H l a m d
 go_in
 go_wp2_with fail
 refine(xL n).mono ?_
 rintro e A ⟨rfl,a⟩
 have f:=aH ((a.block _ (aT k.out)).trans k.out)
 have o:=aH (aM j.out a)
 have z:=eH f.out
 clear a p
 unfold iU lO lL lK
 go_wp2_with fail
 refine bn (dM rfl w.heap.size 3 rfl rfl f.out) rfl ?_
 exact⟨rfl,bK (bK (bK o.out dx _) dx _) dx _⟩
end
end
end Go.Proofs.YtooinenkenobaaaGreat

/- A part of the proof of what LawWholeReaders says. -/
import Derived.Test.YtooinenkenobaaaGreatAa
import Derived.Test.YtooinenkenobaaaGreatBt
import Derived.Test.YtooinenkenobaaaGreatBl
import Derived.Test.YtooinenkenobaaaGreatBu
import Derived.Test.YtooinenkenobaaaGreatBe
set_option maxRecDepth 100000
set_option maxHeartbeats 20000000
namespace Go.Proofs.YtooinenkenobaaaGreat
open Option renaming none->ae,some->ag
open Bool renaming false->ah,true->aj
open Go.Proofs.Tryz renaming prog->ax
open Go.Value renaming int->ay,pointer->aA,slice->aB,bool->aC,float->aD
open Go.IntKind renaming i64->az
open Go.FloatKind renaming f64->aE
open Go.Ending renaming returned->aF
open Go.Obj renaming cells->aG
open Go renaming World->am,Value->ar,TypeId->au,Calls->aw
section
open Go.RowKit Go.Maps
def jL(c:Nat)(sm:Int)(a:Nat)(b f:Nat)(e d:Int):Array ar:=#[aA (ag ⟨c,0,ae⟩),ay az sm,ay az a,ay az 1,ay az a,aB (ag ⟨b,0,ae⟩) 1 1,aB (ag ⟨f,0,ae⟩) 1 1,ay az e,ay az d,aC ah,aC ah,ay az 0]
theorem oc{w:am}{g:Tg}{t ob c:Nat}{sm:Int}{a b f:Nat}{e d:Int}{i:au}(h:Row w g t ob (jL c sm a b f e d) i):
 ob<w.heap.size/\w.cell? ⟨ob,0,ae⟩=ag (aA (ag ⟨c,0,ae⟩))/\w.cell? ⟨ob,1,ae⟩=ag (ay az sm)/\w.cell? ⟨ob,2,ae⟩=ag (ay az a)/\w.cell? ⟨ob,3,ae⟩=ag (ay az 1)/\w.cell? ⟨ob,4,ae⟩=ag (ay az a)/\w.cell? ⟨ob,5,ae⟩=ag (aB (ag ⟨b,0,ae⟩) 1 1)/\w.cell? ⟨ob,6,ae⟩=ag (aB (ag ⟨f,0,ae⟩) 1 1)/\w.cell? ⟨ob,7,ae⟩=ag (ay az e)/\w.cell? ⟨ob,8,ae⟩=ag (ay az d)/\w.cell? ⟨ob,9,ae⟩=ag (aC ah)/\w.cell? ⟨ob,10,ae⟩=ag (aC ah)/\w.cell? ⟨ob,11,ae⟩=ag (ay az 0)/\w.frozen? ⟨ob,7,ae⟩=ah/\w.frozen? ⟨ob,8,ae⟩=ah:=
 ⟨h.lt,h.cell 0,h.cell 1,h.cell 2,h.cell 3,h.cell 4,h.cell 5,h.cell 6,h.cell 7,h.cell 8,h.cell 9,h.cell 10,h.cell 11,h.free 7,h.free 8⟩
theorem mP(w:am):aw ax 63 #[ay az 0] w λe w'=>e=aF (.tuple #[])/\w'=w:=by
 go_in
 go_wp2_with fail
 go_end0
 exact⟨rfl,rfl⟩
theorem Sa(rb:Nat){w:am}:CallsD ax 61 #[aA (ag ⟨rb,0,ae⟩)] .returning w λe c w'=>c=.returning/\(e=aF (.tuple #[])/\w'=w):=by
 refine callsD_of_wpS Tryz.func61 rfl λa cs b=>?_
 apply wpS_seq
 apply wpS_region
 simp[wpOpsS,go_sem,recoverD,b,Tryz.ntmps61,Exit.thenS]
 refine wpS_of_wp ?_
 go_wp2_with fail
 cases a
 simp_all [bodyPostS,results,Tryz.results61]
theorem zX{c:Func}{p:Tmp}(h:c.results=#[.cell p 37]){a:Array ar}{w:am}(b:Nat){x:ar}
 (e:a.getD p undef=aA (ag ⟨b,0,ae⟩)) (d:w.cell? ⟨b,0,ae⟩=ag x):
 (results c a).run ax w=.ok x w:=by
 have f:a[p]?.getD undef=aA (ag ⟨b,0,ae⟩):=by simpa using e
 simp[results,h,f,go_sem,d,asAddr,loadVar,Result.andThen]
theorem Lf(f:FuncId)(first b:Array ar)(T:List Nat)(R:am->Tg->Prop)(w:am)(g:Tg)(A:∀(xs:Array ar) (w':am),(callFunc f xs).run ax w'=.ok (.enter f xs) w')(l:0∉T)(k:∀w g g' w',Ch [0] g w g' w'->R w g->R w' g')
 (h:∀a,Below w.heap.size w a->aw ax f (first++b) a λe w'=>e=aF (.tuple #[])/\∃g',Ch T (eJ g w.heap.size 0) a g' w'/\R w' g'):
 aw ax 50 #[.func (.func f) first b] w λe w'=>e=aF (ay az 0)/\∃g',Ch T g w g' w'/\R w' g':=by
 obtain⟨a,z,j,y⟩:=bG w #[ay az 0] 37
 have o:=aH (Ch.start g j.out)
 have t:=aH (show Row a (eJ g w.heap.size 0) 0 w.heap.size _ _ from⟨y.out,dQ dx⟩)
 have r:=aH k
 have s:=aH l
 have q:=aH (h a j.out)
 clear h k l
 go_enter_defers Tryz.func50,Tryz.ntmps50
 go_wp2_with fail
 refine q.out.mono ?_
 rintro e n ⟨rfl,g2,i,m⟩
 have p:=aH i
 have d:=aH (t.out.ch i s.out)
 have c:=aH m
 have B:=jY d.out.row
 clear i m
 go_wp2_with fail
 have x:Ch [0] g2 n g2 (n.setCell ⟨w.heap.size,0,ae⟩ (ay az 0)):=(Ch.refl _ _ _).set _ (.inl (by rw[d.out.tag];decide))
 have u:=d.out.set 0 (ay az 0)
 refine leaves_cons (f:=61) (args:=#[aA (ag ⟨w.heap.size,0,ae⟩)]) (by simp) (by simp[go_sem]) ?_
 refine(Sa w.heap.size).mono ?_
 rintro e C D ⟨rfl,rfl,rfl⟩
 refine⟨_,zX rfl w.heap.size rfl (u.cell 0),rfl,g2,?_,r.out _ _ _ _ x c.out⟩
 exact((o.out.any (T:=T)).trans p.out).set _ (.inr dx)
structure qC(w:am)(g:Tg)(ob db:Nat)(sm:Int)(b0:Nat)(ds:List (List (BitVec 8)))(du:Nat):Prop where
 ex:∃sb cb vb most n m f fb mJ file CB,Row w g 21 ob (jL db sm b0 cb vb ((b0+ds.length:Nat):Int) ((b0+du:Nat):Int)) 160/\Row w g 22 vb #[aA (ag ⟨sb,0,ae⟩)] 182/\Row w g 23 cb #[ay az 1,ay az b0,ay .u32 0,ay az 0,ay az 0] 221/\
  lX w g sb db file 1 b0 (t7 1 b0) ds ah/\DW w g db most n m f fb mJ file (C' 1 b0++bY (t7 1 b0) b0 ds) CB
 Wq:1000<=sm
 b1:1<=b0
 b2:b0<=1152921504606846976
 UP:du<=ds.length
 Mj:ds.length<=1000
section
variable{T:List Nat}{w w':am}{g g':Tg}{ob db:Nat}{sm:Int}{b0:Nat}{ds:List (List (BitVec 8))}{du:Nat}
theorem qC.ch(h:qC w g ob db sm b0 ds du)(c:Ch T g w g' w')(a:∀t,t∈[1,5,6,10,11,12,13,14,15,16,17,18,19,20,21,22,23]->t∉T):qC w' g' ob db sm b0 ds du:=by
 obtain⟨u,i,x,d,n,m,f,j,s,b,e,k,l,o,p,q⟩:=h.ex
 exact⟨⟨u,i,x,d,n,m,f,j,s,b,e,k.ch c (a _ (by decide)),l.ch c (a _ (by decide)),o.ch c (a _ (by decide)),p.ch c ⟨a _ (by decide),a _ (by decide),a _ (by decide),a _ (by decide)⟩,q.ch c (λt r=>a t (by revert r;simp only[cR,dK,iG];omega))⟩,h.Wq,h.b1,h.b2,h.UP,h.Mj⟩
theorem qC.low(h:qC w g ob db sm b0 ds du)(c:Below w.heap.size w w'):qC w' g ob db sm b0 ds du:=h.ch (Ch.bh [] g c) (λ_ _ h=>by cases h)
end
theorem uH(ob db:Nat)(sm:Int)(b0 d b a:Nat)(f du:Int)(w:am){g:Tg}{t u:Nat}{h:au}(H:Row w g t ob (jL db sm b0 d b f du) h)(V:Row w g u b #[aA (ag ⟨a,0,ae⟩)] 182):
 aw ax 70 #[aA (ag ⟨ob,0,ae⟩)] w λe w'=>e=aF (aA (ag ⟨a,0,ae⟩))/\Below w.heap.size w w':=by
 have i:=(oc H).2.2.2.2.2.2.2.1
 have c:=V.cell 0
 have j:w.cell? ⟨b,0,ae⟩=ag (aA (ag ⟨a,0,ae⟩)):=c
 clear H V c
 go_in
 go_wp2_with fail
 go_quiet (fail)
 go_wp2_with fail
 go_ret
 exact⟨rfl,below_drewN _ _⟩
theorem Cc(ob db:Nat)(sm:Int)(b0 a d:Nat)(b du:Int)(w:am){g:Tg}{t:Nat}{c:au}(H:Row w g t ob (jL db sm b0 a d b du) c):
 aw ax 44 #[aA (ag ⟨ob,0,ae⟩)] w λe w'=>e=aF (aC aj)/\w'=w:=by
 have f:=(oc H).2.1
 clear H
 go_in
 go_wp2_with fail
 go_ret
 exact⟨rfl,rfl⟩
theorem AQ(ob db:Nat)(sm:Int)(b0 a c:Nat)(b du:Int)(w:am){g:Tg}{t:Nat}{f:au}(H:Row w g t ob (jL db sm b0 a c b du) f):
 aw ax 253 #[aA (ag ⟨ob,0,ae⟩)] w λe w'=>e=aF (ay az 0)/\w'=w:=by
 have C:=oc H
 have d:=aH H
 clear H
 go_in
 go_wp2_with fail
 refine(Cc ob db sm b0 a c b du w d.out).mono ?_
 rintro e w' ⟨rfl,rfl⟩
 go_wp2_with fail
 go_ret
 exact⟨rfl,rfl⟩
def zJ(b0:Nat)(a du:Int):ar:=.agg #[ay az b0,ay az a,ay az du,ay az 1,ay az 1,aC ah,aC ah,ay az 0]
theorem abN(ob db:Nat)(sm:Int)(b0 d j:Nat){a du:Int}(w:am){g:Tg}{t:Nat}{m:au}(H:Row w g t ob (jL db sm b0 d j a du) m):
 aw ax 34 #[aA (ag ⟨ob,0,ae⟩)] w λe w'=>e=aF (zJ b0 a du)/\Below w.heap.size w w':=by
 obtain⟨n,o,f,h⟩:=bG w #[ay az 0,ay az 0,ay az 0,ay az 0,ay az 0,aC ah,aC ah,ay az 0] 111
 have p:=oV h.out
 have b:=aH (H.below f.out)
 have C:=oc b.out
 clear H
 go_in
 go_wp2_with fail
 refine(Cc ob db sm b0 d j a du n b.out).mono ?_
 rintro e w' ⟨rfl,rfl⟩
 go_wp2_with fail
 refine cj 37 (by kernel_rfl) (by kernel_rfl) ?_
 simp only[aJ,aO,aI,aL]
 repeat (go_big_quiet_step (fail))
 refine aU ?_
 intro q k
 obtain⟨nq,rfl⟩:=k
 go_wp2_with fail
 have i:(w'.drewN nq).heap[w.heap.size]?=_:=h.out
 have c:Below w.heap.size w (w'.drewN nq):=lG f.out _
 generalize w'.drewN nq=w2 at i c ⊢
 refine bn (cH rfl _ _ w.heap.size 111 _ (0,0) _ rfl (bE (bE (bE (bE (bE (bE (bE (bE i 0 _) 1 _) 2 _) 3 _) 4 _) 5 _) 6 _) 7 _) Tryz.underlying111 rfl (by kernel_rfl)) rfl ?_
 refine⟨rfl,?_⟩
 have l:=bT w.heap.size
 exact bK (bK (bK (bK (bK (bK (bK (bK c l _) l _) l _) l _) l _) l _) l _) l _
theorem AR(ob:Nat)(f:FuncId)(first a:Array ar)(T:List Nat)(R:am->Tg->Prop)(w:am)(g:Tg)(j:∀(xs:Array ar) (w':am),(callFunc f xs).run ax w'=.ok (.enter f xs) w')(i:0∉T)(d:∀w g g' w',Ch [0] g w g' w'->R w g->R w' g')
 (h:∀b,Below w.heap.size w b->aw ax f (first++a) b λe w'=>e=aF (.tuple #[])/\∃g',Ch T (eJ g w.heap.size 0) b g' w'/\R w' g'):
 aw ax 254 #[aA (ag ⟨ob,0,ae⟩),.func (.func f) first a] w λe w'=>e=aF (ay az 0)/\∃g',Ch T g w g' w'/\R w' g':=by
 have G:=aH (Lf f first a T R w g j i d h)
 clear h d i j
 go_in
 go_wp2_with fail
 refine G.out.mono ?_
 rintro e n ⟨rfl,g2,c,k⟩
 have l:=aH c
 have m:=aH k
 clear c k
 go_wp2_with fail
 go_ret
 exact⟨rfl,g2,l.out,m.out⟩
theorem Xu(ob d E i p l:Nat)(sm:Int)(c:Nat)(z r:Int)(n m j:Nat)(b:Int)(f:Lit->Option ar)(a:ByteArray)(k:List (List (BitVec 8))){B:List (BitVec 8)}(w:am){g:Tg}(hx:w.cell? ⟨E,0,ae⟩=ag (aA (ag ⟨ob,0,ae⟩)))
 (H:Row w g 21 ob (jL d sm c p l z r) 160) (V:Row w g 22 l #[aA (ag ⟨i,0,ae⟩)] 182) (S:lX w g i d a 1 c (t7 1 c) k ah) (D:nE w g d b [] n m f) (F:uw w g 11 j B) (y:kK a=aj) (x:f (fS a)=ag (aA (ag ⟨j,0,ae⟩))) (t:B.length<=16777216):
 aw ax 265 #[aA (ag ⟨E,0,ae⟩)] w λe w'=>e=aF (.tuple #[])/\∃g',Ch [1,11,12,13,17] g w g' w'/\lX w' g' i d a 1 c (t7 1 c) k ah/\nE w' g' d b [] n m f/\uw w' g' 11 j B:=by
 have T:=aH H
 have Z:=aH V
 have Y:=aH S
 have L:=aH D
 have O:=aH F
 have U:=aH y
 have Q:=aH x
 have P:=aH t
 clear H V S D F y x t
 go_in
 go_wp2_with fail
 refine(uH ob d sm c p l i z r w T.out Z.out).mono ?_
 rintro e C ⟨rfl,u⟩
 have h:Ch [] g w g C:=Ch.bh [] g u
 have G:=aH h
 have W:=aH (Y.out.ch h (by decide))
 have J:=aH (L.out.ch h (by decide))
 have M:=aH (O.out.ch h (by decide))
 clear h u
 go_wp2_with fail
 refine(RU i d n m j b [] f B a 1 c (t7 1 c) k C g W.out J.out M.out U.out Q.out P.out).mono ?_
 rintro e w2 ⟨rfl,g2,o,A,q,s⟩
 have I:=aH o
 have X:=aH A
 have K:=aH q
 have N:=aH s
 clear o A q s
 go_wp2_with fail
 refine(mP w2).mono ?_
 rintro e w3 ⟨rfl,rfl⟩
 go_wp2_with fail
 go_end0
 exact⟨rfl,g2,(G.out.any).trans I.out,X.out,K.out,N.out⟩
theorem I'(ob q:Nat)(sm:Int)(a:Nat)(j:List (List (BitVec 8)))(F:Nat)(w:am)(g:Tg)(H:qC w g ob q sm a j F)(hd:F<j.length):
 aw ax 257 #[aA (ag ⟨ob,0,ae⟩)] w λe w'=>e=aF (ay az 0)/\∃g',Ch [1,11,12,13,17,21] g w g' w'/\qC w' g' ob q sm a j j.length:=by
 obtain⟨w1,gv,dJ,X⟩:=bG w #[aA (ag ⟨ob,0,ae⟩)] 112
 have j9:=jY X.out
 have k:=aH (Ch.start g dJ.out)
 obtain⟨K,E,L,d,n,m,f,I,mJ,b,CB,J,Z,h3,h4,h5⟩:=H.ex
 have z:=aH (And.intro H.Wq (And.intro H.b1 (And.intro H.b2 H.Mj)))
 obtain⟨x,A⟩:=bP (((a+j.length:Nat):Int):Int)
 obtain⟨dv,B⟩:=bP (((a+F:Nat):Int):Int)
 rw[A,B]at J
 have NX:=aH A
 have ne:(dv==x)=ah:=by rw[<-A,<-B];simp;omega
 have y:=aH (J.ch k.out (by decide))
 have S:=aH (Z.ch k.out (by decide))
 have N:=aH (h3.ch k.out (by decide))
 have Q:=aH (h4.ch k.out (by decide))
 have O:=aH (h5.ch k.out (λt _ h=>by cases h))
 have U:=aH (show Row w1 (eJ g w.heap.size 0) 0 w.heap.size _ _ from⟨X.out,dQ dx⟩)
 have C:=oc y.out
 clear J Z h3 h4 h5 H A B hd
 go_in
 go_wp2_with fail
 refine(AQ ob q sm a E L x dv w1 y.out).mono ?_
 rintro e w' ⟨rfl,rfl⟩
 go_wp2_with fail
 go_quiet (fail)
 go_wp2_with fail
 obtain⟨G,hG⟩:=bP (eJ g w.heap.size 0)
 rw[hG]at k y S N Q O U
 obtain⟨M,s⟩:=bP (w'.drewN nq)
 have l:=aH (show Ch [] G w' G M from by rw[<-s];exact(Ch.refl [] G w').drewN nq)
 rw[s]
 clear hG s C j9
 have P:=aH (y.out.ch l.out (by decide))
 have V:=aH (U.out.ch l.out (by decide))
 have KQ:=aH (N.out.ch l.out (by decide))
 have T:=aH (S.out.ch l.out (by decide))
 have i:=aH (O.out.ch l.out (λt _ h=>by cases h))
 refine(AR ob 265 #[] #[aA (ag ⟨w.heap.size,0,ae⟩)] [1,11,12,13,17] (λw g=>lX w g K q b 1 a (t7 1 a) j ah/\nE w g q d [] n m f/\uw w g 11 I (C' 1 a++bY (t7 1 a) a j)) M G (λ_ _=>rfl) (by decide) (λ_ _ _ _ c h=>⟨h.1.ch c (by decide),h.2.1.ch c (by decide),h.2.2.ch c (by decide)⟩) ?_).mono ?_
 ·intro wz hz
  have r:=Ch.start G hz
  have u:=i.out.ch r (λt _ h=>by cases h)
  exact Xu ob q w.heap.size K E L sm a x dv n m I d f b j wz ((V.out.ch r (by decide)).cell 0) (P.out.ch r (by decide)) (T.out.ch r (by decide)) ((Q.out.ch l.out (by decide)).ch r (by decide)) u.dk u.fl u.may u.nm (by have:=u.b9.1;omega)
 rintro e w2 ⟨rfl,g2,o,s2,W,Y⟩
 have C2:=aH o
 have S2:=aH s2
 have D2:=aH W
 have F2:=aH Y
 have D:=aH (P.out.ch o (by decide))
 have X2:=aH (V.out.ch o (by decide))
 have V2:=aH (T.out.ch o (by decide))
 have K2:=aH (KQ.out.ch o (by decide))
 have F3:=aH (i.out.cf.ch o (by decide))
 have o2:=oc D.out
 have x2:=jY X2.out.row
 clear o s2 W Y
 go_wp2_with fail
 refine cj 7 (by kernel_rfl) (by kernel_rfl) ?_
 simp only[aJ,aO,aI,aL]
 repeat (go_big_quiet_step (fail))
 refine aU ?_
 intro M s
 obtain⟨nq,rfl⟩:=s
 go_wp2_with fail
 go_ret
 have p:Ch [21] g2 w2 g2 ((w2.drewN nq).setCell ⟨ob,8,ae⟩ (ay az x)):=((Ch.refl _ _ _).drewN _).set _ (.inl (by rw[D.out.tag];decide))
 refine⟨rfl,g2,((k.out.any.trans l.out.any).trans (C2.out.mono (by decide))).trans (p.mono (by decide)),⟨⟨K,E,L,d,n,m,f,I,mJ,b,CB,?_,V2.out.ch p (by decide),K2.out.ch p (by decide),S2.out.ch p (by decide),⟨D2.out.ch p (by decide),F2.out.ch p (by decide),F3.out.ch p (by decide),i.out.nm,i.out.all,i.out.may,i.out.n9,i.out.mo,i.out.b9⟩⟩,z.out.1,z.out.2.1,z.out.2.2.1,bT _,z.out.2.2.2⟩⟩
 have h:=(D.out.dn nq).set 8 (ay az x)
 rw[NX.out]
 exact h
theorem tP(ob b:Nat)(sm:Int)(a:Nat)(c:List (List (BitVec 8)))(d:Nat)(w:am)(g:Tg)(H:qC w g ob b sm a c d):
 aw ax 34 #[aA (ag ⟨ob,0,ae⟩)] w λe w'=>e=aF (zJ a ((a+c.length:Nat):Int) ((a+d:Nat):Int))/\Below w.heap.size w w':=by
 obtain⟨r,j,l,i,n,m,f,p,q,h,o,k,-⟩:=H.ex
 exact abN ob b sm a j l w k
def Ao(a:Nat):xg:=⟨1,a,[⟨1,a,0#32,0,0⟩]⟩
theorem G7{a:Nat}(h:1<=a):zx (Ao a) where
 gen:=by show(1:Int)<=1;decide
 first:=by show(1:Int)<=a;omega
 some:=by show 1<=1;decide
 Mj:=by show 1<=64;decide
 last:=⟨by show(1:Int)<=1;decide,by show(1:Int)<=a;omega,rfl,rfl⟩
 link:=λi b=>absurd b (by show ¬ i+1<1;omega)
 low:=Q9 _
 high:=.inl rfl
theorem My{w:am}{g:Tg}{t b a:Nat}(K:Row w g t b #[ay az 1,ay az a,ay .u32 0,ay az 0,ay az 0] 221)(h:a<=1152921504606846976):zE w (.agg #[ay az 1,ay az a,aB (ag ⟨b,0,ae⟩) 1 1]) (Ao a) where
 shape:=⟨ag ⟨b,0,ae⟩,1,rfl,λi c=>by
  obtain rfl:i=0:=by change i<1 at c;omega
  refine⟨⟨?_,?_,?_,?_⟩,b,0,rfl,⟨K.cell 0,K.cell 1,K.cell 2,K.cell 3,K.cell 4⟩⟩
  ·show Ex 1;unfold Ex;decide
  ·show Ex a;unfold Ex;omega
  ·show Ex 0;unfold Ex;decide
  ·show Ex 0;unfold Ex;decide,by show 1<=1;decide,by show 1<=140737488355328;decide,λe=>by cases e⟩
 gen:=by show Ex 1;unfold Ex;decide
 first:=by show Ex a;unfold Ex;omega
theorem Zc{b i:Nat}{lsn:Int}{k:Nat}{d:Bool}(f:1<=b)(h:lsn=b+i)(a:ajY (Ao b) lsn k d):k=0/\d=aj:=by
 rcases a with⟨-,-,c,e⟩ | ⟨c,-⟩
 ·have:=e.1
  change k<1 at this
  exact⟨by omega,c⟩
 ·exact absurd ⟨G7 f,by show(b:Int)<=lsn;omega⟩ c
theorem abM(ob F:Nat)(sm:Int)(a:Nat)(j:List (List (BitVec 8)))(G i:Nat)(d:List (BitVec 8))(w:am)(g:Tg)(H:qC w g ob F sm a j G)(hi:i<G)(W:j[i]?=ag d)(U:∀d∈j,d.length<=4096):
 aw ax 39 #[aA (ag ⟨ob,0,ae⟩),ay az (a+i)] w λe w'=>∃v,e=aF (.tuple #[.agg #[ay az (a+i),v],ay az 0])/\cU w' w.heap.size v d/\Below w.heap.size w w':=by
 obtain⟨w1,gv,c,E⟩:=bG w #[ay az 0,aB ae 0 0] 72
 have j9:=gc E.out
 obtain⟨Y,Q,Z,p,n,m,f,fb,mJ,l,CB,I,S,T,o,V⟩:=H.ex
 have O:=aH (And.intro H.b1 H.b2)
 obtain⟨nx,X⟩:=bP (((a+j.length:Nat):Int):Int)
 obtain⟨dv,N⟩:=bP (((a+G:Nat):Int):Int)
 obtain⟨lsn,A⟩:=bP ((a:Int)+(i:Int))
 have P:=aH (λx hx=>RW Y F n m fb mJ 1 a i p f l j d CB x g (o.ch (Ch.bh [] g hx) (by decide)) (V.ch (Ch.bh [] g hx) (λt _ h=>by cases h)) W U)
 rw[X,N]at I
 rw[A]at P ⊢
 have q3:lsn<dv:=by omega
 have q4:(a:Int)<=lsn:=by omega
 have LS:=aH A.symm
 have D:=aH (I.below c.out)
 have V1:=aH (S.below c.out)
 have K1:=aH (T.below c.out)
 have C:=oc D.out
 clear I S T o V H X N hi W U A
 go_in
 go_wp2_with fail
 refine(Cc ob F sm a Q Z nx dv w1 D.out).mono ?_
 rintro e w' ⟨rfl,rfl⟩
 go_wp2_with fail
 refine(adg 1 a lsn (ag ⟨Q,0,ae⟩) 1 1 [⟨1,a,0#32,0,0⟩] w' rfl (My K1.out O.out.2)).mono ?_
 rintro e J ⟨k,ok,ha,rfl,b⟩
 obtain⟨rfl,rfl⟩:=Zc O.out.1 LS.out ha
 have K:=aH b
 have R2:=aH (D.out.below b)
 have V2:=aH (V1.out.below b)
 have B:=aH ((b.block _ (aT E.out)).trans E.out)
 have C2:=oc R2.out
 have v2:J.cell? ⟨Z,0,ae⟩=ag (aA (ag ⟨Y,0,ae⟩)):=V2.out.cell 0
 clear C j9 ha b
 go_wp2_with fail
 refine(P.out J (aM c.out K.out)).mono ?_
 rintro e w3 ⟨v,rfl,u,b⟩
 obtain⟨y,z,rfl,-⟩:=u.slice
 obtain⟨s,wQ⟩:=bP d.length
 rw[wQ]at u ⊢
 clear wQ
 have r:=aH ((b.block _ (aT B.out)).trans B.out)
 have B3:=aH (aM (aM c.out K.out) b)
 have M:=aH u
 have k3:=gc r.out
 have k4:=gc (bE r.out 0 (ay az lsn))
 have L:=aH (show w.heap.size<J.heap.size from aT B.out)
 clear u b C2 v2
 go_wp2_with fail
 refine bn (mE rfl w.heap.size (ay az lsn) (aB y s z) rfl ((oo r.out (ay az lsn) (aB y s z)) |> oR _ _ 0 _ _ _) ((oo r.out (ay az lsn) (aB y s z)) |> oR _ _ 1 _ _ _)) rfl ?_
 refine⟨aB y s z,rfl,?_,iJ B3.out dx⟩
 exact dC (M.out.base (dP L.out)) λq hq=>by have h:=(dq M.out hq).1;have:=L.out;exact(bD (by omega)).trans (bD (by omega))
theorem Tryz.Ts:(Tryz.prog.info? 4).map (λi=>(i.zero,i.size,i.bytes))=ag (ag (aC ah),1,1):=by kernel_rfl
structure oH(w:am)(q k:Nat):Prop where
 row:w.heap[q]?=ag (aG (List.replicate k (Value.bool ah)).toArray 4 (0,0))
theorem oH.cell{w:am}{q k j:Nat}(h:oH w q k)(a:j<k):w.cell? ⟨q,j,ae⟩=ag (aC ah):=by
 rw[aZ j h.row]
 simp[a]
theorem oH.below{w w':am}{q k:Nat}(h:oH w q k)(c:Below w.heap.size w w'):oH w' q k:=⟨(c.block _ (aT h.row)).trans h.row⟩
theorem OI(k:Nat):madeCells #[Value.bool ah] (k*1)=(List.replicate k (Value.bool ah)).toArray:=by
 have h:=A7 (λb:Bool=>[Value.bool b]) 1 (by decide) (λ_=>rfl) #[Value.bool ah] ah rfl k
 have e:∀n,(List.replicate n ah).flatMap (λb:Bool=>[Value.bool b])=List.replicate n (Value.bool ah):=λn=>by
  induction n with
  | zero=>rfl
  | succ n ih=>rw[List.replicate_succ,eC,ih,List.replicate_succ];rfl
 rw[e k]at h
 exact congrArg List.toArray h
theorem BO{m:Nat}(h:m<=4096):qQ (m:Int)=16+(m:Int):=by
 unfold qQ
 rw[bf (by omega)]
theorem wg(e:BitVec 32)(b:Nat)(c a:List (List (BitVec 8))){k:Nat}{d:List (BitVec 8)}(h:a[k]?=ag d):(bY e b (c++a.take (k+1))).length=(bY e b (c++a.take k)).length+(16+d.length):=by
 have:a.take (k+1)=a.take k++[d]:=by rw[ip,h];rfl
 rw[this,<-de,ue]
theorem Xv(ob u W M D:Nat)(sm:Int)(a:Nat)(nx Y:Int)(j:ByteArray)(l:BitVec 32)(f b:List (List (BitVec 8)))(S:List Nat)(K n ca:Nat)(w:am)(g:Tg)(H:Row w g 21 ob (jL u sm a W M nx Y) 160)(V:Row w g 22 M #[aA (ag ⟨D,0,ae⟩)] 182)(G:lX w g D u j 1 a l f ah)(X:vu w g S K b)
 (hn:b.length=n) (hk:n<=1000) (hd:∀d∈b,d.length<=4096) (hs:1000<=sm) (r:32+(bY l a (f++b)).length<=1000):
 aw ax 294 #[aA (ag ⟨ob,0,ae⟩),aB (ag ⟨K,0,ae⟩) n ca] w λe w'=>∃q,e=aF (aB (ag ⟨q,0,ae⟩) n n)/\oH w' q n/\w.heap.size<=q/\Below w.heap.size w w':=by
 have Q:=aH H
 have VV:=aH V
 have GG:=aH G
 have U:=aH X
 have HN:=aH hn
 have HD:=aH hd
 have lC:∀k d,b[k]?=ag d->32+(bY l a (f++b.take k)).length+(16+d.length)<=1000:=λk d h=>by
  have h1:=wg l a f b h
  have h2:=ud l a f b (k+1)
  omega
 have FZ:=aH lC
 have mk:=xP 57 4 Tryz.underlying57 Tryz.Ts (by decide) n (n:Int) rfl (by omega)
 clear H V G X hn hd r lC
 go_in
 go_wp2_with fail
 refine(uH ob u sm a W M D nx Y w Q.out VV.out).mono ?_
 rintro e w1 ⟨rfl,L⟩
 go_wp2_with fail
 refine(tO D u j 1 a l f w1 g (GG.out.ch (Ch.bh [] g L) (by decide))).mono ?_
 rintro e t ⟨rfl,Z⟩
 have N:=aH (aM L Z)
 obtain⟨y,hy⟩:=bP ((a:Int)+(f.length:Int))
 obtain⟨z,r⟩:=bP ((32:Int)+((bY l a f).length:Int))
 rw[hy,r]
 have ZZ:=aH r
 clear L Z hy r
 obtain⟨o,pD,qE,pZ⟩:=bG t #[.string j,ay az 1,ay az a,ay .u32 0,ay az y,ay az z,ay .u32 (bv (dS l a f)),aC ah] 215
 have Js:=oV pZ.out
 have O:=aH (aM N.out qE.out)
 go_wp2_with fail
 go_quiet (fail)
 go_wp2_with fail
 have b4:=aM (lG (bK O.out N.out.size (aC ah) (i:=7)) nq) (aY ((o.setCell ⟨t.heap.size,7,ae⟩ (aC ah)).drewN nq) (aG (madeCells #[Value.bool ah] n) 4))
 have B:=bp ((o.setCell ⟨t.heap.size,7,ae⟩ (aC ah)).drewN nq) (aG (madeCells #[Value.bool ah] n) 4)
 rw[show((o.setCell ⟨t.heap.size,7,ae⟩ (aC ah)).drewN nq).heap.size=o.heap.size from by simp[World.setCell]]at B
 generalize Pa:((o.setCell ⟨t.heap.size,7,ae⟩ (aC ah)).drewN nq).alloc (aG (madeCells #[Value.bool ah] n) 4)=w4 at b4 B ⊢
 have E:=aH b4
 have N4:=aH (show oH w4 o.heap.size n from⟨by rw[<-OI,dY];exact B⟩)
 have S3:=aH O.out.size
 obtain⟨c0,xp⟩:=bP (decide ((a:Int)<y))
 rw[xp]
 clear b4 B Pa Js mk xp
 go_loopw [6,7,28] (λs c i wr=>∃k:Nat,k<=n/\i=ay az k/\s=ay az (32+(bY l a (f++b.take k)).length)/\(∃J,c=.bool J)/\wr=w4) (λ_ _ i _=>n-(intOf i).toNat)
 case atStart=>exact⟨0,cF _,rfl,by rw[aO,eP,ZZ.out],⟨_,rfl⟩,rfl⟩
 case round=>
  obtain⟨k,yF,rfl,rfl,⟨J,rfl⟩,rfl⟩:=hrel
  by_cases fp:k<n
  ·have kz:(k:Int)<(n:Int):=by omega
   have T:=aH (show k<b.length by rw[HN.out];exact fp)
   obtain⟨d,hx⟩:∃x,b[k]?=ag x:=⟨b[k]'T.out,aP T.out⟩
   obtain⟨ai,ci,x1,-⟩:=U.out.ie k d hx
   have dl:=HD.out d (cG hx)
   have y1:wr.cell? ⟨K,k,ae⟩=ag (aB ai d.length ci):=by rw[<-x1];exact cm (E.out.block _ U.out.lt)
   have A:=wg l a f b hx
   have fz:=FZ.out k d hx
   obtain⟨m,hm⟩:=bP d.length
   obtain⟨F,hF⟩:=bP ((bY l a (f++b.take k)).length)
   rw[hm]at y1 dl A fz
   rw[hF]at A fz ⊢
   have P:=aH A
   have sz:=BO dl
   have r1:=(Q.out.below E.out).cell 1
   have aa:wr.cell? ⟨ob,1,ae⟩=ag (ay az sm):=r1
   obtain⟨C,I⟩:=bP ((32:Int)+(F:Int):Int)
   have p:=aH I
   rw[I]
   have g1:¬ C+(16+(m:Int)) > sm:=by omega
   have g2:decide (sm<C+(16+(m:Int)))=ah:=bC (by omega)
   have g3:IntKind.i64.wrap (C+(16+(m:Int)))=C+(16+(m:Int)):=nH (by omega)
   clear hm hx x1 A hF r1 I
   go_wp2_with fail
   refine(pS (m:Int) wr).mono ?_
   rintro e w' ⟨rfl,rfl⟩
   rw[sz]
   cases J
   ·go_wp2_with fail
    go_roundw
    case rel=>exact⟨k+1,by omega,by go_num,by have:=p.out;rw[P.out];congr 1;omega,⟨_,rfl⟩,trivial⟩
    case measure=>simp[intOf];omega
   ·go_wp2_with fail
    go_roundw
    case rel=>exact⟨k+1,by omega,by go_num,by have:=p.out;rw[P.out];congr 1;omega,⟨_,rfl⟩,trivial⟩
    case measure=>simp[intOf];omega
  ·obtain rfl:k=n:=by omega
   have kz:(k:Int)<=(k:Int):=by omega
   go_wp2_with fail
   go_ret
   exact⟨_,rfl,N4.out,S3.out,E.out⟩
theorem GF(a b c d e f g h:ar)(w:am):(Instr.field 215 (.agg #[a,b,c,d,e,f,g,h]) 1).run ax w=.ok (.agg #[b,c,d]) w:=by kernel_rfl
theorem Po(x y z:Int)(w:am):(Instr.field 213 (.agg #[ay az x,ay az y,ay .u32 z]) 0).run ax w=.ok (ay az x) w:=by kernel_rfl
theorem Pn(x y z:Int)(w:am):(Instr.field 213 (.agg #[ay az x,ay az y,ay .u32 z]) 1).run ax w=.ok (ay az y) w:=by kernel_rfl
theorem abL(ob d l j f:Nat)(sm:Int)(b:Nat)(r o:Int)(a:ByteArray)(s:BitVec 32)(m:List (List (BitVec 8)))(q n:Nat)(w:am)(g:Tg)(H:Row w g 21 ob (jL d sm b l j r o) 160)(V:Row w g 22 j #[aA (ag ⟨f,0,ae⟩)] 182)(G:lX w g f d a 1 b s m ah)(N:oH w q n)(I:n<=1000):
 aw ax 295 #[aA (ag ⟨ob,0,ae⟩),aB (ag ⟨q,0,ae⟩) n n] w λe w'=>e=aF (aC aj)/\Below w.heap.size w w':=by
 have x:=aH H
 have z:=aH V
 have u:=aH G
 have y:=aH N
 have C:=oc H
 clear H V G N
 have F:=GF
 have A:=Po
 go_in
 go_wp2_with fail
 go_loopw [5,10] (λc i wr=>∃k:Nat,k<=n/\i=ay az k/\c=ay az 0/\wr=w) (λ_ i _=>n-(intOf i).toNat)
 case atStart=>exact⟨0,cF _,rfl,rfl,rfl⟩
 case round=>
  obtain⟨k,L,rfl,rfl,rfl⟩:=hrel
  by_cases B:k<n
  ·have D:(k:Int)<(n:Int):=by omega
   have K:=y.out.cell B
   go_wp2_with fail
   go_roundw
   case rel=>exact⟨k+1,by omega,by go_num,rfl,trivial⟩
   case measure=>simp[intOf];omega
  ·obtain rfl:k=n:=by omega
   have D:(k:Int)<=(k:Int):=by omega
   go_wp2_with fail
   refine(uH ob d sm b l j f r o wr x.out z.out).mono ?_
   rintro e E ⟨rfl,h⟩
   go_wp2_with fail
   refine(tO f d a 1 b s m E g (u.out.ch (Ch.bh [] g h) (by decide))).mono ?_
   rintro e J ⟨rfl,p⟩
   have t:=aH (aM h p)
   clear h p
   go_wp2_with fail
   go_ret
   exact⟨rfl,t.out⟩
theorem abO(ob h p l t:Nat)(sm:Int)(f:Nat)(c s:Int)(a:ByteArray)(u:BitVec 32)(r b:List (List (BitVec 8)))(S:List Nat)(z n L:Nat)(w:am)(g:Tg)(H:Row w g 21 ob (jL h sm f p l c s) 160)(V:Row w g 22 l #[aA (ag ⟨t,0,ae⟩)] 182)(G:lX w g t h a 1 f u r ah)(X:vu w g S z b)
 (Q:b.length=n) (h1:1<=n) (O:n<=1000) (N:∀d∈b,d.length<=4096) (hs:1000<=sm) (T:32+(bY u f (r++b)).length<=1000) (aa:0<=c) (hx:c<=2000000000000000000):
 aw ax 287 #[aA (ag ⟨ob,0,ae⟩),aB (ag ⟨z,0,ae⟩) n L] w λe w'=>∃q,e=aF (.tuple #[aB (ag ⟨q,0,ae⟩) n n,ay az 0])/\oH w' q n/\w.heap.size<=q/\Below w.heap.size w w':=by
 have y:=aH H
 have J:=aH V
 have B:=aH G
 have K:=aH X
 have E:=aH Q
 have D:=aH N
 have W:=aH T
 have C:=oc H
 have nz:¬(n:Int)=0:=by omega
 have ab:¬ n=0:=by omega
 clear H V G X Q N T
 go_in
 go_wp2_with fail
 refine(AQ ob h sm f p l c s w y.out).mono ?_
 rintro e w' ⟨rfl,rfl⟩
 go_wp2_with fail
 go_loopw [20] (λi wr=>∃k:Nat,k<=n/\i=ay az k/\wr=w') (λi _=>n-(intOf i).toNat)
 case atStart=>exact⟨0,cF _,rfl,rfl⟩
 case round=>
  obtain⟨k,yF,rfl,rfl⟩:=hrel
  by_cases Y:k<n
  ·have kz:(k:Int)<(n:Int):=by omega
   have F:=aH (show k<b.length by rw[E.out];exact Y)
   obtain⟨d,hx⟩:∃x,b[k]?=ag x:=⟨b[k]'F.out,aP F.out⟩
   obtain⟨ai,ci,x1,-⟩:=K.out.ie k d hx
   have dl:=D.out d (cG hx)
   obtain⟨m,P⟩:=bP d.length
   rw[P]at x1 dl
   have k1:¬(m:Int) > 4096:=by omega
   have k3:¬ 4096<m:=by omega
   clear P hx
   go_wp2_with fail
   go_roundw
   case rel=>exact⟨k+1,by omega,by go_num,trivial⟩
   case measure=>simp[intOf];omega
  ·obtain rfl:k=n:=by omega
   have kz:(k:Int)<=(k:Int):=by omega
   have k5:¬(k:Int) > 9223372036854775806-c+1:=by omega
   go_wp2_with fail
   refine(Xv ob h p l t sm f c s a u r b S z k L wr g y.out J.out B.out K.out E.out O D.out hs W.out).mono ?_
   rintro e w2 ⟨q,rfl,j,Z,M⟩
   have o:=aH M
   have I:=aH j
   clear M j C
   go_wp2_with fail
   refine(abL ob h p l t sm f c s a u r q k w2 g (y.out.below o.out) (J.out.below o.out) (B.out.ch (Ch.bh [] g o.out) (by decide)) I.out O).mono ?_
   rintro e w3 ⟨rfl,U⟩
   have A:=aH U
   clear U
   go_wp2_with fail
   go_ret2
   exact⟨q,rfl,I.out.below A.out,Z,aM o.out A.out⟩
structure DT(w:am)(g:Tg)(sb db:Nat)(most:Int)(n m:Nat)(f:Lit->Option ar)(fb mJ:Nat)(file:ByteArray)(b0:Nat)(ds:List (List (BitVec 8)))(CB:List (BitVec 8)):Prop where
 seg:lX w g sb db file 1 b0 (t7 1 b0) ds ah
 log:DW w g db most n m f fb mJ file (C' 1 b0++bY (t7 1 b0) b0 ds) CB
theorem DT.ch{T:List Nat}{w w':am}{g g':Tg}{p j:Nat}{b:Int}{n m:Nat}{f:Lit->Option ar}{l o:Nat}{a:ByteArray}{i:Nat}{k:List (List (BitVec 8))}{e:List (BitVec 8)}(h:DT w g p j b n m f l o a i k e)(c:Ch T g w g' w')(d:∀t,t∈[1,5,6,10,11,12,13,14,15,16,17,18,19,20]->t∉T):DT w' g' p j b n m f l o a i k e:=
 ⟨h.seg.ch c ⟨d _ (by decide),d _ (by decide),d _ (by decide),d _ (by decide)⟩,h.log.ch c (λt q=>d t (by revert q;simp only[cR,dK,iG];omega))⟩
theorem af6(ob j C y p:Nat)(sm:Int)(a:Nat)(L D:Int)(n m u x:Nat)(c:Int)(f:Lit->Option ar)(b:ByteArray)(l i:List (List (BitVec 8)))(r:List (BitVec 8))(S:List Nat)(s k B:Nat)(w:am)(g:Tg)(H:Row w g 21 ob (jL j sm a C y L D) 160)(V:Row w g 22 y #[aA (ag ⟨p,0,ae⟩)] 182)(F:DT w g p j c n m f u x b a l r)
 (X:vu w g S s i) (E:∀t,t∈S->t∉[1,11,12,13,17,18,19,20]) (I:i.length=k) (h1:1<=k) (hk:k<=1000) (G:∀d∈i,d.length<=4096) (J:32+(bY (t7 1 a) a (l++i)).length<=1000) (o:a+(l++i).length<=2000000000000000000):
 aw ax 289 #[aA (ag ⟨ob,0,ae⟩),aB (ag ⟨s,0,ae⟩) k B] w λe w'=>e=aF (.tuple #[])/\∃g',Ch [1,11,12,13,17,18,19,20] g w g' w'/\DT w' g' p j c n m f u x b a (l++i) r:=by
 have W:=aH H
 have VV:=aH V
 have Q:=aH F
 have XX:=aH X
 have Y:=aH I
 have Z:=aH E
 have U:=aH G
 have HZ:=aH J
 have T:=aH o
 clear H V F X I E G J o
 go_in
 go_wp2_with fail
 refine(uH ob j sm a C y p L D w W.out VV.out).mono ?_
 rintro e N ⟨rfl,o⟩
 have q:Ch [] g w g N:=Ch.bh [] g o
 have O:=aH q
 have z:=aH (Q.out.ch q (λt _ h=>by cases h))
 have X1:=aH (XX.out.ch q (λt _ h=>by cases h))
 clear q o
 go_wp2_with fail
 refine(Xr p j n m u x k B s a 1 c f b (t7 1 a) l i (C' 1 a) r S N g z.out.seg z.out.log X1.out Z.out Y.out h1 hk U.out (pP 1 a) HZ.out T.out).mono ?_
 rintro e w2 ⟨rfl,g2,A,M,K⟩
 have P:=aH A
 have S2:=aH M
 have L2:=aH K
 clear A M K
 go_wp2_with fail
 refine(mP w2).mono ?_
 rintro e w3 ⟨rfl,rfl⟩
 go_wp2_with fail
 go_end0
 exact⟨rfl,g2,(O.out.any).trans P.out,S2.out,L2.out⟩
theorem abQ(ob G T O I rb z C q:Nat)(sm:Int)(r:Nat)(nx U:Int)(n m L M:Nat)(l:Int)(f:Lit->Option ar)(b:ByteArray)(y o:List (List (BitVec 8)))(J:List (BitVec 8))(S:List Nat)(u k s:Nat)(w:am){g:Tg}(H:Row w g 21 ob (jL G sm r T O nx U) 160)(V:Row w g 22 O #[aA (ag ⟨I,0,ae⟩)] 182)(F:DT w g I G l n m f L M b r y J)
 (A:Row w g 0 rb #[aB (ag ⟨q,0,ae⟩) k k] 57) (N:oH w q k) (B:Row w g 0 z #[aA (ag ⟨ob,0,ae⟩)] 112) (D:Row w g 0 C #[aB (ag ⟨u,0,ae⟩) k s] 120)
 (X:vu w g S u o) (Y:∀t,t∈S->t∉[1,11,12,13,17,18,19,20]) (hn:o.length=k) (h1:1<=k) (hk:k<=1000) (ab:k<=s) (hd:∀d∈o,d.length<=4096) (hz:32+(bY (t7 1 r) r (y++o)).length<=1000) (Z:r+(y++o).length<=2000000000000000000):
 aw ax 288 #[aA (ag ⟨rb,0,ae⟩),aA (ag ⟨z,0,ae⟩),aA (ag ⟨C,0,ae⟩)] w λe w'=>e=aF (.tuple #[])/\∃g',Ch [1,11,12,13,17,18,19,20] g w g' w'/\DT w' g' I G l n m f L M b r (y++o) J:=by
 have K:=aH (λx hx=>af6 ob G T O I sm r nx U n m L M l f b y o J S u k s x g (H.ch (Ch.bh [] g hx) (by decide)) (V.ch (Ch.bh [] g hx) (by decide)) (F.ch (Ch.bh [] g hx) (λt _ h=>by cases h)) (X.ch (Ch.bh [] g hx) (λt _ h=>by cases h)) Y hn h1 hk hd hz Z)
 have AA:=aH A
 have NN:=aH N
 have P:=aH B
 have Q:=aH D
 have ka:=jY A.row
 have kb:=jY B.row
 have kd:=jY D.row
 have aa:(k:Int)<=(s:Int):=by omega
 clear H V F A N B D X Y hn hd hz Z
 go_in
 go_wp2_with fail
 go_loopw [3,8] (λfr i wr=>∃j:Nat,j<=k/\i=ay az j/\fr=ay az 0/\wr=w) (λ_ i _=>k-(intOf i).toNat)
 case atStart=>exact⟨0,cF _,rfl,rfl,rfl⟩
 case round=>
  obtain⟨j,yF,rfl,rfl,rfl⟩:=hrel
  by_cases fp:j<k
  ·have kz:(j:Int)<(k:Int):=by omega
   have y1:=NN.out.cell fp
   go_wp2_with fail
   go_roundw
   case rel=>exact⟨j+1,by omega,by go_num,rfl,trivial⟩
   case measure=>simp[intOf];omega
  ·obtain rfl:j=k:=by omega
   have kz:(j:Int)<=(j:Int):=by omega
   go_wp2_with fail
   have qR:∀p:In (λw'=>w'.cell? ⟨z,0,ae⟩=ag (aA (ag ⟨ob,0,ae⟩))/\w'.cell? ⟨C,0,ae⟩=ag (aB (ag ⟨u,0,ae⟩) j s)),p.w.cell? ⟨z,0,ae⟩=ag (aA (ag ⟨ob,0,ae⟩))/\p.w.cell? ⟨C,0,ae⟩=ag (aB (ag ⟨u,0,ae⟩) j s):=λp=>p.h
   refine bX [0,1,2,3,4] (λw'=>w'.cell? ⟨z,0,ae⟩=ag (aA (ag ⟨ob,0,ae⟩))/\w'.cell? ⟨C,0,ae⟩=ag (aB (ag ⟨u,0,ae⟩) j s)) (by kernel_rfl) (by kernel_rfl) (by intro c a d v w h;cases d <;> exact h) ⟨P.out.cell 0,Q.out.cell 0⟩ ?_
   intro dF
   simp only[pick,aV,a8,aQ,aR]
   refine aX 4 (by kernel_rfl) ?_
   simp only[aJ,aO,aI,aL]
   repeat (go_big_quiet_step (fail))
   refine aU ?_
   refine aS rfl ?_ rfl
   go_wp2_with fail
   refine(K.out wr.drew (bi wr)).mono ?_
   rintro e w2 ⟨rfl,g2,E,W⟩
   have C2:=aH E
   have F2:=aH W
   have B2:=aH ((P.out.ch (Ch.bh [] g (bi wr)) (by decide)).ch E (by decide))
   have D2:=aH ((Q.out.ch (Ch.bh [] g (bi wr)) (by decide)).ch E (by decide))
   clear E W
   go_wp2_with fail
   refine⟨⟨⟨_,⟨B2.out.cell 0,D2.out.cell 0⟩⟩,rfl⟩,?_⟩
   refine bF ?_
   clear dF qR
   go_wp2_with fail
   go_end0
   exact⟨rfl,g2,(Ch.bh _ g (bi wr)).trans C2.out,F2.out⟩
theorem Sb(ob u:Nat)(sm:Int)(b:Nat)(j r:List (List (BitVec 8)))(du:Nat)(S:List Nat)(P k N:Nat)(w:am)(g:Tg)(H:qC w g ob u sm b j du)
 (X:vu w g S P r) (hS:∀t,t∈S->t∉[1,11,12,13,17,18,19,20]) (hn:r.length=k) (h1:1<=k) (aa:k<=N) (hd:∀d∈r,d.length<=4096) (U:32+(bY (t7 1 b) b (j++r)).length<=1000) (hb:(j++r).length<=1000):
 aw ax 283 #[aA (ag ⟨ob,0,ae⟩),aB (ag ⟨P,0,ae⟩) k N] w λe w'=>e=aF (.tuple #[ay az ((b+j.length:Nat):Int),ay az 0])/\∃g',Ch [1,11,12,13,17,18,19,20,21] g w g' w'/\qC w' g' ob u sm b (j++r) du:=by
 obtain⟨w1,gv,dJ,dL⟩:=bG w #[aA (ag ⟨ob,0,ae⟩)] 112
 obtain⟨L,lU,lZ,kG⟩:=bG w1 #[aB (ag ⟨P,0,ae⟩) k N] 120
 obtain⟨G,hG⟩:=bP (eJ g w.heap.size 0)
 have G0:=aH (show ∀q,w.heap.size<=q->G q=0 from λq hq=>by rw[<-hG];exact dQ hq)
 have B:=aH (show Ch [] g w G L from by rw[<-hG];exact Ch.start g (aM dJ.out lZ.out))
 have L1:=aH dJ.out.size
 have L2:=aH lZ.out.size
 obtain⟨J,O,V,o,n,m,f,fb,mJ,i,Y,F,h2,h3,h4,h5⟩:=H.ex
 have M:=aH (And.intro H.Wq (And.intro H.b1 (And.intro H.b2 H.UP)))
 have y:(j++r).length=j.length+k:=by rw[aN,hn]
 have HL:=aH y
 have hk:k<=1000:=by omega
 have bb:j.length<=1000:=by omega
 have b2:=H.b2
 obtain⟨s,kA⟩:=bP (((b+j.length:Nat):Int):Int)
 obtain⟨dv,Pf⟩:=bP (((b+du:Nat):Int):Int)
 rw[kA,Pf]at F
 rw[kA]
 have NX:=aH kA
 have DV:=aH Pf
 have mx:max dv (b:Int)=dv:=Int.max_eq_left (by omega)
 have af:¬ dv<(b:Int):=by omega
 have ab:0<=s:=by omega
 have ac:s<=2000000000000000000:=by omega
 have ai:IntKind.i64.wrap (s+(k:Int))=s+(k:Int):=nH (by omega)
 have R2:=aH (F.ch B.out (by decide))
 have V2:=aH (h2.ch B.out (by decide))
 have K2:=aH (h3.ch B.out (by decide))
 have F2:=aH (show DT L G J u o n m f fb mJ i b j Y from⟨h4.ch B.out (by decide),h5.ch B.out (λt _ h=>by cases h)⟩)
 have X2:=aH (X.ch B.out (λt _ h=>by cases h))
 have S2:=aH (show Row L G 0 w.heap.size _ _ from⟨(lZ.out.block _ (aT dL.out)).trans dL.out,G0.out _ dx⟩)
 have D2:=aH (show Row L G 0 w1.heap.size _ _ from⟨kG.out,G0.out _ L1.out⟩)
 have HS:=aH hS
 have HN:=aH hn
 have HD:=aH hd
 have HZ:=aH U
 have HB:=aH (show b+(j++r).length<=2000000000000000000 by omega)
 have IC:=aH hb
 have ks:=jY S2.out.row
 have kd:=jY D2.out.row
 clear F h2 h3 h4 h5 H X kA Pf hG hS hn hd U hb y bb b2
 go_in
 go_wp2_with fail
 refine(abO ob u O V J sm b s dv i (t7 1 b) j r S P k N L G R2.out V2.out F2.out.seg X2.out HN.out h1 hk HD.out M.out.1 HZ.out ab ac).mono ?_
 rintro e w3 ⟨q,rfl,T,hq,iY⟩
 have B3:=aH iY
 have N3:=aH T
 clear iY T ks kd
 obtain⟨w4,Pa,zP,IB⟩:=bG w3 #[aB (ag ⟨q,0,ae⟩) k k] 57
 have K:=aH (aM B3.out zP.out)
 have C4:=aH (show Ch [] G L G w4 from Ch.bh [] G K.out)
 have R4:=aH (R2.out.below K.out)
 have V4:=aH (V2.out.below K.out)
 have K4:=aH (K2.out.below K.out)
 have F4:=aH (F2.out.ch C4.out (λt _ h=>by cases h))
 have X4:=aH (X2.out.ch C4.out (λt _ h=>by cases h))
 have S4:=aH (S2.out.below K.out)
 have D4:=aH (D2.out.below K.out)
 have A4:=aH (show Row w4 G 0 w3.heap.size _ _ from⟨IB.out,G0.out _ (by have:=L1.out;have:=L2.out;have:=B3.out.size;omega)⟩)
 have N4:=aH (N3.out.below zP.out)
 have ks:=jY S4.out.row
 have kd:=jY D4.out.row
 go_wp2_with fail
 refine(AR ob 288 #[] #[aA (ag ⟨w3.heap.size,0,ae⟩),aA (ag ⟨w.heap.size,0,ae⟩),aA (ag ⟨w1.heap.size,0,ae⟩)] [1,11,12,13,17,18,19,20] (λw g=>DT w g J u o n m f fb mJ i b (j++r) Y) w4 G (λ_ _=>rfl) (by decide) (λ_ _ _ _ c h=>h.ch c (by decide)) ?_).mono ?_
 ·intro wz U
  have E:=Ch.start G U
  exact abQ ob u O V J w3.heap.size w.heap.size w1.heap.size q sm b s dv n m fb mJ o f i j r Y S P k N wz (R4.out.ch E (by decide)) (V4.out.ch E (by decide)) (F4.out.ch E (λt _ h=>by cases h)) (A4.out.ch E (by decide)) (N4.out.below U) (S4.out.ch E (by decide)) (D4.out.ch E (by decide)) (X4.out.ch E (λt _ h=>by cases h)) HS.out HN.out h1 hk aa HD.out HZ.out HB.out
 rintro e w5 ⟨rfl,l,C,f5⟩
 have C5:=aH C
 have F5:=aH f5
 have R5:=aH (R4.out.ch C (by decide))
 have V5:=aH (V4.out.ch C (by decide))
 have K5:=aH (K4.out.ch C (by decide))
 have S5:=aH (S4.out.ch C (by decide))
 have D5:=aH (D4.out.ch C (by decide))
 have o5:=oc R5.out
 have s5:=jY S5.out.row
 have d5:=jY D5.out.row
 clear C f5 ks kd
 go_wp2_with fail
 refine cj 9 (by kernel_rfl) (by kernel_rfl) ?_
 simp only[aJ,aO,aI,aL]
 repeat (go_big_quiet_step (fail))
 refine aU ?_
 intro wq lT
 obtain⟨nq,rfl⟩:=lT
 go_wp2_with fail
 have D:Ch [21] l w5 l ((w5.drewN nq).setCell ⟨ob,7,ae⟩ (ay az (s+(k:Int)))):=((Ch.refl _ _ _).drewN _).set _ (.inl (by rw[R5.out.tag];decide))
 have R6:=(R5.out.dn nq).set 7 (ay az (s+(k:Int)))
 obtain⟨z,I⟩:=bP ((w5.drewN nq).setCell ⟨ob,7,ae⟩ (ay az (s+(k:Int))))
 rw[I]at D R6
 rw[I]
 have C6:=aH D
 have x:=aH (show Row z l 21 ob (jL u sm b O V (s+(k:Int)) dv) 160 from R6)
 have V6:=aH (V5.out.ch D (by decide))
 have K6:=aH (K5.out.ch D (by decide))
 have Z:=aH (S5.out.ch D (by decide))
 have F6:=aH (F5.out.ch D (by decide))
 clear D R6 I o5 s5 d5
 have fl:=GF
 have ad:=Pn
 have qR:∀p:In (λw'=>w'.cell? ⟨w.heap.size,0,ae⟩=ag (aA (ag ⟨ob,0,ae⟩))/\w'.cell? ⟨ob,8,ae⟩=ag (ay az dv)),p.w.cell? ⟨w.heap.size,0,ae⟩=ag (aA (ag ⟨ob,0,ae⟩))/\p.w.cell? ⟨ob,8,ae⟩=ag (ay az dv):=λp=>p.h
 refine ct [0,1,2,3,4,5,6,7,8,9,10,11,12] 13 (λw'=>w'.cell? ⟨w.heap.size,0,ae⟩=ag (aA (ag ⟨ob,0,ae⟩))/\w'.cell? ⟨ob,8,ae⟩=ag (ay az dv)) (by kernel_rfl) (by kernel_rfl) (by intro c a d v w h;cases d <;> exact h) ⟨Z.out.cell 0,x.out.cell 8⟩ ?_
 intro dF
 simp only[pick,aV,a8,aQ,aR,aI,aL]
 refine aX 6 (by kernel_rfl) ?_
 simp only[aJ,aO,aI,aL]
 repeat (go_big_quiet_step (fail))
 refine aU ?_
 refine aS rfl ?_ rfl
 go_wp2_with fail
 refine(uH ob u sm b O V J (s+(k:Int)) dv z.drew (x.out.below (bi z)) (V6.out.below (bi z))).mono ?_
 rintro e w7 ⟨rfl,Da⟩
 have W:=aH (aM (bi z) Da)
 clear Da
 go_wp2_with fail
 refine⟨⟨⟨_,⟨(Z.out.below W.out).cell 0,(x.out.below W.out).cell 8⟩⟩,rfl⟩,?_⟩
 refine aS rfl ?_ rfl
 go_wp2_with fail
 refine(tO J u i 1 b (t7 1 b) (j++r) w7 l (F6.out.seg.ch (Ch.bh [] l W.out) (by decide))).mono ?_
 rintro e w8 ⟨rfl,Q⟩
 have A:=aH (aM W.out Q)
 clear Q
 go_wp2_with fail
 refine⟨⟨⟨_,⟨(Z.out.below A.out).cell 0,(x.out.below A.out).cell 8⟩⟩,rfl⟩,?_⟩
 refine aX 2 (by kernel_rfl) ?_
 simp only[aJ,aO,aI,aL]
 repeat (go_big_quiet_step (fail))
 refine aU ?_
 refine aS rfl ?_ rfl
 go_wp2_with fail
 refine⟨⟨⟨_,⟨(Z.out.below A.out).cell 0,(x.out.below A.out).cell 8⟩⟩,rfl⟩,?_⟩
 refine aX 2 (by kernel_rfl) ?_
 simp only[aJ,aO,aI,aL]
 repeat (go_big_quiet_step (fail))
 refine aU ?_
 refine bF ?_
 clear dF qR
 change wpList _ _ _ _ _ _
 have o8:=oc (x.out.below A.out)
 go_wp2_with fail
 go_ret2
 have c8:Ch [] l z l w8:=Ch.bh [] l A.out
 have c9:Ch [21] l w8 l (w8.setCell ⟨ob,8,ae⟩ (ay az dv)):=(Ch.refl _ _ _).set _ (.inl (by rw[x.out.tag];decide))
 have cc:Ch [21] l z l (w8.setCell ⟨ob,8,ae⟩ (ay az dv)):=c8.any.trans c9
 have cf:Ch [1,11,12,13,17,18,19,20,21] g w l z:=((B.out.any.trans C4.out.any).trans (C5.out.mono (by decide))).trans (C6.out.mono (by decide))
 have ff:=F6.out.ch cc (by decide)
 refine⟨rfl,l,cf.trans (cc.mono (by decide)),⟨⟨J,O,V,o,n,m,f,fb,mJ,i,Y,?_,V6.out.ch cc (by decide),K6.out.ch cc (by decide),ff.seg,ff.log⟩,M.out.1,M.out.2.1,M.out.2.2.1,by have:=HL.out;have:=M.out.2.2.2;omega,IC.out⟩⟩
 have h:=(x.out.below A.out).set 8 (ay az dv)
 rw[show((b+(j++r).length:Nat):Int)=s+(k:Int)by have:=HL.out;have:=NX.out;omega,DV.out]
 exact h
end
end Go.Proofs.YtooinenkenobaaaGreat

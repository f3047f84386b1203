/- A part of the proof of what LawWholeReaders says. -/
import Derived.Test.YtooinenkenobaaaGreatAa
import Derived.Test.YtooinenkenobaaaGreatBl
set_option maxRecDepth 100000
set_option maxHeartbeats 20000000
namespace Go.Proofs.YtooinenkenobaaaGreat
open Option renaming none->ae,some->ag
open Bool renaming false->ah,true->aj
open Go.Proofs.Tryz renaming prog->ax
open Go.Value renaming int->ay,pointer->aA,slice->aB,bool->aC,float->aD
open Go.IntKind renaming i64->az
open Go.FloatKind renaming f64->aE
open Go.Ending renaming returned->aF
open Go.Obj renaming cells->aG
open Go renaming World->am,Value->ar,TypeId->au,Calls->aw
section
open Go.RowKit Go.Maps
structure fw where
 id:Int
 size:Int
def ke(x:fw):List ar:=[ay az x.id,ay az x.size]
def Em(x:fw):ar:=.agg #[ay az x.id,ay az x.size]
def gR(c bytes b:Int)(e:ar)(a n:Nat)(line:ar)(d:Nat):Array ar:=
 #[ay az c,ay az bytes,ay az b,e,ay az a,ay az n,line,.map (ag d)]
theorem qc{w:am}{g:Tg}{t qb:Nat}{c bytes b:Int}{e:ar}{a n:Nat}{line:ar}{d:Nat}{f:au}(h:Row w g t qb (gR c bytes b e a n line d) f):
 qb<w.heap.size/\w.cell? ⟨qb,0,ae⟩=ag (ay az c)/\w.cell? ⟨qb,1,ae⟩=ag (ay az bytes)/\w.cell? ⟨qb,2,ae⟩=ag (ay az b)/\w.cell? ⟨qb,3,ae⟩=ag e/\w.cell? ⟨qb,4,ae⟩=ag (ay az a)/\w.cell? ⟨qb,5,ae⟩=ag (ay az n)/\w.cell? ⟨qb,6,ae⟩=ag line/\w.cell? ⟨qb,7,ae⟩=ag (.map (ag d)):=
 ⟨h.lt,h.cell 0,h.cell 1,h.cell 2,h.cell 3,h.cell 4,h.cell 5,h.cell 6,h.cell 7⟩
theorem Sm(qb:Nat)(b bytes a:Int)(i:ar)(c n:Nat){line:ar}(f:Nat)(x:fw)(w:am)
 {g:Tg} {t:Nat} {j:au} (H:Row w g t qb (gR b bytes a i c n line f) j) (l:-4294967296<=bytes-a/\bytes-a<=4294967296):
 aw ax 258 #[aA (ag ⟨qb,0,ae⟩),Em x] w λe w'=>e=aF (aC (decide ((n:Int)<b/\x.size<=bytes-a)))/\Below w.heap.size w w':=by
 have C:=qc H
 clear H
 unfold Em
 have m:IntKind.i64.wrap (bytes-a)=bytes-a:=kT _ (by omega)
 obtain⟨id,size⟩:=x
 by_cases d:(n:Int)<b
 ·go_in
  go_wp2_with fail
  go_quiet (fail)
  go_wp2_with fail
  go_ret
  exact⟨by simp[d],aM (aY _ _) (below_drewN _ _)⟩
 ·have k:decide ((n:Int)<b)=ah:=bC d
  go_in
  go_wp2_with fail
  go_quiet (fail)
  go_wp2_with fail
  go_ret
  exact⟨by simp;intro h;omega,aM (aY _ _) (below_drewN _ _)⟩
theorem Jc(qb:Nat)(c bytes a:Int)(m:ar)(b n:Nat)(k:Option Addr)(h l:Nat)(i:Nat)(w:am)
 {g:Tg} {t:Nat} {o:au} (H:Row w g t qb (gR c bytes a m b n (aB k h l) i) o) (r:0<c):
 aw ax 35 #[aA (ag ⟨qb,0,ae⟩)] w λe w'=>e=aF (.agg #[ay az n,ay az a,ay az h])/\Below w.heap.size w w':=by
 obtain⟨u,q,d,f⟩:=bG w #[ay az 0,ay az 0,ay az 0] 125
 have s:=eH f.out
 have p:=qc (H.below d.out)
 clear H
 go_in
 go_wp2_with (first | (go_at_call 45;go_in) | fail)
 refine cj 15 (by kernel_rfl) (by kernel_rfl) ?_
 simp only[aJ,aO,aI,aL]
 repeat (go_big_quiet_step (fail))
 refine aU ?_
 intro x j
 obtain⟨nq,rfl⟩:=j
 go_wp2_with fail
 refine bn (cH rfl _ _ w.heap.size 125 _ (0,0) _ rfl (bE (bE (bE f.out 0 _) 1 _) 2 _) Tryz.underlying125 rfl (by kernel_rfl)) rfl ?_
 exact⟨rfl,bK (bK (bK (lG d.out nq) dx _) dx _) dx _⟩
theorem iv(x:fw):(ke x).length=2:=rfl
structure mZ(w:am)(g:Tg)(rb:Nat)(R:List fw):Prop where
 row:Row w g 31 rb (R.flatMap ke).toArray 397
theorem mZ.below{w w':am}{g:Tg}{rb:Nat}{R:List fw}(h:mZ w g rb R)(k:Below w.heap.size w w'):mZ w' g rb R:=⟨h.row.below k⟩
theorem mZ.get{w:am}{g:Tg}{rb:Nat}{R:List fw}(h:mZ w g rb R){i:Nat}{x:fw}(c:R[i]?=ag x):w.cell? ⟨rb,i*2,ae⟩=ag (ay az x.id)/\w.cell? ⟨rb,i*2+1,ae⟩=ag (ay az x.size):=by
 have a:=kC ke 2 iv R i 0 (by decide)
 have b:=kC ke 2 iv R i 1 (by decide)
 rw[c]at a b
 constructor
 ·rw[h.row.cell,oK];exact a
 ·rw[h.row.cell,oK];exact b
theorem Xx(a b:Nat):Int.tmod (a:Int) (b:Int)=((a%b:Nat):Int):=by
 rw[qd (by omega)];rfl
theorem ab2(qb:Nat)(h bytes c:Int)(rb b a n i:Nat)(line:ar)(r:Nat)(R:List fw)(x:fw)(w:am)
 {g:Tg} {t:Nat} {u:au} (H:Row w g t qb (gR h bytes c (aB (ag ⟨rb,0,ae⟩) b b) a n line r) u) (G:mZ w g rb R) (q:0<b) (C:b<=100000) (A:a<b) (B:i<b) (hx:R[(a+i)%b]?=ag x):
 aw ax 234 #[aA (ag ⟨qb,3,ae⟩),ay az i] w λe w'=>e=aF (Em x)/\Below w.heap.size w w':=by
 obtain⟨E,z,d,l⟩:=bG w #[ay az 0,ay az 0] 397
 have D:=gc l.out
 have y:=qc (H.below d.out)
 have f:=G.get hx
 have o:=bL d.out f.1
 have p:=bL d.out f.2
 obtain⟨k,j⟩:=bP ((a+i)%b)
 have m:=nj (a+i) q
 have J:((a:Int)+(i:Int))%(b:Int)=(k:Int):=by rw[<-j];rfl
 rw[j]at o p m
 have I:(k:Int)<(b:Int):=by omega
 clear H G f hx j
 go_in
 go_wp2_with fail
 refine cj 18 (by kernel_rfl) (by kernel_rfl) ?_
 simp only[aJ,aO,aI,aL]
 repeat (go_big_quiet_step (fail))
 refine aU ?_
 intro F s
 obtain⟨nq,rfl⟩:=s
 go_wp2_with fail
 refine bn (cH rfl _ _ w.heap.size 397 _ (0,0) _ rfl (bE (bE l.out 0 _) 1 _) Tryz.underlying397 rfl (by kernel_rfl)) rfl ?_
 exact⟨rfl,bK (bK (lG d.out nq) dx _) dx _⟩
theorem rU(x:fw):∀u∈ke x,u.oneCell'=aj:=λu a=>by
 unfold ke at a
 simp only[cR,dK,iG]at a
 rcases a with rfl | rfl <;> rfl
theorem Tryz.o9:(Tryz.prog.info? 397).map (λi=>(i.zero,i.size,i.bytes))=ag (ag (.agg #[ay az 0,ay az 0]),2,16):=by kernel_rfl
def Nq:=fC ke 397 2
structure jT(R:List fw)(front:Nat)(L:List fw):Prop where
 le:L.length<=R.length
 Mj:R.length<=100000
 lt:front<R.length
 ie:∀i,i<L.length->R[(front+i)%R.length]?=L[i]?
theorem agk(qb:Nat)(l bytes c:Int)(rb b a n:Nat)(line:ar)(Q:Nat)(R L:List fw)(w:am)
 {g:Tg} {t:Nat} {ty:au} (H:Row w g t qb (gR l bytes c (aB (ag ⟨rb,0,ae⟩) b b) a n line Q) ty) (G:mZ w g rb R) (O:R.length=b) (P:L.length=n) (K:jT R a L):
 aw ax 226 #[aA (ag ⟨qb,3,ae⟩)] w λe w'=>∃v,e=aF v/\Nq w' v L/\(∀q,v.ownBlock=ag q->w.heap.size<=q)/\Below w.heap.size w w':=by
 have C:=qc H
 have Y:=aH H
 have W:=aH G
 have j:=aH K
 have f:=aH O
 have z:=aH P
 have n1:n<=100000:=by have:=K.le;have:=K.Mj;omega
 clear H G K O P
 go_in
 go_wp2_with fail
 go_loopw [3,9] (λu i wr=>∃k:Nat,k<=n/\i=ay az k/\Hid (Nq wr u (L.take k))/\Hid (∀q,u.ownBlock=ag q->w.heap.size<=q)/\Hid (Below w.heap.size w wr)) (λ_ i _=>n-(intOf i).toNat)
 case atStart=>exact⟨0,cF _,rfl,aH (fC.nil _ _ _ _),aH (λq F=>by cases F),aH (cX _ _)⟩
 case round=>
  obtain⟨k,hk,rfl,p,r,d⟩:=hrel
  by_cases fp:k<n
  ·have kz:(k:Int)<(n:Int):=by omega
   have A:=aH (show k<L.length by rw[z.out];exact fp)
   obtain⟨x,hx⟩:∃x,L[k]?=ag x:=⟨L[k]'A.out,aP A.out⟩
   have J:=aH hx
   clear C hx
   go_wp2_with fail
   refine(ab2 qb l bytes c rb b a n k line Q R x wr (Y.out.below d.out) (W.out.below d.out) (by have:=j.out.lt;have:=f.out;omega) (by have:=j.out.Mj;have:=f.out;omega) (by have:=j.out.lt;have:=f.out;omega) (by have:=j.out.le;have:=f.out;have:=z.out;omega) (by rw[<-f.out,j.out.ie k A.out];exact J.out)).mono ?_
   rintro e s ⟨rfl,E⟩
   unfold Em
   have y:=aH (aM d.out E)
   have M:=aH (p.out.below E)
   clear E
   have I:=iT s (ke x) 397
   have B:=aH (M.out.below (aY s (aG (ke x).toArray 397)))
   have m:=aH (aM y.out (aY s (aG (ke x).toArray 397)))
   have D:=aH I
   clear I
   unfold ke at D B m
   go_wp2_with (at_builtin;refine cY (o:=⟨ag 17,_,_,_,_,_⟩) rfl _ _ 161 397 rfl Tryz.underlying161 Tryz.o9 rfl (by decide) (by decide) ke iv rU _ (L.take k) rfl B.out ⟨s.heap.size,0,ae⟩ x rfl D.out (by rw[dg];omega) ?_)
   intro U w5 N S T
   have X:=aH (show Nq w5 U (L.take (k+1))from by
    have e:L.take (k+1)=L.take k++[x]:=by rw[ip,J.out];rfl
    rw[e];exact N)
   have V:=aH (m.out.grown S (by have:=m.out.size;omega) r.out)
   have Z:=aH (show ∀q,U.ownBlock=ag q->w.heap.size<=q from λq F=>by
    rcases T q F with h | h
    ·exact r.out q h
    ·have:=y.out.size;omega)
   clear N S T B D p r d M y m
   go_wp2_with fail
   go_roundw
   case rel=>exact⟨k+1,by omega,by go_num,X,Z,V⟩
   case measure=>simp[intOf];omega
  ·obtain rfl:k=n:=by omega
   have kz:(k:Int)<=(k:Int):=by omega
   have e:L.take k=L:=fE (by rw[z.out];omega)
   rw[e]at p
   clear e C
   go_wp2_with fail
   go_ret
   exact⟨_,rfl,p.out,r.out,d.out⟩
theorem Oo(qb:Nat)(c bytes b:Int){f:ar}(a:Nat)(line:ar)(d:Nat)(w:am)
 {g:Tg} {t:Nat} {h:au} (H:Row w g t qb (gR c bytes b f a 0 line d) h):
 aw ax 226 #[aA (ag ⟨qb,3,ae⟩)] w λe w'=>e=aF (aB ae 0 0)/\w'=w:=by
 have C:=qc H
 clear H
 go_in
 go_wp2_with fail
 refine sw 1 ?_
 rw[KU]
 go_wp2_with fail
 go_ret
 exact⟨rfl,rfl⟩
structure iW(w:am)(g:Tg)(lv:ar)(front n:Nat)(L:List fw):Prop where
 len:L.length=n
 ex:(lv=aB ae 0 0/\L=[]/\front=0)\/∃rb R,lv=aB (ag ⟨rb,0,ae⟩) R.length R.length/\mZ w g rb R/\jT R front L
theorem iW.ch{T:List Nat}{w w':am}{g g':Tg}{b:ar}{a n:Nat}{L:List fw}(h:iW w g b a n L)(c:Ch T g w g' w')(f:31∉T):iW w' g' b a n L:=by
 refine⟨h.len,?_⟩
 rcases h.ex with h | ⟨rb,R,d,i,e⟩
 ·exact .inl h
 ·exact .inr ⟨rb,R,d,⟨i.row.ch c f⟩,e⟩
theorem iW.below{w w':am}{g:Tg}{b:ar}{a n:Nat}{L:List fw}(h:iW w g b a n L)(c:Below w.heap.size w w'):iW w' g b a n L:=h.ch (Ch.bh [] g c) (by decide)
theorem Oq(qb:Nat)(c bytes b:Int)(h:ar)(a n:Nat)(line:ar)(d:Nat)(L:List fw)(w:am)
 {g:Tg} {t:Nat} {l:au} (H:Row w g t qb (gR c bytes b h a n line d) l) (K:iW w g h a n L):
 aw ax 226 #[aA (ag ⟨qb,3,ae⟩)] w λe w'=>∃v,e=aF v/\Nq w' v L/\(∀q,v.ownBlock=ag q->w.heap.size<=q)/\Below w.heap.size w w':=by
 have f:=K.len
 rcases K.ex with⟨rfl,rfl,rfl⟩ | ⟨rb,R,rfl,k,i⟩
 ·obtain rfl:n=0:=by simpa using f.symm
  refine(Oo qb c bytes b 0 line d w H).mono ?_
  rintro e w' ⟨rfl,rfl⟩
  exact⟨_,rfl,fC.nil _ _ _ _,(λq j=>nomatch j),cX _ _⟩
 ·exact agk qb c bytes b rb R.length a n line d R L w H k rfl f i
theorem Lv(a b c:Nat)(d:a<c)(e:b<c):(a+b)%c=if a+b<c then a+b else a+b-c:=by
 split
 ·exact dD ‹_›
 ·rw[Nat.mod_eq_sub_mod (by omega),dD (by omega)]
theorem jT.push{R L:List fw}{a n:Nat}{x:fw}(h:jT R a L)(f:L.length=n)(g:n<R.length):jT (R.set ((a+n)%R.length) x) a (L++[x]):=by
 have c:=h.lt
 have b:(R.set ((a+n)%R.length) x).length=R.length:=fZ
 refine⟨by rw[b,aN];simp;omega,by rw[b];exact h.Mj,by rw[b];exact c,λi d=>?_⟩
 rw[aN]at d
 simp at d
 rw[b,eB]
 have j:=Lv a i R.length c (by omega)
 have k:=Lv a n R.length c g
 by_cases e:i=n
 ·subst e
  rw[bj rfl,bj (nj _ (by omega)),<-f,bH dx,dR]
  rfl
 ·have l:¬(a+n)%R.length=(a+i)%R.length:=by
   rw[j,k]
   split <;> split <;> omega
  rw[bf l,bI (by omega)]
  exact h.ie i (by omega)
theorem jT.grown{L:List fw}{n:Nat}{Z:List fw}(b:L.length=n)(d:n<=2000)(c:Z.length=n+1):jT (L++Z) 0 L:=by
 have e:(L++Z).length=n+(n+1):=by rw[aN,b,c]
 refine⟨by omega,by omega,by omega,λi a=>?_⟩
 rw[cL,dD (by omega),bI a]
theorem jt{g:Tg}{a b s t:Nat}(c:g a=s)(d:g b=t)(h:s≠t):a≠b:=λe=>h (by rw[<-c,<-d,e])
theorem FO(qb:Nat)(h bytes c:Int)(A:ar)(a n:Nat)(line:ar)(u:Nat)(L:List fw)(x:fw)(w:am)
 {g:Tg} (H:Hid (Row w g 30 qb (gR h bytes c A a n line u) 166)) (rb b:Nat) (p:A=aB (ag ⟨rb,0,ae⟩) b b) (R:List fw) (i:R.length=b) (G:mZ w g rb R) (K:jT R a L) (o:L.length=n) (W:n<b):
 aw ax 267 #[aA (ag ⟨qb,3,ae⟩),Em x] w λe w'=>e=aF (.tuple #[])/\Ch [30,31] g w g w'/\∃B z,Row w' g 30 qb (gR h bytes c B z (n+1) line u) 166/\iW w' g B z (n+1) (L++[x]):=by
 subst p
 obtain⟨id,size⟩:=x
 unfold Em
 obtain⟨Y,U,d,I⟩:=bG w #[ay az id,ay az size] 397
 have X:=gc I.out
 have N:=qc (H.out.below d.out)
 have Q:=(H.out.below d.out).free 5
 obtain⟨k,j⟩:=bP ((a+n)%b)
 have zO:a<b:=by rw[<-i];exact K.lt
 have V:b<=100000:=by rw[<-i];exact K.Mj
 have C:=nj (a+n) (show 0<b by omega)
 rw[j]at C
 obtain⟨y,q⟩:∃y,R[k]?=ag y:=⟨R[k]'(by omega),aP (by omega)⟩
 have O:=bL d.out (G.get q).1
 have P:=bL d.out (G.get q).2
 have S:=(G.row.below d.out).free (k*2)
 have T:=(G.row.below d.out).free (k*2+1)
 have z2:((a:Int)+(n:Int))%(b:Int)=(k:Int):=by rw[<-j];rfl
 have yD:(k:Int)<(b:Int):=by omega
 have J:((n:Int)==(b:Int))=ah:=by simp;omega
 have f:qb≠rb:=jt H.out.tag G.row.tag (by decide)
 have s:rb≠qb:=cQ f
 have m:=aH G
 have F:=aH (show jT (R.set k ⟨id,size⟩) a (L++[⟨id,size⟩])from by rw[<-j,<-i];exact K.push o (by omega))
 have E:=aH i
 have D:=aH (show(L++[(⟨id,size⟩:fw)]).length=n+1 by rw[aN,o];rfl)
 clear G K i j q o
 go_in
 go_wp2_with fail
 go_quiet (fail)
 go_wp2_with fail
 refine cj 21 (by kernel_rfl) (by kernel_rfl) ?_
 simp only[aJ,aO,aI,aL]
 repeat (go_big_quiet_step (fail))
 refine aU ?_
 intro Z M
 obtain⟨nq,rfl⟩:=M
 go_wp2_with fail
 go_end0
 rename_i r
 have l:=lG d.out (r+nq)
 have t:=((m.out.row.below l).set (k*2) (ay az id)).set (k*2+1) (ay az size)
 rw[yN ke (x:=⟨id,size⟩) rfl iv]at t
 refine⟨rfl,(((Ch.bh [30,31] g l).set _ (.inl (by rw[m.out.row.tag];decide))).set _ (.inl (by rw[m.out.row.tag];decide))).set _ (.inl (by rw[H.out.tag];decide)),aB (ag ⟨rb,0,ae⟩) b b,a,(((H.out.below l).iZ f).iZ f).set 5 _,D.out,.inr ⟨rb,_,?_,⟨t.iZ s⟩,F.out⟩⟩
 rw[fZ,E.out]
theorem FP(qb:Nat)(k bytes c:Int)(V:ar)(b n:Nat)(line:ar)(U:Nat)(L:List fw)(x:fw)(w:am)
 {g:Tg} (H:Hid (Row w g 30 qb (gR k bytes c V b n line U) 166)) (ao:Option Addr) (Q:V=aB ao n n) (K:iW w g V b n L) (hn:n<=2000):
 aw ax 267 #[aA (ag ⟨qb,3,ae⟩),Em x] w λe w'=>e=aF (.tuple #[])/\∃g' sX jv,Ch [30,31] g w g' w'/\Row w' g' 30 qb (gR k bytes c sX jv (n+1) line U) 166/\iW w' g' sX jv (n+1) (L++[x]):=by
 subst Q
 obtain⟨id,size⟩:=x
 unfold Em
 obtain⟨a,gv,f,O⟩:=bG w #[ay az id,ay az size] 397
 have j9:=gc O.out
 have C1:=qc (H.out.below f.out)
 have KK:=aH K
 have P:=K.len
 have HL:=aH (show(L++[(⟨id,size⟩:fw)]).length=n+1 by rw[aN,P];rfl)
 have r:=aH P
 have qw:Hid (qb<w.heap.size):=aH H.out.lt
 obtain⟨m,hm⟩:=bP (2*n+1)
 have mk:=xP 161 397 Tryz.underlying161 Tryz.o9 (by decide) m (2*(n:Int)+1) (by omega) (by omega)
 have d:=aH hm
 clear K P hm
 go_in
 go_wp2_with fail
 go_quiet (fail)
 go_wp2_with fail
 have b3:=lG (cX a.heap.size a) nq
 have b4:=b3.trans (aY (a.drewN nq) (aG (madeCells #[Value.int IntKind.i64 0,Value.int IntKind.i64 0] (m*2)) 397))
 have I:=bp (a.drewN nq) (aG (madeCells #[Value.int IntKind.i64 0,Value.int IntKind.i64 0] (m*2)) 397)
 rw[show(a.drewN nq).heap.size=a.heap.size from rfl]at I
 generalize pD:(a.drewN nq).alloc (aG (madeCells #[Value.int IntKind.i64 0,Value.int IntKind.i64 0] (m*2)) 397)=w3 at b4 I ⊢
 have J:=aH b4
 have M:=aH I
 clear b3 b4 I pD mk C1
 refine(Oq qb k bytes c (aB ao n n) b n line U L w3 ((H.out.below f.out).below J.out) ((KK.out.below f.out).below J.out)).mono ?_
 rintro e w4 ⟨v,rfl,F,S,X⟩
 have O4:=aH F
 have B4:=aH (aM J.out X)
 have N:=aH ((X.block _ (aT M.out)).trans M.out)
 rw[show(madeCells #[Value.int IntKind.i64 0,Value.int IntKind.i64 0] (m*2))=((List.replicate m (⟨0,0⟩:fw)).flatMap ke).toArray from by rw[<-A7 ke 2 (by decide) iv #[Value.int IntKind.i64 0,Value.int IntKind.i64 0] ⟨0,0⟩ rfl m]]at N
 clear F X S M
 have DX:=aH (show(L.flatMap ke).length<=((List.replicate m (⟨0,0⟩:fw)).flatMap ke).length from by rw[jC ke 2 iv,jC ke 2 iv,dW,r.out];have:=d.out;omega)
 have C:=aH (show ∀u∈L.flatMap ke,u.oneCell'=aj from λu hu=>by
  obtain⟨x,-,hx⟩:=List.mem_flatMap.1 hu
  exact rU x u hx)
 have LM:=aH (show L.length<=m by rw[r.out];have:=d.out;omega)
 go_wp2_with (refine zR (o:=⟨ag 25,_,_,_,_,_⟩) rfl 161 rfl 397 2 Tryz.underlying161 (by kernel_rfl) a.heap.size m m rfl ((List.replicate m (⟨0,0⟩:fw)).flatMap ke) 397 N.out v L.length (L.flatMap ke) rfl O4.out LM.out DX.out C.out ?_)
 intro Z Gm D
 have s:=Gm.out
 have kL:=D.out
 unfold aai at s
 clear Gm D
 have z:=aH (show Below a.heap.size a Z from B4.out.grown kL B4.out.size (λq hq=>by injection hq with e;omega))
 have hR:(L.flatMap ke++((List.replicate m (⟨0,0⟩:fw)).flatMap ke).drop (L.flatMap ke).length)=(L++List.replicate (n+1) (⟨0,0⟩:fw)).flatMap ke:=by
  rw[jC ke 2 iv,uT ke 2 iv,List.drop_replicate,EA,r.out,show m-n=n+1 by have:=d.out;omega]
 rw[hR]at s
 have B:=aH (show(L++List.replicate (n+1) (⟨0,0⟩:fw)).length=m by rw[aN,dW,r.out];have:=d.out;omega)
 have KI:=aH (show jT (L++List.replicate (n+1) (⟨0,0⟩:fw)) 0 L from jT.grown r.out hn (by rw[dW]))
 obtain⟨R,E⟩:=bP (L++List.replicate (n+1) (⟨0,0⟩:fw))
 rw[E]at s B KI
 have R5:=aH s
 obtain⟨y,T⟩:∃y,R[n]?=ag y:=⟨R[n]'(by have:=B.out;have:=d.out;omega),aP _⟩
 have A:mZ Z (tg g a.heap.size 31) a.heap.size R:=⟨⟨s,dG _ _ _⟩⟩
 have e0:=(A.get T).1
 have e1:=(A.get T).2
 have g0:=A.row.free (n*2)
 have g1:=A.row.free (n*2+1)
 have C5:=qc ((H.out.below f.out).below z.out)
 have G:=((H.out.below f.out).below z.out).ahy
 have f3:=G 3
 have f4:=G 4
 have f5:=G 5
 have k5:=gc ((z.out.block _ (aT O.out)).trans O.out)
 have j:qb≠a.heap.size:=by have:=qw.out;have:=f.out.size;omega
 have p:a.heap.size≠qb:=cQ j
 have z2:(n:Int)%(m:Int)=(n:Int):=by have:=d.out;exact Int.emod_eq_of_lt (by omega) (by omega)
 have aa:(n:Int)<(m:Int):=by have:=d.out;omega
 have mz:(m:Int)<=100000:=by have:=d.out;omega
 clear s kL hR E T A G j9 N O4 DX C LM
 go_wp2_with fail
 refine cj 21 (by kernel_rfl) (by kernel_rfl) ?_
 simp only[aJ,aO,aI,aL]
 repeat (go_big_quiet_step (fail))
 refine aU ?_
 intro wq lT
 obtain⟨W,rfl⟩:=lT
 go_wp2_with fail
 go_end0
 have l:w.heap.size<=a.heap.size:=f.out.size
 have HX:=((H.out.below f.out).below z.out).gE (g':=tg g a.heap.size 31) (dA j)
 have G0:Row Z (tg g a.heap.size 31) 31 a.heap.size (R.flatMap ke).toArray 397:=⟨R5.out,dG _ _ _⟩
 have G3:=((((G0.iZ (i:=3) (v:=aB (ag ⟨a.heap.size,0,ae⟩) m m) p).iZ (i:=4) (v:=ay az 0) p).dn W).set (n*2) (ay az id)).set (n*2+1) (ay az size)
 rw[yN ke (x:=⟨id,size⟩) rfl iv]at G3
 have CH:=(Ch.bh [30,31] g (aM f.out z.out)).tg (t:=31) l
 have Y:tg g a.heap.size 31 qb∈[30,31]:=by rw[HX.tag];decide
 refine⟨rfl,tg g a.heap.size 31,aB (ag ⟨a.heap.size,0,ae⟩) m m,0,((((((CH.set _ (.inl Y)).set _ (.inl Y)).drewN W).set _ (.inr l)).set _ (.inr l)).set _ (.inl Y)),(((((HX.set 3 _).set 4 _).dn W).iZ j).iZ j).set 5 _,HL.out,.inr ⟨a.heap.size,R.set n ⟨id,size⟩,?_,⟨?_⟩,?_⟩⟩
 ·rw[fZ,B.out]
 ·exact G3.iZ p
 ·have h:=KI.out.push (x:=⟨id,size⟩) r.out (by have:=B.out;have:=d.out;omega)
  rw[cL,dD (by have:=B.out;have:=d.out;omega)]at h
  exact h
theorem ab1(qb:Nat)(c bytes b:Int)(d:ar)(a n:Nat)(line:ar)(f:Nat)(L:List fw)(x:fw)(w:am)
 {g:Tg} (H:Hid (Row w g 30 qb (gR c bytes b d a n line f) 166)) (K:iW w g d a n L) (t:n<=2000):
 aw ax 267 #[aA (ag ⟨qb,3,ae⟩),Em x] w λe w'=>e=aF (.tuple #[])/\∃g' j i,Ch [30,31] g w g' w'/\Row w' g' 30 qb (gR c bytes b j i (n+1) line f) 166/\iW w' g' j i (n+1) (L++[x]):=by
 have o:=K.len
 by_cases l:∃k,d=aB k n n
 ·obtain⟨k,e⟩:=l
  exact FP qb c bytes b d a n line f L x w H k e K t
 ·rcases K.ex with⟨rfl,rfl,rfl⟩ | ⟨rb,R,e,u,m⟩
  ·exact absurd ⟨ae,by rw[<-o];rfl⟩ l
  ·have s:=m.le
   refine(FO qb c bytes b d a n line f L x w H rb R.length e R rfl u m o (by
    rcases cg n R.length with h | h
    ·exact h
    ·exact absurd ⟨ag ⟨rb,0,ae⟩,by rw[e,show R.length=n by omega]⟩ l)).mono ?_
   rintro e w' ⟨rfl,r,j,i,p,q⟩
   exact⟨rfl,g,j,i,r,p,q⟩
theorem jT.pop{R L:List fw}{a:Nat}{x:fw}(h:jT R a (x::L)):jT R ((a+1)%R.length) L:=by
 have b:=h.le
 simp at b
 refine⟨by omega,h.Mj,nj _ (by omega),λi c=>?_⟩
 have:=h.ie (i+1) (by simp;omega)
 rw[tI]at this
 rw[<-this,Nat.mod_add_mod,show a+1+i=a+(i+1)by omega]
theorem agj(qb:Nat)(d bytes c:Int)(u:ar)(a n:Nat)(line:ar)(t:Nat)(L:List fw)(x:fw)(w:am)
 {g:Tg} (H:Hid (Row w g 30 qb (gR d bytes c u a (n+1) line t) 166)) (rb b:Nat) (s:u=aB (ag ⟨rb,0,ae⟩) b b) (R:List fw) (j:R.length=b) (G:mZ w g rb R) (K:jT R a (x::L)) (S:L.length=n):
 aw ax 278 #[aA (ag ⟨qb,3,ae⟩)] w λe w'=>e=aF (Em x)/\Ch [30] g w g w'/\Row w' g 30 qb (gR d bytes c u ((a+1)%b) n line t) 166:=by
 subst s
 obtain⟨k,r⟩:=bP ((a+1)%b)
 have z2:((a:Int)+1)%(b:Int)=(k:Int):=by rw[<-r];rfl
 rw[r]
 clear r
 obtain⟨W,Q,q,B⟩:=bG w #[ay az 0,ay az 0] 397
 have X:a<b:=by rw[<-j];exact K.lt
 have T:b<=100000:=by rw[<-j];exact K.Mj
 have nb:n+1<=100000:=by have:=K.le;simp at this;omega
 have J:=aH (G.below q.out)
 have M:=aH (show R[(a+0)%b]?=ag x from by rw[<-j,K.ie 0 (by simp)];rfl)
 have A:=aH (H.out.below q.out)
 have z:qb≠w.heap.size:=by have:=H.out.lt;omega
 have P:=aH H.out.tag
 clear H G K j S
 go_in
 go_wp2_with fail
 refine(ab2 qb d bytes c rb b a (n+1) 0 line t R x W A.out J.out (by omega) T X (by omega) M.out).mono ?_
 rintro e m ⟨rfl,i⟩
 obtain⟨id,size⟩:=x
 unfold Em
 have o:=aH (aM q.out i)
 have f:=aH ((i.block _ (aT B.out)).trans B.out)
 have p:=aH (A.out.below i)
 clear i Q
 obtain⟨w3,pD,l,V⟩:=bG m #[ay az 0,ay az 0] 397
 have Z:=gc V.out
 have h:=aH (p.out.below l.out)
 have Y:=qc h.out
 have f4:=h.out.free 4
 have f5:=h.out.free 5
 have k2:=gc ((l.out.block _ (aT f.out)).trans f.out)
 have C:qb≠m.heap.size:=by have:=p.out.lt;omega
 have y:w.heap.size≠m.heap.size:=by have:=aT f.out;omega
 have n4:m.heap.size≠w.heap.size:=cQ y
 have D:w.heap.size≠qb:=cQ z
 have N:=aH ((l.out.block _ (aT f.out)).trans f.out)
 have I:=aH (aM o.out l.out)
 have O:=aH o.out.size
 clear p f o
 go_wp2_with fail
 refine cj 14 (by kernel_rfl) (by kernel_rfl) ?_
 simp only[aJ,aO,aI,aL]
 repeat (go_big_quiet_step (fail))
 refine aU ?_
 intro wq U
 obtain⟨nq,rfl⟩:=U
 go_wp2_with fail
 refine bn (cH rfl _ _ w.heap.size 397 #[ay az id,ay az size] (0,0) _ rfl ?_ Tryz.underlying397 rfl (by kernel_rfl)) rfl ?_
 ·exact bE (bE ((bD D).trans ((bD D).trans ((bD y).trans ((bD y).trans N.out)))) 0 _) 1 _
 ·have F:g qb∈[30]:=by rw[P.out];decide
  have E:=O.out
  exact⟨rfl,(((((((Ch.bh [30] g I.out).set _ (.inr E)).set _ (.inr E)).drewN nq).set _ (.inl F)).set _ (.inl F)).set _ (.inr dx)).set _ (.inr dx),((((((h.out.iZ C).iZ C).dn nq).set 4 _).set 5 _).iZ z).iZ z⟩
end
end Go.Proofs.YtooinenkenobaaaGreat

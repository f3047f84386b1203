/- A part of the proof of what LawWholeReaders says. -/
import Derived.Test.YtooinenkenobaaaGreatAa
import Derived.Test.YtooinenkenobaaaGreatBv
import Derived.Test.YtooinenkenobaaaGreatBl
import Derived.Test.YtooinenkenobaaaGreatBd
import Derived.Test.YtooinenkenobaaaGreatBs
import Derived.Test.YtooinenkenobaaaGreatBu
set_option maxRecDepth 100000
set_option maxHeartbeats 20000000
namespace Go.Proofs.YtooinenkenobaaaGreat
open Option renaming none->ae,some->ag
open Bool renaming false->ah,true->aj
open Go.Proofs.Tryz renaming prog->ax
open Go.Value renaming int->ay,pointer->aA,slice->aB,bool->aC,float->aD
open Go.IntKind renaming i64->az
open Go.FloatKind renaming f64->aE
open Go.Ending renaming returned->aF
open Go.Obj renaming cells->aG
open Go renaming World->am,Value->ar,TypeId->au,Calls->aw
section
open Go.RowKit Go.Maps
theorem abP(w:am):aw ax 89 #[ay az 1] w λe w'=>e=aF (.string om)/\Below w.heap.size w w':=by
 go_in
 go_wp2_with fail
 refine(Jj w).mono ?_
 rintro e b ⟨rfl,a⟩
 go_wp2_with fail
 refine(mP b).mono ?_
 rintro e c ⟨rfl,rfl⟩
 go_wp2_with fail
 go_ret
 exact⟨rfl,a⟩
theorem BM(s:ByteArray)(w:am):aw ax 87 #[aB ae 0 0,.string s] w λe w'=>e=aF (ay az (-1))/\w'=w:=by
 go_in
 go_wp2_with fail
 go_loopw [8] (λi wr=>i=ay az 0/\wr=w) (λ_ _=>0)
 case atStart=>exact⟨rfl,rfl⟩
 case round=>
  obtain⟨rfl,rfl⟩:=hrel
  go_wp2_with fail
  go_ret
  exact⟨rfl,rfl⟩
theorem wI(s:ByteArray)(w:am):aw ax 66 #[aB ae 0 0,.string s] w λe w'=>e=aF (aC ah)/\w'=w:=by
 go_in
 go_wp2_with fail
 refine(BM s w).mono ?_
 rintro e a ⟨rfl,rfl⟩
 go_wp2_with fail
 go_ret
 exact⟨rfl,rfl⟩
theorem Fx(a:Nat)(w:am):aw ax 108 #[aA (ag ⟨a,0,ae⟩),aB ae 0 0] w λe w'=>e=aF (.tuple #[])/\w'=w:=by
 go_in
 go_wp2_with fail
 go_loopw [8] (λi wr=>i=ay az 0/\wr=w) (λ_ _=>0)
 case atStart=>exact⟨rfl,rfl⟩
 case round=>
  obtain⟨rfl,rfl⟩:=hrel
  go_wp2_with fail
  go_end0
  exact⟨rfl,rfl⟩
theorem Cd(pb ob b:Nat)(c f d:ar)(w:am){g:Tg}(H:Row w g 24 pb #[aA (ag ⟨ob,0,ae⟩),c,f,d] 178)(j:w.cell? ⟨ob,0,ae⟩=ag (aA (ag ⟨b,0,ae⟩))):
 aw ax 90 #[aA (ag ⟨pb,0,ae⟩),aB ae 0 0,aB ae 0 0] w λe w'=>e=aF (.tuple #[])/\Ch [24] g w g w'/\Row w' g 24 pb #[aA (ag ⟨ob,0,ae⟩),c,ay az 0,d] 178:=by
 have a:=aH H
 have k:=Oj H.row
 clear H
 go_in
 go_wp2_with fail
 go_loopw [6,12] (λv i wr=>v=aB ae 0 0/\i=ay az 0/\wr=w) (λ_ _ _=>0)
 case atStart=>exact⟨rfl,rfl,rfl⟩
 case round=>
  obtain⟨rfl,rfl,rfl⟩:=hrel
  go_wp2_with fail
  refine(Fx b wr).mono ?_
  rintro e l ⟨rfl,rfl⟩
  go_wp2_with fail
  go_end0
  have h:=a.out.set 2 (ay az 0)
  exact⟨rfl,(Ch.refl _ _ _).set _ (.inl (by rw[a.out.tag];decide)),h⟩
theorem af8(k n m O:Nat)(a:Int){L:List gW}{f:Lit->Option ar}(y bs:List (BitVec 8))(s:ByteArray)(j:Option Addr)(c r:Nat)(w:am)(g:Tg)(H:nE w g k a L n m f)(F:uw w g 11 O y)(U:∀kl v,f kl=ag v->v=aA (ag ⟨O,0,ae⟩))(x:kK s=aj)(T:f (fS s)=ae)(hL:L.length<=50)(hn:n<=9)(hm:100000<=a/\a<=16777216)
 (Q:y.length<=1000) (S:bs.length=c) (aa:c<=1000) (W:cD w j bs) (o:∀b d,j=ag ⟨b,d,ae⟩->g b=0/\b<w.heap.size) (V:j=ae->r=0) (u:c<=r):
 aw ax 112 #[aA (ag ⟨k,0,ae⟩),.string s,aB j c r] w λe w'=>e=aF (.tuple #[])/\∃i g',Ch [1,5,10,14,15,16] g w g' w'/\nE w' g' k a (L++[.created s (ag ⟨i,0,ae⟩)]) (n+1) m (fU f (fS s) (aA (ag ⟨i,0,ae⟩)))/\uw w' g' 14 i bs:=by
 have HH:=aH H
 have FF:=aH F
 have HA:=aH U
 have HF:=aH T
 have C:=aH S
 have Y:=aH W
 have p:=aH o
 have H0:=aH Q
 have HN:=aH V
 clear H F U T S W o Q V
 go_in
 go_wp2_with fail
 refine(yV k n m 14 a L f s w g HH.out (by omega) (by omega) x HF.out).mono ?_
 rintro e X ⟨rfl,i,P,WD,l,M,G⟩
 have Z:=aH l
 have z:=aH M
 have D1:=aH G
 have G1:=aH (FF.out.ch l (by decide))
 have Y1:=aH (show cD X j bs from Y.out.same λq d e _=>l.gP q (p.out q d e).2 (by rw[(p.out q d e).1];decide))
 have T1:=aH (show ∀b d,j=ag ⟨b,d,ae⟩->P b=0 from λb d e=>(l.tag b (p.out b d e).2).trans (p.out b d e).1)
 clear l M G
 go_wp2_with fail
 refine(mP X).mono ?_
 rintro e w' ⟨rfl,rfl⟩
 go_wp2_with fail
 have B:fU f (fS s) (aA (ag ⟨i,0,ae⟩)) (fS s)=ag (aA (ag ⟨i,0,ae⟩)):=by unfold fU;rw[bj rfl]
 have A:=rD G1.out z.out (K:=1000) H0.out (by decide) (f:=fU f (fS s) (aA (ag ⟨i,0,ae⟩))) (λkl v h=>by
  unfold fU at h
  split at h
  ·exact .inr (by injection h with h;exact h.symm)
  ·exact .inl (HA.out kl v h))
 refine(te k (n+1) m 14 i 1000 a _ _ s [] bs j c r w' P D1.out z.out x B (by decide) (by decide) A (by omega) (by decide) (by omega) C.out Y1.out (λb d e _=>by rw[T1.out b d e];decide) HN.out u (by omega)).mono ?_
 rintro e w4 ⟨rfl,g4,D,I,t⟩
 have C4:=aH D
 rw[fY]at t
 have F4:=aH t
 have D4:=aH I
 clear D t I A
 go_wp2_with fail
 refine(mP w4).mono ?_
 rintro e w' ⟨rfl,rfl⟩
 go_wp2_with fail
 refine(yU k (n+1) m 14 i a _ _ s bs w' g4 D4.out F4.out x B (by rw[C.out];omega) (by decide)).mono ?_
 rintro e w5 ⟨rfl,g5,E,J,N⟩
 have C5:=aH E
 have F5:=aH N
 have D5:=aH J
 clear E N J
 go_wp2_with fail
 refine(mP w5).mono ?_
 rintro e w' ⟨rfl,rfl⟩
 go_wp2_with fail
 go_end0
 exact⟨rfl,i,g5,((Z.out.mono (by decide)).trans (C4.out.mono (by decide))).trans (C5.out.mono (by decide)),D5.out,F5.out⟩
theorem G4(a:Nat):(Do (Ao a)).length<=100:=by
 have c:=Fv ⟨1,a,0#32,0,0⟩
 have d:=FQ (Ao a)
 have b:List.flatMap zV (Ao a).l9=zV ⟨1,a,0#32,0,0⟩:=by simp[Ao]
 unfold Do Ht
 rw[b,aN,aN,dN]
 omega
theorem Cv:fS mT≠fS om:=λh=>by unfold fS at h;injection h with h;exact absurd h (by decide)
theorem Yh:fS GY≠fS om:=λh=>by unfold fS at h;injection h with h;exact absurd h (by decide)
noncomputable def Hg (b a:Nat):Lit->Option ar:=(gW.renamed mT GY).on (fU (fU gj (fS om) (aA (ag ⟨b,0,ae⟩))) (fS mT) (aA (ag ⟨a,0,ae⟩)))
theorem U7(a b:Nat):Hg a b (fS om)=ag (aA (ag ⟨a,0,ae⟩)):=by
 show fU (oD (fU (fU gj (fS om) (aA (ag ⟨a,0,ae⟩))) (fS mT) (aA (ag ⟨b,0,ae⟩))) (fS mT)) (fS GY) _ (fS om)=_
 unfold fU oD
 rw[bf (cQ Yh),bf (cQ Cv)]
 dsimp only
 rw[bf (cQ Cv),bj rfl]
theorem U8(b a:Nat):∀kl v,Hg b a kl=ag v->v=aA (ag ⟨b,0,ae⟩)\/v=aA (ag ⟨a,0,ae⟩):=λkl v h=>by
 change fU (oD (fU (fU gj (fS om) (aA (ag ⟨b,0,ae⟩))) (fS mT) (aA (ag ⟨a,0,ae⟩))) (fS mT)) (fS GY) ((fU (fU gj (fS om) (aA (ag ⟨b,0,ae⟩))) (fS mT) (aA (ag ⟨a,0,ae⟩)) (fS mT)).getD (aA ae)) kl=ag v at h
 unfold fU oD at h
 split at h
 ·rw[bj rfl]at h
  injection h with h
  exact .inr h.symm
 ·split at h
  ·cases h
  ·dsimp only at h
   split at h
   ·injection h with h;exact .inr h.symm
   ·split at h
    ·injection h with h;exact .inl h.symm
    ·cases h
theorem Xt(i j n d:Nat)(a:Int){o:List (BitVec 8)}(w:am)(g:Tg)(H:nE w g i a [.created om (ag ⟨j,0,ae⟩)] 1 0 (fU gj (fS om) (aA (ag ⟨j,0,ae⟩))))(F:uw w g 11 j o)(K:Row w g 23 n #[ay az 1,ay az d,ay .u32 0,ay az 0,ay az 0] 221)(hm:100000<=a/\a<=16777216)(O:o.length<=1000)(h1:1<=d)(h2:d<=1152921504606846976):
 aw ax 94 #[aA (ag ⟨i,0,ae⟩),.agg #[ay az 1,ay az d,aB (ag ⟨n,0,ae⟩) 1 1]] w λe w'=>e=aF (.tuple #[])/\∃k m g',Ch [1,5,6,10,14,15,16] g w g' w'/\nE w' g' i a [] 3 m (Hg j k)/\uw w' g' 14 k (Do (Ao d)):=by
 obtain⟨W,gv,M,dL⟩:=bG w #[ay az 1,ay az d,aB (ag ⟨n,0,ae⟩) 1 1] 157
 have j9:=eH dL.out
 have l:=aH (Ch.start g M.out)
 have C:=aH (H.ch l.out (by decide))
 have B:=aH (F.ch l.out (by decide))
 have K1:=aH (My (K.ch l.out (by decide)) h2)
 have H0:=aH O
 clear H F K O
 go_in
 go_wp2_with fail
 refine(Dl 1 d (ag ⟨n,0,ae⟩) 1 1 [⟨1,d,0#32,0,0⟩] W rfl K1.out (G7 h1)).mono ?_
 rintro e z ⟨v,rfl,S,P⟩
 obtain⟨D,cc,rfl,T,U,V,k4,y⟩:=S.slice
 have Q:=G4 d
 unfold Ao at Q
 obtain⟨c,t⟩:=bP ((Do ⟨1,d,[⟨1,d,0#32,0,0⟩]⟩).length)
 rw[t]at V Q ⊢
 obtain⟨G,s⟩:=bP (eJ g w.heap.size 0)
 have TG:=aH (show ∀b f,D=ag ⟨b,f,ae⟩->G b=0/\b<z.heap.size from λb f e=>⟨by rw[<-s];exact dQ (bJ M.out.size (y b f e).1),(y b f e).2⟩)
 rw[s]at l C B
 have HC:=aH t
 have K2:=aH U
 have Y2:=aH T
 have p:=aH (show Ch [] G W G z from Ch.bh [] G P)
 have H2:=aH (C.out.ch p.out (by decide))
 have F2:=aH (B.out.ch p.out (by decide))
 clear P S t T U y j9 s
 go_wp2_with fail
 refine(mP z).mono ?_
 rintro e w' ⟨rfl,rfl⟩
 go_wp2_with fail
 refine(Lt w').mono ?_
 rintro e A ⟨rfl,rfl⟩
 go_wp2_with fail
 refine(af8 i 1 0 j a o (Do ⟨1,d,[⟨1,d,0#32,0,0⟩]⟩) mT D c cc A G H2.out F2.out (λkl v h=>by
  unfold fU at h
  split at h
  ·injection h with h;exact h.symm
  ·cases h) tV (by unfold fU;rw[bf Cv];rfl) (by simp) (by decide) hm H0.out HC.out (by omega) Y2.out TG.out K2.out V).mono ?_
 rintro e w3 ⟨rfl,k,g3,E,I,N⟩
 have X:=aH E
 have D3:=aH I
 have F3:=aH N
 clear E I N
 go_wp2_with fail
 refine(Lt w3).mono ?_
 rintro e w' ⟨rfl,rfl⟩
 go_wp2_with fail
 refine(yc w').mono ?_
 rintro e A ⟨rfl,rfl⟩
 go_wp2_with fail
 have u:(fU (fU gj (fS om) (aA (ag ⟨j,0,ae⟩))) (fS mT) (aA (ag ⟨k,0,ae⟩))) (fS mT)=ag (aA (ag ⟨k,0,ae⟩)):=by
  unfold fU
  rw[bj rfl]
 refine(JU i 2 0 a mT GY A g3 D3.out (by simp) (by decide) tV Lx (by decide +kernel) u).mono ?_
 rintro e w4 ⟨rfl,g4,q,J⟩
 have Y:=aH q
 have D4:=aH J
 have F4:=aH (F3.out.ch q (by decide))
 clear q J
 go_wp2_with fail
 refine(mP w4).mono ?_
 rintro e w' ⟨rfl,rfl⟩
 go_wp2_with fail
 refine(GR i 3 0 a w' g4 D4.out (by simp) (by decide) (λx hx=>by
  simp only[eF,fY,cR,dK,iG]at hx
  rcases hx with rfl | rfl | rfl
  ·exact Cr
  ·exact tV
  ·exact⟨tV,Lx⟩)).mono ?_
 rintro e w5 ⟨rfl,g5,r,L⟩
 have Z:=aH r
 have D5:=aH L
 have F5:=aH (F4.out.ch r (by decide))
 clear r L
 go_wp2_with fail
 refine(mP w5).mono ?_
 rintro e w' ⟨rfl,rfl⟩
 go_wp2_with fail
 go_end0
 exact⟨rfl,k,_,g5,(((l.out.any.trans p.out.any).trans (X.out.mono (by decide))).trans (Y.out.mono (by decide))).trans (Z.out.mono (by decide)),D5.out,F5.out⟩
theorem eU{w:am}{b i:Nat}{cs:Array ar}{n:au}{v:ar}(h:w.heap[b]?=ag (.cells cs n (0,0)))(a:cs[i]?=ag v):w.setCell ⟨b,i,ae⟩ v=w:=by
 have k:=(br.1 h)
 obtain⟨l,e⟩:=k
 have f:cs.setIfInBounds i v=cs:=by
  apply Array.ext_getElem?
  intro j
  rw[Array.getElem?_setIfInBounds]
  split
  ·next e=>
   subst e;split
   ·exact a.symm
   ·next h=>rw[Array.getElem?_eq_none (by omega)]at a;cases a
  ·rfl
 have d:=bE h i v
 rw[f]at d
 have g:(w.setCell ⟨b,i,ae⟩ v).heap=w.heap:=by
  apply Array.ext_getElem?
  intro j
  by_cases c:j=b
  ·subst c;rw[d,h]
  ·exact bD c
 have m:w.setCell ⟨b,i,ae⟩ v={ w with heap:=(w.setCell ⟨b,i,ae⟩ v).heap }:=rfl
 rw[m,g]
def sM(b:Nat)(sm:Int)(a:Nat):Array ar:=#[aA (ag ⟨b,0,ae⟩),ay az sm,ay az a,ay az 0,ay az 0,aB ae 0 0,aB ae 0 0,ay az 0,ay az 0,aC ah,aC ah,ay az 0]
structure Ie(w:am)(g:Tg)(ob db:Nat)(sm:Int)(b0:Nat)(nx du:Int):Prop where
 ex:∃sb cb vb most m fb mJ,Row w g 21 ob (jL db sm b0 cb vb nx du) 160/\Row w g 22 vb #[aA (ag ⟨sb,0,ae⟩)] 182/\Row w g 23 cb #[ay az 1,ay az b0,ay .u32 0,ay az 0,ay az 0] 221/\
  lX w g sb db om 1 b0 (t7 1 b0) [] ah/\DW w g db most 3 m (Hg fb mJ) fb mJ om (C' 1 b0++bY (t7 1 b0) b0 []) (Do (Ao b0))
theorem Xw(pb ob l:Nat)(sm:Int)(b:Nat)(f:Int)(w:am)(g:Tg)(P:Row w g 24 pb #[aA (ag ⟨ob,0,ae⟩),aC ah,ay az 0,ay az 0] 178)(O:Row w g 21 ob (sM l sm b) 160)(D:nE w g l f [] 0 0 gj)(hm:100000<=f/\f<=16777216)(h1:1<=b)(h2:b<=1152921504606846976):
 aw ax 69 #[aA (ag ⟨pb,0,ae⟩),aB ae 0 0] w λe w'=>e=aF (.tuple #[])/\∃g',Ch [1,5,6,10,11,12,13,14,15,16,21,24] g w g' w'/\Ie w' g' ob l sm b 0 0/\Row w' g' 24 pb #[aA (ag ⟨ob,0,ae⟩),aC aj,ay az 0,ay az 0] 178:=by
 have PP:=aH P
 have OO:=aH O
 have DD:=aH D
 have Z:=aH hm
 clear P O D hm
 go_in
 go_wp2_with fail
 refine(Cd pb ob l (aC ah) (ay az 0) (ay az 0) w PP.out (OO.out.cell 0)).mono ?_
 rintro e n ⟨rfl,W,p1⟩
 have P1:=aH p1
 have C1:=aH W
 have O1:=aH (OO.out.ch W (by decide))
 have D1:=aH (DD.out.ch W (by decide))
 have kp:=Oj p1.row
 have o2:n.cell? ⟨ob,2,ae⟩=ag (ay az b):=O1.out.cell 2
 clear W p1
 obtain⟨N,lU,lZ,kG⟩:=bG n #[ay az 1,ay az b,ay .u32 0] 213
 have QK:=eH kG.out
 obtain⟨G,hG⟩:=bP (eJ g n.heap.size 0)
 have Q:=aH (show Ch [] g n G N from by rw[<-hG];exact Ch.start g lZ.out)
 have P2:=aH (P1.out.ch Q.out (by decide))
 have O2:=aH (O1.out.ch Q.out (by decide))
 have D2:=aH (D1.out.ch Q.out (by decide))
 have S:=aH (show Row N G 0 n.heap.size #[ay az 1,ay az b,ay .u32 0] 213 from⟨kG.out,by rw[<-hG];exact dQ dx⟩)
 clear hG
 have al:=eU (i:=2) (v:=ay .u32 0) kG.out rfl
 go_wp2_with fail
 clear al
 have qR:∀p:In (λw'=>w'.cell? ⟨ob,0,ae⟩=ag (aA (ag ⟨l,0,ae⟩))/\w'.cell? ⟨n.heap.size,0,ae⟩=ag (ay az 1)/\w'.cell? ⟨n.heap.size,1,ae⟩=ag (ay az b)/\w'.cell? ⟨n.heap.size,2,ae⟩=ag (ay .u32 0)),p.w.cell? ⟨ob,0,ae⟩=ag (aA (ag ⟨l,0,ae⟩))/\p.w.cell? ⟨n.heap.size,0,ae⟩=ag (ay az 1)/\p.w.cell? ⟨n.heap.size,1,ae⟩=ag (ay az b)/\p.w.cell? ⟨n.heap.size,2,ae⟩=ag (ay .u32 0):=λp=>p.h
 refine bX [0,1,2,3,4,5,7,6,8,9,10,11,12,13] (λw'=>w'.cell? ⟨ob,0,ae⟩=ag (aA (ag ⟨l,0,ae⟩))/\w'.cell? ⟨n.heap.size,0,ae⟩=ag (ay az 1)/\w'.cell? ⟨n.heap.size,1,ae⟩=ag (ay az b)/\w'.cell? ⟨n.heap.size,2,ae⟩=ag (ay .u32 0)) (by kernel_rfl) (by kernel_rfl) (by intro c a d v w h;cases d <;> exact h) ⟨O2.out.cell 0,S.out.cell 0,S.out.cell 1,S.out.cell 2⟩ ?_
 intro dF
 simp only[pick,aV,a8,aQ,aR]
 refine aX 7 (by kernel_rfl) ?_
 simp only[aJ,aO,aI,aL]
 repeat (go_big_quiet_step (fail))
 refine aU ?_
 refine aS rfl ?_ rfl
 go_wp2_with fail
 refine(abP N.drew).mono ?_
 rintro e w3 ⟨rfl,iY⟩
 have B3:=aH (aM (bi N) iY)
 clear iY
 have C:=aH (show Ch [] G N G w3 from Ch.bh [] G B3.out)
 have P3:=aH (P2.out.ch C.out (by decide))
 have O3:=aH (O2.out.ch C.out (by decide))
 have D3:=aH (D2.out.ch C.out (by decide))
 have U:=aH (S.out.ch C.out (by decide))
 go_wp2_with fail
 refine⟨⟨⟨_,⟨O3.out.cell 0,U.out.cell 0,U.out.cell 1,U.out.cell 2⟩⟩,rfl⟩,?_⟩
 refine aS rfl ?_ rfl
 go_wp2_with fail
 refine(I7 l f om 1 b w3 G D3.out Z.out Cr (by decide) h1 (by omega)).mono ?_
 rintro e w4 ⟨sb,K,A,rfl,I,s4,d4,f4⟩
 have C4:=aH I
 have S4:=aH s4
 have D4:=aH d4
 have F4:=aH f4
 have P4:=aH (P3.out.ch I (by decide))
 have F:=aH (O3.out.ch I (by decide))
 have V:=aH (U.out.ch I (by decide))
 clear I s4 d4 f4
 go_wp2_with fail
 refine⟨⟨⟨_,⟨F.out.cell 0,V.out.cell 0,V.out.cell 1,V.out.cell 2⟩⟩,rfl⟩,?_⟩
 refine aX 5 (by kernel_rfl) ?_
 simp only[aJ,aO,aI,aL]
 repeat (go_big_quiet_step (fail))
 refine aU ?_
 refine bF ?_
 clear dF qR
 go_wp2_with fail
 refine(mP w4).mono ?_
 rintro e k ⟨rfl,rfl⟩
 obtain⟨z,oA,Nw,DS⟩:=bG k #[ay az 1,ay az b,ay .u32 0,ay az 0,ay az 0] 221
 have ak:=aga DS.out
 have ab:=Nw.out
 have r:=aH (F.out.below ab)
 have ko:k.cell? ⟨ob,0,ae⟩=_:=F.out.cell 0
 have kf:∀j,z.frozen? ⟨ob,j,ae⟩=ah:=r.out.free
 have kh:=eH V.out.row
 have ad:z.cell? ⟨ob,3,ae⟩=ag (ay az 0):=r.out.cell 3
 have af:z.cell? ⟨ob,4,ae⟩=ag (ay az 0):=r.out.cell 4
 have ai:z.cell? ⟨ob,5,ae⟩=ag (aB ae 0 0):=r.out.cell 5
 have lo:ob<k.heap.size:=F.out.lt
 have ko:k.cell? ⟨ob,0,ae⟩=ag (aA (ag ⟨l,0,ae⟩)):=F.out.cell 0
 obtain⟨q,Y⟩:=bP (((z.setCell ⟨ob,3,ae⟩ (ay az 1)).setCell ⟨ob,4,ae⟩ (ay az b)).setCell ⟨ob,5,ae⟩ (aB (ag ⟨k.heap.size,0,ae⟩) 1 1))
 have X5:=aH (show Row q A 21 ob _ _ from by rw[<-Y];exact((r.out.set 3 (ay az 1)).set 4 (ay az b)).set 5 (aB (ag ⟨k.heap.size,0,ae⟩) 1 1))
 have C5:=aH (show Ch [21] A z A q from by rw[<-Y];exact(((Ch.refl _ _ _).set _ (.inl (by rw[r.out.tag];decide))).set _ (.inl (by rw[r.out.tag];decide))).set _ (.inl (by rw[r.out.tag];decide)))
 obtain⟨x6,an,u,aa⟩:=bG q #[aA (ag ⟨sb,0,ae⟩)] 182
 have X6:=aH (X5.out.below u.out)
 have f6:=X6.out.free 6
 have c6:x6.cell? ⟨ob,6,ae⟩=ag (aB ae 0 0):=X6.out.cell 6
 go_wp2_with fail
 have y6:=X6.out.set 6 (aB (ag ⟨q.heap.size,0,ae⟩) 1 1)
 obtain⟨y,L⟩:=bP (x6.setCell ⟨ob,6,ae⟩ (aB (ag ⟨q.heap.size,0,ae⟩) 1 1))
 rw[L]at y6 ⊢
 have l6:z.heap.size<=q.heap.size:=C5.out.size
 have n6:ob≠q.heap.size:=by omega
 have B:ob≠k.heap.size:=by omega
 obtain⟨s,M⟩:=bP (tg (tg A k.heap.size 23) q.heap.size 22)
 have E:=aH (show Ch [21] A k s y from by
  rw[<-L,<-M]
  exact((((((Ch.bh [] A Nw.out).any (T:=[21])).trans C5.out).on u.out).set _ (.inl (by rw[r.out.tag];decide))).tg dx).tg (by omega))
 have GO:s ob=21:=by rw[<-M,dA n6,dA B];exact r.out.tag
 have H:=aH (show Row y s 21 ob (jL l sm b k.heap.size q.heap.size 0 0) 160 from⟨y6.row,GO⟩)
 have YV:=aH (show Row y s 22 q.heap.size #[aA (ag ⟨sb,0,ae⟩)] 182 from⟨by rw[<-L];exact(bD (cQ n6)).trans aa.out,by rw[<-M];exact dG _ _ _⟩)
 have YK:=aH (show Row y s 23 k.heap.size #[ay az 1,ay az b,ay .u32 0,ay az 0,ay az 0] 221 from⟨by
  rw[<-L]
  refine(bD (cQ B)).trans ((u.out.block _ (by omega)).trans ?_)
  rw[<-Y]
  exact(bD (cQ B)).trans ((bD (cQ B)).trans ((bD (cQ B)).trans DS.out)),by rw[<-M,dA (by omega)];exact dG _ _ _⟩)
 have YS:=aH (S4.out.ch E.out (by decide))
 have YD:=aH (D4.out.ch E.out (by decide))
 have YF:=aH (F4.out.ch E.out (by decide))
 have YP:=aH (P4.out.ch E.out (by decide))
 clear y6 L M Y kf kh ad af ai f6 c6 l6 n6 B GO ko lo kp ak
 have qR:∀p:In (λw'=>w'.cell? ⟨ob,0,ae⟩=ag (aA (ag ⟨l,0,ae⟩))/\w'.cell? ⟨ob,3,ae⟩=ag (ay az 1)/\w'.cell? ⟨ob,4,ae⟩=ag (ay az b)/\w'.cell? ⟨ob,5,ae⟩=ag (aB (ag ⟨k.heap.size,0,ae⟩) 1 1)),p.w.cell? ⟨ob,0,ae⟩=ag (aA (ag ⟨l,0,ae⟩))/\p.w.cell? ⟨ob,3,ae⟩=ag (ay az 1)/\p.w.cell? ⟨ob,4,ae⟩=ag (ay az b)/\p.w.cell? ⟨ob,5,ae⟩=ag (aB (ag ⟨k.heap.size,0,ae⟩) 1 1):=λp=>p.h
 refine bX [0,1,2,3,4,5,6,7,8] (λw'=>w'.cell? ⟨ob,0,ae⟩=ag (aA (ag ⟨l,0,ae⟩))/\w'.cell? ⟨ob,3,ae⟩=ag (ay az 1)/\w'.cell? ⟨ob,4,ae⟩=ag (ay az b)/\w'.cell? ⟨ob,5,ae⟩=ag (aB (ag ⟨k.heap.size,0,ae⟩) 1 1)) (by kernel_rfl) (by kernel_rfl) (by intro c a d v w h;cases d <;> exact h) ⟨H.out.cell 0,H.out.cell 3,H.out.cell 4,H.out.cell 5⟩ ?_
 intro dF
 simp only[pick,aV,a8,aQ,aR]
 refine aX 8 (by kernel_rfl) ?_
 simp only[aJ,aO,aI,aL]
 repeat (go_big_quiet_step (fail))
 refine aU ?_
 refine aS rfl ?_ rfl
 go_wp2_with fail
 have J:Ch [] s y s y.drew:=Ch.bh [] s (bi y)
 refine(Xt l K k.heap.size b f y.drew s (YD.out.ch J (by decide)) (YF.out.ch J (by decide)) (YK.out.ch J (by decide)) Z.out (by rw[pP];decide) h1 h2).mono ?_
 rintro e w8 ⟨rfl,mJ,m,X,c8,d8,f8⟩
 have x:=aH (J.any.trans c8)
 have D8:=aH d8
 have F8:=aH f8
 have o:=aH (H.out.ch x.out (by decide))
 clear c8 d8 f8 J
 go_wp2_with fail
 refine⟨⟨⟨_,⟨o.out.cell 0,o.out.cell 3,o.out.cell 4,o.out.cell 5⟩⟩,rfl⟩,?_⟩
 refine bF ?_
 clear dF qR
 have P8:=aH (YP.out.ch x.out (by decide))
 have kp:=Oj P8.out.row
 go_wp2_with fail
 go_end0
 have t:Ch [24] X w8 X (w8.setCell ⟨pb,1,ae⟩ (aC aj)):=(Ch.refl _ _ _).set _ (.inl (by rw[P8.out.tag];decide))
 have h:=P8.out.set 1 (aC aj)
 have ac:uw (w8.setCell ⟨pb,1,ae⟩ (aC aj)) X 11 K (C' 1 b++bY (t7 1 b) b []):=by
  rw[show bY (t7 1 b) b []=[]from rfl,eP]
  exact(YF.out.ch x.out (by decide)).ch t (by decide)
 refine⟨rfl,X,(((((C1.out.mono (by decide)).trans Q.out.any).trans C.out.any).trans (C4.out.mono (by decide))).trans (E.out.mono (by decide))).trans ((x.out.mono (by decide)).trans (t.mono (by decide))),⟨⟨sb,k.heap.size,q.heap.size,f,m,K,mJ,o.out.ch t (by decide),(YV.out.ch x.out (by decide)).ch t (by decide),(YK.out.ch x.out (by decide)).ch t (by decide),(YS.out.ch x.out (by decide)).ch t (by decide),⟨D8.out.ch t (by decide),ac,F8.out.ch t (by decide),U7 K mJ,U8 K mJ,Cr,by decide,Z.out,?_,?_⟩⟩⟩,h⟩
 ·rw[aN,pP];show 32+0<=1000;decide
 ·have:=G4 b;omega
end
section
structure jb where
 next:Nat
 id:Option Nat
 kJ:Nat
structure kN where
 task:Nat
 call:Nat
 ask:fu
 err:Nat
 rl:Nat
 rd:By
 beg:Nat
 fin:Nat
structure iw where
 E:fm
 ts:List jb
 last:Int
 turns:List Nat
 cJ:List kN
abbrev eG:=List (List fu)
def mr(K:dw)(P:eG)(W:iw)(n:Nat):Bool:=match W.ts[n]?,P[n]? with
 | some t,ag l=>(match t.id with
  | none=>decide (t.next<l.length)
  | some i=>decide (i∈gZ K W.E))
 | _,_=>ah
def kU(K:dw)(W:iw):Bool:=match W.E.cW with
 | some i=>(match W.E.cs[i]? with
  | some c=>decide (c.st=6)&&!decide (i∈gZ K W.E)
  | none=>ah)
 | none=>ah
def ft(K:dw)(P:eG)(W:iw):List Nat:=(List.range P.length).filter (mr K P W)++(if kU K W then[P.length]else[])
def whose(picks:List Nat)(W:iw)(l:List Nat):Nat:=match picks[W.turns.length]? with
 | some k=>l[k%l.length]?.getD 0
 | none=>(match l.find? (λp:Nat=>decide (W.last<(p:Int)))with
  | some p=>p
  | none=>l[0]?.getD 0)
def jf(a:List jb)(n:Nat)(f:jb->jb):List jb:=match a[n]? with
 | some t=>a.set n (f t)
 | none=>a
def mD(a:List kN)(n:Nat)(f:kN->kN):List kN:=match a[n]? with
 | some t=>a.set n (f t)
 | none=>a
def fN(P:eG)(W:iw)(n:Nat):iw:=match W.ts[n]?,P[n]? with
 | some t,ag l=>(match l[t.next]? with
  | some a=>{ W with E:=gT W.E a,ts:=jf W.ts n (λt=>{ next:=t.next+1,id:=ag W.E.cs.length,kJ:=W.cJ.length }),cJ:=W.cJ++[⟨n,t.next,a,0,0,[],2*W.turns.length,0⟩] }
  | none=>W)
 | _,_=>W
def iH(K:dw)(W:iw)(n a:Nat):iw:=match W.ts[n]? with
 | some t=>(match t.id with
  | some i=>
   let E:=fK K W.E i a
   (match E.cs[i]? with
   | some c=>if c.st=9 then{ W with E:=E,ts:=jf W.ts n (λt=>{ t with id:=ae }),cJ:=mD W.cJ t.kJ (λp=>{ p with err:=c.err,rl:=c.rl,rd:=c.rd,fin:=2*W.turns.length+1 }) }else{ W with E:=E }
   | none=>W)
  | none=>W)
 | none=>W
def Jw(W:iw)(n:Nat):Bool:=match W.ts[n]? with
 | some t=>t.id.isNone
 | none=>ah
def gY(K:dw)(P:eG)(W:iw)(p a t:Nat):iw:=
 let b:={ W with last:=(p:Int),turns:=W.turns++[p] }
 if p=P.length then{ b with E:={ b.E with now:=t } }
 else iH K (if Jw W p then fN P b p else b) p a
def iA(E:fm)(P:eG):iw:=⟨E,List.replicate P.length ⟨0,ae,0⟩,-1,[],[]⟩
def fJ(a:Nat):fm:=⟨[],[],0,0,0,[],[],ae,0,0,a,[],0,[],[]⟩
inductive zv (K:dw) (P:eG) (picks:List Nat):iw->iw->Prop
 | IM (W:iw) (want t:Nat) (h:ft K P W≠[]) (ht:whose picks W (ft K P W)=P.length->W.E.now<=t/\GC K { W.E with now:=t }=aj):zv K P picks W (gY K P W (whose picks W (ft K P W)) want t)
inductive zr (K:dw) (P:eG) (picks:List Nat):iw->iw->Prop
 | none (W:iw):zr K P picks W W
 | more {W1 W2 W3:iw}:zr K P picks W1 W2->zv K P picks W2 W3->zr K P picks W1 W3
end
section
def wt(c:CV):Nat:=if c.st=9 then 0 else if c.st=1 then 3 else if c.st=2\/(c.st≠3/\c.st≠4/\c.back=2)then 2 else 1
def pH:List CV->Nat
 | []=>0
 | c::cs=>wt c+pH cs
def ph(K:dw)(E:fm):Nat:=match E.cW with
 | none=>0
 | some i=>(match E.cs[i]? with
  | none=>0
  | some c=>if c.st=6 then(if GC K E then 2 else 1)else if c.st=7 then 3 else 4)
def zY(K:dw)(N:Nat)(E:fm):Nat:=2*pH E.cs+5*(N-E.du)+(4-ph K E)
theorem Fj:∀(cs:List CV) (i:Nat) (c x:CV),cs[i]?=ag c->pH (cs.set i x)+wt c=pH cs+wt x
 | [],i,c,x,h=>by simp at h
 | a::cs,0,c,x,h=>by
  simp at h
  subst h
  simp only[List.set_cons_zero,pH]
  omega
 | a::cs,i+1,c,x,h=>by
  simp only[tI]at h
  have:=Fj cs i c x h
  simp only[KR,pH]
  omega
theorem oS{cs:List CV}{i:Nat}{c:CV}{f:CV->CV}(a:cs[i]?=ag c):pH (fh cs i f)+wt c=pH cs+wt (f c):=by
 unfold fh
 rw[a]
 exact Fj cs i c (f c) a
theorem NQ{cs:List CV}{i:Nat}{f:CV->CV}(a:∀c,wt (f c)=wt c):pH (fh cs i f)=pH cs:=by
 cases h:cs[i]? with
 | none=>unfold fh;rw[h]
 | some c=>
  have:=oS (f:=f) h
  rw[a]at this
  omega
theorem AG(a:Nat)(ow:List Nat):∀(l:List Int) (cs:List CV),pH (lB a ow cs l)=pH cs
 | [],cs=>rfl
 | z::l,cs=>by
  show pH (lB a ow (fh cs _ _) l)=_
  rw[AG]
  exact NQ (f:=λc:CV=>{ c with lR:=aj }) (λc=>rfl)
section
variable{K:dw}{E E':fm}
theorem Lo:ph K E<=4:=by
 unfold ph
 cases E.cW with
 | none=>exact cF _
 | some i=>
  dsimp only
  cases E.cs[i]? with
  | none=>exact cF _
  | some c=>
   dsimp only
   split
   ·split <;> omega
   ·split <;> omega
theorem XP(e:E'.cW=E.cW)(f:∀j c,E.cW=ag j->E.cs[j]?=ag c->∃a,E'.cs[j]?=ag a/\a.st=c.st):ph K E<=ph K E'+1:=by
 unfold ph
 rw[e]
 cases hle:E.cW with
 | none=>exact cF _
 | some j=>
  dsimp only
  cases hc:E.cs[j]? with
  | none=>exact cF _
  | some c=>
   obtain⟨a,b,d⟩:=f j c hle hc
   rw[b]
   dsimp only
   rw[d]
   split
   ·split <;> split <;> omega
   ·split <;> omega
structure Eff(K:dw)(E E':fm)(i:Nat)(c:CV):Prop where
 len:E'.cs.length=E.cs.length
 iZ:∀j x,j≠i->E.cs[j]?=ag x->∃b,E'.cs[j]?=ag { x with lR:=b }
 own:∃c',E'.cs[i]?=ag c'/\c'.st≠1/\(c'.st≠9->c'.ask=c.ask)/\(c'.st=9->c'.err=0/\(c.ask.kind=5->c'.rl=c.ask.lsn/\K.b0<=c.ask.lsn/\c.ask.lsn<K.b0+E'.du/\E'.D[c.ask.lsn-K.b0]?=ag c'.rd)/\(c.ask.kind≠5->∃k,c'.rl=K.b0+k/\E'.ow[k]?=ag i/\(c.ask.kind=1->k<E'.du)))
 du:E.du<=E'.du
 sg:(¬(c.st=1/\c.ask.kind≠5)/\E'.D=E.D/\E'.ow=E.ow)\/(c.st=1/\c.ask.kind≠5/\E'.D=E.D++[c.ask.data]/\E'.ow=E.ow++[i])
 zY:∀N,E.D.length<=N->zY K N E'+1<=zY K N E
theorem pV{i:Nat}{c:CV}(g:E.cs[i]?=ag c)(p:E.cW≠ag i){f:CV->CV}(a:E'.cs=fh E.cs i f)(h:E'.cW=E.cW)(d:E'.du=E.du)(s:wt (f c)+1<=wt c)
 (l:(¬(c.st=1/\c.ask.kind≠5)/\E'.D=E.D/\E'.ow=E.ow)\/(c.st=1/\c.ask.kind≠5/\E'.D=E.D++[c.ask.data]/\E'.ow=E.ow++[i])) (m:(f c).st≠1) (n:(f c).st≠9->(f c).ask=c.ask)
 (o:(f c).st=9->(f c).err=0/\(c.ask.kind=5->(f c).rl=c.ask.lsn/\K.b0<=c.ask.lsn/\c.ask.lsn<K.b0+E'.du/\E'.D[c.ask.lsn-K.b0]?=ag (f c).rd)/\(c.ask.kind≠5->∃k,(f c).rl=K.b0+k/\E'.ow[k]?=ag i/\(c.ask.kind=1->k<E'.du))):Eff K E E' i c:=by
 refine⟨by rw[a,fM],λj x b hx=>⟨x.lR,by rw[a,dB,bf (cQ b)];exact hx⟩,⟨f c,by rw[a,dB,bj rfl,g];rfl,m,n,o⟩,by rw[d];exact bT _,l,λN q=>?_⟩
 have r:ph K E<=ph K E'+1:=XP h (λj x b hx=>⟨x,by rw[a,dB,bf (λe=>p (by rw[e];exact b))];exact hx,rfl⟩)
 have:=oS (f:=f) g
 have:=Lo (K:=K) (E:=E)
 have:=Lo (K:=K) (E:=E')
 unfold zY
 rw[a,d]
 omega
theorem S0{cs:List CV}{i:Nat}{f h:CV->CV}:fh (fh cs i f) i h=fh cs i (λc=>h (f c)):=by
 apply jc
 intro j
 rw[dB,dB,dB]
 by_cases e:i=j
 ·rw[bj e,bj e,bj e,Option.map_map]
  rfl
 ·rw[bf e,bf e,bf e]
theorem rV{c:CV}(_:c.back=2\/c.back=3\/c.back=4)(s:c.st=6\/c.st=7\/c.st=8):wt c=if c.back=2 then 2 else 1:=by
 unfold wt
 rw[bf (by omega),bf (by omega)]
 by_cases e:c.back=2
 ·rw[bj (by omega),bj e]
 ·rw[bf (by omega),bf e]
theorem vF{c:CV}(h:c.st=2\/c.st=3\/c.st=4):wt c=if c.st=2 then 2 else 1:=by
 unfold wt
 rw[bf (by omega),bf (by omega)]
 by_cases e:c.st=2
 ·rw[bj (by omega),bj e]
 ·rw[bf (by omega),bf e]
theorem IG{c:CV}(h:c.st=1):wt c=3:=by
 unfold wt
 rw[bf (by omega),bj h]
theorem yR{i:Nat}{c:CV}(a:E.cs[i]?=ag c)(h:E.cW=ae)(back:Nat)(b:c.st=back)(k:back=2\/back=3\/back=4):Eff K E (mU E i back) i c:=by
 have g:(mU E i back).cs[i]?=ag { c with st:=6,back:=back }:=by
  show(fh E.cs i _)[i]?=_
  rw[dB,bj rfl,a]
  rfl
 refine⟨by show(fh E.cs i _).length=_;rw[fM],λj x d hx=>⟨x.lR,?_⟩,⟨_,g,by simp,λ_=>rfl,λe=>by simp at e⟩,bT _,.inl ⟨λe=>by omega,rfl,rfl⟩,λN m=>?_⟩
 ·show(fh E.cs i _)[j]?=_
  rw[dB,bf (cQ d)]
  exact hx
 ·have n:ph K E=0:=by unfold ph;rw[h]
  have o:1<=ph K (mU E i back):=by
   unfold ph
   rw[show(mU E i back).cW=ag i from rfl]
   dsimp only
   rw[g]
   dsimp only
   split
   ·split <;> omega
   ·split <;> omega
  have l:=oS (f:=λc:CV=>{ c with st:=6,back:=back }) a
  have p:wt { c with st:=6,back:=back }=wt c:=by
   rw[rV (c:={ c with st:=6,back:=back }) k (.inl rfl),vF (by omega)]
   dsimp only
   rw[b]
  have:=Lo (K:=K) (E:=mU E i back)
  unfold zY
  rw[show(mU E i back).cs=fh E.cs i (λc:CV=>{ c with st:=6,back:=back })from rfl,show(mU E i back).du=E.du from rfl]
  omega
theorem sS{i:Nat}{c:CV}{s:Nat}(h:fx K E i c s):s=2\/s=3\/s=4:=by
 rcases h with⟨h,-⟩ | ⟨h,-⟩ | ⟨h,-⟩ <;> omega
theorem uM(h:fy K E){i:Nat}{c:CV}(d:E.cs[i]?=ag c)(e:c.st=6\/c.st=7\/c.st=8):E.cW=ag i/\(c.back=2\/c.back=3\/c.back=4):=by
 rcases h.calls i c d with⟨a,-⟩ | a | ⟨-,a,b⟩ | a
 ·omega
 ·have:=sS a
  omega
 ·exact⟨a,sS b⟩
 ·omega
theorem JQ(h:fy K E){i:Nat}{c:CV}(d:E.cs[i]?=ag c)(k:c.st=6)(p:GC K E=aj):Eff K E (mF K E i) i c:=by
 obtain⟨n,m⟩:=uM h d (.inl k)
 obtain⟨L,a⟩:∃L,(mF K E i).cs=fh (lB K.b0 E.ow E.cs L) i (λc=>{ c with st:=7 }):=⟨_,rfl⟩
 obtain⟨b,l⟩:∃b,(lB K.b0 E.ow E.cs L)[i]?=ag { c with lR:=b }:=by
  rw[rj,d]
  dsimp only[Option.map_some]
  split
  ·exact⟨aj,rfl⟩
  ·exact⟨c.lR,rfl⟩
 have g:(mF K E i).cs[i]?=ag { c with lR:=b,st:=7 }:=by
  rw[a,dB,bj rfl,l]
  rfl
 refine⟨by rw[a,fM,tX],λj x q hx=>?_,⟨_,g,by simp,λ_=>rfl,λe=>by simp at e⟩,bT _,.inl ⟨λe=>by omega,rfl,rfl⟩,λN t=>?_⟩
 ·rw[a,dB,bf (cQ q),rj,hx]
  dsimp only[Option.map_some]
  split
  ·exact⟨aj,rfl⟩
  ·exact⟨x.lR,rfl⟩
 ·have r:ph K E=2:=by
   unfold ph
   rw[n]
   dsimp only
   rw[d]
   dsimp only
   rw[bj k,p]
   rfl
  have s:ph K (mF K E i)=3:=by
   unfold ph
   rw[show(mF K E i).cW=ag i from n]
   dsimp only
   rw[g]
   rfl
  have o:=oS (f:=λc:CV=>{ c with st:=7 }) l
  rw[AG]at o
  have u:wt { c with lR:=b,st:=7 }=wt { c with lR:=b }:=by
   rw[rV (c:={ c with lR:=b,st:=7 }) m (.inr (.inl rfl)),rV (c:={ c with lR:=b }) m (.inl k)]
  unfold zY
  rw[a,show(mF K E i).du=E.du from rfl,r,s]
  dsimp only at o
  omega
theorem Ps(h:fy K E){i:Nat}{c:CV}(a:E.cs[i]?=ag c)(b:c.st=7):Eff K E (pF E i) i c:=by
 obtain⟨k,d⟩:=uM h a (.inr (.inl b))
 have g:(pF E i).cs[i]?=ag { c with st:=8 }:=by
  show(fh E.cs i _)[i]?=_
  rw[dB,bj rfl,a]
  rfl
 refine⟨by show(fh E.cs i _).length=_;rw[fM],λj x l hx=>⟨x.lR,?_⟩,⟨_,g,by simp,λ_=>rfl,λe=>by simp at e⟩,bT _,.inl ⟨λe=>by omega,rfl,rfl⟩,λN o=>?_⟩
 ·show(fh E.cs i _)[j]?=_
  rw[dB,bf (cQ l)]
  exact hx
 ·have m:ph K E=3:=by
   unfold ph
   rw[k]
   dsimp only
   rw[a]
   dsimp only
   rw[bf (by omega),bj b]
  have n:ph K (pF E i)=4:=by
   unfold ph
   rw[show(pF E i).cW=ag i from k]
   dsimp only
   rw[g]
   rfl
  have p:=oS (f:=λc:CV=>{ c with st:=8 }) a
  have q:wt { c with st:=8 }=wt c:=by
   rw[rV (c:={ c with st:=8 }) d (.inr (.inr rfl)),rV (c:=c) d (.inr (.inl b))]
  unfold zY
  rw[show(pF E i).cs=fh E.cs i (λc:CV=>{ c with st:=8 })from rfl,show(pF E i).du=E.du from rfl,m,n]
  omega
theorem Pu(h:fy K E){i:Nat}{c:CV}(d:E.cs[i]?=ag c)(m:c.st=8)(b:Nat):Eff K E (pT E i b) i c:=by
 obtain⟨o,l⟩:=uM h d (.inr (.inr m))
 have g:(pT E i b).cs[i]?=ag { c with st:=c.back }:=by
  show(fh E.cs i _)[i]?=_
  rw[dB,bj rfl,d]
  rfl
 obtain⟨s,k,p⟩:=h.lead i o
 rw[d]at k
 injection k with k
 subst k
 have r:E.du<E.wr:=by rcases p with⟨a,-⟩ | ⟨a,-⟩ | ⟨-,a,-⟩ <;> omega
 refine⟨by show(fh E.cs i _).length=_;rw[fM],λj x n hx=>⟨x.lR,?_⟩,⟨_,g,by dsimp only;omega,λ_=>rfl,λe=>by dsimp only at e;omega⟩,dP r,.inl ⟨λe=>by omega,rfl,rfl⟩,λN t=>?_⟩
 ·show(fh E.cs i _)[j]?=_
  rw[dB,bf (cQ n)]
  exact hx
 ·have q:ph K (pT E i b)=0:=rfl
  have u:=oS (f:=λc:CV=>{ c with st:=c.back }) d
  have w:wt { c with st:=c.back }=wt c:=by
   rw[vF (c:={ c with st:=c.back }) l,rV (c:=c) l (.inr (.inr m))]
  have:=h.o2
  have:=h.o3
  have:=Lo (K:=K) (E:=E)
  unfold zY
  rw[show(pT E i b).cs=fh E.cs i (λc:CV=>{ c with st:=c.back })from rfl,show(pT E i b).du=E.wr from rfl,q]
  omega
theorem Df{i:Nat}{c:CV}(g:E.cs[i]?=ag c)(h:E.cW≠ag i)(d:c.st=2\/c.st=3\/c.st=4){a:Nat}{b:By}
 (f:(c.ask.kind=5->a=c.ask.lsn/\K.b0<=c.ask.lsn/\c.ask.lsn<K.b0+E.du/\E.D[c.ask.lsn-K.b0]?=ag b)/\(c.ask.kind≠5->∃k,a=K.b0+k/\E.ow[k]?=ag i/\(c.ask.kind=1->k<E.du))):Eff K E (Ak E i 0 a b) i c:=by
 refine pV (E':=Ak E i 0 a b) g h rfl rfl rfl ?_ (.inl ⟨λe=>(by rcases d with s | s | s <;> rw[s]at e <;> exact absurd e.1 (by decide)),rfl,rfl⟩) (by simp) (λe=>by simp at e) (λ_=>⟨rfl,f⟩)
 rw[vF d]
 show 0+1<=_
 split <;> omega
theorem Pt(h:fy K E){i:Nat}{c:CV}(f:E.cs[i]?=ag c)(g:c.st=1):Eff K E (od K E i c) i c:=by
 obtain⟨u,r⟩:(((c.ask.kind=1\/c.ask.kind=2)/\c.ask.lsn=0)\/(c.ask.kind=5/\K.b0<=c.ask.lsn/\c.ask.data=[]))/\∀k:Nat,E.ow[k]?≠ag i:=by
  rcases h.calls i c f with⟨-,a,b⟩ | a | ⟨a,-⟩ | a
  ·exact⟨a,b⟩
  ·have:=sS a
   omega
  ·omega
  ·omega
 have j:E.cW≠ag i:=λe=>by
  obtain⟨t,n,w⟩:=h.lead i e
  rw[f]at n
  injection n with n
  subst n
  omega
 unfold od
 by_cases d:c.ask.kind=5
 ·rw[bj d]
  have s:K.b0<=c.ask.lsn:=by omega
  split
  ·next q=>
   have l:c.ask.lsn-K.b0<E.D.length:=by have:=h.o1;have:=h.o2;have:=h.o3;omega
   refine pV (E':=Lg K E i c.ask.lsn) f j rfl rfl rfl ?_ (.inl ⟨λe=>e.2 d,rfl,rfl⟩) (by simp) (λe=>by simp at e) (λ_=>⟨rfl,λ_=>⟨rfl,s,q,?_⟩,λe=>absurd d e⟩)
   ·rw[IG g]
    show 0+1<=3
    omega
   ·show E.D[c.ask.lsn-K.b0]?=ag (E.D[c.ask.lsn-K.b0]?.getD [])
    rw[aP l]
    rfl
  ·refine pV (E':={ E with cs:=fh E.cs i (λc=>{ c with st:=4 }) }) f j rfl rfl rfl ?_ (.inl ⟨λe=>e.2 d,rfl,rfl⟩) (by simp) (λ_=>rfl) (λe=>by simp at e)
   rw[IG g,vF (.inr (.inr rfl))]
   simp
 ·rw[bf d]
  have p:=IG g
  have o:E.ow.length=E.D.length:=h.ow
  have m:(E.ow++[i])[E.D.length]?=ag i:=by rw[<-o,bH dx,dR];rfl
  dsimp only
  split
  ·unfold mq
   dsimp only
   split
   ·next x=>
    refine pV (E':=Ak (mR K E i c) i 0 (K.b0+E.D.length) []) f j (by show fh (fh E.cs i _) i _=_;exact S0) rfl rfl ?_ (.inr ⟨g,d,rfl,rfl⟩) (by simp) (λe=>by simp at e) (λ_=>⟨rfl,λe=>absurd e d,λ_=>⟨E.D.length,rfl,m,λe=>by omega⟩⟩)
    rw[p]
    show 0+1<=3
    omega
   ·refine pV (E':={ mR K E i c with cs:=fh (mR K E i c).cs i (λc=>{ c with st:=3 }) }) f j (by show fh (fh E.cs i _) i _=_;exact S0) rfl rfl ?_ (.inr ⟨g,d,rfl,rfl⟩) (by simp) (λ_=>rfl) (λe=>by simp at e)
    rw[p,vF (.inr (.inl rfl))]
    simp
  ·refine pV (E':={ mR K E i c with cs:=fh (mR K E i c).cs i (λc=>{ c with st:=2 }) }) f j (by show fh (fh E.cs i _) i _=_;exact S0) rfl rfl ?_ (.inr ⟨g,d,rfl,rfl⟩) (by simp) (λ_=>rfl) (λe=>by simp at e)
   rw[p,vF (.inl rfl)]
   simp
theorem qP(h:fy K E){i:Nat}{c:CV}(f:E.cs[i]?=ag c)(b:iX K E c=aj)(l:Nat):Eff K E (fK K E i l) i c:=by
 have r:c.st=2\/c.st=3\/c.st=4->E.cW≠ag i:=λs e=>by
  obtain⟨H,q,I⟩:=h.lead i e
  rw[f]at q
  injection q with q
  subst q
  omega
 have d:c.st=2\/c.st=3\/c.st=4->fx K E i c c.st:=λs=>by
  rcases h.calls i c f with⟨a,-⟩ | a | ⟨a,-⟩ | a
  ·omega
  ·exact a
  ·omega
  ·omega
 unfold fK
 rw[f]
 dsimp only
 unfold iX at b
 by_cases y:c.st=1
 ·rw[bj y]
  exact Pt h f y
 rw[bf y]at b ⊢
 by_cases j:c.st=2
 ·rw[bj j]at b ⊢
  have g:=d (.inl j)
  rw[j]at g
  obtain⟨-,u,k,w,x,D,F⟩ | ⟨a,-⟩ | ⟨a,-⟩:=g
  ·split
   ·next p=>
    unfold mq
    split
    ·next J=>exact Df f (r (by omega)) (.inl j) ⟨λe=>by omega,λ_=>⟨k,w,x,λe=>by omega⟩⟩
    ·refine pV (E':={ E with cs:=fh E.cs i (λc=>{ c with st:=3 }) }) f (r (by omega)) rfl rfl rfl ?_ (.inl ⟨λe=>by omega,rfl,rfl⟩) (by simp) (λ_=>rfl) (λe=>by simp at e)
     rw[vF (.inl j),vF (.inr (.inl rfl)),bj j]
     simp
   ·next p=>
    have p:c.lR=ah:=by simpa using p
    rw[p,VZ]at b
    exact yR f (by simpa using b) 2 j (.inl rfl)
  ·omega
  ·omega
 rw[bf j]at b ⊢
 by_cases m:c.st=3
 ·rw[bj m]at b ⊢
  have g:=d (.inr (.inl m))
  rw[m]at g
  split
  ·next B=>
   obtain⟨a,-⟩ | ⟨-,u,⟨k,w,x,D,F⟩,-⟩ | ⟨a,-⟩:=g
   ·omega
   ·exact Df f (r (by omega)) (.inr (.inl m)) ⟨λe=>by omega,λ_=>⟨k,w,x,λ_=>by omega⟩⟩
   ·omega
  ·next t=>
   rw[bC t,VZ]at b
   exact yR f (by simpa using b) 3 m (.inr (.inl rfl))
 rw[bf m]at b ⊢
 by_cases n:c.st=4
 ·rw[bj n]at b ⊢
  have g:=d (.inr (.inr n))
  rw[n]at g
  split
  ·next B=>
   obtain⟨a,-⟩ | ⟨a,-⟩ | ⟨-,u,C⟩:=g
   ·omega
   ·omega
   ·have o:c.ask.lsn-K.b0<E.D.length:=by have:=h.o1;have:=h.o2;have:=h.o3;omega
    refine Df f (r (by omega)) (.inr (.inr n)) ⟨λ_=>⟨rfl,C,B,?_⟩,λe=>absurd u e⟩
    rw[aP o]
    rfl
  ·next t=>
   rw[bC t,VZ,co]at b
   exact yR f (by simpa using b.1) 4 n (.inr (.inr rfl))
 rw[bf n]at b ⊢
 by_cases z:c.st=6
 ·rw[bj z]at b ⊢
  exact JQ h f z b
 rw[bf z]at b ⊢
 by_cases A:c.st=7
 ·rw[bj A]
  exact Ps h f A
 rw[bf A]
 by_cases G:c.st=8
 ·exact Pu h f G l
 ·rw[bf (by omega)]at b
  cases b
end
end
end Go.Proofs.YtooinenkenobaaaGreat

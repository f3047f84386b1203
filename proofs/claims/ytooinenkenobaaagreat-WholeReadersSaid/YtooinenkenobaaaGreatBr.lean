/- A part of the proof of what LawWholeReaders says. -/
import Derived.Test.YtooinenkenobaaaGreatAa
import Derived.Test.YtooinenkenobaaaGreatBl
import Derived.Test.YtooinenkenobaaaGreatBm
import Derived.Test.YtooinenkenobaaaGreatBp
import Derived.Test.YtooinenkenobaaaGreatBj
import Derived.Test.YtooinenkenobaaaGreatBf
set_option maxRecDepth 100000
set_option maxHeartbeats 20000000
namespace Go.Proofs.YtooinenkenobaaaGreat
open Option renaming none->ae,some->ag
open Bool renaming false->ah,true->aj
open Go.Proofs.Tryz renaming prog->ax
open Go.Value renaming int->ay,pointer->aA,slice->aB,bool->aC,float->aD
open Go.IntKind renaming i64->az
open Go.FloatKind renaming f64->aE
open Go.Ending renaming returned->aF
open Go.Obj renaming cells->aG
open Go renaming World->am,Value->ar,TypeId->au,Calls->aw
section
open Go.RowKit Go.Maps
structure nE(w:am)(g:Tg)(db:Nat)(most:Int)(L:List gW)(n m:Nat)(f:Lit->Option ar):Prop where
 ex:∃(d:zB) (nb lb:Nat) (fl:Lit->Option ar),iF w db nb lb d/\d.most=most/\fH w 0 d.fA L/\(∀q,d.fA.ownBlock=ag q->g q=10)/\i9 w g 5 9 nb n f/\i9 w g 6 9 lb m fl
 tag:g db=1
structure uw(w:am)(g:Tg)(t fb:Nat)(B:List (BitVec 8)):Prop where
 ex:∃bv lv,jj w 0 fb bv lv B/\(∀q,bv.ownBlock=ag q->g q=t+1)/\(∀q,lv.ownBlock=ag q->g q=t+2)
 tag:g fb=t
section
variable{T:List Nat}{g g':Tg}{w w':am}{db n m t fb:Nat}{most:Int}{L:List gW}{f:Lit->Option ar}{B:List (BitVec 8)}
theorem nE.lt(h:nE w g db most L n m f):db<w.heap.size:=by
 obtain⟨d,e,c,b,a,-⟩:=h.ex
 exact aT a
theorem kr{v:ar}(h:fH w 0 v L):∀q,v.ownBlock=ag q->q<w.heap.size:=λq b=>by
 obtain⟨-,a,c⟩:=dq h b
 exact aT c
theorem kt{v:ar}(h:cU w 0 v B):∀q,v.ownBlock=ag q->q<w.heap.size:=λq b=>by
 obtain⟨-,a,c⟩:=dq h b
 exact aT c
theorem nE.ch(h:nE w g db most L n m f)(c:Ch T g w g' w')(b:1∉T/\5∉T/\6∉T/\10∉T):nE w' g' db most L n m f:=by
 obtain⟨d,s,r,j,k,l,e,i,o,p⟩:=h.ex
 exact⟨⟨d,s,r,j,c.dV k (by rw[h.tag];exact b.1),l,dC e λq a=>c.gP q (kr e q a) (by rw[i q a];exact b.2.2.2),λq a=>(c.tag q (kr e q a)).trans (i q a),o.ch c b.2.1,p.ch c b.2.2.1⟩,(c.tag db h.lt).trans h.tag⟩
theorem uw.lt(h:uw w g t fb B):fb<w.heap.size:=by
 obtain⟨bv,b,a,-⟩:=h.ex
 exact aT a.row
theorem uw.ch(h:uw w g t fb B)(c:Ch T g w g' w')(d:t∉T/\t+1∉T/\t+2∉T):uw w' g' t fb B:=by
 obtain⟨bv,k,b,i,j⟩:=h.ex
 obtain⟨L,e,p⟩:=b.last
 have l:∀q,bv.ownBlock=ag q->w'.heap[q]?=w.heap[q]?:=λq a=>c.gP q (kt b.own q a) (by rw[i q a];exact d.2.1)
 have o:∀q,k.ownBlock=ag q->w'.heap[q]?=w.heap[q]?:=λq a=>c.gP q (kt e q a) (by rw[j q a];exact d.2.2)
 exact⟨⟨bv,k,⟨c.dV b.row (by rw[h.tag];exact d.1),dC b.own l,⟨L,dC e o,p⟩,b.ap⟩,λq a=>(c.tag q (kt b.own q a)).trans (i q a),λq a=>(c.tag q (kt e q a)).trans (j q a)⟩,(c.tag fb h.lt).trans h.tag⟩
end
theorem yV(db n m t:Nat)(most:Int)(L:List gW)(f:Lit->Option ar)(s:ByteArray)(w:am)(g:Tg)(H:nE w g db most L n m f)(hL:L.length<=100)(W:n<100)(Y:kK s=aj)(hf:f (fS s)=ae):
 aw ax 116 #[aA (ag ⟨db,0,ae⟩),.string s] w λe w'=>e=aF (ay az 0)/\∃fb g',w.heap.size<=fb/\Ch [1,5,10] g w g' w'/\uw w' g' t fb []/\
  nE w' g' db most (L++[.created s (ag ⟨fb,0,ae⟩)]) (n+1) m (fU f (fS s) (aA (ag ⟨fb,0,ae⟩))):=by
 obtain⟨d,j,x,fl,K,V,X,sa,J,hF⟩:=H.ex
 have p:=aH K
 have M:=J.map
 have A:=aH X
 have HM:=aH V
 have C:=aH sa
 have MM:=aH J
 have MF:=aH hF
 have U:=aH H.tag
 have Z:=aH W
 have x3:w.cell? ⟨db,3,ae⟩=ag (.map (ag j)):=K.cell 3
 clear K X V W H J hF sa
 go_in
 go_wp2_with fail
 refine(ui db j x n d f s w p.out M Y ae (by rw[hf];rfl)).mono ?_
 rintro e w' ⟨rfl,rfl⟩
 go_wp2_with (at_len;refine EW rfl 135 9 174 rfl Tryz.underlying135 j n f rfl M ?_;intro z hz;have mf:(z:Int)<256:=by have:=Z.out;omega)
 clear x3
 refine(kD db j x 6 d w' p (.inl rfl)).mono ?_
 rintro e b ⟨rfl,G,c⟩
 have b3:=aY b tU
 have O:=bp b tU
 obtain⟨o,pD⟩:=bP (b.alloc tU)
 rw[pD]at b3 O
 unfold tU at pD
 have P:∀q,d.fA.ownBlock=ag q->¬ q=db:=λq a e=>by
  obtain⟨-,F,N⟩:=dq A.out a
  exact gg p.out N (by decide) e
 have Q:=aH (show Ch [1] g w' (tg (eJ g w'.heap.size 0) b.heap.size t) o from(((Ch.lh (T:=[1]) c.pW (λq _ e=>by rw[e,U.out];decide)).on b3).eJ dx).tg c.pW.size)
 have y:=aH (c.ie.dV b3)
 have D:=(M.pW c.pW (M.gg p.out)).move (b3.block _ (M.pW c.pW (M.gg p.out)).lt)
 have E:=aH (show fH o 0 G.fA L from by rw[c.fA];exact jH (jH A.out c.pW P) (iD.bh (S:=λ_=>False) b3) λ_ _ e=>e)
 have u:=aH O
 have MO:=aH (c.most.trans HM.out)
 have PD:=aH c.fA
 have r:=aH (show w'.heap.size<=b.heap.size from c.pW.size)
 clear b3 O c
 go_wp2_with fail
 refine(Bl db j x n 0 G (.created s (ag ⟨b.heap.size,0,ae⟩)) aj L f o y D E hL (by have:=Z.out;omega) Y (aH Rc)).mono ?_
 rintro e w4 ⟨rfl,d4,h1,h2,h3,h4,I,h6⟩
 go_wp2_with fail
 go_ret
 have h:b.heap.size<o.heap.size:=aT u.out
 have k:tg (eJ g w'.heap.size 0) b.heap.size t db=1:=by
  have:=aT p.out
  rw[dA (by have:=r.out;omega),dU this];exact U.out
 have l:tg (eJ g w'.heap.size 0) b.heap.size t j=5:=by
  have:=M.lt
  rw[dA (by have:=r.out;omega),dU this];exact MM.out.tag
 have i:∀q,G.fA.ownBlock=ag q->tg (eJ g w'.heap.size 0) b.heap.size t q=10:=λq a=>by
  rw[PD.out]at a
  have:=kr A.out q a
  rw[dA (by have:=r.out;omega),dU this]
  exact C.out q a
 have C4:Ch [1,5,10] g w' (eJ (tg (eJ g w'.heap.size 0) b.heap.size t) o.heap.size 10) w4:=((Q.out.mono (T':=[1,5,10]) (by decide)).pW I (λq _ e=>by
  rcases e with e | e | e
  ·rw[e,k];decide
  ·rw[e,l];decide
  ·rw[i q e];decide)).eJ (bJ r.out (dP h))
 have nf:w4.heap[b.heap.size]?=ag tU:=(I.gP _ h (λe=>by
  rcases e with e | e | e
  ·exact gg y.out u.out (by decide) e
  ·exact D.gg u.out e.symm
  ·have:=i _ e
   rw[dG]at this
   obtain⟨-,F,N⟩:=dq E.out e
   exact gg N u.out (by decide) rfl)).trans u.out
 refine⟨rfl,b.heap.size,_,r.out,C4,⟨⟨aB ae 0 0,aB ae 0 0,⟨nf,cU.nil _ _,⟨[],cU.nil _ _,bT _⟩,λq a=>by cases a⟩,(λq a=>nomatch a),(λq a=>nomatch a)⟩,by rw[dU h];exact dG _ _ _⟩,⟨d4,j,x,fl,h1,h2.trans MO.out,h3,?_,⟨h4,by rw[dU D.lt];exact l⟩,?_⟩,by rw[dU (aT y.out)];exact k⟩
 ·intro q a
  rcases h6 q a with e | e
  ·rw[dU (kr E.out q e)]
   exact i q e
  ·exact dQ e
 ·have C0:Ch [1] g w' (eJ (tg (eJ g w'.heap.size 0) b.heap.size t) o.heap.size 10) o:=Q.out.eJ (bJ r.out (dP h))
  exact(MF.out.ch C0 (by decide)).ch (Ch.lh (T:=[1,5,10]) I (λq a e=>by
   rw[dU a]
   rcases e with e | e | e
   ·rw[e,k];decide
   ·rw[e,l];decide
   ·rw[i q e];decide)) (by decide)
theorem nE.after{w a:am}{db i h n m:Nat}{L:List gW}{d k:zB}{f o:Lit->Option ar}{g:Tg}(p:iF w db i h d)(l:g db=1)(j:fH w 0 d.fA L)(b:∀q,d.fA.ownBlock=ag q->g q=10)(s:i9 w g 5 9 i n f)(r:i9 w g 6 9 h m o)(O:Opd w a db i h d k):
 Ch [1] g w (eJ g w.heap.size 0) a/\fH a 0 k.fA L/\(∀q,k.fA.ownBlock=ag q->eJ g w.heap.size 0 q=10)/\i9 a (eJ g w.heap.size 0) 5 9 i n f/\i9 a (eJ g w.heap.size 0) 6 9 h m o/\eJ g w.heap.size 0 db=1:=by
 have C:Ch [1] g w (eJ g w.heap.size 0) a:=(Ch.lh (T:=[1]) O.pW (λq _ e=>by rw[e,l];decide)).eJ dx
 refine⟨C,?_,?_,s.ch C (by decide),r.ch C (by decide),by rw[dU (aT p)];exact l⟩
 ·rw[O.fA]
  exact dC j λq c=>C.gP q (kr j q c) (by rw[b q c];decide)
 ·rw[O.fA]
  exact λq c=>by rw[dU (kr j q c)];exact b q c
theorem JU(db n m:Nat)(most:Int){L:List gW}{f:Lit->Option ar}(s u:ByteArray){a:Addr}(w:am)(g:Tg)(H:nE w g db most L n m f)(hL:L.length<=100)(J:n<100)(N:kK s=aj)(O:kK u=aj)(dF:(s.toList==u.toList)=ah)(hf:f (fS s)=ag (aA (ag a))):
 aw ax 114 #[aA (ag ⟨db,0,ae⟩),.string s,.string u] w λe w'=>e=aF (ay az 0)/\∃g',Ch [1,5,10] g w g' w'/\nE w' g' db most (L++[.renamed s u]) (n+1) m ((gW.renamed s u).on f):=by
 obtain⟨d,b,i,fl,G,I,K,W,o,hF⟩:=H.ex
 have j:=aH G
 have M:=o.map
 have HP:=aH K
 have HM:=aH I
 have k:=aH W
 have MM:=aH o
 have MF:=aH hF
 have TD:=aH H.tag
 have Z:=aH J
 have y:=aH O
 clear G K I J H O o hF W
 go_in
 go_wp2_with fail
 refine(ui db b i n d f s w j.out M N (ag a) (by rw[hf];rfl)).mono ?_
 rintro e w' ⟨rfl,rfl⟩
 go_wp2_with fail
 refine(SH u w' y.out).mono ?_
 rintro e Y ⟨rfl,rfl⟩
 go_wp2_with fail
 refine(kD db b i 10 d Y j (by decide)).mono ?_
 rintro e p ⟨rfl,l,h⟩
 obtain⟨D,U,V,Q,P,X⟩:=nE.after j.out TD.out HP.out k.out MM.out MF.out h
 have b3:=aY p (aG #[ay az 0,ay az 0,ay az 0] 145)
 have r:=aH (D.on b3)
 have x:=aH (h.ie.dV b3)
 have c:=aH (Q.below b3)
 have L3:=aH (P.below b3)
 have z:=aH (show fH (p.alloc (aG #[ay az 0,ay az 0,ay az 0] 145)) 0 l.fA L from jH U (iD.bh (S:=λ_=>False) b3) λ_ _ e=>e)
 have A:=aH V
 have C:=aH X
 have MO:=aH (h.most.trans HM.out)
 clear b3 h D U V Q P X
 unfold jm
 go_wp2_with fail
 refine(Bl db b i n 0 l (.renamed s u) ah L f _ x c.out.map z hL (by have:=Z.out;omega) ⟨N,y.out⟩ (aH Rc)).mono ?_
 rintro e w4 ⟨rfl,d4,h1,h2,h3,h4,F,h6⟩
 go_wp2_with fail
 go_ret
 generalize pD:p.alloc (aG #[ay az 0,ay az 0,ay az 0] 145)=w3 at *
 have E:∀q,q<w3.heap.size->q=db\/q=b\/l.fA.ownBlock=ag q->eJ g Y.heap.size 0 q∈[1,5,10]:=λq _ e=>by
  rcases e with e | e | e
  ·rw[e,C.out];decide
  ·rw[e,c.out.tag];decide
  ·rw[A.out q e];decide
 have C4:=((r.out.mono (T':=[1,5,10]) (by decide)).pW F E).eJ (t:=10) r.out.size
 have C5:=(Ch.lh (T:=[1,5,10]) F E).eJ (t:=10) dx
 refine⟨rfl,_,C4,⟨d4,b,i,fl,h1,h2.trans MO.out,h3,λq hq=>?_,⟨h4,by rw[dU c.out.map.lt];exact c.out.tag⟩,L3.out.ch C5 (by decide)⟩,by rw[dU (aT x.out)];exact C.out⟩
 rcases h6 q hq with e | e
 ·rw[dU (kr z.out q e)]
  exact A.out q e
 ·exact dQ e
theorem GR(db n m:Nat)(most:Int){L:List gW}{f:Lit->Option ar}(w:am)(g:Tg)(H:nE w g db most L n m f)(hL:L.length<=100)(hm:m<=500)(M:∀c∈L,c.ok):
 aw ax 65 #[aA (ag ⟨db,0,ae⟩)] w λe w'=>e=aF (ay az 0)/\∃g',Ch [1,6] g w g' w'/\nE w' g' db most [] n (m+L.length) f:=by
 obtain⟨d,i,b,fl,D,J,E,N,C,hF⟩:=H.ex
 have k:=aH D
 have X:=aH E
 have V:=aH J
 have l:=aH N
 have MM:=aH C
 have Z:=aH hF
 have TD:=aH H.tag
 have W:=aH M
 clear D E J H C hF N M
 go_in
 go_wp2_with fail
 refine(UR db i b d w k.out).mono ?_
 rintro e P ⟨rfl,rfl⟩
 go_wp2_with fail
 refine(kD db i b 12 d P k (by decide)).mono ?_
 rintro e j ⟨rfl,y,h⟩
 obtain⟨u,K,q2,I,G,O⟩:=nE.after k.out TD.out X.out l.out MM.out Z.out h
 have b3:=aY j (aG #[ay az 0,ay az 0,ay az 0] 145)
 have Q:=aH (u.on b3)
 have p:=aH (h.ie.dV b3)
 have Y:=aH (I.below b3)
 have o:=aH (G.below b3)
 have r:=aH (show fH (j.alloc (aG #[ay az 0,ay az 0,ay az 0] 145)) 0 y.fA L from jH K (iD.bh (S:=λ_=>False) b3) λ_ _ e=>e)
 have s:=aH O
 have MO:=aH (h.most.trans V.out)
 obtain⟨pa,pc,a⟩:=r.out.shape
 have x5:(j.alloc (aG #[ay az 0,ay az 0,ay az 0] 145)).cell? ⟨db,5,ae⟩=ag (aB pa L.length pc):=by rw[<-a];exact p.out.cell 5
 clear b3 h u K q2 I G O a
 unfold jm
 go_wp2_with fail
 refine(PK db i b m 0 y L fl p o.out.map r hL hm W.out).mono ?_
 rintro e w4 ⟨rfl,d4,g4,h1,h2,z,h4,A⟩
 go_wp2_with fail
 go_ret
 generalize pD:j.alloc (aG #[ay az 0,ay az 0,ay az 0] 145)=w3 at *
 have x:∀q,q<w3.heap.size->q=db\/q=b->eJ g P.heap.size 0 q∈[1,6]:=λq _ e=>by
  rcases e with e | e
  ·rw[e,s.out];decide
  ·rw[e,o.out.tag];decide
 have U:=Ch.lh (T:=[1,6]) A x
 exact⟨rfl,_,(Q.out.mono (T':=[1,6]) (by decide)).pW A x,⟨d4,i,b,g4,h1,h2.trans MO.out,by rw[z];exact ae9 w4 0 _ 1,(λq F=>by rw[z]at F;cases F),Y.out.ch U (by decide),⟨h4,o.out.tag⟩⟩,s.out⟩
theorem wB.tags{w w':am}{db j c fb n m t:Nat}{d:zB}{bv i y x:ar}{B z:List (BitVec 8)}{most:Int}{L:List gW}{f A:Lit->Option ar}{g:Tg}(O:wB w w' 0 db j c fb d bv i y x z)(K:iF w db j c d)(M:d.most=most)(s:fH w 0 d.fA L)(F:∀q,d.fA.ownBlock=ag q->g q=10)
 (J:i9 w g 5 9 j n f) (hF:i9 w g 6 9 c m A) (D:g db=1) (l:jj w 0 fb bv i B) (u:∀q,bv.ownBlock=ag q->g q=t+1) (o:∀q,i.ownBlock=ag q->g q=t+2) (b:g fb=t) (Q:10<t) (k:Nat) (r:k=t+1\/y=bv) (N:k=t+2\/x=i):
 Ch [1,t,t+1,t+2] g w (eJ g w.heap.size k) w'/\nE w' (eJ g w.heap.size k) db most L n m f/\uw w' (eJ g w.heap.size k) t fb z:=by
 obtain⟨P,E,-⟩:=l.last
 have C:Ch [1,t,t+1,t+2] g w (eJ g w.heap.size k) w':=(Ch.lh O.pW (λq _ e=>by
  rcases e with e | e | e | e
  ·rw[e,D];simp
  ·rw[e,b];simp
  ·rw[u q e];simp
  ·rw[o q e];simp)).eJ dx
 obtain⟨I,p,H,G⟩:=O.dk
 refine⟨C,⟨⟨I,j,c,A,p,H.trans M,?_,?_,J.ch C (by simp;omega),hF.ch C (by simp;omega)⟩,by rw[dU (aT K)];exact D⟩,⟨y,x,O.file,λq a=>?_,λq a=>?_⟩,by rw[dU (aT l.row)];exact b⟩
 ·rw[G]
  exact dC s λq a=>C.gP q (kr s q a) (by rw[F q a];simp;omega)
 ·rw[G]
  exact λq a=>by rw[dU (kr s q a)];exact F q a
 ·rcases r with e | e
  ·rcases O.afZ q a with h | h
   ·rw[dU (kt l.own q h)];exact u q h
   ·rw[dQ h];exact e
  ·rw[e]at a
   rw[dU (kt l.own q a)];exact u q a
 ·rcases N with e | e
  ·rcases O.afY q a with h | h
   ·rw[dU (kt E q h)];exact o q h
   ·rw[dQ h];exact e
  ·rw[e]at a
   rw[dU (kt E q a)];exact o q a
theorem yU(db n m t fb:Nat)(most:Int)(L:List gW)(f:Lit->Option ar)(s:ByteArray)(B:List (BitVec 8))(w:am)(g:Tg)(H:nE w g db most L n m f)(F:uw w g t fb B)(q:kK s=aj)(o:f (fS s)=ag (aA (ag ⟨fb,0,ae⟩)))(l:B.length<=16777216)(r:10<t):
 aw ax 118 #[aA (ag ⟨db,0,ae⟩),.string s] w λe w'=>e=aF (ay az 0)/\∃g',Ch [1,t,t+1,t+2] g w g' w'/\nE w' g' db most L n m f/\uw w' g' t fb B:=by
 obtain⟨d,z,x,D,b,A,p,C,a,hF⟩:=H.ex
 obtain⟨bv,y,c,u,k⟩:=F.ex
 refine(Y5 db z x n 0 fb d f s bv y B w (aH b) a.map q o (aH c) l Rc).mono ?_
 rintro e w' ⟨rfl,E,O⟩
 obtain⟨h,i,j⟩:=O.tags b A p C a hF H.tag c u k F.tag r (t+2) (.inr rfl) (.inl rfl)
 exact⟨rfl,_,h,i,j⟩
theorem p7.db{w w':am}{f:Lit->Option ar}{K db q p:Nat}{d:zB}(h:p7 w f K)(H:iF w db q p d)(k:iD (λx=>x=db) w w'):p7 w' f K:=λkl v l o=>by
 obtain⟨fb,j,i,b,e,a,c⟩:=h kl v l o
 refine⟨fb,j,i,b,e,?_,c⟩
 rw[ir (w:=w) (k.gP fb (eK a) (λe=>by
  subst e
  rw[show w.cell? ⟨fb,0,ae⟩=ag (aC aj)from H.cell 0]at a
  cases a))]
 exact a
theorem wB.on{w b k:am}{db i e fb:Nat}{d:zB}{bv h l j:ar}{c:List (BitVec 8)}(O:wB w b 0 db i e fb d bv h l j c)(a:Below b.heap.size b k):wB w k 0 db i e fb d bv h l j c:=by
 obtain⟨o,p,q⟩:=O.dk
 exact⟨⟨o,p.dV a,q⟩,O.file.dV a,O.pW.on a,O.afZ,O.afY⟩
theorem PQ(db C D n K fb X c:Nat)(d:zB)(f:Lit->Option ar)(s:ByteArray)(bv A:ar)(B bs:List (BitVec 8))(N:Option Addr)(w:am)(H:Hid (iF w db C D d))(M:fL w 9 C n f)(FL:Hid (p7 w f K))(hs:kK s=aj)(hf:f (fS s)=ag (aA (ag ⟨fb,0,ae⟩)))(F:Hid (jj w 0 fb bv A B))(hB:B.length<=16777216)
 (hn:n<=256) (hK:K<=16777216) (hm:0<=d.most/\d.most<=16777216) (hc:bs.length=c) (tE:cD w N bs) (Pg:∀b E,N=ag ⟨b,E,ae⟩->bs≠[]->b≠db) (rp:N=ae->X=0) (aq:c<=X) (iP:(c:Int)+(n*K:Nat)<=d.most):
 aw ax 117 #[aA (ag ⟨db,0,ae⟩),.string s,aB N c X] w λe w'=>e=aF (.tuple #[ay az c,ay az 0])/\∃xx,wB w w' 0 db C D fb d bv A xx A (B++bs):=by
 have W:=aH tE
 have af:=aH rp
 have HC:=aH hc
 have ad:=aH Pg
 have cz:(c:Int)<=16777216:=by omega
 clear tE rp hc Pg
 go_in
 go_wp2_with fail
 refine(ui db C D n d f s w H.out M hs (ag ⟨fb,0,ae⟩) (by rw[hf];rfl)).mono ?_
 rintro e w' ⟨rfl,rfl⟩
 go_wp2_with fail
 refine(kD db C D 7 d w' H (by decide)).mono ?_
 rintro e V ⟨rfl,P,u⟩
 have b3:=aY V (aG #[ay az 0,ay az 0,ay az 0] 145)
 have FF:=F.out.iZ H.out
 have F3:=aH ((F.out.pW u.pW FF.1 FF.2.1 FF.2.2).dV b3)
 have H3:=aH (u.ie.dV b3)
 have C3:=aH (u.pW.on b3)
 have MM:=aH (And.intro u.most u.fA)
 have M3:=(M.pW u.pW (M.gg H.out)).move (b3.block _ (M.pW u.pW (M.gg H.out)).lt)
 have L3:=aH (FL.out.db H.out C3.out)
 have N3:=aH (bp V (aG #[ay az 0,ay az 0,ay az 0] 145))
 have MD:=aH u.most
 clear b3 FF u
 unfold jm
 go_wp2_with fail
 refine(Y7 db C D n K P f H3 M3 L3 hn hK (by rw[MD.out];exact hm)).mono ?_
 rintro e l ⟨r,rfl,aa,av,a0,qy⟩
 have an:(c:Int)<=r:=by rw[MD.out]at aa;omega
 have F4:=aH (F3.out.dV qy)
 have H4:=aH (H3.out.dV qy)
 have C4:=aH (C3.out.on qy)
 have N4:=aH ((qy.block _ (aT N3.out)).trans N3.out)
 have k1:l.cell? ⟨V.heap.size,1,ae⟩=ag (ay az 0):=aZ 1 N4.out
 have ao:(c:Int)<=(X:Int):=by omega
 have ac:=aH (show cD l.drew N bs from W.out.same λb E e dF=>(C4.out.on (bi l)).gP b (by
  obtain⟨b2,al,Q,ai⟩:=W.out 0 (Ez.2 dF)
  rw[e]at Q
  injection Q with Q
  injection Q with Q
  subst Q
  exact eK ai) (ad.out b E e dF))
 have DX:=aH (show B.length+bs.length<=140737488355328 by rw[HC.out];omega)
 clear qy aa
 go_wp2_with fail
 have qR:∀p:In (λw'=>w'.cell? ⟨fb,0,ae⟩=ag bv),p.w.cell? ⟨fb,0,ae⟩=ag bv:=λp=>p.h
 refine ct [0,1,2,3,4,5,6,7,8,9,10] 11 (λw'=>w'.cell? ⟨fb,0,ae⟩=ag bv) (by kernel_rfl) (by kernel_rfl) (by intro c a d v w h;cases d <;> exact h) (aZ 0 (F4.out.dV (bi l)).row) ?_
 intro dF
 simp only[pick,aV,a8,aQ,aR,aI,aL]
 refine aX 8 (by kernel_rfl) ?_
 simp only[aJ,aO,aI,aL]
 repeat (go_big_quiet_step (fail))
 refine aU ?_
 refine aS rfl ?_ rfl
 go_wp2_with (at_builtin;refine fG (o:=⟨ag 48,_,_,_,_,_⟩) rfl rfl 0 bv B rfl (F4.out.dV (bi l)).own N c X bs rfl HC.out.symm ac.out af.out DX.out Rc ?_)
 intro v5 z Yr S Z
 have y:=F4.out.dV (bi l)
 have I:=aH ((S.block _ (aT y.row) (λe=>rS y.own y.row e.symm)).trans y.row)
 have O5:=aH Yr
 have W5:=aH Z
 have OL:=aH (show ∃L,cU z 0 A L/\L.length<=B.length from by
  obtain⟨L,i,h2⟩:=y.last
  exact⟨L,dC i λq j=>S.block q (by obtain⟨-,c,h⟩:=dq i j;exact aT h) (λe=>y.ap q e.symm j),h2⟩)
 have C5:=aH (show iD (λq=>q=db\/q=fb\/bv.ownBlock=ag q\/A.ownBlock=ag q) w' z from((C4.out.mono λ_ _ e=>.inl e).on (bi l)).grown S (λq j=>.inl (.inr (.inr (.inl j)))))
 have G:=aH (show iF z db C D P from(S.block _ (aT (H4.out.dV (bi l))) (λe=>(y.iZ (H4.out.dV (bi l))).2.1 db e.symm rfl)).trans (H4.out.dV (bi l)))
 have N5:=aH (show z.heap[V.heap.size]?=ag (aG #[ay az 0,ay az 0,ay az 0] 145 (0,0))from(S.block _ (aT N4.out) (λe=>by
  obtain⟨-,Y,k⟩:=dq y.own e.symm
  have:=N4.out
  rw[show l.heap=l.drew.heap from rfl,k]at this
  injection this with this
  injection this with _ h
  exact absurd h (by decide))).trans N4.out)
 have AP:=aH y.ap
 obtain⟨J,O,rfl,-⟩:=Yr.slice
 obtain⟨U,zN⟩:=bP ((B++bs).length)
 rw[zN]at O5 W5 ⊢
 have x0:z.cell? ⟨fb,0,ae⟩=ag bv:=aZ 0 I.out
 have f0:=bQ 0 I.out
 have RN:=aH (bE I.out 0 (aB J U O))
 have NF:z.cell? ⟨db,14,ae⟩=ag (ay az P.c8):=G.out.cell 14
 have a3:=G.out.free 14
 have j1:=eH N5.out
 have ab:fb≠db:=(F.out.iZ H.out).1
 have ak:db≠fb:=cQ ab
 have a2:V.heap.size≠fb:=λe=>by
  have i:=I.out
  rw[<-e,N5.out]at i
  injection i with i
  injection i with _ h
  exact absurd h (by decide)
 have a1:V.heap.size≠db:=λe=>by
  have i:=G.out
  unfold iF at i
  rw[<-e,N5.out]at i
  injection i with i
  injection i with _ h
  exact absurd h (by decide)
 have eM:=aH (show ∀x:Int,wB w' ((z.setCell ⟨fb,0,ae⟩ (aB J U O)).setCell ⟨db,14,ae⟩ (ay az x)) 0 db C D fb d bv A (aB J U O) A (B++bs)from λx=>by
  have nO:∀q,(Value.slice J U O).ownBlock=ag q->q≠fb/\q≠db:=λq j=>by
   obtain⟨-,Y,k⟩:=dq O5.out j
   refine⟨λe=>?_,λe=>?_⟩
   ·rw[e,I.out]at k
    injection k with k
    injection k with _ h
    exact absurd h (by decide)
   ·rw[e]at k
    have i:=G.out
    unfold iF at i
    rw[k]at i
    injection i with i
    injection i with _ h
    exact absurd h (by decide)
  obtain⟨L,l1,l2⟩:=OL.out
  have nL:∀q,A.ownBlock=ag q->q≠fb/\q≠db:=λq j=>by
   obtain⟨-,Y,k⟩:=dq l1 j
   refine⟨λe=>?_,λe=>?_⟩
   ·rw[e,I.out]at k
    injection k with k
    injection k with _ h
    exact absurd h (by decide)
   ·rw[e]at k
    have i:=G.out
    unfold iF at i
    rw[k]at i
    injection i with i
    injection i with _ h
    exact absurd h (by decide)
  refine⟨⟨{ P with c8:=x },?_,MM.out.1,MM.out.2⟩,⟨(bD ab).trans RN.out,?_,⟨L,?_,by rw[aN];omega⟩,?_⟩,?_,?_,λq j=>.inl j⟩
  ·exact bE (show(z.setCell ⟨fb,0,ae⟩ (aB J U O)).heap[db]?=_ from(bD ak).trans G.out) 14 _
  ·exact dC O5.out λq j=>(bD (nO q j).2).trans (bD (nO q j).1)
  ·exact dC l1 λq j=>(bD (nL q j).2).trans (bD (nL q j).1)
  ·intro q j e
   rcases W5.out q j with h | h
   ·exact AP.out q h e
   ·have h3:=F4.out.last
    obtain⟨L',k1,-⟩:=h3
    have:=kt k1 q e
    omega
  ·exact(C5.out.set _ (.inl (.inr (.inl rfl)))).set _ (.inl (.inl rfl))
  ·intro q j
   rcases W5.out q j with h | h
   ·exact .inl h
   ·exact .inr (bJ C4.out.size h))
 clear Yr S Z zN k1
 go_wp2_with fail
 refine⟨⟨⟨_,x0⟩,rfl⟩,?_⟩
 refine aX 2 (by kernel_rfl) ?_
 simp only[aJ,aO,aI,aL]
 repeat (go_big_quiet_step (fail))
 refine aU ?_
 refine bF ?_
 clear dF qR
 change wpList _ _ _ _ _ _
 go_wp2_with fail
 have F:=eM.out (wrap64 (P.c8+(c:Int)))
 revert F
 generalize(z.setCell ⟨fb,0,ae⟩ (aB J U O)).setCell ⟨db,14,ae⟩ (ay az (wrap64 (P.c8+(c:Int))))=w6
 intro F
 refine(PO db w6).mono ?_
 rintro e w7 ⟨rfl,Da⟩
 have F7:=aH (F.on Da)
 clear Da F
 go_wp2_with fail
 go_ret2
 exact⟨rfl,_,F7.out⟩
theorem te(k n m t l K:Nat)(a:Int)(L:List gW)(f:Lit->Option ar)(s:ByteArray)(B bs:List (BitVec 8))(i:Option Addr)(c j:Nat)(w:am)(g:Tg)(H:nE w g k a L n m f)(F:uw w g t l B)(T:kK s=aj)(N:f (fS s)=ag (aA (ag ⟨l,0,ae⟩)))(I:B.length<=16777216)(U:10<t)
 (y:p7 w f K) (Q:n<=256) (J:K<=16777216) (P:0<=a/\a<=16777216) (M:bs.length=c) (tE:cD w i bs) (p:∀b h,i=ag ⟨b,h,ae⟩->bs≠[]->g b≠1) (rp:i=ae->j=0) (o:c<=j) (W:(c:Int)+(n*K:Nat)<=a):
 aw ax 117 #[aA (ag ⟨k,0,ae⟩),.string s,aB i c j] w λe w'=>e=aF (.tuple #[ay az c,ay az 0])/\∃g',Ch [1,t,t+1,t+2] g w g' w'/\nE w' g' k a L n m f/\uw w' g' t l (B++bs):=by
 obtain⟨d,Z,X,fl,u,q,S,sa,r,hF⟩:=H.ex
 obtain⟨bv,Y,x,V,G⟩:=F.ex
 refine(PQ k Z X n K l j c d f s bv Y B bs i w (aH u) r.map (aH y) T N (aH x) I Q J (by rw[q];exact P) M tE (λb h e D E=>p b h e D (by rw[E];exact H.tag)) rp o (by rw[q];exact W)).mono ?_
 rintro e w' ⟨rfl,xx,O⟩
 obtain⟨z,A,C⟩:=O.tags u q S sa r hF H.tag x V G F.tag U (t+1) (.inl rfl) (.inr rfl)
 exact⟨rfl,_,z,A,C⟩
theorem uw.le{w:am}{g:Tg}{t f K:Nat}{B:List (BitVec 8)}(h:uw w g t f B)(k:B.length<=K):∃j b d,w.cell? ⟨f,0,ae⟩=ag (aB j b d)/\b<=K:=by
 obtain⟨bv,l,i,-⟩:=h.ex
 obtain⟨a,c,e,-⟩:=i.own.slice
 exact⟨a,B.length,c,by rw[<-e];exact aZ 0 i.row,k⟩
theorem rD{w:am}{g:Tg}{s t b d K:Nat}{j k:List (BitVec 8)}{f:Lit->Option ar}(m:uw w g s b j)(n:uw w g t d k)(q:j.length<=K)(r:k.length<=K)(o:∀kl v,f kl=ag v->v=aA (ag ⟨b,0,ae⟩)\/v=aA (ag ⟨d,0,ae⟩)):p7 w f K:=λkl v _ p=>by
 rcases o kl v p with e | e
 ·obtain⟨a,l,c,h,i⟩:=m.le q
  exact⟨b,a,l,c,e,h,i⟩
 ·obtain⟨a,l,c,h,i⟩:=n.le r
  exact⟨d,a,l,c,e,h,i⟩
theorem UQ(u n m t r:Nat)(p:Int)(L:List gW)(f:Lit->Option ar)(s:ByteArray)(B:List (BitVec 8))(a k:Nat)(w:am)(g:Tg)(H:nE w g u p L n m f)(F:uw w g t r B)(X:kK s=aj)(U:f (fS s)=ag (aA (ag ⟨r,0,ae⟩)))(S:B.length<=16777216)(hk:1<=k)(qx:a+k<=B.length):
 aw ax 76 #[aA (ag ⟨u,0,ae⟩),.string s,ay az a,ay az k] w λe w'=>∃v,e=aF (.tuple #[v,ay az 0])/\cU w' w.heap.size v ((B.drop a).take k)/\Below w.heap.size w w':=by
 obtain⟨d,nb,Z,fl,T,oB,W,sa,A,hF⟩:=H.ex
 obtain⟨bv,lv,y,Y,Q⟩:=F.ex
 obtain⟨P,q,rfl,c,x,aa,E,i⟩:=y.own.shape
 obtain⟨b,rfl⟩:∃b,P=ag ⟨b,0,ae⟩:=by
  rcases i with h | ⟨b,h,-⟩
  ·have:=c h;omega
  ·exact⟨b,h⟩
 have x0:w.cell? ⟨r,0,ae⟩=ag (aB (ag ⟨b,0,ae⟩) B.length q):=aZ 0 y.row
 have J:=aH (show cD w (ag ⟨b,a,ae⟩) ((B.drop a).take k)from by have:=(E.drop a).take k;rwa [cL]at this)
 have z:=aH (show((B.drop a).take k).length=k by rw[dg,cV];omega)
 obtain⟨l,C⟩:=bP B.length
 rw[C]at x0 x qx S
 have i1:¬(a:Int)<0:=by omega
 have i2:¬(k:Int)<0:=by omega
 have i7:¬ q=a:=by omega
 have d1:decide ((a:Int)<0)=ah:=bC (by omega)
 have d2:decide ((k:Int)<0)=ah:=bC (by omega)
 have d3:decide (l<a)=ah:=bC (by omega)
 have d4:decide ((l:Int)-(a:Int)<(k:Int))=ah:=bC (by omega)
 have M:=A.map
 have K:ag (⟨b,a,ae⟩:Addr)=ae->q-a=0:=λh=>by cases h
 have LE:=aH (show([]:List (BitVec 8)).length+((B.drop a).take k).length<=140737488355328 by rw[z.out,eV];omega)
 clear y A hF W sa oB Y Q E i c C H F
 go_in
 go_wp2_with fail
 refine(ui u nb Z n d f s w T M X (ag ⟨r,0,ae⟩) (by rw[U];rfl)).mono ?_
 rintro e w' ⟨rfl,rfl⟩
 go_wp2_with (at_builtin;refine cI (o:=⟨ag 56,_,_,_,_,_⟩) rfl rfl w'.heap.size (aB ae 0 0) [] rfl (cU.nil _ _) (ag ⟨b,a,ae⟩) k (q-a) ((B.drop a).take k) ?hx z.out.symm J.out K LE.out dx ?h)
 case hx=>
  simp only[Act.eval]
  simp
 case h=>
  intro v2 w2 G D O
  have N:=aH G
  have I:=aH (show Below w'.heap.size w' w2 from(cX _ _).grown D dx (λj V=>by cases V))
  clear G D O
  go_wp2_with fail
  go_ret2
  exact⟨v2,rfl,N.out,I.out⟩
theorem GS(c n m:Nat)(b:Int)(L:List gW)(f:Lit->Option ar)(w:am)(g:Tg)(H:nE w g c b L n m f):
 aw ax 64 #[aA (ag ⟨c,0,ae⟩)] w λe w'=>e=aF (ay az L.length)/\w'=w:=by
 obtain⟨d,o,l,k,h,p,i,-⟩:=H.ex
 obtain⟨j,pc,a⟩:=i.shape
 have q:w.cell? ⟨c,5,ae⟩=ag (aB j L.length pc):=by rw[<-a];exact h.cell 5
 clear i a H h
 go_in
 go_wp2_with fail
 go_ret
 exact⟨rfl,rfl⟩
def SW(a:Int):zB:=⟨a,aB ae 0 0,0,0,0,0,0,0,0,0,0,0⟩
theorem xu(a:Int)(w:am)(g:Tg)(h:0<=a/\a<=16777216):
 aw ax 27 #[ay az a] w λe w'=>∃g',e=aF (aA (ag ⟨w.heap.size+2,0,ae⟩))/\Ch [] g w g' w'/\nE w' g' (w.heap.size+2) a [] 0 0 gj:=by
 have j:=@run_makeMap ax
 go_in
 go_wp2_with fail
 go_ret
 have i:=aY w (.map #[] 0)
 have d:=aY (w.alloc (.map #[] 0)) (.map #[] 0)
 have b3:=aY ((w.alloc (.map #[] 0)).alloc (.map #[] 0)) (aG ((SW a).cells w.heap.size (w.heap.size+1)) 138)
 have l:(w.alloc (.map #[] 0)).heap.size=w.heap.size+1:=by simp
 have m:((w.alloc (.map #[] 0)).alloc (.map #[] 0)).heap.size=w.heap.size+2:=by simp
 have f:fL (w.alloc (.map #[] 0)) 9 w.heap.size 0 gj:=fL.made w _
 have c:fL ((w.alloc (.map #[] 0)).alloc (.map #[] 0)) 9 (w.alloc (.map #[] 0)).heap.size 0 gj:=fL.made _ _
 rw[l]at c
 have b:=f.move (d.block _ f.lt)
 refine⟨tg (tg (tg g w.heap.size 5) (w.heap.size+1) 6) (w.heap.size+2) 1,rfl,((((Ch.bh [] g (aM (aM i d) b3)).tg dx).tg (by omega)).tg (by omega)),⟨SW a,w.heap.size,w.heap.size+1,gj,?_,rfl,ae9 _ 0 _ 1,(λq k=>nomatch k),⟨b.move (b3.block _ b.lt),?_⟩,⟨c.move (b3.block _ c.lt),?_⟩⟩,dG _ _ _⟩
 ·have:=bp ((w.alloc (.map #[] 0)).alloc (.map #[] 0)) (aG ((SW a).cells w.heap.size (w.heap.size+1)) 138)
  rw[m]at this
  exact this
 ·rw[dA (by omega),dA (by omega)];exact dG _ _ _
 ·rw[dA (by omega)];exact dG _ _ _
theorem Mq(b n m:Nat)(c:Int)(L:List gW)(f:Lit->Option ar)(w:am)(g:Tg)(H:nE w g b c L n m f):
 aw ax 28 #[aA (ag ⟨b,0,ae⟩),aB ae 0 0] w λe w'=>∃g',e=aF (ay az 0)/\Ch [1] g w g' w'/\nE w' g' b c L n m f:=by
 obtain⟨d,J,I,E,p,r,h,k,u,hF⟩:=H.ex
 have G:=@run_makeMap ax
 have o:=aY w (.map #[] 0)
 obtain⟨l,F⟩:=bP (w.alloc (.map #[] 0))
 rw[F]at o
 have x:=aH (Ch.start g o)
 have N:w.cell? ⟨b,0,ae⟩=ag (aC aj):=p.cell 0
 have a:=p.dV o
 have O:l.cell? ⟨b,15,ae⟩=ag (aB ae 0 0):=a.cell 15
 have P:l.cell? ⟨b,16,ae⟩=ag (ay az d.since):=a.cell 16
 have K:=a.free 15
 have M:=a.free 16
 have y:=aH a
 have B:=aH (And.intro r (And.intro h k))
 have A:=aH u
 have z:=aH hF
 have C:=aH H.tag
 have s:=aH p
 clear r h k u hF H o a p
 go_in
 go_wp2_with fail
 refine sw 1 ?_
 rw[KU]
 go_wp2_with fail
 go_ret
 have t:eJ g w.heap.size 0 b=1:=by rw[dU (aT s.out)];exact C.out
 have D:Ch [1] (eJ g w.heap.size 0) l (eJ g w.heap.size 0) ((l.setCell ⟨b,15,ae⟩ (aB ae 0 0)).setCell ⟨b,16,ae⟩ (ay az 0)):=((Ch.refl _ _ _).set _ (.inl (by rw[t];decide))).set _ (.inl (by rw[t];decide))
 have i:Ch [1] g w (eJ g w.heap.size 0) ((l.setCell ⟨b,15,ae⟩ (aB ae 0 0)).setCell ⟨b,16,ae⟩ (ay az 0)):=x.out.any.trans D
 obtain⟨r,h,k⟩:=B.out
 exact⟨_,rfl,i,⟨{ d with since:=0 },J,I,E,bE (bE y.out 15 _) 16 _,r,dC h λq j=>i.gP q (kr h q j) (by rw[k q j];decide),(λq j=>(i.tag q (kr h q j)).trans (k q j)),A.out.ch i (by decide),z.out.ch i (by decide)⟩,t⟩
def uI(e:Nat)(a:ByteArray)(c d h g i sm:Int)(b:Bool)(j f:Nat):Array ar:=#[aA (ag ⟨e,0,ae⟩),.string a,ay az c,ay az d,ay .u32 h,ay az g,ay az i,ay .u32 sm,aC b,aC ah,aA (ag ⟨j,0,ae⟩),.map (ag f)]
theorem sc{w:am}{g:Tg}{t a f:Nat}{b:ByteArray}{d e k j l sm:Int}{c:Bool}{m i:Nat}{n:au}(h:Row w g t a (uI f b d e k j l sm c m i) n):
 a<w.heap.size/\w.cell? ⟨a,0,ae⟩=ag (aA (ag ⟨f,0,ae⟩))/\w.cell? ⟨a,1,ae⟩=ag (.string b)/\w.cell? ⟨a,2,ae⟩=ag (ay az d)/\w.cell? ⟨a,3,ae⟩=ag (ay az e)/\w.cell? ⟨a,4,ae⟩=ag (ay .u32 k)/\w.cell? ⟨a,5,ae⟩=ag (ay az j)/\w.cell? ⟨a,6,ae⟩=ag (ay az l)/\w.cell? ⟨a,7,ae⟩=ag (ay .u32 sm)/\w.cell? ⟨a,8,ae⟩=ag (aC c)/\w.cell? ⟨a,9,ae⟩=ag (aC ah)/\w.cell? ⟨a,10,ae⟩=ag (aA (ag ⟨m,0,ae⟩))/\w.cell? ⟨a,11,ae⟩=ag (.map (ag i))/\
 w.frozen? ⟨a,5,ae⟩=ah/\w.frozen? ⟨a,6,ae⟩=ah/\w.frozen? ⟨a,7,ae⟩=ah/\w.frozen? ⟨a,8,ae⟩=ah:=
 ⟨h.lt,h.cell 0,h.cell 1,h.cell 2,h.cell 3,h.cell 4,h.cell 5,h.cell 6,h.cell 7,h.cell 8,h.cell 9,h.cell 10,h.cell 11,h.free 5,h.free 6,h.free 7,h.free 8⟩
def Qn(X:jE)(b n a:Int):Prop:=(n=0/\a=32/\X=⟨1024,[],ah,⟨0,0⟩⟩)\/(0<n/\32<a/\∃l o,X=⟨1024,[⟨b,32⟩],aj,⟨l,o⟩⟩/\l<b+n/\o<a)
theorem Qn.add{X Y:jE}{c n e f g:Int}(h:Qn X c n e)(a:Nz X (c+n) e Y g)(i:1<=c)(p:e<=1000)(d:e<f):Qn Y c (n+1) f:=by
 rcases h with⟨rfl,rfl,rfl⟩ | ⟨k,q,l,o,rfl,j,m⟩
 ·rcases a with⟨b,-⟩ | ⟨-,b,-⟩ | ⟨-,-,-,rfl,-⟩ | ⟨-,-,b,-⟩
  ·unfold nh at b;omega
  ·exact absurd b.1 (by decide)
  ·exact .inr ⟨by omega,by omega,c+0,32,by simp,by omega,d⟩
  ·exact absurd (.inl rfl) b
 ·rcases a with⟨-,rfl,-⟩ | ⟨-,-,rfl,-⟩ | ⟨-,-,b,-⟩ | ⟨-,-,-,rfl,-⟩
  ·exact .inr ⟨by omega,by omega,l,o,rfl,by omega,by omega⟩
  ·exact .inr ⟨by omega,by omega,l,o,rfl,by omega,by omega⟩
  ·rcases b with b | b
   ·exact absurd b (by simp)
   ·exact absurd b (by show ¬(1024:Int)<=e-32;omega)
  ·exact .inr ⟨by omega,by omega,_,_,rfl,by omega,d⟩
theorem Qn.find{X:jE}{b n f lsn:Int}(h:Qn X b n f)(j:0<n)(g:b<=lsn){e:gp}{d:Bool}(a:vp X.l lsn e d):e=⟨b,32⟩/\d=aj:=by
 rcases h with⟨rfl,-⟩ | ⟨-,-,l,o,rfl,-⟩
 ·omega
 ·rcases a with⟨i,c,-,-,rfl,rfl⟩ | ⟨c,-⟩
  ·have:i=0:=by simpa using c
   subst this
   exact⟨rfl,rfl⟩
  ·have:=c 0 (by simp)
   exact absurd (show lsn<b from this) (by omega)
theorem jw.tags{w w':am}{f:Nat}{v d:ar}{g:Tg}(h:jw w w' f v d)(hx:g f=18)(b:∀q,v.ownBlock=ag q->g q=19/\q<w.heap.size):
 Ch [18,19] g w (eJ g w.heap.size 19) w'/\∀q,d.ownBlock=ag q->eJ g w.heap.size 19 q=19:=by
 refine⟨⟨h.os,h.tape,h.output,h.size,λq a=>dU a,λq a c=>h.iZ q a (λe=>c (by rw[e,hx];decide)) (λe=>c (by rw[(b q e).1];decide))⟩,λq a=>?_⟩
 rcases h.who q a with e | e
 ·rw[dU (b q e).2];exact(b q e).1
 ·exact dQ e
structure KE(w:am)(g:Tg)(xb:Nat)(b0 n sz:Int):Prop where
 ex:∃X ao m ca,jF w 0 xb X ao m ca/\lY X/\Qn X b0 n sz/\(∀q,(Value.slice ao m ca).ownBlock=ag q->g q=19)
 tag:g xb=18
theorem CU{w:am}{v:ar}{L:List gp}(h:iQ w 0 v L):∀q,v.ownBlock=ag q->q<w.heap.size:=λq b=>by
 obtain⟨-,a,c⟩:=ru h b
 exact aT c
theorem KE.ch{T:List Nat}{w w':am}{g g':Tg}{d:Nat}{e n j:Int}(h:KE w g d e n j)(c:Ch T g w g' w')(f:18∉T/\19∉T):KE w' g' d e n j:=by
 obtain⟨X,k,m,l,b,o,p,i⟩:=h.ex
 refine⟨⟨X,k,m,l,b.move λq a=>?_,o,p,λq a=>(c.tag q (CU b.held q a)).trans (i q a)⟩,(c.tag d (aT b.row)).trans h.tag⟩
 rcases a with rfl | a
 ·exact c.gP q (aT b.row) (by rw[h.tag];exact f.1)
 ·exact c.gP q (CU b.held q a) (by rw[i q a];exact f.2)
theorem acw(h:Nat)(b n d f lsn:Int){w:am}(g:Tg)(H:KE w g h b n d)(x:1<=b)(A:d<=1000)(j:d<f)(y:lsn=b+n)(z:lsn<=9223372036854775807):
 aw ax 178 #[aA (ag ⟨h,0,ae⟩),ay az lsn,ay az d] w λe w'=>(∃i,e=aF (ay az i))/\∃g',Ch [18,19] g w g' w'/\KE w' g' h b (n+1) f:=by
 obtain⟨X,r,m,u,k,o,B,C⟩:=H.ex
 subst y
 refine(Yl 0 h m u X r (b+n) d w (aH k) (aH o) (aH Rc)).mono ?_
 rintro e w' ⟨Y,i,F,E,p,a,rfl,D,t⟩
 obtain⟨c,s⟩:=t.tags H.tag (λq l=>⟨C q l,CU k.held q l⟩)
 exact⟨⟨i,rfl⟩,_,c,⟨Y,F,E,p,D,a.ok o z,B.add a x A j,s⟩,(c.tag h (aT k.row)).trans H.tag⟩
theorem Cz(b:Nat)(a n p lsn:Int)(w:am)(g:Tg)(H:KE w g b a n p)(j:0<n)(i:a<=lsn):
 aw ax 75 #[aA (ag ⟨b,0,ae⟩),ay az lsn] w λe w'=>e=aF (.tuple #[.agg #[ay az a,ay az 32],aC aj])/\Below w.heap.size w w':=by
 obtain⟨X,c,m,d,k,l,o,r⟩:=H.ex
 refine(Tu 0 b m d X c lsn w (aH k) (aH l)).mono ?_
 rintro e w' ⟨q,s,h,rfl,f⟩
 obtain⟨rfl,rfl⟩:=o.find j i h
 exact⟨rfl,f⟩
noncomputable def BV (a b n:Int):Lit->Option ar:=if n=0 then gj else fU gj (kI a) (ay .u32 b)
structure lX(w:am)(g:Tg)(sb db:Nat)(file:ByteArray)(num b0:Nat)(sd:BitVec 32)(ds:List (List (BitVec 8)))(brk:Bool):Prop where
 ex:∃xb mb,Row w g 17 sb (uI db file num b0 0 (b0+ds.length) (32+(bY sd b0 ds).length) (bv (dS sd b0 ds)) brk xb mb) 226/\KE w g xb b0 ds.length (32+(bY sd b0 ds).length)/\i9 w g 20 2 mb ds.length (BV b0 (bv sd) ds.length)
 low:1<=b0/\b0+ds.length<=2000000000000000000
theorem lX.ch{T:List Nat}{w w':am}{g g':Tg}{k i:Nat}{a:ByteArray}{d f:Nat}{l:BitVec 32}{j:List (List (BitVec 8))}{b:Bool}(h:lX w g k i a d f l j b)(c:Ch T g w g' w')(e:17∉T/\18∉T/\19∉T/\20∉T):lX w' g' k i a d f l j b:=by
 obtain⟨q,p,m,n,o⟩:=h.ex
 exact⟨⟨q,p,m.ch c e.1,n.ch c ⟨e.2.1,e.2.2.1⟩,o.ch c e.2.2.2⟩,h.low⟩
theorem ue(c:BitVec 32)(a:Nat)(b:List (List (BitVec 8)))(d:List (BitVec 8)):(bY c a (b++[d])).length=(bY c a b).length+(16+d.length):=by
 rw[pR,aN,iK]
end
section
open Go.RowKit
theorem ac6{b:List (List (BitVec 8))}{d:List (BitVec 8)}{c:BitVec 32}{a i:Nat}(k:b[i]?=ag d)(w:1<=a)(H:a+b.length<=2000000000000000000)(p:∀d∈b,d.length<=4096){x l o:Int}{f:List (BitVec 8)}
 (h:VH (bY c a b) a c ((a:Int)+(i:Int)) x f l o):x=(a:Int)+(i:Int)/\f=d/\o=0:=by
 have n:i<b.length:=by
  rcases cg i b.length with h | h
  ·exact h
  ·rw[gH h]at k;cases k
 obtain⟨q,r⟩:=Bf (bs:=bY c a b) b ⟨0,0,a,c⟩ a [] (by rw[eP];rfl) rfl w (by omega) p
 have E:∀j,j<=b.length->(eL (bY c a b) ⟨0,0,a,c⟩ j).next=(a:Int)+(j:Int):=λj A=>by rw[r j A]
 have u:=r i (by omega)
 have F:bY c a b=bY c a (b.take i)++(ij (dS c a (b.take i)) (BitVec.ofNat 64 (a+i)) d++bY (iI (dS c a (b.take i)) (BitVec.ofNat 64 (a+i)) d) (a+i+1) (b.drop (i+1))):=by
  have e:b=b.take i++(d::b.drop (i+1)):=by
   conv=>lhs;rw[<-fO i b]
   rw[List.drop_eq_getElem_cons n]
   have:b[i]=d:=by have:=aP n;rw[k]at this;injection this with this;exact this.symm
   rw[this]
  conv=>lhs;rw[e,kB]
  rw[dg,ae7 (by omega)]
  rfl
 have s:rQ (bY c a b) (eL (bY c a b) ⟨0,0,a,c⟩ i)=⟨BitVec.ofNat 64 (a+i),d,16+d.length,iI (dS c a (b.take i)) (BitVec.ofNat 64 (a+i)) d,0⟩:=by
  rw[u]
  unfold rQ
  dsimp only
  rw[cL]
  have t:(bY c a b).drop (bY c a (b.take i)).length=ij (dS c a (b.take i)) (BitVec.ofNat 64 (a+i)) d++bY (iI (dS c a (b.take i)) (BitVec.ofNat 64 (a+i)) d) (a+i+1) (b.drop (i+1)):=by
   conv=>lhs;rw[F]
   rw[List.drop_left]
  rw[t]
  refine FN (p d (cG k)) ?_ ?_ <;> (rw[fk,dD (by omega)];omega)
 rcases h with⟨j,-,z,B,rfl,rfl,-,rfl⟩ | ⟨j,y,C,-⟩
 ·have g:=(z j dx).2.2
  rw[B,(vT _ _ j).2]at g
  have:j=i:=by dsimp only at g;omega
  subst this
  exact⟨rfl,by rw[s],rfl⟩
 ·exfalso
  have m:i<j:=by
   rcases cg i j with h | h
   ·exact h
   ·rcases y with⟨G,-⟩ | ⟨-,D⟩
    ·omega
    ·exact absurd (q j (by omega)) D.2
  have:=C i m
  have g:=(q i n).2.2
  rw[E i (by omega)]at g
  exact this g
end
end Go.Proofs.YtooinenkenobaaaGreat

/- A part of the proof of what LawWholeReaders says. -/
import Derived.Test.YtooinenkenobaaaGreatAa
import Derived.Test.YtooinenkenobaaaGreatBn
import Derived.Test.YtooinenkenobaaaGreatBl
set_option maxRecDepth 100000
set_option maxHeartbeats 20000000
namespace Go.Proofs.YtooinenkenobaaaGreat
open Option renaming none->ae,some->ag
open Bool renaming false->ah,true->aj
open Go.Proofs.Tryz renaming prog->ax
open Go.Value renaming int->ay,pointer->aA,slice->aB,bool->aC,float->aD
open Go.IntKind renaming i64->az
open Go.FloatKind renaming f64->aE
open Go.Ending renaming returned->aF
open Go.Obj renaming cells->aG
open Go renaming World->am,Value->ar,TypeId->au,Calls->aw
section
open Go.RowKit Go.Maps
def iV{α:Type}(f:α->List ar)(E:au)(k:Nat)(w:am)(v:ar)(L:List α):Prop:=
 (v=aB ae 0 0/\L=[])\/∃(g o a:Nat) (b:Array ar),v=aB (ag ⟨g,o*k,ae⟩) L.length a/\w.heap[g]?=ag (.cells b E (0,0))/\L.length<=a/\a<=maxLen/\(o+a)*k<=b.size/\(b.toList.drop (o*k)).take (L.length*k)=L.flatMap f
section
variable{α:Type}{f:α->List ar}{E:au}{k:Nat}{w w':am}{v:ar}{L:List α}
theorem iV.nil(f:α->List ar)(E:au)(k:Nat)(w:am):iV f E k w (aB ae 0 0) []:=.inl ⟨rfl,rfl⟩
theorem iV.gP(h:iV f E k w v L){q:Nat}(b:v.ownBlock=ag q):∃a,w.heap[q]?=ag (.cells a E (0,0)):=by
 rcases h with⟨rfl,-⟩ | ⟨g,o,c,a,rfl,d,-⟩
 ·cases b
 ·cases b
  exact⟨a,d⟩
theorem iV.lt(h:iV f E k w v L):∀q,v.ownBlock=ag q->q<w.heap.size:=λq b=>by
 obtain⟨a,c⟩:=h.gP b
 exact aT c
theorem iV.same(h:iV f E k w v L)(c:∀q,v.ownBlock=ag q->w'.heap[q]?=w.heap[q]?):iV f E k w' v L:=by
 rcases h with h | ⟨g,o,a,b,rfl,e,d⟩
 ·exact .inl h
 ·exact .inr ⟨g,o,a,b,rfl,(c g rfl).trans e,d⟩
theorem iV.below(h:iV f E k w v L)(c:Below w.heap.size w w'):iV f E k w' v L:=h.same λq a=>c.block q (h.lt q a)
theorem iV.shape(h:iV f E k w v L):∃b a,v=aB b L.length a/\L.length<=a/\a<=maxLen:=by
 rcases h with⟨rfl,rfl⟩ | ⟨g,o,c,d,rfl,j,e,i,-⟩
 ·exact⟨ae,0,rfl,bT _,by simp[maxLen]⟩
 ·exact⟨_,_,rfl,e,i⟩
theorem iV.first(l:∀x,(f x).length=k){x:α}(h:iV f E k w v (x::L)):∃g o a,v=aB (ag ⟨g,o*k,ae⟩) (L.length+1) a/\L.length+1<=a/\a<=maxLen/\(∀j,j<k->w.cell? ⟨g,o*k+j,ae⟩=(f x)[j]?)/\g<w.heap.size/\iV f E k w (if a=1 then aB (ag ⟨g,o*k,ae⟩) 0 0 else aB (ag ⟨g,(o+1)*k,ae⟩) L.length (a-1)) L:=by
 rcases h with⟨-,h⟩ | ⟨g,o,a,b,rfl,i,m,r,n,d⟩
 ·cases h
 ·rw[bV]at m d ⊢
  have p:((b.toList.drop (o*k)).take ((L.length+1)*k)).length=(L.length+1)*k:=by
   rw[d,jC f k l,bV]
  refine⟨g,o,a,rfl,m,r,λj t=>?_,aT i,?_⟩
  ·have c:((b.toList.drop (o*k)).take ((L.length+1)*k))[j]?=(f x)[j]?:=by
    rw[d,eC,bI (by rw[l];exact t)]
   rw[dt,bj (by rw[dT];omega),fF,eQ]at c
   rw[aZ _ i]
   exact c
  ·have s:(b.toList.drop ((o+1)*k)).take (L.length*k)=L.flatMap f:=by
    have c:=uT f k l (x::L) 1
    rw[kQ]at c
    rw[show L.flatMap f=((x::L).drop 1).flatMap f from rfl,<-c,<-d,List.drop_take,KT,dT,kQ,dT,kQ,nk]
   by_cases e:a=1
   ·rw[bj e]
    have q:L=[]:=eu (by omega)
    subst q
    exact .inr ⟨g,o,0,b,rfl,i,bT _,by simp[maxLen],bJ (dp k (by omega)) n,by simp⟩
   ·rw[bf e]
    exact .inr ⟨g,o+1,a-1,b,rfl,i,by omega,by omega,bJ (dp k (by omega)) n,s⟩
end
theorem qT(w:am)(t D e:au)(i:TypeInfo)(B:Tryz.prog.underlying t=ag (.slice e))(z:Tryz.prog.info? e=ag i)
 (g o h l:Nat) (d:Array ar) (y:w.heap[g]?=ag (.cells d e (0,0)))
 (a:Addr) (m c:Nat) (b:List ar) (A:b.length=m*i.size) (q:∀j u,b[j]?=ag u->w.cell? (a.add j)=ag u) (s:∀u∈b,u.oneCell'=aj)
 (C:h+m<=l) (r:o+h*i.size+b.length<=d.size):
 (Builtin.append_ #[t,t] D #[aB (ag ⟨g,o,ae⟩) h l,aB (ag a) m c]).run ax w=
  .ok (aB (ag ⟨g,o,ae⟩) (h+m) l) (w.setRow g (d.toList.take (o+h*i.size)++b++d.toList.drop (o+h*i.size+b.length)).toArray):=by
 have x:=run_firstCells_some (P:=ax) w i.size m a m c b A q
 have p:=run_storeCells_at ax g (o+h*i.size) e b 0 d w y (by simpa using r) s
 simp only[fD]at p
 have n:(⟨g,o,ae⟩:Addr).add (h*i.size)=⟨g,o+h*i.size,ae⟩:=by unfold Addr.add;split <;> simp_all
 simp[Builtin.append_,run_underlying B,sizeOf,typeInfo,z,Builtin.lenOf,C,x,n,p]
theorem iM{w:am}{ops:Array Oper}{r:List Oper}{o:Oper}{a:Act}{Q:Exit->Act->am->Prop}(Z:o.guard=ae){s x:Operand}(T E:au)
 (ho:o.op=.call { callee:=.builtin .append,args:=#[s,x],argTypes:=#[T,T] }) {k bytes:Nat} {z:ar} (U:Tryz.prog.underlying T=ag (.slice E)) (hI:(Tryz.prog.info? E).map (λi=>(i.zero,i.size,i.bytes))=ag (ag z,k,bytes)) (hz:z.cells.size=k) (hk:0<k) (hb:bytes<=1024)
 {α:Type} (f:α->List ar) (n:∀x,(f x).length=k) (h1:∀x,∀u∈f x,u.oneCell'=aj) {v:ar} (L:List α) (hs:a.eval s=v) (jO:iV f E k w v L) (B:Addr) (y:α) (hx:a.eval x=aB (ag B) 1 1) (X:∀j t,(f y)[j]?=ag t->w.cell? (B.add j)=ag t) (aa:L.length<=1000000)
 (h:∀m w',iV f E k w' m (L++[y])->w.grownBy w' v.ownBlock->(∀j,m.ownBlock=ag j->v.ownBlock=ag j\/w.heap.size<=j)->wpList ax ops Q r (a.put o.dst m) w'):wpList ax ops Q (o::r) a w:=by
 rcases jO with⟨rfl,rfl⟩ | ⟨g,b,c,d,rfl,F,V,hm,lC,tZ⟩
 ·refine cY Z s x T E ho U hI hz hk hb f n h1 _ [] hs (fC.nil f E k w) B y hx X (by simp) ?_
  intro m w' N O S
  refine h m w' ?_ O S
  rcases N.2 with⟨-,h0⟩ | ⟨g,c,d,e,-,F,h5,h6,h7,h8⟩
  ·simp at h0
  ·exact .inr ⟨g,0,c,d,by rw[io];exact e,F,h5,h6,by rw[cL,h7];exact bT _,by rw[io,aL];exact h8⟩
 ·obtain⟨i,hi,qv,H,mf⟩:=sy hI
  have I:=jC f k n L
  have D:(L++[y]).flatMap f=L.flatMap f++f y:=by rw[EA,eC,List.flatMap_nil,eP]
  have uP:∃m w',(Builtin.append_ #[T,T] o.type #[aB (ag ⟨g,b*k,ae⟩) L.length c,aB (ag B) 1 1]).run ax w=.ok m w'/\iV f E k w' m (L++[y])/\w.grownBy w' (ag g)/\(∀j,m.ownBlock=ag j->ag g=ag j\/w.heap.size<=j):=by
   have ab:b*k+L.length*k<=d.toList.length:=by
    have:=dp k V
    rw[dT]at lC
    simp;omega
   by_cases Y:L.length+1<=c
   ·have J:=dp k Y
    have JJ:b*k+L.length*k+k<=d.size:=by
     rw[dT]at lC J
     omega
    have C:=qT w T o.type E i U hi g (b*k) L.length c d F B 1 1 (f y) (by rw[n,H,kQ]) X (h1 y) Y (by rw[n,H];exact JJ)
    rw[H,n]at C
    refine⟨_,_,C,.inr ⟨g,b,c,_,by rw[aN];rfl,oQ w g d _ E _ F,by rw[aN];exact Y,hm,?_,?_⟩,⟨rfl,rfl,rfl,by simp,λq _ W=>setRow_other w g q _ (λe=>W (by rw[e]))⟩,λj p=>.inl p⟩
    ·simp only[iq,aN,dg,cV,Array.length_toList,n]
     omega
    ·rw[D,aN]
     have e1:((d.toList.take (b*k+L.length*k)++f y++d.toList.drop (b*k+L.length*k+k)).drop (b*k))=L.flatMap f++(f y++d.toList.drop (b*k+L.length*k+k)):=by
      rw[de,List.drop_append,dg,show b*k-min (b*k+L.length*k) d.toList.length=0 by omega,aL,<-tZ,List.drop_take,Nat.add_sub_cancel_left]
     have e0:∀l:List ar,l.toArray.toList=l:=λl=>rfl
     rw[e0,e1,<-de]
     have M:(L.length+[y].length)*k=(L.flatMap f++f y).length:=by rw[aN,I,n,dT];simp
     rw[M]
     exact List.take_left
   ·have A:∀j u,(L.flatMap f)[j]?=ag u->w.cell? ((⟨g,b*k,ae⟩:Addr).add j)=ag u:=λj u p=>by
     rw[show(⟨g,b*k,ae⟩:Addr).add j=⟨g,b*k+j,ae⟩by unfold Addr.add;split <;> simp_all,aZ _ F]
     rw[<-tZ,dt]at p
     split at p
     ·rw[fF,eQ]at p
      exact p
     ·cases p
    have yI:(L.length+1)*i.bytes<=140737488355328:=by rw[mf];have:=jU (show L.length+1<=1000001 by omega) hb;omega
    have C:=run_append_grow (P:=ax) w T o.type E i z U hi qv ⟨g,b*k,ae⟩ L.length c (L.flatMap f) (by rw[I,H]) A B 1 1 (f y) (by rw[n,H,kQ]) X (by omega) (by omega) (growslice_fits (by omega) yI)
    have G:=grownCap_ge w (L.length+1) c E
    have Ix:=grownCap_le_maxLen w (L.length+1) c E (by simp only[maxLen];omega)
    refine⟨_,_,C,.inr ⟨w.heap.size,0,grownCap w (L.length+1) c E,_,by rw[io,aN];rfl,bp w.drew _,by rw[aN];exact G,Ix,?_,?_⟩,⟨rfl,rfl,rfl,by simp,λq W _=>heap_alloc_old w.drew _ W⟩,λj p=>.inr (jy (iy p))⟩
    ·simp only[Array.size_append,iq,size_zeroCells,hz,I,n,cL]
     rw[Nat.sub_mul,dT]
     have:=dp k G
     rw[dT]at this
     omega
    ·rw[D,io,aL,aN]
     simp only[Array.toList_append,de]
     rw[<-de]
     have M:(L.length+[y].length)*k=(L.flatMap f++f y).length:=by rw[aN,I,n,dT];simp
     rw[M]
     exact List.take_left
  obtain⟨m,w',C,N,O,S⟩:=uP
  refine wpList_plain Z λK hK=>?_
  unfold Oper.wp execOp
  simp only[ho,resolve,invoke,builtin,gG,Sem.run_pure,ae',List.map_toArray,aV,a8,hs,hx,C]
  exact hK _ _ (h m w' N O S)
theorem Sq(qb:Nat)(c bytes a:Int)(p:ar)(b n:Nat){line:ar}(m:Nat)(L:List fw)(x:fw)(w:am)
 {g:Tg} (H:Hid (Row w g 30 qb (gR c bytes a p b n line m) 166)) (K:iW w g p b n L) (I:n<=2000) (S:0<=a/\a<=4294967296) (hx:0<=x.size/\x.size<=4294967296):
 aw ax 259 #[aA (ag ⟨qb,0,ae⟩),Em x] w λe w'=>e=aF (.tuple #[])/\∃g' y u,Ch [30,31] g w g' w'/\Row w' g' 30 qb (gR c bytes (a+x.size) y u (n+1) line m) 166/\iW w' g' y u (n+1) (L++[x]):=by
 obtain⟨id,size⟩:=x
 dsimp only at hx ⊢
 unfold Em
 dsimp only
 obtain⟨z,Q,G,s⟩:=bG w #[ay az id,ay az size] 397
 have J:=gc s.out
 have i:=aH (Ch.start g G.out)
 have D:=aH (H.out.ch i.out (by decide))
 have F:=aH (K.ch i.out (by decide))
 have r:=aH (show Row z (eJ g w.heap.size 0) 0 w.heap.size _ _ from⟨s.out,dQ dx⟩)
 have W:IntKind.i64.wrap (a+size)=a+size:=kT _ (by omega)
 clear H K
 go_in
 go_wp2_with fail
 refine cj 4 (by kernel_rfl) (by kernel_rfl) ?_
 simp only[aJ,aO,aI,aL]
 repeat (go_big_quiet_step (fail))
 refine aU ?_
 intro N o
 obtain⟨nq,rfl⟩:=o
 go_wp2_with fail
 refine(ab1 qb c bytes a p b n line m L ⟨id,size⟩ (z.drewN nq) (aH (D.out.dn nq)) (F.out.below (below_drewN _ _)) I).mono ?_
 rintro e V ⟨rfl,g2,q,l,d,h,t⟩
 have j:=aH h
 have O:=qc h
 have P:=h.free 2
 have C:=aH t
 have B:=aH ((i.out.any.drewN nq).trans d)
 have A:=aH ((r.out.dn nq).ch d (by decide))
 have U:=gc A.out.row
 clear J d h t r
 go_wp2_with fail
 refine cj 9 (by kernel_rfl) (by kernel_rfl) ?_
 simp only[aJ,aO,aI,aL]
 repeat (go_big_quiet_step (fail))
 refine aU ?_
 intro N o
 obtain⟨nq,rfl⟩:=o
 go_wp2_with fail
 go_end0
 have M:g2 qb∈[30,31]:=by rw[j.out.tag];decide
 exact⟨rfl,g2,q,l,(B.out.drewN nq).set _ (.inl M),(j.out.dn nq).set 2 _,(C.out.below (below_drewN _ nq)).ch (Ch.set (T:=[30]) (Ch.refl _ _ _) _ (.inl (by rw[j.out.tag];decide))) (by decide)⟩
def eR(L:List fw):Int:=(L.map (·.size)).sum
theorem ki(L:List fw)(x:fw):eR (L++[x])=eR L+x.size:=by simp[eR,List.sum_append]
def eZ(a bytes:Int):List fw->List fw->List fw×List fw×List Int
 | H,[]=>(H,[],[])
 | H,x::r=>if(H.length:Int)<a/\x.size<=bytes-eR H then
  let p:=eZ a bytes (H++[x]) r
  (p.1,p.2.1,x.id::p.2.2)
  else(H,x::r,[])
structure zw(w:am)(g:Tg)(qb:Nat)(cap bytes:Int)(held line:List fw)(ib:Nat):Prop where
 ex:∃lv front iB,Row w g 30 qb (gR cap bytes (eR held) lv front held.length iB ib) 166/\iW w g lv front held.length held/\iV ke 397 2 w iB line/\(∀q,iB.ownBlock=ag q->g q=32)
theorem zw.ch{T:List Nat}{w w':am}{g g':Tg}{qb:Nat}{d bytes:Int}{a line:List fw}{m:Nat}(h:zw w g qb d bytes a line m)(c:Ch T g w g' w')(j:30∉T/\31∉T/\32∉T):zw w' g' qb d bytes a line m:=by
 obtain⟨r,b,p,n,o,i,l⟩:=h.ex
 exact⟨r,b,p,n.ch c j.1,o.ch c j.2.1,i.same λq e=>c.gP q (i.lt q e) (by rw[l q e];exact j.2.2),λq e=>(c.tag q (i.lt q e)).trans (l q e)⟩
structure QB(cap bytes:Int)(held line:List fw):Prop where
 c1:1<=cap
 c2:cap<=1024
 b1:1<=bytes
 b2:bytes<=16777216
 hl:(held.length:Int)<=cap
 u0:0<=eR held
 u1:eR held<=bytes
 sz:∀x∈line,0<=x.size/\x.size<=bytes
 hs:∀x∈held,0<=x.size/\x.size<=bytes
 ll:line.length<=1024
theorem QB.next{b bytes:Int}{a:List fw}{x:fw}{r:List fw}(h:QB b bytes a (x::r))(c:(a.length:Int)<b/\x.size<=bytes-eR a):QB b bytes (a++[x]) r:=by
 have s:=h.sz x (by simp)
 have u0:=h.u0
 have g:=h.ll
 rw[bV]at g
 refine⟨h.c1,h.c2,h.b1,h.b2,by rw[aN];simp;omega,by rw[ki];omega,by rw[ki];omega,λy d=>h.sz y (by simp[d]),λy d=>?_,by omega⟩
 rcases jk.1 d with e | e
 ·exact h.hs y e
 ·rw[cE.1 e];exact s
def lS(i:Int):List ar:=[ay az i]
theorem ro(i:Int):(lS i).length=1:=rfl
theorem yv(i:Int):∀u∈lS i,u.oneCell'=aj:=λu a=>by
 unfold lS at a
 rw[cE.1 a]
 rfl
def Jr:ar->Nat
 | .slice _ n _=>n
 | _=>0
theorem nH{x:Int}(h:-9223372036854775808<=x/\x<=9223372036854775807):IntKind.i64.wrap x=x:=kT _ h
theorem Ci(qb:Nat)(d bytes:Int)(j line:List fw)(U:Nat)(w:am){g:Tg}(M:zw w g qb d bytes j line U)(B:QB d bytes j line):
 aw ax 279 #[aA (ag ⟨qb,0,ae⟩)] w λe w'=>∃v g',e=aF v/\fC lS 2 1 w' v (eZ d bytes j line).2.2/\(∀q,v.ownBlock=ag q->w.heap.size<=q)/\Ch [30,31] g w g' w'/\(∀q,v.ownBlock=ag q->g' q=34)/\zw w' g' qb d bytes (eZ d bytes j line).1 (eZ d bytes j line).2.1 U:=by
 obtain⟨E,hE⟩:=bP (eZ d bytes j line)
 obtain⟨EH,EL,EI⟩:=E
 rw[hE]
 have HE:=aH hE
 have MM:=aH M
 have BB:=aH B
 have NL:=aH (show line.length<=1024 from B.ll)
 clear hE M B
 go_in
 go_wp2_with fail
 go_loopw [3] (λu wr=>∃(h l:List fw) (i:List Int) (s:Tg),u=u/\Hid ((eZ d bytes h l).1=EH/\(eZ d bytes h l).2.1=EL/\i++(eZ d bytes h l).2.2=EI)/\Hid (Jr u+l.length=line.length)/\Hid (QB d bytes h l)/\Hid (zw wr s qb d bytes h l U)/\Hid (fC lS 2 1 wr u i)/\Hid (∀q,u.ownBlock=ag q->w.heap.size<=q/\s q=34)/\Hid (Ch [30,31] g w s wr)) (λu _=>line.length-Jr u)
 case atStart=>exact⟨j,line,[],g,rfl,aH (by rw[HE.out];exact⟨rfl,rfl,rfl⟩),aH (by simp[Jr]),BB,MM,aH (fC.nil _ _ _ _),aH (λq b=>nomatch b),aH (Ch.refl _ _ _)⟩
 case round=>
  obtain⟨h,l,i,s,-,HQ,HL,HB,HM,S,K,Y⟩:=hrel
  obtain⟨lv,y,iB,m1,m2,m3,m4⟩:=HM.out.ex
  have W:=qc m1
  have T:=aH m1
  have K1:=aH m2
  have O1:=aH m3
  have T1:=aH m4
  cases l with
  | nil=>
   obtain⟨la,lc,rfl,-,-⟩:=m3.shape
   clear m1 m2 m3 m4
   rw[eV]at W T O1 T1
   go_wp2_with fail
   go_ret
   obtain⟨O,P,A⟩:=HQ.out
   unfold eZ at O P A
   dsimp only at O P A
   rw[eP]at A
   subst O P A
   exact⟨u3,s,rfl,S.out,λq b=>(K.out q b).1,Y.out,λq b=>(K.out q b).2,HM.out⟩
  | cons x r=>
   obtain⟨m,lo,JY,rfl,aq,Ix,p,D,mp⟩:=m3.first iv
   have TL:=aH mp
   have c0:wr.cell? ⟨m,lo*2,ae⟩=ag (ay az x.id):=p 0 (by decide)
   have c1:wr.cell? ⟨m,lo*2+1,ae⟩=ag (ay az x.size):=p 1 (by decide)
   have B:=HB.out
   have sz:=B.sz x (by simp)
   have u0:=B.u0
   have u1:=B.u1
   have b2:=B.b2
   obtain⟨G,T8⟩:=bP (lo*2)
   have al:=aH T8
   rw[T8]at c0 c1
   rw[T8]at W T TL
   obtain⟨n,hn⟩:=bP r.length
   rw[hn]at W T TL aq
   have nz:(0:Int)<(n:Int)+1:=by omega
   have HN:=aH hn
   have LB:=aH (show s m=32 from T1.out m rfl)
   clear m1 m2 m3 m4 p mp hn T8 B
   go_wp2_with fail
   refine(Sm qb d bytes (eR h) lv y h.length U x wr T.out (by omega)).mono ?_
   rintro e V ⟨rfl,z⟩
   have J:=aH z
   have C2:=qc (T.out.below z)
   have d0:=bL z c0
   have d1:=bL z c1
   by_cases t:(h.length:Int)<d/\x.size<=bytes-eR h
   ·rw[bM t]
    have TT:=aH t
    have O3:=aH ((S.out.below z).below (aY V (aG (lS x.id).toArray 2)))
    have CN:=aH (iT V (lS x.id) 2)
    have LI:=aH (show i.length<=1000000 from by
     obtain⟨a,c,e,-⟩:=S.out.shape
     have:=HL.out
     rw[e]at this
     have:=NL.out
     simp only[Jr]at *
     omega)
    unfold lS at O3 CN
    clear z t c0 c1 W
    go_wp2_with (at_builtin;refine cY (o:=⟨ag 29,_,_,_,_,_⟩) rfl _ _ 65 2 rfl Tryz.underlying65 Tryz.Yj rfl (by decide) (by decide) lS ro yv _ i rfl O3.out ⟨V.heap.size,0,ae⟩ x.id rfl CN.out LI.out ?_)
    intro v5 w5 h5 kL oA
    have C:=aH (show Ch [34] s wr (eJ s V.heap.size 34) w5 from(((Ch.bh [34] s J.out).alloc _).grown kL (λq b=>.inl (by rw[(K.out q b).2];decide))).eJ J.out.size)
    have ad:=aH (show Ch [30,31] g w (eJ s V.heap.size 34) w5 from(((Y.out.on J.out).alloc _).grown kL (λq b=>.inr (K.out q b).1)).eJ (bJ Y.out.size J.out.size))
    have X:=aH (show fC lS 2 1 w5 v5 (i++[x.id])from h5)
    have Z:=aH (show ∀q,v5.ownBlock=ag q->w.heap.size<=q/\eJ s V.heap.size 34 q=34 from λq b=>by
     rcases oA q b with e | e
     ·refine⟨(K.out q e).1,?_⟩
      rw[dU (by have:=S.out.lt q e;have:=J.out.size;omega)]
      exact(K.out q e).2
     ·have:=J.out.size
      have:=Y.out.size
      exact⟨by omega,dQ (by omega)⟩)
    have R5:=aH (T.out.ch C.out (by decide))
    have K5:=aH (K1.out.ch C.out (by decide))
    have W5:=qc R5.out
    have e0:=C.out.gP m D (by rw[LB.out];decide)
    have D0:=(ir (a:=⟨m,G,ae⟩) (e0.trans (J.out.block m D).symm)).trans d0
    have D1:=(ir (a:=⟨m,G+1,ae⟩) (e0.trans (J.out.block m D).symm)).trans d1
    obtain⟨va,vc,rfl,-⟩:=h5.shape
    obtain⟨m5,zN⟩:=bP ((i++[x.id]).length)
    rw[zN]at X Z ⊢
    have M5:=aH (show m5=i.length+1 by rw[<-zN,aN];rfl)
    clear zN h5 kL oA C2 d0 d1 O3 CN LI e0
    go_wp2_with fail
    refine(Sq qb d bytes (eR h) lv y h.length U h x w5 R5 K5.out (by have:=HB.out.hl;have:=HB.out.c2;omega) (by omega) (by omega)).mono ?_
    rintro e I ⟨rfl,N,av,ao,ac,r6,k6⟩
    have Q:=aH ac
    have R6:=aH r6
    have K6:=aH k6
    have W6:=qc r6
    have f6:=r6.free 6
    clear ac r6 k6 W5 D0 D1
    have aa:=aH (show iV ke 397 2 I _ r from TL.out.same λq b=>by
     have e:q=m:=by
      split at b <;> (injection b with b;exact b.symm)
     subst e
     exact(Q.out.gP q (aW D C.out.size) (by rw[C.out.tag q D,LB.out];decide)).trans (C.out.gP q D (by rw[LB.out];decide)))
    have L6:=aH (show N m=32 by rw[Q.out.tag m (aW D C.out.size),C.out.tag m D,LB.out])
    have H6:=aH (show fC lS 2 1 I (aB va m5 vc) (i++[x.id])from X.out.same λq b=>Q.out.gP q (X.out.lt q b) (by rw[(Z.out q b).2];decide))
    have T6:=aH (show ∀q,(Value.slice va m5 vc).ownBlock=ag q->w.heap.size<=q/\N q=34 from λq b=>⟨(Z.out q b).1,by rw[Q.out.tag q (X.out.lt q b)];exact(Z.out q b).2⟩)
    have C7:=aH (ad.out.trans Q.out)
    have Q7:=aH (show(eZ d bytes (h++[x]) r).1=EH/\(eZ d bytes (h++[x]) r).2.1=EL/\(i++[x.id])++(eZ d bytes (h++[x]) r).2.2=EI from by
     have q:=HQ.out
     unfold eZ at q
     rw[bj TT.out]at q
     dsimp only at q
     exact⟨q.1,q.2.1,by rw[<-q.2.2];simp⟩)
    have B7:=aH (HB.out.next TT.out)
    have L7:=aH (show Jr (aB va m5 vc)+r.length=line.length from by
     have:=HL.out
     obtain⟨a,c,e,-⟩:=S.out.shape
     rw[e]at this
     simp only[Jr,bV]at this ⊢
     rw[M5.out];omega)
    have eM:=aH (show ∀H,H=(if JY=1 then aB (ag ⟨m,G,ae⟩) 0 0 else aB (ag ⟨m,(lo+1)*2,ae⟩) n (JY-1):ar)->zw (I.setCell ⟨qb,6,ae⟩ H) N qb d bytes (h++[x]) r U/\fC lS 2 1 (I.setCell ⟨qb,6,ae⟩ H) (aB va m5 vc) (i++[x.id])/\Ch [30,31] g w N (I.setCell ⟨qb,6,ae⟩ H)from λH e=>by
     have cS:Ch [30] N I N (I.setCell ⟨qb,6,ae⟩ H):=(Ch.refl _ _ _).set _ (.inl (by rw[R6.out.tag];decide))
     have ow:∀q,H.ownBlock=ag q->q=m:=λq b=>by
      rw[e]at b
      split at b <;> (injection b with b;exact b.symm)
     have ol:m<I.heap.size:=aW (aW D C.out.size) Q.out.size
     refine⟨⟨av,ao,H,?_,?_,?_,λq b=>by rw[ow q b];exact L6.out⟩,H6.out.same λq b=>cS.gP q (H6.out.lt q b) (by rw[(T6.out q b).2];decide),C7.out.set _ (.inl (by rw[R6.out.tag];decide))⟩
     ·rw[ki,aN]
      exact R6.out.set 6 _
     ·rw[aN]
      exact K6.out.ch cS (by decide)
     ·have an:iV ke 397 2 I H r:=by rw[e];exact aa.out
      exact an.same λq b=>by rw[ow q b];exact cS.gP m ol (by rw[L6.out];decide))
    clear TL aa L6 C7 R5 K5 R6 K6 Z X
    by_cases ab:JY=1
    ·subst ab
     rw[bj rfl]at eM
     have JF:n=0:=by omega
     subst JF
     go_wp2_with fail
     have F:=eM.out _ rfl
     go_roundw
     case rel=>exact⟨h++[x],r,i++[x.id],N,trivial,Q7,L7,B7,aH F.1,aH F.2.1,T6,aH F.2.2⟩
     case measure=>have:=L7.out;have:=HL.out;have:=M5.out;simp only[bV]at *;omega
    ·rw[bf ab,show(lo+1)*2=G+2 by rw[dT,al.out]]at eM
     go_wp2_with fail
     have F:=eM.out _ rfl
     go_roundw
     case rel=>exact⟨h++[x],r,i++[x.id],N,trivial,Q7,L7,B7,aH F.1,aH F.2.1,T6,aH F.2.2⟩
     case measure=>have:=L7.out;have:=HL.out;have:=M5.out;simp only[bV]at *;omega
   ·rw[bC t]
    have TT:=aH t
    have ai:=aH (HM.out.ch (Ch.bh [] s z) (by decide))
    have ak:=aH (S.out.below z)
    have af:=aH (Y.out.on z)
    clear z t c0 c1 W C2 d0 d1
    go_wp2_with fail
    go_ret
    obtain⟨O,P,A⟩:=HQ.out
    unfold eZ at O P A
    rw[bf TT.out]at O P A
    dsimp only at O P A
    rw[eP]at A
    subst O P A
    exact⟨u3,s,rfl,ak.out,λq b=>(K.out q b).1,af.out,λq b=>(K.out q b).2,ai.out⟩
end
end Go.Proofs.YtooinenkenobaaaGreat
